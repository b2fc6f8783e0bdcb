/- Lemmas for this claim, part F06: each holds under what it names. -/
import Derived.Test.YtfcpapokknfeeaaGreatDoorF03
import Derived.Test.YtfcpapokknfeeaaGreatDoorA10
set_option linter.unusedVariables false
set_option linter.unusedSimpArgs false
set_option linter.unnecessarySimpa false
set_option maxRecDepth 20000
set_option maxHeartbeats 8000000
namespace Go.Proofs.YtfcpapokknfeeaaGreatDoor
open Go Go.Proofs Go.Abs
def FX (a : Int) : Int := if a % 2 = 0 then a + 1 else a - 1
theorem P8 {a : Int} (h0 : 0 ≤ a) (h1 : a ≤ 1000000000) : IntKind.i64.wrap ((BitVec.ofInt IntKind.i64.bits a ^^^ BitVec.ofInt IntKind.i64.bits 1).toNat : Int) = FX a := by
 obtain ⟨n,rfl⟩ : ∃ n : Nat,a = n := ⟨a.toNat,by omega⟩;have e1 : (BitVec.ofInt IntKind.i64.bits (n : Int) ^^^ BitVec.ofInt IntKind.i64.bits 1).toNat = n ^^^ 1 := by
  show (BitVec.ofInt 64 (n : Int) ^^^ BitVec.ofInt 64 1).toNat = n ^^^ 1;rw [BitVec.toNat_xor];have : (BitVec.ofInt 64 (n : Int)).toNat = n := by simp;omega
  rw [this];rfl
 have e2 : n ^^^ 1 = if n % 2 = 0 then n + 1 else n - 1 := by
  have h : (n ^^^ 1) % 2 = (n + 1) % 2 := by have h3 := Nat.testBit_xor n 1 0;simp only [Nat.testBit_zero] at h3;rcases Nat.mod_two_eq_zero_or_one n with h4 | h4 <;> rcases Nat.mod_two_eq_zero_or_one (n ^^^ 1) with h5 | h5 <;> simp [h4,h5] at h3 <;> omega
  have h2 : (n ^^^ 1) / 2 = n / 2 := by rw [Nat.xor_div_two];simp
  split <;> omega
 rw [e1,e2];unfold FX;split <;> split <;> (rw [aZ (by omega) (by omega)];omega)
theorem VC {a : Int} (h0 : 0 ≤ a) (h1 : a ≤ 1000000000) : IntKind.i64.wrap ((BitVec.ofInt IntKind.i64.bits a ^^^ BitVec.ofInt IntKind.i64.bits 0).toNat : Int) = a := by
 obtain ⟨n,rfl⟩ : ∃ n : Nat,a = n := ⟨a.toNat,by omega⟩;have e1 : (BitVec.ofInt IntKind.i64.bits (n : Int) ^^^ BitVec.ofInt IntKind.i64.bits 0).toNat = n := by
  show (BitVec.ofInt 64 (n : Int) ^^^ BitVec.ofInt 64 0).toNat = n;rw [BitVec.toNat_xor];have : (BitVec.ofInt 64 (n : Int)).toNat = n := by simp;omega
  rw [this];simp
 rw [e1,aZ (by omega) (by omega)]
theorem Nc (c : Cl) (hc : c.length ≤ 1000000) : EvF TE 130 [aH c] 1 c.length (c.map vi) := by
 have hM : maxLen = 9223372036854775807 := rfl;unfold EvF;refine au Tryz.func130 rfl (by simp [nts]) (vm ?_);simp only [wq.1,seval,Tryz.results130];intro b hb;cases b with
 | true =>
  have : c = [] := by simpa using hb rfl
  subst this;simp only [wq.1,↓reduceIte,Nat.reduceLT,reduceCtorEq]
 | false => simp only [wq.1,↓reduceIte,Nat.reduceEqDiff,Nat.reduceLT,reduceCtorEq,Nat.reduceMul,DJ];exact ⟨⟨rfl,by decide⟩,⟨by omega,by show _ ≤ _;omega⟩,.inr ⟨0,_,rfl,Nat.le_refl _,rfl⟩⟩
theorem IK : ∀ l : List Pr,(l.flatMap fun p => [vi p.1,vi p.2]).length = l.length * 2
 | [] => rfl
 | a :: l => by rw [List.flatMap_cons,List.length_append,IK l,List.length_cons];simp;omega
theorem zah {q : Nat → Bool} : ∀ l : List Pr,V.drops q (l.flatMap fun p => [vi p.1,vi p.2]) = l.flatMap fun p => [vi p.1,vi p.2]
 | [] => rfl
 | a :: l => by show V.drop q (vi a.1) :: V.drop q (vi a.2) :: V.drops q (l.flatMap fun p => [vi p.1,vi p.2]) = _;rw [zah l];rfl
theorem zai : ∀ l : List Pr,(l.map prV).flatMap V.vc = l.flatMap fun p => [vi p.1,vi p.2]
 | [] => rfl
 | a :: l => by rw [List.map_cons,List.flatMap_cons,zai l];rfl
theorem Xo : ∀ l : List Pr,fG 2 (l.map prV) = true
 | [] => rfl
 | a :: l => by simp only [List.map_cons,fG,Xo l,V.fit,V.vc];rfl
theorem Xp : ∀ l : List Pr,V.dats (l.flatMap fun p => [vi p.1,vi p.2]) = true
 | [] => rfl
 | a :: l => by show (V.dat (vi a.1) && (V.dat (vi a.2) && V.dats (l.flatMap fun p => [vi p.1,vi p.2]))) = true;rw [Xp l];rfl
theorem gE0 {h r : H} : (h ++ r)[h.length]? = r[0]? := by rw [List.getElem?_append_right (Nat.le_refl _),Nat.sub_self]
theorem gE {h r : H} {k : Nat} : (h ++ r)[h.length + k]? = r[k]? := by rw [List.getElem?_append_right (Nat.le_add_right _ _),Nat.add_sub_cancel_left]
theorem gS0 {h r : H} {x : O} : (h ++ r).set h.length x = h ++ r.set 0 x := by rw [List.set_append_right _ _ (Nat.le_refl _),Nat.sub_self]
theorem gS {h r : H} {k : Nat} {x : O} : (h ++ r).set (h.length + k) x = h ++ r.set k x := by rw [List.set_append_right _ _ (Nat.le_add_right _ _),Nat.add_sub_cancel_left]
theorem neb {h : H} {a b : Nat} : (h.length + a == h.length + b) = (a == b) := by rw [Bool.eq_iff_iff];simp
theorem zbD {h : H} {b : Nat} : (h.length == h.length + (b + 1)) = false := by simp
theorem qO {e : E} {h : H} {id len cap : Nat} {l : List Pr} (hc : h[id]? = some (.cells (l.flatMap fun p => [vi p.1,vi p.2]))) (hl : len = l.length) : aC e h (.ls id 2 0 len cap) (prs l) :=
 aC.ls hc (aB.dat (Xp l)) (Xo l) (zai l) (by simpa using hl)
theorem Nh {h : H} {R : AEnd → H → (Nat → Bool) → Prop} (hr : R (.ret .nils) h (fun _ => false)) : ah TE 159 [.nils] h R := by refine au Tryz.func159 rfl (by simp [nts]) (vm ?_);simp only [wq.1,seval,Tryz.results159];exact hr
theorem D8 {h : H} {n1 : Int} {nx ini : V} {R : AEnd → H → (Nat → Bool) → Prop} (h1 : nx.one = true) (h2 : ini.one = true) (hf1 : nx.fit = true) (hf2 : ini.fit = true)
 (hr : R (.ret (.lp (h.length + 2) 0)) (h ++ [.cells [vi n1,nx,ini,.nils,.nils],.map [] [],.cells [vi n1,nx,ini,.nils,.nils,.lm (h.length + 1),.nils]]) (fun _ => false)) :
 ah TE 129 [.agg [vi n1,nx,ini,.nils,.nils]] h R := by
 have hM : maxLen = 9223372036854775807 := rfl;refine au Tryz.func129 rfl (by simp [nts]) (vm ?_);simp only [wq.1,seval,Tryz.results129,gE0,List.append_assoc];refine Nh ?_;simp only [wq.1,seval,gE0,gE,gS];refine aF (fun m f h' => f.t 3 = .lp (h.length + 2) 0 ∧ f.t 21 = vi 0 ∧ f.t 22 = vi 0 ∧ f.d = [] ∧ f.k = (fun _ => false) ∧ h' = h ++ [.cells [vi n1,nx,ini,.nils,.nils],.map [] [],.cells [vi n1,nx,ini,.nils,.nils,.lm (h.length + 1),.nils]]) 0 ⟨by simp only [wq.1,seval],by simp only [wq.1,seval],by simp only [wq.1,↓reduceIte],by simp only [wq.1],by simp only [wq.1],rfl⟩ ?_;rintro m f h' ⟨k3,k21,k22,hd,hk,rfl⟩;refine vm ?_;simp only [wq.1,seval,k3,k21,k22,hd];rw [hk];exact hr
def lq (n : Nat) : Cl := (List.range n).map fun i : Nat => 2 * (i : Int)
theorem Nj (n : Nat) : lq (n + 1) = lq n ++ [2 * (n : Int)] := by unfold lq;rw [List.range_succ,List.map_append];rfl
theorem nP (n : Nat) : (lq n).length = n := by simp [lq]
def Xq : Plan := .take 0 <| .take 2 <| .take 4 <| .alt 1 (.alt 3 (.one 5 <| .one 6 <| .one 7 <| .one 8 <| .take 9 <| .fin) (.one 5 (.alt 3 (.one 6 <| .one 7 <| .one 8 <| .take 9 <| .fin) (.one 6 (.one 3 <| .one 7 <| .one 8 <| .take 9 <| .fin))))) (.alt 3 (.alt 1 (.one 5 <| .one 6 <| .one 7 <| .one 8 <| .take 9 <| .fin) (.one 5 (.alt 1 (.one 6 <| .one 7 <| .one 8 <| .take 9 <| .fin) (.one 6 (.one 1 <| .one 7 <| .one 8 <| .take 9 <| .fin))))) (.one 5 (.alt 1 (.alt 3 (.one 6 <| .one 7 <| .one 8 <| .take 9 <| .fin) (.one 6 (.one 3 <| .one 7 <| .one 8 <| .take 9 <| .fin))) (.alt 3 (.alt 1 (.one 6 <| .one 7 <| .one 8 <| .take 9 <| .fin) (.one 6 (.one 1 <| .one 7 <| .one 8 <| .take 9 <| .fin))) (.one 6 (.alt 1 (.one 3 <| .one 7 <| .one 8 <| .take 9 <| .fin) (.one 3 (.one 1 <| .one 7 <| .one 8 <| .take 9 <| .fin))))))))
theorem ww {h : H} (hcd : dO h) {g : Gr} (hg : g.chk = 0) {R : AEnd → H → (Nat → Bool) → Prop}
 (hr : R (.ret (.lp (h.length + 4) 0)) (h ++ [.cells [vi g.ins,aH g.next,aH g.init,prs g.ands,aH g.outs],.cells (g.init.map vi),.cells [vi g.ins,aH g.next,.ls (h.length + 1) 1 0 g.init.length g.init.length,.nils,.nils],.map [] [],.cells [vi g.ins,aH g.next,.ls (h.length + 1) 1 0 g.init.length g.init.length,.ls (h.length + 5) 2 0 0 0,.nils,.lm (h.length + 3),.ls (h.length + 6) 1 0 g.first.toNat g.first.toNat],.cells [],.cells ((lq g.first.toNat).map vi)]) (fun _ => false)) :
 ah TE 80 [.agg [vi g.ins,aH g.next,aH g.init,prs g.ands,aH g.outs]] h R := by
 have hM : maxLen = 9223372036854775807 := rfl;obtain ⟨_,i0,i1,i2,i3,i4,i5⟩ := bf hg;obtain ⟨r1,r2,r3,r4⟩ := dB i4;have hcl := Nc g.init (by omega);refine ah.fresh ?_;refine au Tryz.func80 rfl (by simp [nts]) ?_;have hfst := kw g (by omega) (by omega) (by omega);obtain ⟨fn,hfn⟩ : ∃ fn : Nat,g.first = fn := ⟨g.first.toNat,by have : g.first = 1 + g.ins + g.next.length := rfl;omega⟩
 have hfl : fn ≤ 4001 := by have : g.first = 1 + g.ins + g.next.length := rfl;omega
 rw [hfn,Int.toNat_natCast] at hr;rw [hfn] at hfst;have dvi : ∀ p,V.drops p (g.init.map vi) = g.init.map vi := fun p => aP _;refine ag (vm ?_);simp only [wq.1,Nat.reduceLT,Tryz.results80];refine ag (bu mixed Xq (fun f' h' => f'.t 1 = .lp h.length 0 ∧ f'.t 3 = .lp (h.length + 4) 0 ∧ f'.d = [] ∧ (∀ j,j < h.length → f'.k j = false) ∧ h' = h ++ [.cells [vi g.ins,aH g.next,aH g.init,prs g.ands,aH g.outs],.cells (g.init.map vi),.cells [vi g.ins,aH g.next,.ls (h.length + 1) 1 0 g.init.length g.init.length,.nils,.nils],.map [] [],.cells [vi g.ins,aH g.next,.ls (h.length + 1) 1 0 g.init.length g.init.length,.nils,.nils,.lm (h.length + 3),.nils]]) (by decide +kernel) (by decide +kernel) ?_ ?_)
 ·simp only [wq.1,seval,Xq,gE0]
  repeat' apply And.intro
  all_goals
   refine oC hcl rfl (su _) ?_;simp only [wq.1,seval,gE0,List.append_assoc]
   repeat' apply And.intro
  all_goals
   refine D8 rfl rfl rfl rfl ?_;simp only [wq.1,seval,List.append_assoc]
 ·rintro f h' ⟨k1,k3,hd,hk,rfl⟩;show awp _ _ _ _ _ _ _;refine fU ?_;refine fU ?_;simp only [wq.1,List.append_assoc];have hle : HLe (h ++ [.cells [vi g.ins,aH g.next,aH g.init,prs g.ands,aH g.outs],.cells (g.init.map vi),.cells [vi g.ins,aH g.next,.ls (h.length + 1) 1 0 g.init.length g.init.length,.nils,.nils],.map [] [],.cells [vi g.ins,aH g.next,.ls (h.length + 1) 1 0 g.init.length g.init.length,.nils,.nils,.lm (h.length + 3),.nils],.cells [],.cells []]) (h ++ [.cells [vi g.ins,aH g.next,aH g.init,prs g.ands,aH g.outs],.cells (g.init.map vi),.cells [vi g.ins,aH g.next,.ls (h.length + 1) 1 0 g.init.length g.init.length,.nils,.nils],.map [] [],.cells [vi g.ins,aH g.next,.ls (h.length + 1) 1 0 g.init.length g.init.length,.ls (h.length + 5) 2 0 0 0,.nils,.lm (h.length + 3),.ls (h.length + 6) 1 0 0 0],.cells [],.cells []]) := by
   have hv : dW [vi g.ins,aH g.next,.ls (h.length + 1) 1 0 g.init.length g.init.length,.nils,.nils,.lm (h.length + 3),.nils] [vi g.ins,aH g.next,.ls (h.length + 1) 1 0 g.init.length g.init.length,.ls (h.length + 5) 2 0 0 0,.nils,.lm (h.length + 3),.ls (h.length + 6) 1 0 0 0] := dW.cons (VLe.refl _) (dW.cons (VLe.refl _) (dW.cons (VLe.refl _) (dW.cons dD (dW.cons (VLe.refl _) (dW.cons (VLe.refl _) (dW.cons dD (dW.refl _)))))));have := HLe.set (h := h ++ [.cells [vi g.ins,aH g.next,aH g.init,prs g.ands,aH g.outs],.cells (g.init.map vi),.cells [vi g.ins,aH g.next,.ls (h.length + 1) 1 0 g.init.length g.init.length,.nils,.nils],.map [] [],.cells [vi g.ins,aH g.next,.ls (h.length + 1) 1 0 g.init.length g.init.length,.nils,.nils,.lm (h.length + 3),.nils],.cells [],.cells []]) (i := h.length + 4) (o' := .cells [vi g.ins,aH g.next,.ls (h.length + 1) 1 0 g.init.length g.init.length,.ls (h.length + 5) 2 0 0 0,.nils,.lm (h.length + 3),.ls (h.length + 6) 1 0 0 0]) (o := .cells [vi g.ins,aH g.next,.ls (h.length + 1) 1 0 g.init.length g.init.length,.nils,.nils,.lm (h.length + 3),.nils]) (gE.trans rfl) (OLe.cells (Nat.le_refl _) hv);rw [gS] at this;exact this
  refine vK hle ?_;refine vm ?_;simp only [wq.1,seval,gE0,k1];refine ah.ev hfst (by simp only [V.dats,V.dat,Bool.and_self]) ?_;simp only [wq.1,Nat.reduceLT];refine aF (fun m f h' => ∃ i,m + i = fn ∧ f.t 3 = .lp (h.length + 4) 0 ∧ f.t 15 = vi fn ∧ f.t 16 = vi i ∧ f.d = [] ∧ (∀ j,j < h.length → f.k j = false) ∧ h' = h ++ [.cells [vi g.ins,aH g.next,aH g.init,prs g.ands,aH g.outs],.cells (g.init.map vi),.cells [vi g.ins,aH g.next,.ls (h.length + 1) 1 0 g.init.length g.init.length,.nils,.nils],.map [] [],.cells [vi g.ins,aH g.next,.ls (h.length + 1) 1 0 g.init.length g.init.length,.ls (h.length + 5) 2 0 0 0,.nils,.lm (h.length + 3),.ls (h.length + 6) 1 0 i i],.cells [],.cells ((lq i).map vi)]) fn ⟨0,by omega,by simp only [wq.1,seval,k3],by simp only [wq.1,seval],by simp only [wq.1,↓reduceIte];rfl,by simp only [wq.1,hd],fun j hj => by (simp only [wq.1]);exact hk j hj,rfl⟩ ?_;rintro m f h' ⟨i,hm,k3,k15,k16,hd,hk,rfl⟩;have hel := nP i;have hcm := hcd.one (j := h.length + 6) (by omega);have dve : ∀ p,V.drops p ((lq i).map vi) = (lq i).map vi := fun p => aP _;refine vm ?_;simp only [wq.1,seval,k15,k16];refine vcB.mk (fun hlt => ?_) (fun hlt => ?_)
  ·simp only [decide_eq_true_eq,Int.ofNat_lt] at hlt;have hw := ax (show i < maxLen by omega);have w2 : IntKind.i64.wrap (2 * (i : Int)) = 2 * (i : Int) := jY (by omega) (by omega);simp only [wq.1,↓reduceIte,Nat.reduceEqDiff,Nat.reduceLT,Nat.reduceAdd,Nat.reduceBEq,reduceCtorEq,Nat.reduceMul,gE,gS,k3,k16,hd,hw,w2,dvi,dve,hcm,neb];refine ⟨⟨rfl,by decide⟩,⟨by omega,by omega,by omega⟩,.inl ⟨m - 1,by omega,i + 1,by omega,by simp only [wq.1,↓reduceIte,Nat.reduceEqDiff,Nat.reduceLT,Nat.reduceLeDiff,Nat.reduceAdd,Nat.reduceSub,Int.reduceToNat,Nat.reduceDiv,Int.reduceLT,Int.reduceLE,Int.reduceNeg,Int.reduceBEq,Int.reduceBNe,Int.reduceAdd,Int.reduceSub,Nat.reduceBEq,reduceCtorEq,Nat.reduceMul,ak,Tryz.results80,k3,neb,zbD],by simp only [wq.1,↓reduceIte,Nat.reduceEqDiff,Nat.reduceLT,Nat.reduceLeDiff,Nat.reduceAdd,Nat.reduceSub,Int.reduceToNat,Nat.reduceDiv,Int.reduceLT,Int.reduceLE,Int.reduceNeg,Int.reduceBEq,Int.reduceBNe,Int.reduceAdd,Int.reduceSub,Nat.reduceBEq,reduceCtorEq,Nat.reduceMul,ak,Tryz.results80,k15],by simp only [wq.1,↓reduceIte,Nat.reduceEqDiff,Nat.reduceLT,Nat.reduceLeDiff,Nat.reduceAdd,Nat.reduceSub,Int.reduceToNat,Nat.reduceDiv,Int.reduceLT,Int.reduceLE,Int.reduceNeg,Int.reduceBEq,Int.reduceBNe,Int.reduceAdd,Int.reduceSub,Nat.reduceBEq,reduceCtorEq,Nat.reduceMul,ak,Tryz.results80],by simp only [wq.1,↓reduceIte,Nat.reduceEqDiff,Nat.reduceLT,Nat.reduceLeDiff,Nat.reduceAdd,Nat.reduceSub,Int.reduceToNat,Nat.reduceDiv,Int.reduceLT,Int.reduceLE,Int.reduceNeg,Int.reduceBEq,Int.reduceBNe,Int.reduceAdd,Int.reduceSub,Nat.reduceBEq,reduceCtorEq,Nat.reduceMul,ak,Tryz.results80,hd],fun j hj => ?_,?_⟩⟩
   ·simp only [wq.1,hk j hj];simp;omega
   ·rw [Nj,List.map_append];rfl
  ·simp only [decide_eq_false_iff_not,Int.ofNat_lt] at hlt;have hi : i = fn := by omega
   subst hi;simp only [wq.1,seval,k3,hd];exact ⟨hk,hr⟩
abbrev fl (l : List Pr) : List V := l.flatMap fun p => [vi p.1,vi p.2]
def G6 (f : Int) (n : Nat) : List V := (List.range n).map fun i : Nat => vi (2 * (f + (i : Int)))
theorem P9 (f : Int) (n : Nat) : G6 f (n + 1) = G6 f n ++ [vi (2 * (f + (n : Int)))] := by unfold G6;rw [List.range_succ,List.map_append];rfl
theorem VD {f : Int} {n i : Nat} (h : i < n) (d : V) : (G6 f n).getD i d = vi (2 * (f + (i : Int))) := by simp [G6,List.getD_eq_getElem?_getD,h]
abbrev bo (n1 : Int) (nx : Cl) (J k a la : Nat) (outs : V) (m c lc : Nat) : O := .cells [vi n1,aH nx,.ls J 1 0 k k,.ls a 2 0 la la,outs,.lm m,.ls c 1 0 lc lc]
def qf (f : Int) (A : List Pr) (p q : Int) : List Pr × Int :=
 if min p q = 0 ∨ FX (max p q) = min p q then (A,0) else if min p q = 1 ∨ max p q = min p q then (A,max p q) else
  match A.findIdx? (· == (max p q,min p q)) with
  | some i => (A,2 * (f + (i : Int)))
  | none => (A ++ [(max p q,min p q)],2 * (f + (A.length : Int)))
theorem D9 (k : Pr) : ∀ (ks : List Pr),iQ (.arr 2 3 (some .i64)) (prV k) (ks.map prV) = some (ks.findIdx? (· == k))
 | [] => rfl
 | x :: ks => by
  have hk : keq (.arr 2 3 (some .i64)) (prV k) (prV x) = some (x == k) := by
   show (if 2 = 2 ∧ IntKind.i64 = .i64 ∧ IntKind.i64 = .i64 ∧ IntKind.i64 = .i64 ∧ IntKind.i64 = .i64 then some ((k.1 == x.1) && (k.2 == x.2)) else none) = _;rw [if_pos ⟨rfl,rfl,rfl,rfl,rfl⟩]
   congr 1
   rw [Bool.eq_iff_iff];simp only [Bool.and_eq_true,beq_iff_eq];constructor
   ·rintro ⟨h1,h2⟩;exact Prod.ext h1.symm h2.symm
   ·rintro rfl;exact ⟨rfl,rfl⟩
  rw [List.map_cons,iQ,hk,List.findIdx?_cons];cases hx : x == k with
  | true => rfl
  | false => rw [D9 k ks];cases ks.findIdx? (· == k) <;> rfl
theorem VE {h : H} {D : Nat → Bool} {b : Nat} {x : O} (hd : ∀ i o,h[i]? = some o → i ≠ b → o.drop D = o) : (h.map (O.drop D)).set b x = h.set b x := by
 refine List.ext_getElem? fun i => ?_;by_cases hi : b = i
 ·subst hi;by_cases hl : b < h.length
  ·rw [List.getElem?_set_self (by simpa using hl),List.getElem?_set_self hl]
  ·rw [List.getElem?_eq_none (by simp;omega),List.getElem?_eq_none (by simp;omega)]
 ·rw [List.getElem?_set_ne hi,List.getElem?_set_ne hi,List.getElem?_map];cases ho : h[i]? with
  | none => rfl
  | some o => simp [hd i o ho (Ne.symm hi)]
def IL : Plan := .take 0 <| .take 1 <| .take 2 <| .take 5 <| .take 6 <| .take 7 <| .take 8 <| .alt 3 (.alt 4 (.one 9 <| .one 10 <| .one 11 <| .one 12 <| .take 13 <| .fin) (.one 9 (.alt 4 (.one 10 <| .one 11 <| .one 12 <| .take 13 <| .fin) (.one 10 (.one 4 <| .one 11 <| .one 12 <| .take 13 <| .fin))))) (.one 9 (.alt 3 (.alt 4 (.one 10 <| .one 11 <| .one 12 <| .take 13 <| .fin) (.one 10 (.one 4 <| .one 11 <| .one 12 <| .take 13 <| .fin))) (.one 10 (.one 3 <| .one 4 <| .one 11 <| .one 12 <| .take 13 <| .fin))))
def IM : Plan := .take 0 <| .take 1 <| .take 2 <| .take 3 <| .take 4 <| .alt 5 (.one 6 <| .one 7 <| .one 8 <| .take 9 <| .take 10 <| .take 11 <| .one 12 <| .fin) (.one 6 (.alt 5 (.one 7 <| .one 8 <| .take 9 <| .take 10 <| .take 11 <| .one 12 <| .fin) (.one 7 (.one 5 <| .one 8 <| .take 9 <| .take 10 <| .take 11 <| .one 12 <| .fin))))
def IP : Plan := .take 0 <| .take 1 <| .take 2 <| .take 5 <| .alt 3 (.one 4 <| .one 6 <| .fin) (.one 4 (.one 3 <| .one 6 <| .fin))
theorem Ea {h : H} {b a J m c lc : Nat} {n1 : Int} {nx ini : Cl} {A : List Pr} {f0 : Int} {p q : Int} (hf : f0 = 1 + n1 + nx.length) (i0 : 0 ≤ n1) (i1 : n1 ≤ 4000) (i2 : nx.length ≤ 4000) (i3 : ini.length ≤ 4000) (i4 : A.length ≤ 4000)
 (p0 : 0 ≤ p) (p1 : p ≤ 100000) (q0 : 0 ≤ q) (q1 : q ≤ 100000)
 (hb : h[b]? = some (bo n1 nx J ini.length a A.length .nils m c lc)) (hj : h[J]? = some (.cells (ini.map vi))) (ha : h[a]? = some (.cells (fl A))) (hm : h[m]? = some (.map (A.map prV) (G6 f0 A.length)))
 (hdr : ∀ i o,h[i]? = some o → i ≠ b → o.drop (· == a) = o) (hba : b ≠ a) (hca : c ≠ a) (hJa : J ≠ a) {R : AEnd → H → (Nat → Bool) → Prop}
 (hr : ∀ X,R (.ret (vi (qf f0 A p q).2)) (((h.set b (bo n1 nx J ini.length a (qf f0 A p q).1.length .nils m c lc)).set a (.cells (fl (qf f0 A p q).1))).set m (.map ((qf f0 A p q).1.map prV) (G6 f0 (qf f0 A p q).1.length)) ++ X) (fun i => i == a)) :
 ah TE 81 [.lp b 0,vi p,vi q] h R := by
 have hM : maxLen = 9223372036854775807 := rfl;have same : ((h.set b (bo n1 nx J ini.length a A.length .nils m c lc)).set a (.cells (fl A))).set m (.map (A.map prV) (G6 f0 A.length)) = h := by
  have s1 : ∀ {i : Nat} {o : O},h[i]? = some o → h.set i o = h := fun {i o} hi => by obtain ⟨hl,rfl⟩ := List.getElem?_eq_some_iff.1 hi;exact List.set_getElem_self hl
  rw [s1 hb,s1 ha,s1 hm]
 obtain ⟨P,hP⟩ : ∃ P,P = max p q := ⟨_,rfl⟩;obtain ⟨Q,hQ⟩ : ∃ Q,Q = min p q := ⟨_,rfl⟩;have bP : 0 ≤ P ∧ P ≤ 100000 ∧ 0 ≤ Q ∧ Q ≤ 100000 := by omega
 have hxo := P8 (a := P) (by omega) (by omega);have hav : qf f0 A p q = if Q = 0 ∨ FX P = Q then (A,0) else if Q = 1 ∨ P = Q then (A,P) else match A.findIdx? (· == (P,Q)) with
  | some i => (A,2 * (f0 + (i : Int)))
  | none => (A ++ [(P,Q)],2 * (f0 + (A.length : Int))) := by rw [hP,hQ];rfl
 obtain ⟨r,hrv⟩ : ∃ r,r = qf f0 A p q := ⟨_,rfl⟩;rw [← hrv] at hr hav;have early : ∀ v,r = (A,v) → ∀ X,R (.ret (vi v)) (h ++ X) (fun i => i == a) := fun v hv X => by
  have := hr X;rw [hv] at this;simp only at this
  rwa [same] at this
 refine ah.kp (fun i => i == a) ?_;refine au Tryz.func81 rfl (by simp [nts]) ?_;refine ag (vm ?_);simp only [wq.1,Nat.reduceLT,Tryz.results81];refine ag (vm ?_);simp only [wq.1,seval,mx,mn];rw [← hP,← hQ];cases e1 : Q == 0 with
 | true => refine ag (vm ?_);simp only [wq.1,seval,e1];have := early 0 (by rw [hav,if_pos (.inl (by simpa using e1))]) [];rw [List.append_nil] at this;exact this
 | false =>
 cases e2 : FX P == Q with
 | true => refine ag (vm ?_);simp only [wq.1,seval,e1,e2,hxo];have := early 0 (by rw [hav,if_pos (.inr (by simpa using e2))]) [];rw [List.append_nil] at this;exact this
 | false =>
 have n1' : ¬ (Q = 0 ∨ FX P = Q) := by
  simp only [beq_eq_false_iff_ne,ne_eq] at e1 e2;rintro (h | h)
  ·exact e1 h
  ·exact e2 h
 rw [if_neg n1'] at hav;cases e3 : Q == 1 with
 | true => refine ag (vm ?_);simp only [wq.1,seval,e1,e2,e3,hxo];have := early P (by rw [hav,if_pos (.inl (by simpa using e3))]) [];rw [List.append_nil] at this;exact this
 | false =>
 cases e4 : P == Q with
 | true => refine ag (vm ?_);simp only [wq.1,seval,e1,e2,e3,e4,hxo];have := early P (by rw [hav,if_pos (.inr (by simpa using e4))]) [];rw [List.append_nil] at this;exact this
 | false =>
 have n2' : ¬ (Q = 1 ∨ P = Q) := by
  simp only [beq_eq_false_iff_ne,ne_eq] at e3 e4;rintro (h | h)
  ·exact e3 h
  ·exact e4 h
 rw [if_neg n2'] at hav;have lt : ∀ {i : Nat} {o : O},h[i]? = some o → i < h.length := fun hi => (List.getElem?_eq_some_iff.1 hi).1;have lb := lt hb;have la := lt ha;have lj := lt hj;have lm := lt hm;have ap : ∀ {i : Nat} {o : O} (X : H),h[i]? = some o → (h ++ X)[i]? = some o := fun X hi => by rw [List.getElem?_append_left (lt hi)];exact hi
 have hbX := ap [.cells [vi P,vi Q]] hb;have haX := ap [.cells [vi P,vi Q]] ha;have hjX := ap [.cells [vi P,vi Q]] hj;have hmX := ap [.cells [vi P,vi Q]] hm;have hfi := D9 (P,Q) A;refine ag (vm ?_);simp only [wq.1,seval,e1,e2,e3,e4,hxo];refine ag (vm ?_);simp only [wq.1,seval,gE0,gS0];cases hfx : A.findIdx? (· == (P,Q)) with
 | some i => rw [hfx] at hav hfi;have hi : i < A.length := (List.findIdx?_eq_some_iff_getElem.1 hfx).1;refine ag (vm ?_);simp only [wq.1,seval,gE0,hbX,hmX,xJ,hfi,K.keyOk,VD hi];refine ⟨by decide +kernel,?_⟩;exact early _ hav [.cells [vi P,vi Q]]
 | none =>
  rw [hfx] at hav hfi;have hge := fun (h' : H) (h1 : h'[J]? = some (.cells (ini.map vi))) (h2 : h'[a]? = some (.cells (fl A))) => (aC.agg (aB.cons (aC.dat rfl) (aB.cons (aC.dat zbC) (aB.cons (dh h1 rfl) (aB.cons (qO h2 rfl) (aB.cons aC.nils aB.nil))))) : aC TE h' (.agg [vi n1,aH nx,.ls J 1 0 ini.length ini.length,.ls a 2 0 A.length A.length,.nils]) (Gr.v ⟨n1,nx,ini,A,[]⟩));have hfst := kw ⟨n1,nx,ini,A,[]⟩ (by show _ ≤ n1;omega) (by show n1 ≤ _;omega) (by show nx.length ≤ _;omega);have hfe : Gr.first ⟨n1,nx,ini,A,[]⟩ = f0 := hf.symm
  rw [hfe] at hfst;have w1 : IntKind.i64.wrap (f0 + (A.length : Int)) = f0 + A.length := jY (by omega) (by omega);have w2 : IntKind.i64.wrap (2 * (f0 + (A.length : Int))) = 2 * (f0 + A.length) := jY (by omega) (by omega);refine ag (vm ?_);simp only [wq.1,seval,gE0,hbX,hmX,xJ,hfi,K.keyOk];refine ⟨by decide +kernel,?_⟩;refine ag (bu mixed IL (fun f' h' => f'.t 0 = .lp b 0 ∧ f'.t 7 = .lp h.length 0 ∧ f'.t 10 = vi (2 * (f0 + A.length)) ∧ f'.d = [] ∧ (∀ j,f'.k j = false) ∧ h' = h ++ [.cells [vi P,vi Q]]) (by decide +kernel) (by decide +kernel) ?_ ?_)
  ·simp only [wq.1,seval,IL,hbX]
   repeat' apply And.intro
   all_goals
    refine ah.lend hfst (aB.cons (hge _ hjX haX) aB.nil) rfl ?_;simp only [wq.1,seval,hbX,w1,w2]
  ·rintro f h' ⟨k0,k7,k10,hd,hk,rfl⟩;show awp _ _ _ _ _ _ _;have hne0 : (h.length == a) = false := by simp;omega
   have hma : m ≠ a := fun e => by rw [e,ha] at hm;cases hm
   have hba' : (b == a) = false := by simpa using hba
   have hbD : ∀ (Y : H) (X : O),((h.map (O.drop (fun x => x == a)) ++ Y).set a X)[b]? = some (.cells [vi n1,aH nx,.ls J 1 0 ini.length ini.length,.any,.nils,.lm m,.ls c 1 0 lc lc]) := fun Y X => by rw [List.getElem?_set_ne (Ne.symm hba),List.getElem?_append_left (by simpa using lb),List.getElem?_map,hb];simp only [wq.1,↓reduceIte,O.drop,V.drops,V.drop,show (J == a) = false by simpa using hJa,show (c == a) = false by simpa using hca,show (m == a) = false by simpa using hma]
   refine ag (bu mixed IM (fun f' h' => f'.t 0 = .lp b 0 ∧ f'.t 7 = .lp h.length 0 ∧ f'.t 10 = vi (2 * (f0 + A.length)) ∧ f'.d = [] ∧ (∀ j,f'.k j = true → j = a) ∧ h' = ((h.set b (bo n1 nx J ini.length a (A.length + 1) .nils m c lc)).set a (.cells (fl (A ++ [(P,Q)])))) ++ [.cells [vi P,vi Q]]) (by decide +kernel) (by decide +kernel) ?_ ?_)
   ·simp only [wq.1,seval,IM,gE0,hbX,haX,k0,k7,k10,hd,hne0,hba']
    repeat' apply And.intro
    all_goals first
     | rfl
     | decide
     | exact IK A
     | omega
     | (show _ ≤ _;omega)
     | skip
    all_goals
     rw [hbD];refine ⟨by simp,fun j hj => ?_,?_⟩
     ·rw [hk j,Bool.false_or,beq_iff_eq] at hj;exact hj
     ·have e1 : V.drops (fun x => x == a) (fl A) ++ V.drops (fun x => x == a) (List.flatMap V.vc [V.agg [vi P,vi Q]]) = fl (A ++ [(P,Q)]) := by rw [zah];show fl A ++ [vi P,vi Q] = fl (A ++ [(P,Q)]);simp only [fl,List.flatMap_append,List.flatMap_cons,List.flatMap_nil,List.append_nil]
      rw [e1,List.set_append_left _ _ (by simpa using la),List.set_append_left _ _ (by simpa using lb),List.set_comm _ _ (Ne.symm hba),VE hdr];rfl
   ·rintro f h' ⟨k0,k7,k10,hd,hk,rfl⟩;show awp _ _ _ _ _ _ _;obtain ⟨A',hA'⟩ : ∃ A',A' = A ++ [(P,Q)] := ⟨_,rfl⟩;have lA' : A'.length = A.length + 1 := by rw [hA'];simp
    rw [← hA'] at hav ⊢;have j1 : ((h.set b (bo n1 nx J ini.length a (A.length + 1) .nils m c lc)).set a (.cells (fl A')) ++ [.cells [vi P,vi Q]])[b]? = some (bo n1 nx J ini.length a (A.length + 1) .nils m c lc) := by
     rw [List.getElem?_append_left (by simpa using lb),List.getElem?_set_ne (Ne.symm hba),List.getElem?_set_self lb]
    have hmb : m ≠ b := fun e => by rw [e,hb] at hm;cases hm
    have j2 : ((h.set b (bo n1 nx J ini.length a (A.length + 1) .nils m c lc)).set a (.cells (fl A')) ++ [.cells [vi P,vi Q]])[m]? = some (.map (A.map prV) (G6 f0 A.length)) := by rw [List.getElem?_append_left (by simpa using lm),List.getElem?_set_ne (Ne.symm hma),List.getElem?_set_ne (Ne.symm hmb)];exact hm
    have j3 : ((h.set b (bo n1 nx J ini.length a (A.length + 1) .nils m c lc)).set a (.cells (fl A')) ++ [.cells [vi P,vi Q]])[h.length]? = some (.cells [vi P,vi Q]) := by rw [show h.length = ((h.set b (bo n1 nx J ini.length a (A.length + 1) .nils m c lc)).set a (.cells (fl A'))).length by simp,List.getElem?_append_right (Nat.le_refl _),Nat.sub_self];rfl
    refine ag (bu mixed IP (fun f' h' => f'.t 10 = vi (2 * (f0 + A.length)) ∧ f'.d = [] ∧ (∀ j,f'.k j = true → j = a) ∧ h' = ((h.set b (bo n1 nx J ini.length a (A.length + 1) .nils m c lc)).set a (.cells (fl A'))).set m (.map (A'.map prV) (G6 f0 A'.length)) ++ [.cells [vi P,vi Q]]) (by decide +kernel) (by decide +kernel) ?_ ?_)
    ·simp only [wq.1,seval,IP,k0,k7,k10,hd,j1,j2,j3,NW,hfi,K.keyOk]
     repeat' apply And.intro
     all_goals first
      | exact hk
      | (rw [List.set_append_left _ _ (by simpa using lm), hA', List.length_append, List.length_singleton, P9, List.map_append]
         rfl)
    ·rintro f h' ⟨k10,hd,hk,rfl⟩;show awp _ _ _ _ _ _ _;refine vm ?_;simp only [wq.1,seval,k10,hd];have := hr [.cells [vi P,vi Q]];rw [hav] at this;simp only [lA'] at this ⊢;exact ⟨fun i hi => by simpa using hk i hi,this⟩
def dR (C : Cl) (a : Int) : Int := if a % 2 = 1 then FX (C.getD (a / 2).toNat 0) else C.getD (a / 2).toNat 0
theorem lu {h : H} {b c : Nat} {n1 : Int} {nx ini ands outs there : V} {C : Cl} {a : Int} (h0 : 0 ≤ a) (h1 : a / 2 < C.length) (h2 : a ≤ 1000000000) (hC : ∀ x ∈ C,0 ≤ x ∧ x ≤ 1000000)
 (hb : h[b]? = some (.cells [vi n1,nx,ini,ands,outs,there,.ls c 1 0 C.length C.length])) (hc : h[c]? = some (.cells (C.map vi))) {R : AEnd → H → (Nat → Bool) → Prop} (hr : R (.ret (vi (dR C a))) h (fun _ => false)) : ah TE 82 [.lp b 0,vi a] h R := by
 obtain ⟨k,hk⟩ : ∃ k : Nat,a / 2 = k := ⟨(a / 2).toNat,by omega⟩;have hkl : k < C.length := by omega
 have hg : (C.map vi).getD k .any = vi C[k] := xU hkl _;have hx := hC _ (List.getElem_mem hkl);have hcv : dR C a = if a % 2 = 1 then FX C[k] else C[k] := by unfold dR;rw [hk,Int.toNat_natCast,aG hkl]
 have hlen : (C.map vi).length = C.length := List.length_map ..;refine au Tryz.func82 rfl (by simp [nts]) (vm ?_);rcases Int.emod_two_eq a with hm | hm
 ·simp only [wq.1,seval,Tryz.results82,NY,zbr h0 h2,hk,hb,hc,hg,hm,Nat.mul_one,VC hx.1 (show C[k] ≤ 1000000000 by omega)];rw [hcv,hm,if_neg (by decide)] at hr;exact ⟨⟨by omega,by omega⟩,by omega,hr⟩
 ·simp only [wq.1,seval,Tryz.results82,NY,zbr h0 h2,hk,hb,hc,hg,hm,Nat.mul_one,P8 hx.1 (show C[k] ≤ 1000000000 by omega)];rw [hcv,hm,if_pos rfl] at hr;exact ⟨⟨by omega,by omega⟩,by omega,hr⟩
theorem Eb {h : H} (hcd : dO h) {b c : Nat} {n1 : Int} {nx ini ands outs there : V} {C l : Cl} (hll : l.length ≤ 4000) (hl : ∀ a ∈ l,0 ≤ a ∧ a / 2 < C.length ∧ a ≤ 1000000000) (hC : ∀ x ∈ C,0 ≤ x ∧ x ≤ 1000000)
 (hb : h[b]? = some (.cells [vi n1,nx,ini,ands,outs,there,.ls c 1 0 C.length C.length])) (hc : h[c]? = some (.cells (C.map vi))) {R : AEnd → H → (Nat → Bool) → Prop}
 (hr : R (.ret (.ls h.length 1 0 l.length l.length)) (h ++ [.cells ((l.map (dR C)).map vi)]) (fun _ => false)) : ah TE 131 [.lp b 0,aH l] h R := by
 have hM : maxLen = 9223372036854775807 := rfl;have lt : ∀ {i : Nat} {o : O},h[i]? = some o → i < h.length := fun hi => (List.getElem?_eq_some_iff.1 hi).1;have ap : ∀ {i : Nat} {o : O} (X : H),h[i]? = some o → (h ++ X)[i]? = some o := fun X hi => by rw [List.getElem?_append_left (lt hi)];exact hi
 have lb := lt hb;have hbn : (b == h.length) = false := by simp;omega
 refine ah.fresh ?_;refine au Tryz.func131 rfl (by simp [nts]) ?_;refine ag (vm ?_);simp only [wq.1,Nat.reduceLT,Tryz.results131];refine ag (vm ?_);simp only [wq.1,Nat.reduceLT];refine yB 5 1 (by simp only [wq.1,↓reduceIte]) ?_;refine vm ?_;simp only [wq.1,seval];refine aF (fun m f h' => ∃ (i : Nat) (cs : List V),m + i = l.length ∧ f.t 5 = .ls h.length 1 0 i i ∧ f.t 6 = .fn (.func 82) [.lp b 0] [] ∧ f.t 11 = aH l ∧ f.t 12 = vi l.length ∧ f.t 13 = vi i ∧ f.d = [] ∧ (∀ j,j < h.length → f.k j = false) ∧ cs = ((l.take i).map (dR C)).map vi ∧ h' = h ++ [.cells cs]) l.length
  ⟨0,[],by simp,by simp only [wq.1,seval],by simp only [wq.1,seval],by simp only [wq.1,seval],by simp only [wq.1,seval],by simp only [wq.1,↓reduceIte];rfl,by simp only [wq.1],fun j hj => by simp only [wq.1],rfl,rfl⟩ ?_
 rintro m f h' ⟨i,cs,hm,h5,h6,h11,h12,h13,hd,hk,hcs,rfl⟩;have hcl : i ≤ l.length → cs.length = i := fun hi => by rw [hcs,List.length_map,List.length_map,List.length_take];omega
 have hdc : ∀ p,V.drops p cs = cs := fun p => by rw [hcs];exact aP _
 have hcm := hcd.one (j := h.length) (by omega);refine vm ?_;simp only [wq.1,seval,h12,h13];refine vcB.mk (fun hlt => ?_) (fun hlt => ?_)
 ·simp only [decide_eq_true_eq,Int.ofNat_lt] at hlt;obtain ⟨o1,o2,o3⟩ := hl _ (List.getElem_mem hlt);have hg := xU hlt V.any;have hw := ax (show i < maxLen by omega);have hcl' := hcl (by omega);simp only [wq.1,seval,h5,h6,h11,h13,hg];refine ⟨⟨by omega,by omega⟩,?_⟩;refine lu o1 o2 o3 hC (ap _ hb) (ap _ hc) ?_;simp only [wq.1,↓reduceIte,Nat.reduceEqDiff,Nat.reduceLT,reduceCtorEq,Nat.reduceMul,h13,hd,hw,gE0,gS0,hdc,hcm];refine ⟨⟨rfl,by decide⟩,⟨by omega,by omega,by omega⟩,.inl ⟨m - 1,by omega,i + 1,_,by omega,by simp only [wq.1,↓reduceIte,Nat.reduceEqDiff,Nat.reduceLT,Nat.reduceLeDiff,Nat.reduceAdd,Nat.reduceSub,Int.reduceToNat,Nat.reduceDiv,Int.reduceLT,Int.reduceLE,Int.reduceNeg,Int.reduceBEq,Int.reduceBNe,Int.reduceAdd,Int.reduceSub,Nat.reduceBEq,reduceCtorEq,Nat.reduceMul,ak,Tryz.results131],by simp only [wq.1,↓reduceIte,Nat.reduceEqDiff,Nat.reduceLT,Nat.reduceLeDiff,Nat.reduceAdd,Nat.reduceSub,Int.reduceToNat,Nat.reduceDiv,Int.reduceLT,Int.reduceLE,Int.reduceNeg,Int.reduceBEq,Int.reduceBNe,Int.reduceAdd,Int.reduceSub,Nat.reduceBEq,reduceCtorEq,Nat.reduceMul,ak,Tryz.results131,h6,hbn],by simp only [wq.1,↓reduceIte,Nat.reduceEqDiff,Nat.reduceLT,Nat.reduceLeDiff,Nat.reduceAdd,Nat.reduceSub,Int.reduceToNat,Nat.reduceDiv,Int.reduceLT,Int.reduceLE,Int.reduceNeg,Int.reduceBEq,Int.reduceBNe,Int.reduceAdd,Int.reduceSub,Nat.reduceBEq,reduceCtorEq,Nat.reduceMul,ak,Tryz.results131,h11],by simp only [wq.1,↓reduceIte,Nat.reduceEqDiff,Nat.reduceLT,Nat.reduceLeDiff,Nat.reduceAdd,Nat.reduceSub,Int.reduceToNat,Nat.reduceDiv,Int.reduceLT,Int.reduceLE,Int.reduceNeg,Int.reduceBEq,Int.reduceBNe,Int.reduceAdd,Int.reduceSub,Nat.reduceBEq,reduceCtorEq,Nat.reduceMul,ak,Tryz.results131,h12],by simp only [wq.1,↓reduceIte,Nat.reduceEqDiff,Nat.reduceLT,Nat.reduceLeDiff,Nat.reduceAdd,Nat.reduceSub,Int.reduceToNat,Nat.reduceDiv,Int.reduceLT,Int.reduceLE,Int.reduceNeg,Int.reduceBEq,Int.reduceBNe,Int.reduceAdd,Int.reduceSub,Nat.reduceBEq,reduceCtorEq,Nat.reduceMul,ak,Tryz.results131],by simp only [wq.1,↓reduceIte,Nat.reduceEqDiff,Nat.reduceLT,Nat.reduceLeDiff,Nat.reduceAdd,Nat.reduceSub,Int.reduceToNat,Nat.reduceDiv,Int.reduceLT,Int.reduceLE,Int.reduceNeg,Int.reduceBEq,Int.reduceBNe,Int.reduceAdd,Int.reduceSub,Nat.reduceBEq,reduceCtorEq,Nat.reduceMul,ak,Tryz.results131,hd],fun j hj => ?_,?_,rfl⟩⟩
  ·simp only [wq.1,hk j hj];simp;omega
  ·rw [hcs,show l.take (i + 1) = l.take i ++ [l[i]] by rw [List.take_add_one,List.getElem?_eq_getElem hlt];rfl,List.map_append,List.map_append];rfl
 ·simp only [decide_eq_false_iff_not,Int.ofNat_lt] at hlt;have hi : i = l.length := by omega
  subst hi;simp only [wq.1,seval,h5,hd];rw [List.take_length] at hcs;rw [hcs];exact ⟨hk,hr⟩
def Xr : Plan := .take 0 <| .take 1 <| .take 2 <| .take 3 <| .take 6 <| .take 7 <| .alt 4 (.alt 5 (.one 8 <| .one 9 <| .take 10 <| .take 11 <| .take 12 <| .one 13 <| .take 14 <| .take 15 <| .take 16 <| .one 17 <| .fin) (.one 8 (.one 5 <| .one 9 <| .take 10 <| .take 11 <| .take 12 <| .one 13 <| .take 14 <| .take 15 <| .take 16 <| .one 17 <| .fin))) (.one 8 (.one 4 <| .one 5 <| .one 9 <| .take 10 <| .take 11 <| .take 12 <| .one 13 <| .take 14 <| .take 15 <| .take 16 <| .one 17 <| .fin))
theorem sH {h : H} (hc : dO h) {cs : List V} (hd : ∀ p,V.drops p cs = cs) : dO (h ++ [.cells cs]) := fun p hp => by rw [List.map_append,hc p (fun i hi => hp i (by simp;omega))];show h ++ [O.cells (V.drops p cs)] = _;rw [hd]
theorem Ec {h : H} (hcd : dO h) {b c J a m : Nat} {n1 : Int} {nx : Cl} {k la : Nat} {x : Gr} {outs : V} {C : Cl} (hn : x.next.length ≤ 4000) (hol : x.outs.length ≤ 4000)
 (hl : ∀ a ∈ x.next,0 ≤ a ∧ a / 2 < C.length ∧ a ≤ 1000000000) (hl2 : ∀ a ∈ x.outs,0 ≤ a ∧ a / 2 < C.length ∧ a ≤ 1000000000) (hC : ∀ x ∈ C,0 ≤ x ∧ x ≤ 1000000)
 (hb : h[b]? = some (.cells [vi n1,aH nx,.ls J 1 0 k k,.ls a 2 0 la la,outs,.lm m,.ls c 1 0 C.length C.length])) (hc : h[c]? = some (.cells (C.map vi)))
 {R : AEnd → H → (Nat → Bool) → Prop}
 (hr : ∀ X Y,R (.ret (.agg [vi n1,.ls (h.length + 2) 1 0 x.next.length x.next.length,.ls J 1 0 k k,.ls a 2 0 la la,.ls (h.length + 3) 1 0 x.outs.length x.outs.length]))
  (h.set b (.cells [vi n1,.ls (h.length + 2) 1 0 x.next.length x.next.length,.ls J 1 0 k k,.ls a 2 0 la la,.ls (h.length + 3) 1 0 x.outs.length x.outs.length,.lm m,.ls c 1 0 C.length C.length]) ++ [X,Y,.cells ((x.next.map (dR C)).map vi),.cells ((x.outs.map (dR C)).map vi)]) (fun _ => false)) :
 ah TE 83 [.lp b 0,x.v] h R := by
 have hM : maxLen = 9223372036854775807 := rfl;have lt : ∀ {i : Nat} {o : O},h[i]? = some o → i < h.length := fun hi => (List.getElem?_eq_some_iff.1 hi).1;have ap : ∀ {i : Nat} {o : O} (X : H),h[i]? = some o → (h ++ X)[i]? = some o := fun X hi => by rw [List.getElem?_append_left (lt hi)];exact hi
 have lb := lt hb;unfold Gr.v;refine ah.fresh ?_;refine au Tryz.func83 rfl (by simp [nts]) ?_;refine ag (vm ?_);simp only [wq.1,Nat.reduceLT,Tryz.results83,List.append_assoc];have c1 : dO (h ++ [.cells [vi x.ins,aH x.next,aH x.init,prs x.ands,aH x.outs],.cells [vi 0,.nils,.nils,.nils,.nils]]) := by
  have := sH (sH hcd (cs := [vi x.ins,aH x.next,aH x.init,prs x.ands,aH x.outs]) (fun p => by simp only [wq.1,V.drops,V.drop])) (cs := [vi 0,.nils,.nils,.nils,.nils]) (fun p => by simp only [wq.1,V.drops,V.drop])
  rwa [List.append_assoc] at this
 have c2 : dO (h ++ [.cells [vi x.ins,aH x.next,aH x.init,prs x.ands,aH x.outs],.cells [vi 0,.nils,.nils,.nils,.nils],.cells ((x.next.map (dR C)).map vi)]) := by
  have := sH c1 (cs := (x.next.map (dR C)).map vi) (fun p => aP _)
  rwa [List.append_assoc] at this
 have hbS : ∀ (Z : O) (X : H),(h.set b Z ++ X)[b]? = some Z := fun Z X => by rw [List.getElem?_append_left (by simpa using lb),List.getElem?_set_self lb]
 have hsA : ∀ (Z : O) (X : H),(h ++ X).set b Z = h.set b Z ++ X := fun Z X => List.set_append_left _ _ lb;have hsB : ∀ (Z Y : O) (X : H),(h.set b Z ++ X).set b Y = h.set b Y ++ X := fun Z Y X => by rw [List.set_append_left _ _ (by simpa using lb),List.set_set]
 refine ag (bu mixed Xr (fun f' h' => f'.t 0 = .lp b 0 ∧ f'.t 4 = .lp (h.length + 1) 0 ∧ f'.d = [] ∧ (∀ j,j < h.length → f'.k j = false) ∧ h' = h.set b (.cells [vi n1,.ls (h.length + 2) 1 0 x.next.length x.next.length,.ls J 1 0 k k,.ls a 2 0 la la,.ls (h.length + 3) 1 0 x.outs.length x.outs.length,.lm m,.ls c 1 0 C.length C.length]) ++ [.cells [vi x.ins,aH x.next,aH x.init,prs x.ands,aH x.outs],.cells [vi 0,.nils,.nils,.nils,.nils],.cells ((x.next.map (dR C)).map vi),.cells ((x.outs.map (dR C)).map vi)]) (by decide +kernel) (by decide +kernel) ?_ ?_)
 ·simp only [wq.1,seval,Xr,gE0]
  repeat' apply And.intro
  all_goals
   refine Eb c1 hn hl hC (ap _ hb) (ap _ hc) ?_;simp only [wq.1,seval,gE0,List.append_assoc]
   repeat' apply And.intro
  all_goals
   refine Eb c2 hol hl2 hC (ap _ hb) (ap _ hc) ?_;simp only [wq.1,seval,List.append_assoc,ap _ hb,hsA,hsB,hbS]
 ·rintro f h' ⟨k0,k4,hd,hk,rfl⟩;show awp _ _ _ _ _ _ _;have hgL : ∀ (Z : O) (X : H) (i : Nat),(h.set b Z ++ X)[h.length + i]? = X[i]? := fun Z X i => by
   rw [show h.length + i = (h.set b Z).length + i by simp];exact gE
  have hsL : ∀ (Z : O) (X : H) (i : Nat) (y : O),(h.set b Z ++ X).set (h.length + i) y = h.set b Z ++ X.set i y := fun Z X i y => by rw [show h.length + i = (h.set b Z).length + i by simp];exact gS
  refine vm ?_;simp only [wq.1,seval,k0,k4,hd,hbS,hgL,hsL];exact ⟨hk,hr _ _⟩
theorem nR {l : List Pr} {i : Nat} (h : i < l.length) (d : V) : (l.map prV).getD i d = prV l[i] := oh h d
theorem G7 (l : List Pr) : Ev TE 150 [prs l] (.fn (.func 171) [] [.ip (prs l)]) := by refine aA Tryz.func150 rfl (by simp [nts]) (vm ?_);simp only [wq.1,seval,Tryz.results150];refine aC.fn aB.nil (aB.cons (aC.lp rfl (aB.dat rfl) rfl rfl (by simp [V.vc]) rfl) aB.nil)
def uo (l : List Pr) (n : Nat) : List (List V) := (List.range n).map fun j => [vi ((l.length - 1 - j : Nat) : Int),prV (l.getD (l.length - 1 - j) (0,0))]
theorem Bv (l : List Pr) (hl : l.length ≤ 1000000) : zbp TE 171 [] [.ip (prs l)] (uo l l.length) := by
 have hM : maxLen = 9223372036854775807 := rfl;intro id h I Stop h0 step;have w0 : IntKind.i64.wrap ((l.length : Int) - 1) = (l.length : Int) - 1 := jY (by omega) (by omega);have hbl : (uo l l.length).length = l.length := by simp [uo]
 refine au Tryz.func171 rfl (by simp [nts]) (vm ?_);simp only [wq.1,seval,Tryz.results171,w0];refine aF (fun m f h => ∃ i,m + i = l.length ∧ f.t 0 = .yd id ∧ f.t 1 = .ip (prs l) ∧ f.t 3 = vi ((l.length : Int) - 1 - i) ∧ f.d = [] ∧ f.k id = false ∧ I i h f.k) l.length ⟨0,by simp,rfl,rfl,by simp only [wq.1,↓reduceIte];simp,rfl,rfl,h0⟩ ?_;rintro m f h ⟨i,hm,h0,h1,h3,hd,hk,hI⟩;refine vm ?_;simp only [wq.1,seval,h3];refine vcB.mk (fun hc => ?_) (fun hc => ?_)
 ·have hc : i < l.length := by simp only [decide_eq_true_eq] at hc;omega
  obtain ⟨p,hp⟩ : ∃ p : Nat,p = l.length - 1 - i := ⟨_,rfl⟩;have hpl : p < l.length := by omega
  have e : (l.length : Int) - 1 - i = (p : Int) := by omega
  have w2 : IntKind.i64.wrap ((p : Int) - 1) = (l.length : Int) - 1 - ((i + 1 : Nat) : Int) := by rw [jY (by omega) (by omega)];omega
  have hz : i < (uo l l.length).length := by omega
  have hg := step i h f.k hz hk hI;have he : (uo l l.length)[i] = [vi (p : Int),prV l[p]] := by simp only [uo,List.getElem_map,List.getElem_range];rw [← hp,aG hpl]
  rw [he] at hg;obtain ⟨t,n',ps,asg,body,pend,hL,hsz,hps,hw⟩ := hg;rw [e] at h3;simp only [wq.1,seval,h0,h1,h3,nR hpl,hL];refine ⟨⟨by omega,by omega⟩,⟨by simpa using hsz,hps⟩,jE hw ?_⟩;intro j h' p' hp' hS;refine ⟨by simp [xM,hd],?_⟩;cases j with
  | none => simp only [wq.1,seval,h3,Option.isNone_none,w2];refine .inl ⟨m - 1,by omega,i + 1,by omega,by simp only [wq.1,seval,h0,hp'],by simp only [wq.1,seval,h1],by simp only [wq.1,↓reduceIte],by simp only [wq.1,hd],by simp only [wq.1,hk,hp'],by simp only [wq.1];exact hS⟩
  | some c => simp only [wq.1,seval,hd,hp',Option.isNone_some];exact ⟨by simp [hk],.inr ⟨c,hS⟩⟩
 ·have hi : i = l.length := by simp only [decide_eq_false_iff_not] at hc;omega
  subst hi;simp only [wq.1,hd];refine ⟨hk,.inl ?_⟩;rw [hbl];exact hI
theorem qP {h : H} {g : Gr} {r n : Nat} {R : AEnd → H → (Nat → Bool) → Prop}
 (hr : R (.ret (.fn (.func 149) [] [.lp h.length 0,.lp (h.length + 1) 0])) (h ++ [.cells [vi g.ins,aH g.next,aH g.init,prs g.ands,aH g.outs],.cells [.ls r 1 0 n n]]) (fun _ => false)) : ah TE 118 [g.v,.ls r 1 0 n n] h R := by
 unfold Gr.v;refine au Tryz.func118 rfl (by simp [nts]) (vm ?_);simp only [wq.1,seval,Tryz.results118,List.append_assoc];exact hr
def sJ (v : List Bool) (l : Int) : List Bool := v.set (l / 2).toNat true
theorem mi {v : List Bool} {l : Int} : (sJ v l).length = v.length := by simp [sJ]
def G8 (g : Gr) (v : List Bool) (n : Nat) : List Bool := ((g.next ++ g.outs).take n).foldl sJ v
def uC (g : Gr) (v : List Bool) : Nat → List Bool
 | 0 => v
 | k + 1 => let u := uC g v k
  let p := g.ands.getD (g.ands.length - 1 - k) (0,0)
  if u.getD (g.first + ((g.ands.length - 1 - k : Nat) : Int)).toNat false then sJ (sJ u p.1) p.2 else u
theorem IQ {g : Gr} {v : List Bool} {n : Nat} : (G8 g v n).length = v.length := by
 unfold G8
 induction (g.next ++ g.outs).take n generalizing v with
 | nil => rfl
 | cons a l ih => rw [List.foldl_cons,ih,mi]
theorem uD {g : Gr} {v : List Bool} : ∀ {k : Nat},(uC g v k).length = v.length
 | 0 => rfl
 | k + 1 => by
  unfold uC;dsimp only;split
  ·rw [mi,mi,uD]
  ·exact uD
structure HV (g : Gr) (k1 k2 rr n N : Nat) (P : List Bool → H → Prop) : Prop where
 gr : ∀ v X,P v X → X[k1]? = some (.cells [vi g.ins,aH g.next,aH g.init,prs g.ands,aH g.outs])
 cl : ∀ v X,P v X → X[k2]? = some (.cells [.ls rr 1 0 n n])
 rw_ : ∀ v X,P v X → X[rr]? = some (.cells (v.map V.bool))
 len : ∀ v X,P v X → X.length = N
 vlen : ∀ v X,P v X → v.length = n
def Qa : Plan := .take 3 <| .alt 0 (.one 1 <| .one 2 <| .one 4 <| .take 5 <| .one 6 <| .take 7 <| .take 9 <| .alt 8 (.one 10 <| .one 11 <| .one 12 <| .take 13 <| .take 15 <| .alt 14 (.one 16 <| .one 17 <| .one 18 <| .one 19 <| .one 20 <| .fin) (.one 16 (.one 14 <| .one 17 <| .one 18 <| .one 19 <| .one 20 <| .fin))) (.one 10 (.one 8 <| .one 11 <| .one 12 <| .take 13 <| .take 15 <| .alt 14 (.one 16 <| .one 17 <| .one 18 <| .one 19 <| .one 20 <| .fin) (.one 16 (.one 14 <| .one 17 <| .one 18 <| .one 19 <| .one 20 <| .fin))))) (.one 1 (.alt 0 (.one 2 <| .one 4 <| .take 5 <| .one 6 <| .take 7 <| .take 9 <| .alt 8 (.one 10 <| .one 11 <| .one 12 <| .take 13 <| .take 15 <| .alt 14 (.one 16 <| .one 17 <| .one 18 <| .one 19 <| .one 20 <| .fin) (.one 16 (.one 14 <| .one 17 <| .one 18 <| .one 19 <| .one 20 <| .fin))) (.one 10 (.one 8 <| .one 11 <| .one 12 <| .take 13 <| .take 15 <| .alt 14 (.one 16 <| .one 17 <| .one 18 <| .one 19 <| .one 20 <| .fin) (.one 16 (.one 14 <| .one 17 <| .one 18 <| .one 19 <| .one 20 <| .fin))))) (.one 2 (.alt 0 (.one 4 <| .take 5 <| .one 6 <| .take 7 <| .take 9 <| .alt 8 (.one 10 <| .one 11 <| .one 12 <| .take 13 <| .take 15 <| .alt 14 (.one 16 <| .one 17 <| .one 18 <| .one 19 <| .one 20 <| .fin) (.one 16 (.one 14 <| .one 17 <| .one 18 <| .one 19 <| .one 20 <| .fin))) (.one 10 (.one 8 <| .one 11 <| .one 12 <| .take 13 <| .take 15 <| .alt 14 (.one 16 <| .one 17 <| .one 18 <| .one 19 <| .one 20 <| .fin) (.one 16 (.one 14 <| .one 17 <| .one 18 <| .one 19 <| .one 20 <| .fin))))) (.one 4 (.one 0 <| .take 5 <| .one 6 <| .take 7 <| .take 9 <| .alt 8 (.one 10 <| .one 11 <| .one 12 <| .take 13 <| .take 15 <| .alt 14 (.one 16 <| .one 17 <| .one 18 <| .one 19 <| .one 20 <| .fin) (.one 16 (.one 14 <| .one 17 <| .one 18 <| .one 19 <| .one 20 <| .fin))) (.one 10 (.one 8 <| .one 11 <| .one 12 <| .take 13 <| .take 15 <| .alt 14 (.one 16 <| .one 17 <| .one 18 <| .one 19 <| .one 20 <| .fin) (.one 16 (.one 14 <| .one 17 <| .one 18 <| .one 19 <| .one 20 <| .fin))))))))))
theorem pg {g : Gr} (hg : g.chk = 0) {id k1 k2 rr n N : Nat} {P : List Bool → H → Prop} (hn : (n : Int) = g.first + g.ands.length) (hv : HV g k1 k2 rr n N P) (hid : id < N)
 (hy : ∀ (v : List Bool) (X Y : H) (lit : Int),P v X → 0 ≤ lit → lit / 2 < n → Y8 TE id [vi lit] (X ++ Y) fun j h'' p => j = none ∧ (∀ i,p i = false) ∧ ∃ X',h'' = X' ++ Y ∧ P (sJ v lit) X')
 {v0 : List Bool} {X0 : H} (h0 : P v0 X0) : ah TE 149 [.yd id,.lp k1 0,.lp k2 0] X0 fun ae h' p => (∀ i,i < N → p i = false) ∧ (∃ w,ae = .ret w) ∧ ∃ X Y,h' = X ++ Y ∧ P (uC g (G8 g v0 (g.next ++ g.outs).length) g.ands.length) X := by
 have hM : maxLen = 9223372036854775807 := rfl;obtain ⟨_,i0,i1,i2,i3,i4,i5⟩ := bf hg;obtain ⟨r1,r2,r3,r4⟩ := dB i4;have wf : g.first = 1 + g.ins + g.next.length := rfl
 have wa : g.all = 2 * (g.first + g.ands.length) := rfl;have x1 := hv.gr _ _ h0;have lN := hv.len _ _ h0;have lt : ∀ {X : H} {i : Nat} {o : O},X[i]? = some o → i < X.length := fun hi => (List.getElem?_eq_some_iff.1 hi).1;have ap : ∀ {X : H} {i : Nat} {o : O} (Y : H),X[i]? = some o → (X ++ Y)[i]? = some o := fun Y hi => by rw [List.getElem?_append_left (lt hi)];exact hi
 have gN : ∀ {X : H},X.length = N → ∀ (Y : H) (k : Nat),(X ++ Y)[N + k]? = Y[k]? := fun {X} hX Y k => by rw [← hX];exact gE
 have gN0 : ∀ {X : H},X.length = N → ∀ (Y : H),(X ++ Y)[N]? = Y[0]? := fun {X} hX Y => by rw [← hX];exact gE0
 have sN : ∀ {A : H},A.length = N → ∀ (Z : H) (k : Nat) (y : O),(A ++ Z).set (N + k) y = A ++ Z.set k y := fun {A} hA Z k y => by rw [← hA];exact gS
 obtain ⟨lits,hlits⟩ : ∃ lits,lits = g.next ++ g.outs := ⟨_,rfl⟩
 have hlok : ∀ a ∈ lits,0 ≤ a ∧ a / 2 < n := fun a ha => by
  rw [hlits] at ha;rcases List.mem_append.1 ha with ha | ha
  ·have := r3 a ha;omega
  ·have := r4 a ha;omega
 have hll : lits.length = g.next.length + g.outs.length := by rw [hlits,List.length_append]
 have hcat : EvF TE 106 [.is true 1 [aH g.next,aH g.outs]] 1 lits.length (lits.map vi) := by
  have := tY [g.next,g.outs] (by simp;omega) (by simp)
  rwa [show [g.next,g.outs].flatten = lits by rw [hlits];simp] at this
 refine au Tryz.func149 rfl (by simp [nts]) ?_;refine ag (vm ?_);simp only [wq.1,Nat.reduceLT,Tryz.results149,lN];refine ag (ag (bG (Q := fun xe f h => xe = .normal ∧ f.t 1 = .lp k1 0 ∧ f.t 2 = .lp k2 0 ∧ f.t 3 = .lp N 0 ∧ f.t 13 = .ls (N + 1) 1 0 lits.length lits.length ∧ f.t 14 = vi lits.length ∧ f.t 15 = vi 0 ∧ f.d = [] ∧ (∀ j,f.k j = false) ∧ h = X0 ++ [.cells [.yd id],.cells (lits.map vi)]) ?_ ?_))
 ·rintro xe f h ⟨rfl,t1,t2,t3,t13,t14,t15,hd,hk,rfl⟩;show awp _ _ _ _ _ _ _;refine bG (Q := fun xe f h => xe = .normal ∧ f.t 1 = .lp k1 0 ∧ f.t 2 = .lp k2 0 ∧ f.t 3 = .lp N 0 ∧ f.d = [] ∧ (∀ j,j < N → f.k j = false) ∧ ∃ X,P (G8 g v0 lits.length) X ∧ h = X ++ [.cells [.yd id],.cells (lits.map vi)]) ?_ ?_
  ·rintro xe f h ⟨rfl,t1,t2,t3,hd,hk,X,hX,rfl⟩;show awp _ _ _ _ _ _ _;have lX := hv.len _ _ hX;have x1 := hv.gr _ _ hX;have lX0 := lX;obtain ⟨vS,hvS⟩ : ∃ vS,vS = G8 g v0 lits.length := ⟨_,rfl⟩;rw [← hvS] at hX;obtain ⟨ydb,hydb⟩ : ∃ ydb : O,ydb = .cells [.yd id] := ⟨_,rfl⟩;obtain ⟨row,hrow⟩ : ∃ row : O,row = .cells (lits.map vi) := ⟨_,rfl⟩;rw [← hydb,← hrow];have hlh : (X ++ [ydb,row]).length = N + 2 := by simp [lX]
   refine ag (bG (Q := fun xe f h => xe = .normal ∧ f.t 1 = .lp k1 0 ∧ f.t 2 = .lp k2 0 ∧ f.t 3 = .lp N 0 ∧ f.t 26 = .fn (.func 171) [] [.ip (prs g.ands)] ∧ f.d = [] ∧ (∀ j,j < N → f.k j = false) ∧ h = X ++ [ydb,row]) ?_ ?_)
   ·rintro xe f h ⟨rfl,t1,t2,t3,t26,hd,hkf,rfl⟩;show awp _ _ _ _ _ _ _;refine az ?_;refine O3 (n := 50) (q := 171) (first := []) (captured := [.ip (prs g.ands)]) (by simp only [wq.1,t26]) (by simp only [wq.1,t26]) rfl (Bv g.ands (by omega)) (by intro v hv;simp only [uo,List.mem_map] at hv;obtain ⟨p,_,rfl⟩ := hv;rfl) (by decide)
     (fun L i h k => ∃ t X Y,P (uC g vS i) X ∧ t 1 = .lp k1 0 ∧ t 2 = .lp k2 0 ∧ t 3 = .lp N 0 ∧ (∀ j,k j = false) ∧ h = X ++ ([ydb,row,.misc .dfd,L t .ready] ++ Y)) ?_ ?_ ?_
    ·intro L;exact ⟨f.t,X,[],hX,t1,t2,t3,fun _ => rfl,by simp⟩
    ·rintro L l i h' k hi hdrop hk0 ⟨t,X,Y,hX,t1,t2,t3,hk,rfl⟩;obtain ⟨v,hvd⟩ : ∃ v,v = uC g vS i := ⟨_,rfl⟩;rw [← hvd] at hX;have lX := hv.len _ _ hX;have hia : i < g.ands.length := by simpa [uo] using hi
     obtain ⟨p,hp⟩ : ∃ p : Nat,p = g.ands.length - 1 - i := ⟨_,rfl⟩;have hpl : p < g.ands.length := by omega
     have he : (uo g.ands g.ands.length)[i] = [vi (p : Int),prV g.ands[p]] := by simp only [uo,List.getElem_map,List.getElem_range];rw [← hp,aG hpl]
     rw [he];refine ⟨t,(by rw [hlh];exact gN lX _ 3),?_⟩;obtain ⟨H1,hH1⟩ : ∃ H1,H1 = X ++ ([ydb,row,.misc .dfd,L t .ready] ++ Y) := ⟨_,rfl⟩;obtain ⟨M,hM1⟩ : ∃ M,M = H1.length := ⟨_,rfl⟩;have gM0 : ∀ Z : H,(H1 ++ Z)[M]? = Z[0]? := fun Z => by rw [hM1];exact gE0
     have sM0 : ∀ (Z : H) (y : O),(H1 ++ Z).set M y = H1 ++ Z.set 0 y := fun Z y => by rw [hM1];exact gS0
     rw [← hH1];refine vm ?_;simp only [wq.1,seval,← hM1,gM0,sM0];rw [lX0];obtain ⟨pb,hpb⟩ : ∃ pb : O,pb = .cells [vi g.ands[p].fst,vi g.ands[p].snd] := ⟨_,rfl⟩;rw [← hpb];refine ⟨rfl,t,by rw [hH1,List.append_assoc,gN lX];rfl,?_⟩;obtain ⟨W,hW⟩ : ∃ W : H,W = [ydb,row,.misc .dfd,L t .busy] ++ Y := ⟨_,rfl⟩;have hWl : M = N + W.length := by rw [hM1,hH1,hW];simp [lX]
     rw [show (H1 ++ [pb]).set (N + 3) (L t .busy) = X ++ (W ++ [pb]) by rw [hH1,List.append_assoc,sN lX,hW];rfl];have gW : ∀ {A : H},A.length = N → ∀ (Z : H),(A ++ (W ++ Z))[M]? = Z[0]? := fun {A} hA Z => by rw [hWl,gN hA];exact gE0
     have gy : ∀ {A : H},A.length = N → ∀ (Z : H),(A ++ (W ++ Z))[N]? = some (.cells [.yd id]) := fun {A} hA Z => by rw [gN0 hA,hW,hydb];rfl
     have hvl := hv.vlen _ _ hX;have c2 := hv.cl _ _ hX;have c3 := hv.rw_ _ _ hX;have c1 := hv.gr _ _ hX;have hfst := kw g (by omega) (by omega) (by omega);have wp : IntKind.i64.wrap (g.first + (p : Int)) = g.first + p := jY (by omega) (by omega)
     obtain ⟨o1,o2,o3,o4⟩ := dY i5 hpl;have q1 : 0 ≤ g.first + (p : Int) := by omega
     have hvn : (g.first + (p : Int)).toNat < v.length := by rw [hvl];omega
     have key : ∀ (v : List Bool) (A : H),P v A → ∀ lit,0 ≤ lit → lit < 2 * (g.first + (p : Int)) → ∀ Z : H,Y8 TE id [vi lit] (A ++ (W ++ Z)) fun j h'' p => j = none ∧ (∀ i,p i = false) ∧ ∃ X',h'' = X' ++ (W ++ Z) ∧ P (sJ v lit) X' := fun v A hA lit h1 h2 Z => hy v A (W ++ Z) lit hA h1 (by omega);refine az ?_;refine ag (bu mixed Qa (fun f' h' => f'.t 1 = .lp k1 0 ∧ f'.t 2 = .lp k2 0 ∧ f'.t 3 = .lp N 0 ∧ f'.t 49 = .bool false ∧ f'.d = [] ∧ (∀ j,f'.k j = false) ∧ ∃ X',P (uC g vS (i + 1)) X' ∧ h' = X' ++ (W ++ [pb])) (by decide +kernel) (by decide +kernel) ?_ ?_)
     ·have hLs : uC g vS (i + 1) = if v.getD (g.first + (p : Int)).toNat false then sJ (sJ v g.ands[p].1) g.ands[p].2 else v := by simp only [uC,← hp,← hvd,aG hpl]
      have hgd : ∀ (b : Bool),v.getD (g.first + (p : Int)).toNat false = b → (v.map V.bool).getD ((g.first + (p : Int)).toNat * 1) V.any = V.bool b := fun b hb => by rw [← hb,Nat.mul_one,List.getD_eq_getElem?_getD,List.getElem?_map,List.getElem?_eq_getElem hvn,aG hvn];rfl
      have q2 : g.first + (p : Int) < n := by omega
      have q3 : (g.first + (p : Int)).toNat * 1 + 1 ≤ v.length := by omega
      cases hb : v.getD (g.first + (p : Int)).toNat false
      ·simp only [wq.1,seval,Qa,t1,t2,ap _ c1,ap _ c2,hpb]
       repeat' apply And.intro
       all_goals
        refine ah.ev hfst (by simp only [V.dats,V.dat,Bool.and_self]) ?_;simp only [wq.1,seval,t1,t2,t3,ap _ c2,ap _ c3,gW lX,gy lX,wp,hgd _ hb,q1,q2,q3,Gg];refine ⟨.bool false,.bool false,?_⟩;simp only [wq.1,reduceCtorEq];simp only [hb,Bool.false_eq_true,if_false] at hLs;rw [hLs];exact ⟨X,hX,rfl⟩
      ·simp only [hb,if_true] at hLs;simp only [wq.1,seval,Qa,t1,t2,ap _ c1,ap _ c2,hpb]
       repeat' apply And.intro
       all_goals
        refine ah.ev hfst (by simp only [V.dats,V.dat,Bool.and_self]) ?_;obtain ⟨t',n',ps,asg,body,pend,hL,hsz,hps,hwy⟩ := key v X hX g.ands[p].1 o1 o3 [.cells [vi g.ands[p].fst,vi g.ands[p].snd]];simp only [wq.1,seval,t1,t2,t3,ap _ c2,ap _ c3,gW lX,gy lX,wp,hgd _ hb,q1,q2,q3,Gg,hL,hps]
       repeat' apply And.intro
       all_goals first
        | decide
        | (simpa using hsz)
        | skip
       all_goals
        refine jE hwy ?_;rintro j h'' q hq ⟨rfl,hqf,X',rfl,hX'⟩;have hqf' : q = fun _ => false := funext hqf;subst hqf';refine ⟨fun i _ => rfl,?_⟩;have lX' := hv.len _ _ hX';obtain ⟨t'',n'',ps',asg',body',pend',hL',hsz',hps',hwy'⟩ := key _ X' hX' g.ands[p].2 o2 o4 [.cells [vi g.ands[p].fst,vi g.ands[p].snd]];simp only [wq.1,seval,t1,t2,t3,gW lX',gy lX',Option.isNone_none,Gg,hL',hps']
       repeat' apply And.intro
       all_goals first
        | decide
        | (simpa using hsz')
        | skip
       all_goals
        refine jE hwy' ?_;rintro j h'' q hq ⟨rfl,hqf,X'',rfl,hX''⟩;have hqf' : q = fun _ => false := funext hqf;subst hqf';refine ⟨fun i _ => rfl,?_⟩;simp only [wq.1,seval,t1,t2,t3,Option.isNone_none];rw [hLs];exact ⟨X'',hX'',rfl⟩
     ·rintro f' h' ⟨u1,u2,u3,u49,ud,uk,X',hX',rfl⟩;show awp _ _ _ _ _ _ _;refine vm ?_;simp only [wq.1,u49];have lX' := hv.len _ _ hX';exact ⟨uk _,t,by rw [gN lX',hW];rfl,t,X',Y ++ [pb],hX',t1,t2,t3,fun j => by rw [hk,uk];rfl,by rw [sN lX',hW];simp⟩
    ·rintro L h' k hk0 ⟨t,X,Y,hX,t1,t2,t3,hk,rfl⟩;have lX := hv.len _ _ hX;refine ⟨t,(by rw [hlh];exact gN lX _ 3),fun j _ => hk j,?_⟩;simp only [wq.1,Nat.reduceAdd,hd,lX0,sN lX,gN lX];refine ⟨fun j hj => by rw [hkf j hj,hk j];rfl,⟨_,rfl⟩,X,_,rfl,?_⟩;have : (uo g.ands g.ands.length).length = g.ands.length := by simp [uo]
     rw [this,hvS,hll] at hX;exact hX
   ·refine vm ?_;simp only [wq.1,seval,t1,ap _ x1];refine ah.ev (G7 g.ands) (by simp only [V.dats,V.dat,Bool.and_self]) ?_;simp only [wq.1,seval,t1,t2,t3,hd];exact hk
  ·refine az ?_;refine aF (fun m f h => ∃ i,m + i = lits.length ∧ f.t 1 = .lp k1 0 ∧ f.t 2 = .lp k2 0 ∧ f.t 3 = .lp N 0 ∧ f.t 13 = .ls (N + 1) 1 0 lits.length lits.length ∧ f.t 14 = vi lits.length ∧ f.t 15 = vi i ∧ f.d = [] ∧ (∀ j,f.k j = false) ∧ ∃ X,P (G8 g v0 i) X ∧ h = X ++ [.cells [.yd id],.cells (lits.map vi)]) lits.length
    ⟨0,by omega,t1,t2,t3,t13,t14,t15,hd,hk,X0,h0,rfl⟩ ?_
   rintro m f h ⟨i,hm,t1,t2,t3,t13,t14,t15,hd,hk,X,hX,rfl⟩;have lX := hv.len _ _ hX;have hlm : (lits.map vi).length = lits.length := List.length_map ..;refine vm ?_;simp only [wq.1,seval,t14,t15];refine vcB.mk (fun hlt => ?_) (fun hlt => ?_)
   ·simp only [decide_eq_true_eq,Int.ofNat_lt] at hlt;have hgi := xU hlt V.any;have hw := ax (show i < maxLen by omega);obtain ⟨o1,o2⟩ := hlok _ (List.getElem_mem hlt);obtain ⟨t,n',ps,asg,body,pend,hL,hsz,hps,hwy⟩ := hy _ X [.cells [.yd id],.cells (lits.map vi)] lits[i] hX o1 o2;simp only [wq.1,seval,t3,t13,t15,gN lX,gN0 lX,hgi,hL,Nat.mul_one];refine ⟨⟨by omega,by omega⟩,by omega,⟨by simpa using hsz,hps⟩,jE hwy ?_⟩;rintro j h'' p hp ⟨rfl,hpf,X',rfl,hX'⟩;have hpf' : p = fun _ => false := funext hpf;subst hpf';refine ⟨by simp [xM,hd],?_⟩;simp only [wq.1,seval,t15,hw,Option.isNone_none];refine .inl ⟨m - 1,by omega,i + 1,by omega,by simp only [wq.1,seval,t1],by simp only [wq.1,seval,t2],by simp only [wq.1,seval,t3],by simp only [wq.1,seval,t13],by simp only [wq.1,seval,t14],by simp only [wq.1,↓reduceIte],by simp only [wq.1,hd],fun j => by (simp only [wq.1]);simpa using hk j,X',?_,rfl⟩;have : G8 g v0 (i + 1) = sJ (G8 g v0 i) lits[i] := by
     unfold G8;rw [← hlits,show lits.take (i + 1) = lits.take i ++ [lits[i]] by rw [List.take_add_one,List.getElem?_eq_getElem hlt];rfl,List.foldl_append];rfl
    rw [this];exact hX'
   ·simp only [decide_eq_false_iff_not,Int.ofNat_lt] at hlt;have hi : i = lits.length := by omega
    subst hi;simp only [wq.1,↓reduceIte,Nat.reduceEqDiff,t1,t2,t3,hd];exact ⟨fun j _ => hk j,X,hX,rfl⟩
 ·refine vm ?_;simp only [wq.1,↓reduceIte,Nat.reduceEqDiff,Nat.reduceLT,Nat.reduceLeDiff,Nat.reduceAdd,reduceCtorEq,Nat.reduceMul,ap _ x1];refine ⟨⟨rfl,by decide⟩,oC hcat rfl (su _) ?_⟩;simp only [wq.1,seval,lN,List.append_assoc]
end Go.Proofs.YtfcpapokknfeeaaGreatDoor
