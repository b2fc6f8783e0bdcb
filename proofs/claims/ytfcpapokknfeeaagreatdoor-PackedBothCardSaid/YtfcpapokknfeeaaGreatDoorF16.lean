/- Lemmas for this claim, part F16: each holds under what it names. -/
import Derived.Test.YtfcpapokknfeeaaGreatDoorF03
import Derived.Test.YtfcpapokknfeeaaGreatDoorA7
import Derived.Test.YtfcpapokknfeeaaGreatDoorF15
set_option linter.unusedVariables false
set_option linter.unusedSimpArgs false
set_option linter.unnecessarySimpa false
set_option maxRecDepth 20000
set_option maxHeartbeats 4000000
namespace Go.Proofs.YtfcpapokknfeeaaGreatDoor
open Go Go.Proofs Go.Abs Go.RowKit
def grp (n : Nat) : By := if h : n < 128 then [UInt8.ofNat n] else UInt8.ofNat (n % 128 + 128) :: grp (n / 128)
termination_by n
decreasing_by omega
theorem lK {n : Nat} (h : n < 128) : grp n = [UInt8.ofNat n] := by rw [grp,dif_pos h]
theorem xB {n : Nat} (h : ¬ n < 128) : grp n = UInt8.ofNat (n % 128 + 128) :: grp (n / 128) := by rw [grp,dif_neg h]
theorem qm : ∀ (k n : Nat),n < 128 ^ (k + 1) → (grp n).length ≤ k + 1
 | 0,n,h => by rw [lK (by simpa using h)];simp
 | k + 1,n,h => by
  by_cases hn : n < 128
  ·rw [lK hn];simp
  ·rw [xB hn,List.length_cons];have := qm k (n / 128) (by rw [Nat.pow_succ] at h;omega);omega
theorem zaO : ∀ m : Fin 256,IntKind.u8.wrap (((BitVec.ofInt 8 (m.val : Int)) ||| (BitVec.ofInt 8 128)).toNat : Int) = ((m.val % 128 + 128 : Nat) : Int) := by decide +kernel
theorem Y0 (n : Nat) : IntKind.u8.wrap (((BitVec.ofInt 8 (IntKind.u8.wrap (n : Int))) ||| (BitVec.ofInt 8 128)).toNat : Int) = ((UInt8.ofNat (n % 128 + 128)).toNat : Int) := by
 have h1 : IntKind.u8.wrap (n : Int) = ((n % 256 : Nat) : Int) := by rw [IntKind.wrap_u8];omega
 rw [h1];have := zaO ⟨n % 256,by omega⟩;dsimp only at this;rw [this,UInt8.toNat_ofNat'];omega
theorem WM (n : Nat) : IntKind.u8.wrap (((BitVec.ofInt IntKind.u8.bits (IntKind.u8.wrap (n : Int))) ||| (BitVec.ofInt IntKind.u8.bits 128)).toNat : Int) = ((UInt8.ofNat (n % 128 + 128)).toNat : Int) := Y0 n
theorem XN (h : H) (n : Int) : jX P h 3 5 (vi n) = (True,.int .u8 (IntKind.u8.wrap n)) := by simp only [jX,tis]
theorem zaP (h : H) (n : Int) : jX P h 5 3 (.int .u8 n) = (True,vi (IntKind.i64.wrap n)) := by simp only [jX,tis]
theorem zbG (n : Nat) : (n : Int).fdiv (2 ^ (min 7 IntKind.i64.bits)) = ((n / 128 : Nat) : Int) := by show (n : Int).fdiv 128 = _;rw [Int.fdiv_eq_ediv_of_nonneg _ (by decide)];rfl
theorem Y1 (n : Nat) (h : n < 128) : IntKind.u8.wrap (n : Int) = ((UInt8.ofNat n).toNat : Int) := by rw [IntKind.wrap_u8,UInt8.toNat_ofNat'];omega
def HD (L : (Nat → V) → LoopState → Option Code → O) (out : By) (n : Nat) (st : LoopState) (h : H) : Prop :=
 ∃ t,t 4 = .lp 0 0 ∧ ((out = [] ∧ h = [.cells [.nils],.cells [vi n],.misc .dfd,L t st none]) ∨ h = [.cells [.ls 4 1 0 out.length out.length],.cells [vi n],.misc .dfd,L t st none,.cells (out.map vb)])
theorem FH (L : (Nat → V) → LoopState → Option Code → O) (hL : ∀ p t st c,(L t st c).drop p = L (fun i => (t i).drop p) st c) (n0 : Nat) (hn : n0 ≤ 2147483647) (h : H) (h0 : HD L [] n0 .ready h)
 (step : ∀ out c n h,HD L out n .ready h → out.length ≤ 100 → Y8 TE 3 [vb c] h fun j h'' p => j = none ∧ (∀ i,i < 4 → p i = false) ∧ HD L (out ++ [c]) n .ready h'') :
 ah TE 132 ([] ++ [.yd 3] ++ [.lp 1 0]) h fun ae h' p => (∀ i,i < 4 → p i = false) ∧ match ae with
  | .ret _ => ∃ n',HD L (grp n0) n' .ready h'
  | .pan _ => False := by
 have hM : maxLen = 9223372036854775807 := rfl;have hgl := qm 4 n0 (by omega);refine au Tryz.func132 rfl (by simp [nts]) (vm ?_);simp only [wq.1,Tryz.results132];refine aF (fun m f h => ∃ out n,m = n ∧ f.t 0 = .yd 3 ∧ f.t 1 = .lp 1 0 ∧ f.d = [] ∧ (∀ i,i < 4 → f.k i = false) ∧ HD L out n .ready h ∧ grp n0 = out ++ grp n ∧ n ≤ 2147483647) n0 ⟨[],n0,rfl,rfl,rfl,rfl,fun _ _ => rfl,h0,rfl,hn⟩ ?_;rintro m f h ⟨out,n,rfl,h0,h1,hd,hk,hHD,hgrp,hnn⟩;have hol : out.length ≤ 5 := by have := congrArg List.length hgrp;rw [List.length_append] at this;omega
 have hcell : h[1]? = some (.cells [vi m]) := by obtain ⟨t,_,⟨_,rfl⟩ | rfl⟩ := hHD <;> rfl
 have hk3 := hk 3 (by omega);refine vm ?_;simp only [wq.1,seval,h1,hcell];refine vcB.mk (fun hc => ?_) (fun hc => ?_)
 ·have hc : ¬ m < 128 := by have := of_decide_eq_true hc;omega
  obtain ⟨t,n',ps,asg,body,pend,hLp,hsz,hps,hw⟩ := step out (UInt8.ofNat (m % 128 + 128)) m h hHD (by omega);simp only [wq.1,seval,h0,h1,hcell,XN,WM,hLp];refine ⟨⟨by simpa using hsz,hps⟩,jE hw ?_⟩;rintro j h' p hp ⟨rfl,hp5,hHD'⟩;have hcell : h'[1]? = some (.cells [vi m]) := by obtain ⟨t,_,⟨_,rfl⟩ | rfl⟩ := hHD' <;> rfl
  have hp1 := hp5 1 (by omega);refine ⟨by simp [xM,hd],?_⟩;simp only [wq.1,seval,h1,hp1,hcell,Option.isNone_none,zbG];refine .inl ⟨m / 128,by omega,out ++ [UInt8.ofNat (m % 128 + 128)],m / 128,rfl,by simp only [wq.1,seval,h0,hp],by simp only [wq.1,seval,h1,hp1],by simp only [wq.1,hd],fun i hi => ?_,?_,?_,by omega⟩
  ·simp only [Dj,tJ,hk i hi,hp5 i hi,Bool.or_self]
  ·obtain ⟨t,ht,⟨he,rfl⟩ | rfl⟩ := hHD'
   ·exact ⟨t,ht,.inl ⟨he,rfl⟩⟩
   ·exact ⟨t,ht,.inr rfl⟩
  ·rw [hgrp,xB hc,List.append_assoc];rfl
 ·have hc : m < 128 := by have := of_decide_eq_false hc;omega
  obtain ⟨t,n',ps,asg,body,pend,hLp,hsz,hps,hw⟩ := step out (UInt8.ofNat m) m h hHD (by omega);simp only [wq.1,seval,h0,h1,hcell,XN,Y1 m hc,hLp];refine ⟨⟨by simpa using hsz,hps⟩,jE hw ?_⟩;rintro j h' p hp ⟨rfl,hp5,hHD'⟩;refine ⟨by simp [xM,hd],?_⟩;simp only [wq.1,hd];exact ⟨fun i hi => by rw [hk i hi,hp5 i hi];rfl,m,by rw [hgrp,lK hc];exact hHD'⟩
theorem Hz (n : Int) (o0 : O) (R : AEnd → H → (Nat → Bool) → Prop) (hr : R (.ret (.fn (.func 132) [] [.lp 1 0])) [o0,.cells [vi n]] (fun _ => false)) : ah TE 86 [vi n] [o0] R := by refine au Tryz.func86 rfl (by simp [nts]) (vm ?_);simp only [wq.1,seval,Tryz.results86];exact hr
theorem FI : ∀ l : By,eY (l.map vb) = some l
 | [] => rfl
 | c :: l => by
  simp only [List.map_cons,eY,FI l,Option.map_some]
  congr 2
  exact UInt8.ofNat_toNat
theorem NL {h : H} {l : By} {k cap : Nat} (hc : h[k]? = some (.cells (l.map vb)))   : (jX P h 55 9 (.ls k 1 0 l.length cap)).1 = True ∧ (jX P h 55 9 (.ls k 1 0 l.length cap)).2 = .str l := by
 have h1 : eG h k = l.map vb := by simp only [eG,hc]
 have h2 : eY (((eG h k).drop 0).take l.length) = some l := by rw [h1,List.drop_zero,List.take_of_length_le (by simp),FI]
 have h3 : 0 + l.length ≤ (eG h k).length := by rw [h1];simp
 unfold jX;simp only [tis,h2];exact ⟨eq_true ⟨trivial,trivial,h3⟩,trivial⟩
def rD (n : Int) : By × Int := if oV n = true then (grp n.toNat,0) else ([],3)
theorem uJ (n : Int) : Ev TE 42 [vi n] (.tup [.str (rD n).1,vi (rD n).2]) := by
 refine aA Tryz.func42 rfl (by simp [nts]) (vm ?_);simp only [wq.1,seval,Tryz.results42];refine ah.ev (PP n) rfl ?_;unfold rD;cases hf : oV n with
 | false => simp only [wq.1,seval];exact aC.dat rfl
 | true =>
  have hf : 0 ≤ n ∧ n ≤ 2147483647 := by simpa [oV] using hf
  obtain ⟨m,rfl⟩ : ∃ m : Nat,n = m := ⟨n.toNat,by omega⟩;rw [if_pos rfl,Int.toNat_natCast];simp only [wq.1,seval];refine Hz _ _ _ ?_;simp only [wq.1];refine oq (n := 18) (q := 132) (first := []) (captured := [.lp 1 0]) (by simp only [wq.1,↓reduceIte]) (by simp only [wq.1,↓reduceIte]) rfl (by decide) ?_;intro L hLd gets;refine ah.mono (FH L hLd m (by omega) _ ⟨_,?_,.inl ⟨rfl,rfl⟩⟩ ?_) ?_
  ·rfl
  ·rintro out c n h ⟨t,ht4,⟨rfl,rfl⟩ | rfl⟩ hol
   ·refine gets _ _ _ t rfl rfl (fun lb => ?_);refine vm ?_;simp only [wq.1,↓reduceIte,Nat.reduceLT,Nat.reduceAdd,vC];refine ⟨t,rfl,?_⟩;refine vm ?_;simp only [wq.1,↓reduceIte,Nat.reduceEqDiff,Nat.reduceLT,Nat.reduceLeDiff,Nat.reduceAdd,reduceCtorEq,Nat.reduceMul,ht4,tK,XE.jump];exact ⟨⟨rfl,by decide⟩,by decide,t,_,rfl,t,ht4,.inr rfl⟩
   ·refine gets _ _ _ t rfl rfl (fun lb => ?_);refine vm ?_;simp only [wq.1,↓reduceIte,Nat.reduceLT,Nat.reduceAdd,vC];refine ⟨t,rfl,?_⟩;refine vm ?_;simp only [wq.1,↓reduceIte,Nat.reduceEqDiff,Nat.reduceLT,Nat.reduceBEq,reduceCtorEq,Nat.reduceMul,ht4,tK,XE.jump];refine ⟨⟨rfl,by decide⟩,⟨by omega,by simp only [maxLen];omega,by omega⟩,fun i => (t i).drop fun x => x == 4,_,by rw [hLd],fun i hi => by simp;omega,fun i => (t i).drop fun x => x == 4,by simp only [ht4,V.drop];rfl,.inr ?_⟩;rw [kC,List.map_append,List.length_append];rfl
  ·rintro ae h' p ⟨hp5,hr⟩;cases ae with
   | pan v => exact hr.elim
   | ret v =>
    obtain ⟨n',t,ht4,hh⟩ := hr;have hne : grp m ≠ [] := by
     by_cases h : m < 128
     ·rw [lK h];simp
     ·rw [xB h];simp
    rcases hh with ⟨hh,_⟩ | rfl
    ·exact absurd hh hne
    ·refine ⟨?_,hp5 3 (by omega),t,_,none,(by decide),rfl,?_⟩
     ·intro i hi;have hi : i = 2 := by simpa [xM,Xb] using hi
      subst hi;exact hp5 2 (by omega)
     ·have k0 := hp5 0 (by omega);have k1 := hp5 1 (by omega);have k2 := hp5 2 (by omega);have k3 := hp5 3 (by omega);simp only [wq.1,seval,L8,k0];obtain ⟨e1,e2⟩ := NL (h := [.cells [.ls 4 1 0 (grp m).length (grp m).length],.cells [vi n'],.misc .dfd,L t .exhausted none,.cells ((grp m).map vb)]) (l := grp m) (k := 4) (cap := (grp m).length) rfl;rw [e1,e2];refine ⟨trivial,?_⟩;clear e1 e2 hne;generalize grp m = g;exact aC.dat rfl
def vgD : By → Nat
 | [] => 0
 | c :: l => c.toNat % 128 + 128 * vgD l
theorem Le (c : UInt8) : ∀ x : By,vgD (x ++ [c]) = vgD x + c.toNat % 128 * 128 ^ x.length
 | [] => by simp [vgD]
 | a :: x => by
  rw [List.cons_append,vgD,vgD,Le c x,List.length_cons,Nat.pow_succ,Nat.mul_add];have : 128 * (c.toNat % 128 * 128 ^ x.length) = c.toNat % 128 * (128 ^ x.length * 128) := by
   rw [Nat.mul_comm (128 ^ x.length) 128,← Nat.mul_assoc,← Nat.mul_assoc,Nat.mul_comm 128 (c.toNat % 128)]
  omega
theorem XO : ∀ x : By,vgD x < 128 ^ x.length
 | [] => by simp [vgD]
 | a :: x => by have := XO x;rw [vgD,List.length_cons,Nat.pow_succ];omega
def xC (l : By) : Prop := vgD l ≤ 2147483647 ∧ grp (vgD l) = l
instance (l : By) : Decidable (xC l) := by unfold xC;infer_instance
theorem zaQ {a b : Nat} (ha : a < 2 ^ 62) (hb : b < 2 ^ 62) : IntKind.i64.wrap (((BitVec.ofInt IntKind.i64.bits (a : Int)) ||| (BitVec.ofInt IntKind.i64.bits (b : Int))).toNat : Int) = ((a ||| b : Nat) : Int) := by show IntKind.i64.wrap (((BitVec.ofInt 64 (a : Int)) ||| (BitVec.ofInt 64 (b : Int))).toNat : Int) = _;have h1 : (a ||| b) < 2 ^ 62 := Nat.or_lt_two_pow ha hb;rw [BitVec.ofInt_natCast,BitVec.ofInt_natCast,BitVec.toNat_or,BitVec.toNat_ofNat,BitVec.toNat_ofNat,Nat.mod_eq_of_lt (by omega),Nat.mod_eq_of_lt (by omega),aZ (by omega) (by omega)]
theorem NM : ∀ m : Fin 256,IntKind.u8.wrap (((BitVec.ofInt 8 (m.val : Int)) &&& ~~~ (BitVec.ofInt 8 128)).toNat : Int) = ((m.val % 128 : Nat) : Int) := by decide +kernel
theorem HY (c : UInt8) : IntKind.u8.wrap (((BitVec.ofInt IntKind.u8.bits (c.toNat : Int)) &&& ~~~ (BitVec.ofInt IntKind.u8.bits 128)).toNat : Int) = ((c.toNat % 128 : Nat) : Int) :=
 NM ⟨c.toNat,c.toNat_lt⟩
theorem Ue {c i : Nat} (hc : c < 128) (hi : i < 5) : IntKind.i64.wrap ((c : Int) * 2 ^ (min ((7 * i : Nat) : Int).toNat IntKind.i64.bits)) = ((c * 128 ^ i : Nat) : Int) := by
 rw [Int.toNat_natCast,show min (7 * i) IntKind.i64.bits = 7 * i from Nat.min_eq_left (by show 7 * i ≤ 64;omega)];have h1 : (2 : Int) ^ (7 * i) = ((128 ^ i : Nat) : Int) := by
  rw [Int.natCast_pow,Int.pow_mul];rfl
 have h2 : 128 ^ i ≤ 128 ^ 4 := Nat.pow_le_pow_right (by omega) (by omega);have h3 : c * 128 ^ i ≤ 127 * 128 ^ 4 := Nat.mul_le_mul (by omega) h2;rw [h1,← Int.natCast_mul,aZ (by omega) (by omega)]
theorem zaR {a c i : Nat} (ha : a < 128 ^ i) : a ||| c * 128 ^ i = a + c * 128 ^ i := by
 have h : (128 : Nat) ^ i = 2 ^ (7 * i) := by rw [Nat.pow_mul]
 rw [h] at ha ⊢;have := Nat.shiftLeft_add_eq_or_of_lt ha c;rw [Nat.shiftLeft_eq] at this;rw [Nat.or_comm,← this,Nat.add_comm]
theorem NP {c i : Nat} (hc : c < 128) (hi : i < 5) : IntKind.i64.wrap ((c : Int) * 2 ^ (min (7 * i) IntKind.i64.bits)) = ((c * 128 ^ i : Nat) : Int) := by
 have := Ue hc hi
 rwa [Int.toNat_natCast] at this
def UB (l : By) : Int × Int × V :=
 if (l.takeWhile fun c => decide (128 ≤ c.toNat)).length = l.length then (0,0,IC 10)
 else if xC (l.take ((l.takeWhile fun c => decide (128 ≤ c.toNat)).length + 1)) then ((vgD (l.take ((l.takeWhile fun c => decide (128 ≤ c.toNat)).length + 1)) : Nat),(((l.takeWhile fun c => decide (128 ≤ c.toNat)).length + 1 : Nat) : Int),.nili)
 else (0,0,IC 3)
theorem twP {p : UInt8 → Bool} {l : By} {i : Nat} (hi : i ≤ l.length) (h1 : (l.take i).all p = true) (h2 : i < l.length → p (l.getD i 0) = false) : (l.takeWhile p).length = i := by
 have h3 : l.takeWhile p = l.take i ++ (l.drop i).takeWhile p := by
  conv => lhs;rw [← List.take_append_drop i l]
  exact List.takeWhile_append_of_pos (List.all_eq_true.1 h1)
 have h4 : (l.drop i).takeWhile p = [] := by
  by_cases hl : i < l.length
  ·rw [List.drop_eq_getElem_cons hl];have := h2 hl;rw [aG hl] at this;rw [List.takeWhile_cons,this];rfl
  ·rw [List.drop_eq_nil_of_le (by omega)];rfl
 rw [h3,h4,List.append_nil,List.length_take];omega
theorem FK {l : By} {i : Nat} (hi : i < l.length) : (oV ((vgD (l.take (min (i + 1) 5)) : Nat) : Int) = true ∧ grp (vgD (l.take (min (i + 1) 5))) = l.take (i + 1)) ↔ xC (l.take (i + 1)) := by
 have hf : ∀ n : Nat,oV (n : Int) = true ↔ n ≤ 2147483647 := by intro n;simp [oV];omega
 rw [hf];unfold xC;by_cases h5 : i + 1 ≤ 5
 ·rw [Nat.min_eq_left h5]
 ·have hl : (l.take (i + 1)).length = i + 1 := by rw [List.length_take];omega
  constructor
  ·rintro ⟨h1,h2⟩;have := qm 4 _ (show vgD (l.take (min (i + 1) 5)) < 128 ^ 5 by omega);rw [h2,hl] at this;omega
  ·rintro ⟨h1,h2⟩;have := qm 4 _ (show vgD (l.take (i + 1)) < 128 ^ 5 by omega);rw [h2,hl] at this;omega
theorem Lh {l : By} {i : Nat} (hi : i < l.length) (h : xC (l.take (i + 1))) : vgD (l.take (min (i + 1) 5)) = vgD (l.take (i + 1)) := by
 by_cases h5 : i + 1 ≤ 5
 ·rw [Nat.min_eq_left h5]
 ·have hl : (l.take (i + 1)).length = i + 1 := by rw [List.length_take];omega
  have := qm 4 _ (show vgD (l.take (i + 1)) < 128 ^ 5 by have := h.1;omega);rw [h.2,hl] at this;omega
theorem NQ (l : By) (hl : l.length ≤ 100000) : Ev TE 157 [.str l] (.tup [vi (UB l).1,vi (UB l).2.1,(UB l).2.2]) := by
 have hM : maxLen = 9223372036854775807 := rfl;refine aA Tryz.func157 rfl (by simp [nts]) (vm ?_);simp only [wq.1,seval,Tryz.results157];refine aF (fun m f h => ∃ i,m + i = l.length ∧ f.t 0 = .str l ∧ f.t 5 = vi (vgD (l.take (min i 5)) : Nat) ∧ f.t 10 = vi l.length ∧ f.t 11 = vi i ∧ f.d = [] ∧ h = [] ∧ (l.take i).all (fun c => decide (128 ≤ c.toNat)) = true) l.length ⟨0,by omega,rfl,by simp [vgD];rfl,rfl,rfl,rfl,rfl,by simp⟩ ?_;rintro m f h ⟨i,hm,h0,h5,h10,h11,hd,rfl,hall⟩;have hpow : (128 : Nat) ^ 5 = 34359738368 := by decide
 refine vm ?_;simp only [wq.1,seval,h10,h11];refine vcB.mk (fun hlt => ?_) (fun hlt => ?_)
 ·simp only [decide_eq_true_eq,Int.ofNat_lt] at hlt;simp only [wq.1,seval,h11];have hmin : ∀ h : i < 5,vgD (l.take (min (i + 1) 5)) = vgD (l.take (min i 5)) + (l.getD i 0).toNat % 128 * 128 ^ i := by
   intro h;rw [Nat.min_eq_left (by omega),Nat.min_eq_left (by omega),List.take_add_one,List.getElem?_eq_getElem hlt,Option.toList_some,Le,aG hlt,List.length_take,Nat.min_eq_left (by omega)]
  refine vcB.mk (fun h5' => ?_) (fun h5' => ?_)
  ·have hi5 : i < 5 := by have := of_decide_eq_true h5';omega
   have hlow : vgD (l.take (min i 5)) < 128 ^ i := by have := XO (l.take i);rw [List.length_take,Nat.min_eq_left (show i ≤ l.length by omega)] at this;rw [Nat.min_eq_left (show i ≤ 5 by omega)];exact this
   have hp4 : 128 ^ i ≤ 128 ^ 4 := Nat.pow_le_pow_right (by omega) (by omega);have hcm : (l.getD i 0).toNat % 128 < 128 := Nat.mod_lt _ (by omega);have hcm2 : (l.getD i 0).toNat % 128 * 128 ^ i ≤ 127 * 128 ^ 4 := Nat.mul_le_mul (by omega) hp4;have hw1 : IntKind.i64.wrap (((l.getD i 0).toNat % 128 : Nat) : Int) = (((l.getD i 0).toNat % 128 : Nat) : Int) := aZ (by omega) (by omega);have hw2 : IntKind.i64.wrap (7 * (i : Int)) = ((7 * i : Nat) : Int) := by rw [aZ (by omega) (by omega)];omega
   have hor := zaQ (a := vgD (l.take (min i 5))) (b := (l.getD i 0).toNat % 128 * 128 ^ i) (by omega) (by omega);rw [zaR hlow,← hmin hi5] at hor;simp only [wq.1,seval,h0,h5,zaP,HY,hw1,hw2,NP hcm hi5,hor];refine ⟨⟨by omega,by omega⟩,by omega,⟨by omega,by omega⟩,?_⟩;cases hD : decide (128 ≤ (l.getD i 0).toNat) with
   | true =>
    have hall2 : (l.take (i + 1)).all (fun c => decide (128 ≤ c.toNat)) = true := by
     have hD2 : decide (128 ≤ (l[i]).toNat) = true := by rw [← aG (d := 0) hlt];exact hD
     rw [List.take_add_one,List.all_append,hall,List.getElem?_eq_getElem hlt,Option.toList_some,List.all_cons,hD2];rfl
    have hD3 : decide ((128 : Int) ≤ ((l.getD i 0).toNat : Int)) = true := by have := of_decide_eq_true hD;rw [decide_eq_true_eq];omega
    simp only [wq.1,seval,h11,hD3,ax (show i < maxLen by omega)];exact .inl ⟨m - 1,by omega,i + 1,by omega,h0,rfl,h10,rfl,hd,rfl,hall2⟩
   | false =>
    have hD3 : decide ((128 : Int) ≤ ((l.getD i 0).toNat : Int)) = false := by have := of_decide_eq_false hD;rw [decide_eq_false_iff_not];omega
    have hlen := twP (p := fun c => decide (128 ≤ c.toNat)) (l := l) (i := i) (by omega) hall (fun _ => hD);have hu : UB l = if xC (l.take (i + 1)) then (((vgD (l.take (i + 1)) : Nat) : Int),((i + 1 : Nat) : Int),V.nili) else (0,0,IC 3) := by unfold UB;rw [hlen,if_neg (by omega)]
    have hg5 := FK hlt;simp only [wq.1,seval,hD3];refine ah.ev (uJ _) rfl ?_;unfold rD;cases hf : oV ((vgD (l.take (min (i + 1) 5)) : Nat) : Int) with
    | false => rw [if_neg (fun h => by rw [hf] at hg5;have := hg5.2 h;cases this.1)] at hu;rw [hu];simp only [wq.1,seval,h0,hd];exact ⟨nofun,nofun,aC.tup (aB.cons (aC.dat rfl) (aB.cons (aC.dat rfl) (aB.cons (gJ 3) aB.nil)))⟩
    | true =>
     rw [if_pos rfl,Int.toNat_natCast];by_cases hgr : grp (vgD (l.take (min (i + 1) 5))) = l.take (i + 1)
     ·have hgd := hg5.1 ⟨hf,hgr⟩;rw [if_pos hgd,← Lh hlt hgd] at hu;have hbq : (grp (vgD (l.take (min (i + 1) 5))) == l.take (i + 1)) = true := by simp [hgr]
      rw [hu];simp only [wq.1,seval,h0,hd,hbq,ax (show i < maxLen by omega)];exact ⟨⟨by omega,by omega⟩,aC.dat rfl⟩
     ·rw [if_neg (fun h => hgr (hg5.2 h).2)] at hu;have hbq : (grp (vgD (l.take (min (i + 1) 5))) == l.take (i + 1)) = false := by simp [hgr]
      rw [hu];simp only [wq.1,seval,h0,hd,hbq,ax (show i < maxLen by omega)];exact ⟨⟨by omega,by omega⟩,nofun,nofun,aC.tup (aB.cons (aC.dat rfl) (aB.cons (aC.dat rfl) (aB.cons (gJ 3) aB.nil)))⟩
  ·have hi5 : ¬ i < 5 := by have := of_decide_eq_false h5';omega
   have hmin2 : min i 5 = min (i + 1) 5 := by omega
   rw [hmin2] at h5;simp only [wq.1,seval,h0];refine ⟨⟨by omega,by omega⟩,?_⟩;cases hD : decide (128 ≤ (l.getD i 0).toNat) with
   | true =>
    have hall2 : (l.take (i + 1)).all (fun c => decide (128 ≤ c.toNat)) = true := by
     have hD2 : decide (128 ≤ (l[i]).toNat) = true := by rw [← aG (d := 0) hlt];exact hD
     rw [List.take_add_one,List.all_append,hall,List.getElem?_eq_getElem hlt,Option.toList_some,List.all_cons,hD2];rfl
    have hD3 : decide ((128 : Int) ≤ ((l.getD i 0).toNat : Int)) = true := by have := of_decide_eq_true hD;rw [decide_eq_true_eq];omega
    simp only [wq.1,seval,h11,hD3,ax (show i < maxLen by omega)];exact .inl ⟨m - 1,by omega,i + 1,by omega,h0,h5,h10,rfl,hd,rfl,hall2⟩
   | false =>
    have hD3 : decide ((128 : Int) ≤ ((l.getD i 0).toNat : Int)) = false := by have := of_decide_eq_false hD;rw [decide_eq_false_iff_not];omega
    have hlen := twP (p := fun c => decide (128 ≤ c.toNat)) (l := l) (i := i) (by omega) hall (fun _ => hD);have hu : UB l = if xC (l.take (i + 1)) then (((vgD (l.take (i + 1)) : Nat) : Int),((i + 1 : Nat) : Int),V.nili) else (0,0,IC 3) := by unfold UB;rw [hlen,if_neg (by omega)]
    have hg5 := FK hlt;simp only [wq.1,seval,h5,hD3];refine ah.ev (uJ _) rfl ?_;unfold rD;cases hf : oV ((vgD (l.take (min (i + 1) 5)) : Nat) : Int) with
    | false => rw [if_neg (fun h => by rw [hf] at hg5;have := hg5.2 h;cases this.1)] at hu;rw [hu];simp only [wq.1,seval,h0,hd];exact ⟨nofun,nofun,aC.tup (aB.cons (aC.dat rfl) (aB.cons (aC.dat rfl) (aB.cons (gJ 3) aB.nil)))⟩
    | true =>
     rw [if_pos rfl,Int.toNat_natCast];by_cases hgr : grp (vgD (l.take (min (i + 1) 5))) = l.take (i + 1)
     ·have hgd := hg5.1 ⟨hf,hgr⟩;rw [if_pos hgd,← Lh hlt hgd] at hu;have hbq : (grp (vgD (l.take (min (i + 1) 5))) == l.take (i + 1)) = true := by simp [hgr]
      rw [hu];simp only [wq.1,seval,h0,h5,hd,hbq,ax (show i < maxLen by omega)];exact ⟨⟨by omega,by omega⟩,aC.dat rfl⟩
     ·rw [if_neg (fun h => hgr (hg5.2 h).2)] at hu;have hbq : (grp (vgD (l.take (min (i + 1) 5))) == l.take (i + 1)) = false := by simp [hgr]
      rw [hu];simp only [wq.1,seval,h0,hd,hbq,ax (show i < maxLen by omega)];exact ⟨⟨by omega,by omega⟩,nofun,nofun,aC.tup (aB.cons (aC.dat rfl) (aB.cons (aC.dat rfl) (aB.cons (gJ 3) aB.nil)))⟩
 ·simp only [decide_eq_false_iff_not,Int.ofNat_lt] at hlt;have hlen := twP (p := fun c => decide (128 ≤ c.toNat)) (l := l) (i := i) (by omega) hall (fun h => absurd h hlt);have hu : UB l = (0,0,IC 10) := by
   unfold UB;rw [if_pos (by rw [hlen];omega)]
  rw [hu];simp only [wq.1,seval,hd];exact ⟨nofun,nofun,aC.tup (aB.cons (aC.dat rfl) (aB.cons (aC.dat rfl) (aB.cons (gJ 10) aB.nil)))⟩
def Cb (s : By) (a : Int) : Int × Int × Int :=
 if a < 0 ∨ (s.length : Int) < a then (0,a,10)
 else if ((s.drop a.toNat).takeWhile fun c => decide (128 ≤ c.toNat)).length = (s.drop a.toNat).length then (0,a,10)
 else if xC ((s.drop a.toNat).take (((s.drop a.toNat).takeWhile fun c => decide (128 ≤ c.toNat)).length + 1)) then
  ((vgD ((s.drop a.toNat).take (((s.drop a.toNat).takeWhile fun c => decide (128 ≤ c.toNat)).length + 1)) : Nat),a + (((s.drop a.toNat).takeWhile fun c => decide (128 ≤ c.toNat)).length + 1 : Nat),0)
 else (0,a,3)
theorem NR (s : By) (a : Int) (hl : s.length ≤ 100000) : Ev TE 126 [.str s,vi a] (.tup [vi (Cb s a).1,vi (Cb s a).2.1,vi (Cb s a).2.2]) := by
 have hM : maxLen = 9223372036854775807 := rfl;refine aA Tryz.func126 rfl (by simp [nts]) (vm ?_);simp only [wq.1,seval,Tryz.results126];refine vcB.mk (fun hc => ?_) (fun hc => ?_)
 ·have h0 : Cb s a = (0,a,10) := by unfold Cb;rw [if_pos (by simpa using hc)]
  rw [h0];simp only [wq.1,seval];exact aC.dat rfl
 ·simp only [Bool.or_eq_false_iff,decide_eq_false_iff_not] at hc;obtain ⟨p,rfl⟩ : ∃ p : Nat,a = p := ⟨a.toNat,by omega⟩;have hp : p ≤ s.length := by omega
  have hlen : (s.drop p).length ≤ 100000 := by rw [List.length_drop];omega
  unfold Cb;rw [if_neg (by omega),Int.toNat_natCast];have hdl : (s.drop p).length = s.length - p := List.length_drop;have htl := (List.takeWhile_prefix (l := s.drop p) fun c => decide (128 ≤ c.toNat)).length_le;have htk : List.take (s.length - p) (List.drop p s) = s.drop p := List.take_of_length_le (by omega);have hu := NQ (s.drop p) hlen;unfold UB at hu;generalize hl' : s.drop p = l at hu hdl htl htk hlen ⊢;generalize (l.takeWhile fun c => decide (128 ≤ c.toNat)).length = k at hu htl ⊢;have hadd : IntKind.i64.wrap ((p : Int) + ((k + 1 : Nat) : Int)) = (p : Int) + ((k + 1 : Nat) : Int) := aZ (by omega) (by omega);have hadd0 : IntKind.i64.wrap ((p : Int) + 0) = (p : Int) := by rw [aZ (by omega) (by omega)];omega
  simp only [wq.1,seval,hl'];by_cases h1 : k = l.length
  ·rw [if_pos h1] at hu ⊢;refine ⟨⟨by omega,by omega⟩,ah.ev hu rfl ?_⟩;simp only [wq.1,seval,hadd0];refine ⟨trivial,ah.ev (jL _ _ _ 10) rfl ?_⟩;simp only [wq.1,seval];exact aC.dat rfl
  ·rw [if_neg h1] at hu ⊢;by_cases h2 : xC (l.take (k + 1))
   ·rw [if_pos h2] at hu ⊢;refine ⟨⟨by omega,by omega⟩,ah.ev hu rfl ?_⟩;simp only [wq.1,seval,hadd];refine ah.ev (yF _ _ _) rfl ?_;simp only [wq.1,seval];exact aC.dat rfl
   ·rw [if_neg h2] at hu ⊢;refine ⟨⟨by omega,by omega⟩,ah.ev hu rfl ?_⟩;simp only [wq.1,seval,hadd0];refine ⟨trivial,ah.ev (jL _ _ _ 3) rfl ?_⟩;simp only [wq.1,seval];exact aC.dat rfl
theorem FM (n : Nat) : ∃ x c,grp n = x ++ [c] ∧ (∀ b ∈ x,128 ≤ b.toNat) ∧ c.toNat < 128 := by
 induction n using Nat.strongRecOn with
 | _ n ih =>
  by_cases h : n < 128
  ·refine ⟨[],UInt8.ofNat n,by rw [lK h];rfl,by simp,?_⟩;rw [UInt8.toNat_ofNat'];omega
  ·obtain ⟨x,c,h1,h2,h3⟩ := ih (n / 128) (by omega);refine ⟨UInt8.ofNat (n % 128 + 128) :: x,c,by rw [xB h,h1];rfl,?_,h3⟩;intro b hb;rcases List.mem_cons.1 hb with rfl | hb
   ·rw [UInt8.toNat_ofNat'];omega
   ·exact h2 b hb
theorem H5 (n : Nat) : vgD (grp n) = n := by
 induction n using Nat.strongRecOn with
 | _ n ih =>
  by_cases h : n < 128
  ·rw [lK h];show (UInt8.ofNat n).toNat % 128 + 128 * 0 = n;rw [UInt8.toNat_ofNat'];omega
  ·rw [xB h];show (UInt8.ofNat (n % 128 + 128)).toNat % 128 + 128 * vgD (grp (n / 128)) = n;rw [ih _ (by omega),UInt8.toNat_ofNat'];omega
theorem H6 (n : Nat) : 0 < (grp n).length := by obtain ⟨x,c,h,_⟩ := FM n;rw [h];simp
theorem WN {n : Nat} (h : n ≤ 2147483647) : xC (grp n) := ⟨by rw [H5];exact h,by rw [H5]⟩
theorem zaS (n : Nat) (t : By) : ((grp n ++ t).takeWhile fun c => decide (128 ≤ c.toNat)).length + 1 = (grp n).length := by obtain ⟨x,c,h,h1,h2⟩ := FM n;rw [h,List.append_assoc,List.takeWhile_append_of_pos (fun b hb => by simpa using h1 b hb),List.singleton_append,List.takeWhile_cons];rw [if_neg (by simpa using h2)];simp
theorem WO {n : Nat} (h : n ≤ 2147483647) (x t : By) : Cb (x ++ grp n ++ t) (x.length : Nat) = (((n : Nat) : Int),((x.length + (grp n).length : Nat) : Int),0) := by
 have hd : (x ++ grp n ++ t).drop x.length = grp n ++ t := by rw [List.append_assoc,List.drop_left]
 have htw := zaS n t;have htk : (grp n ++ t).take (grp n).length = grp n := List.take_left;have hp := H6 n;unfold Cb;rw [if_neg (by simp;omega),Int.toNat_natCast,hd,if_neg (by simp;omega),htw,htk,if_pos (WN h),H5];simp
def FN (g : Gr) (i : Nat) : Cl := g.next.getD i 0 :: (if g.init.getD i 0 = 0 then [] else if g.init.getD i 0 = 1 then [1] else [2 * (1 + g.ins + (i : Int))])
def H7 (g : Gr) (i : Nat) : S := grp (2 * (g.first + (i : Int)) - (g.ands.getD i (0,0)).1).toNat ++ grp ((g.ands.getD i (0,0)).1 - (g.ands.getD i (0,0)).2).toNat
def Cc (g : Gr) (n : Nat) : S := (List.range n).flatMap fun i : Nat => lnT (FN g i)
def jg (g : Gr) (n : Nat) : S := (List.range n).flatMap fun i : Nat => H7 g i
def Y2 (g : Gr) : S := [97,105,103,32] ++ (lnT (cu g) ++ (Cc g g.next.length ++ (oZ g.outs g.outs.length ++ jg g g.ands.length)))
def rE (m : Mo) : S := Y2 m.g ++ mr m
def FO (m : Mo) : S × Int := if m.chk = 0 then (rE m.norm,0) else ([],m.chk)
def Uf (g : Gr) : S × Int := if g.chk = 0 then (jg (fZ g) (fZ g).ands.length,0) else ([],g.chk)
def x8 (s : S) (mo : Int) (a : Nat) : RE (Int × Nat) := match sQ s a with
 | .error e => .error e
 | .ok (n,b) => if n ≤ mo then .ok (n,b) else .error (a,1)
def H9 (s : S) (lit : Int) (a : Nat) : RE (Int × Nat) := if o9 s a 32 = true then (match x8 s 2147483647 (a + 1) with
 | .error e => .error e
 | .ok (n,b) => if n < 2 ∨ n = lit then .ok (min n 2,b) else .error (a + 1,1)) else .ok (0,a)
def NS (s : S) (mo lit : Int) (a : Nat) : RE ((Int × Int) × Nat) := match x8 s mo a with
 | .error e => .error e
 | .ok (n,b) => match H9 s lit b with
  | .error e => .error e
  | .ok (i,c) => match lC s 10 c with
   | .error e => .error e
   | .ok d => .ok ((n,i),d)
def Y3 (s : S) (mo : Int) (a : Nat) : RE (Int × Nat) := match x8 s mo a with
 | .error e => .error e
 | .ok (n,b) => match lC s 10 b with
  | .error e => .error e
  | .ok c => .ok (n,c)
def pG (s : S) (mo f : Int) : Nat → Nat → Nat → Cl → Cl → RE ((Cl × Cl) × Nat)
 | 0,_,a,N,I => .ok ((N,I),a)
 | k + 1,i,a,N,I => match NS s mo (2 * (f + (i : Int))) a with
  | .error e => .error e
  | .ok ((n,v),b) => pG s mo f k (i + 1) b (N ++ [n]) (I ++ [v])
def pI (s : S) (mo : Int) : Nat → Nat → Cl → RE (Cl × Nat)
 | 0,a,L => .ok (L,a)
 | k + 1,a,L => match Y3 s mo a with
  | .error e => .error e
  | .ok (n,b) => pI s mo k b (L ++ [n])
abbrev RI (α : Type) := Except (Int × Int) α
def qo (s : S) (lo hi a : Int) : RI (Int × Int) := if (Cb s a).2.2 = 0 then if lo ≤ (Cb s a).1 ∧ (Cb s a).1 ≤ hi then .ok ((Cb s a).1,(Cb s a).2.1) else .error (a,1) else .error (a,(Cb s a).2.2)
def FP (s : S) (own a : Int) : RI (Pr × Int) := match qo s 1 own a with
 | .error e => .error e
 | .ok (x,b) => match qo s 0 (own - x) b with
  | .error e => .error e
  | .ok (y,c) => .ok ((own - x,own - x - y),c)
def dJ (s : S) (f : Int) : Nat → Nat → Int → List Pr → RI (List Pr × Int)
 | 0,_,a,L => .ok (L,a)
 | k + 1,i,a,L => match FP s (2 * (f + (i : Int))) a with
  | .error e => .error e
  | .ok (p,b) => dJ s f k (i + 1) b (L ++ [p])
def mM (s : S) (a f n : Int) : List Pr × Int × Int :=
 if f < 1 ∨ 4001 < f ∨ n < 0 ∨ 4000 < n then ([],a,1) else match dJ s f n.toNat 0 a [] with
  | .ok (L,b) => (L,b,0)
  | .error (w,e) => ([],w,e)
def iW (s : S) : RE Mo :=
 match qg s [97,105,103] with
 | .error e => .error e
 | .ok (h,a) => if h.getD 0 0 = h.getD 1 0 + h.getD 2 0 + h.getD 4 0 then (match pG s (2 * h.getD 0 0 + 1) (1 + h.getD 1 0) (h.getD 2 0).toNat 0 a [] [] with
  | .error e => .error e
  | .ok ((N,I),b) => match pI s (2 * h.getD 0 0 + 1) (h.getD 3 0 + h.getD 5 0 + h.getD 6 0).toNat b [] with
   | .error e => .error e
   | .ok (O,c) => match dJ s (1 + h.getD 1 0 + h.getD 2 0) (h.getD 4 0).toNat 0 (c : Int) [] with
    | .error (w,e) => .error (w.toNat,e)
    | .ok (A,d) => YG ⟨h.getD 1 0,N,I,A,O⟩ (wK s [h.getD 1 0,h.getD 2 0,h.getD 3 0,h.getD 5 0,h.getD 6 0] d.toNat)) else .error (0,1)
theorem NT {s t : S} {a : Nat} (h : s.drop a = t) (ht : t ≠ []) : ∃ x : S,s = x ++ t ∧ x.length = a := by
 have hl : a < s.length := by
  rcases Nat.lt_or_ge a s.length with h1 | h1
  ·exact h1
  ·rw [List.drop_eq_nil_of_le h1] at h;exact absurd h.symm ht
 exact ⟨s.take a,by rw [← h,List.take_append_drop],by rw [List.length_take];omega⟩
theorem Ug {s t : S} {a n : Nat} (h : s.drop a = grp n ++ t) (hn : n ≤ 2147483647) : Cb s (a : Int) = ((n : Int),((a + (grp n).length : Nat) : Int),0) ∧ s.drop (a + (grp n).length) = t := by
 have hp := H6 n;obtain ⟨x,rfl,rfl⟩ := NT h (by intro h0;rw [List.append_eq_nil_iff] at h0;rw [h0.1] at hp;simp at hp);refine ⟨?_,?_⟩
 ·rw [← List.append_assoc];exact WO hn x t
 ·rw [← List.append_assoc,List.drop_append_of_le_length (by simp),show x.length + (grp n).length = (x ++ grp n).length by simp,List.drop_length,List.nil_append]
theorem Uh {s t : S} {a n : Nat} {lo hi : Int} (h : s.drop a = grp n ++ t) (hn : n ≤ 2147483647) (h1 : lo ≤ n) (h2 : (n : Int) ≤ hi) : qo s lo hi (a : Int) = .ok ((n : Int),((a + (grp n).length : Nat) : Int)) := by unfold qo;rw [(Ug h hn).1,if_pos rfl,if_pos ⟨h1,h2⟩]
structure GP (g : Gr) : Prop where
 f0 : 0 ≤ g.first
 f1 : g.first + g.ands.length ≤ 5000
 at_ : ∀ i (h : i < g.ands.length),0 ≤ g.ands[i].2 ∧ g.ands[i].2 ≤ g.ands[i].1 ∧ g.ands[i].1 < 2 * (g.first + (i : Int))
theorem WP {g : Gr} (hg : GP g) {s t : S} {a i : Nat} (hi : i < g.ands.length) (h : s.drop a = H7 g i ++ t) :
 FP s (2 * (g.first + (i : Int))) (a : Int) = .ok (g.ands[i],((a + (H7 g i).length : Nat) : Int)) ∧ s.drop (a + (H7 g i).length) = t := by
 have hf := hg.f0;have hf1 := hg.f1;obtain ⟨q1,q2,q3⟩ := hg.at_ i hi;have e : g.ands.getD i (0,0) = g.ands[i] := aG hi;unfold H7 at h ⊢;rw [e] at h ⊢;obtain ⟨x,hx⟩ : ∃ x : Nat,2 * (g.first + (i : Int)) - g.ands[i].1 = x := ⟨_,(Int.toNat_of_nonneg (a := 2 * (g.first + (i : Int)) - g.ands[i].1) (by omega)).symm⟩;obtain ⟨y,hy⟩ : ∃ y : Nat,g.ands[i].1 - g.ands[i].2 = y := ⟨_,(Int.toNat_of_nonneg (a := g.ands[i].1 - g.ands[i].2) (by omega)).symm⟩;rw [hx,hy,Int.toNat_natCast,Int.toNat_natCast] at h ⊢;rw [List.append_assoc] at h;have d1 := Uh (lo := 1) (hi := 2 * (g.first + (i : Int))) h (by omega) (by omega) (by omega);have n1 := (Ug h (by omega)).2;have d2 := Uh (lo := 0) (hi := 2 * (g.first + (i : Int)) - x) n1 (by omega) (by omega) (by omega);have n2 := (Ug n1 (by omega)).2;refine ⟨?_,by rw [List.length_append,← Nat.add_assoc];exact n2⟩;unfold FP;rw [d1];dsimp only;rw [d2];dsimp only;have e1 : 2 * (g.first + (i : Int)) - x = g.ands[i].1 := by omega
 have e2 : g.ands[i].1 - y = g.ands[i].2 := by omega
 rw [e1,e2,List.length_append,← Nat.add_assoc]
theorem FQ {g : Gr} (hg : GP g) {s t : S} : ∀ (k i a : Nat),i + k = g.ands.length → s.drop a = lD (H7 g) i g.ands.length ++ t →
 dJ s g.first k i (a : Int) (g.ands.take i) = .ok (g.ands,((a + (lD (H7 g) i g.ands.length).length : Nat) : Int)) ∧ s.drop (a + (lD (H7 g) i g.ands.length).length) = t
 | 0,i,a,hk,h => by
  have : i = g.ands.length := by omega
  subst this;rw [jP] at h ⊢;unfold dJ;rw [List.take_length];exact ⟨rfl,h⟩
 | k + 1,i,a,hk,h => by
  have hi : i < g.ands.length := by omega
  rw [iU hi] at h ⊢;rw [List.append_assoc] at h;obtain ⟨u1,u2⟩ := WP hg hi h;obtain ⟨r1,r2⟩ := FQ hg k (i + 1) _ (by omega) u2;unfold dJ;rw [u1];dsimp only;have : g.ands.take i ++ [g.ands[i]] = g.ands.take (i + 1) := by rw [List.take_succ_eq_append_getElem hi]
  rw [this,r1,List.length_append,← Nat.add_assoc];exact ⟨rfl,r2⟩
theorem uK {s : S} {mo : Int} {a : Nat} {n : Int} {c : UInt8} {r : S} (h : s.drop a = Lib.itoa n ++ c :: r) (h0 : 0 ≤ n) (hn : n ≤ 2147483647) (hc : bU c = false) (hm : n ≤ mo) : ∃ b,x8 s mo a = .ok (n,b) ∧ s.drop b = c :: r := by obtain ⟨b,h1,h2,_⟩ := sU h h0 hn hc;unfold x8;rw [h1];dsimp only;rw [if_pos hm];exact ⟨b,rfl,h2⟩
theorem Ce {s : S} {a : Nat} {c : UInt8} {r : S} (h : s.drop a = c :: r) : lC s c a = .ok (a + 1) ∧ s.drop (a + 1) = r := by obtain ⟨h1,h2,_⟩ := je h;unfold lC;rw [if_pos h1];exact ⟨rfl,h2⟩
theorem Y4 {s : S} {mo : Int} {g : Gr} {a i : Nat} {r : S} (hm : mo ≤ 100000) (i0 : 0 ≤ g.ins) (hl : 2 * (1 + g.ins + (i : Int)) ≤ 100000) (hn : 0 ≤ g.next.getD i 0 ∧ g.next.getD i 0 ≤ mo) (hv : 0 ≤ g.init.getD i 0 ∧ g.init.getD i 0 ≤ 2)
 (h : s.drop a = lnT (FN g i) ++ r) : ∃ b,NS s mo (2 * (1 + g.ins + (i : Int))) a = .ok ((g.next.getD i 0,g.init.getD i 0),b) ∧ s.drop b = r := by
 obtain ⟨lit,hlit⟩ : ∃ lit,lit = 2 * (1 + g.ins + (i : Int)) := ⟨_,rfl⟩;obtain ⟨n,hnn⟩ : ∃ n,n = g.next.getD i 0 := ⟨_,rfl⟩
 obtain ⟨v,hvv⟩ : ∃ v,v = g.init.getD i 0 := ⟨_,rfl⟩;unfold FN at h;rw [← hlit,← hnn,← hvv] at h;rw [← hlit,← hnn,← hvv];rw [← hnn] at hn;rw [← hvv] at hv;rw [← hlit] at hl;have key : ∀ k : Int,0 ≤ k → k ≤ 100000 → (k < 2 ∨ k = lit) → s.drop a = lnT [n,k] ++ r → ∃ b,NS s mo lit a = .ok ((n,min k 2),b) ∧ s.drop b = r := by intro k k0 k1 k2 hk;simp only [lnT,lnG,List.append_assoc,List.cons_append,List.nil_append] at hk;obtain ⟨b,p1,p2⟩ := uK hk hn.1 (by omega) Nq hn.2;obtain ⟨a1,a2,_⟩ := je p2;obtain ⟨c,p3,p4⟩ := uK a2 k0 (by omega) Ej (show k ≤ 2147483647 by omega);obtain ⟨p5,p6⟩ := Ce p4;unfold NS;rw [p1];dsimp only;unfold H9;rw [if_pos a1,p3];dsimp only;rw [if_pos k2];dsimp only;rw [p5];exact ⟨_,rfl,p6⟩
 by_cases h0 : v = 0
 ·rw [if_pos h0] at h;simp only [lnT,lnG,List.append_assoc,List.cons_append,List.nil_append] at h;obtain ⟨b,p1,p2⟩ := uK h hn.1 (by omega) Ej hn.2;obtain ⟨_,_,_,a4,_⟩ := je p2;obtain ⟨p5,p6⟩ := Ce p2;unfold NS;rw [p1];dsimp only;unfold H9;rw [if_neg (by rw [a4 32 (by decide)];decide)];dsimp only;rw [p5,h0];exact ⟨_,rfl,p6⟩
 ·rw [if_neg h0] at h;by_cases h1 : v = 1
  ·rw [if_pos h1] at h;obtain ⟨b,hb⟩ := key 1 (by omega) (by omega) (.inl (by omega)) h;rw [h1];exact ⟨b,hb⟩
  ·rw [if_neg h1] at h;obtain ⟨b,hb⟩ := key lit (by omega) hl (.inr rfl) h;rw [show min lit 2 = v by omega] at hb;exact ⟨b,hb⟩
theorem Lj {s : S} {mo : Int} {g : Gr} {r : S} (hm : mo ≤ 100000) (i0 : 0 ≤ g.ins) (hl : 2 * (1 + g.ins + (g.next.length : Int)) ≤ 100000) (hn : ∀ a ∈ g.next,0 ≤ a ∧ a ≤ mo) (hil : g.init.length = g.next.length) (hin : ∀ a ∈ g.init,0 ≤ a ∧ a ≤ 2) :
 ∀ (k i a : Nat),i + k = g.next.length → s.drop a = lD (fun i => lnT (FN g i)) i g.next.length ++ r → ∃ b,pG s mo (1 + g.ins) k i a (g.next.take i) (g.init.take i) = .ok ((g.next,g.init),b) ∧ s.drop b = r
 | 0,i,a,hk,h => by
  have : i = g.next.length := by omega
  subst this;rw [jP,List.nil_append] at h;unfold pG;rw [List.take_length,← hil,List.take_length];exact ⟨a,rfl,h⟩
 | k + 1,i,a,hk,h => by
  have hi : i < g.next.length := by omega
  have hi2 : i < g.init.length := by omega
  rw [iU hi,List.append_assoc] at h;have e1 : g.next.getD i 0 = g.next[i] := aG hi
  have e2 : g.init.getD i 0 = g.init[i] := aG hi2;obtain ⟨b,p1,p2⟩ := Y4 (i := i) hm i0 (by omega) (by rw [e1];exact hn _ (List.getElem_mem hi)) (by rw [e2];exact hin _ (List.getElem_mem hi2)) h;obtain ⟨c,q1,q2⟩ := Lj hm i0 hl hn hil hin k (i + 1) b (by omega) p2;unfold pG;rw [p1];dsimp only;rw [← lF hi,← lF hi2,q1];exact ⟨c,rfl,q2⟩
theorem Ll {s : S} {mo : Int} {l : Cl} {r : S} (hm : mo ≤ 100000) (hn : ∀ a ∈ l,0 ≤ a ∧ a ≤ mo) :
 ∀ (k i a : Nat),i + k = l.length → s.drop a = lD (fun i => lnT [l.getD i 0]) i l.length ++ r → ∃ b,pI s mo k a (l.take i) = .ok (l,b) ∧ s.drop b = r
 | 0,i,a,hk,h => by
  have : i = l.length := by omega
  subst this;rw [jP,List.nil_append] at h;unfold pI;rw [List.take_length];exact ⟨a,rfl,h⟩
 | k + 1,i,a,hk,h => by
  have hi : i < l.length := by omega
  rw [iU hi,List.append_assoc] at h;have e1 : l.getD i 0 = l[i] := aG hi;have hb := hn _ (List.getElem_mem hi);rw [← e1] at hb;simp only [lnT,lnG,List.append_assoc,List.cons_append,List.nil_append] at h;obtain ⟨b,p1,p2⟩ := uK h hb.1 (by omega) Ej hb.2;obtain ⟨p5,p6⟩ := Ce p2;obtain ⟨c,q1,q2⟩ := Ll hm hn k (i + 1) (b + 1) (by omega) p6;unfold pI Y3;rw [p1];dsimp only;rw [p5];dsimp only;rw [← lF hi,q1];exact ⟨c,rfl,q2⟩
theorem GP.of {g : Gr} (hg : g.chk = 0) (hd : ∀ i (h : i < g.ands.length),g.ands[i].2 ≤ g.ands[i].1) : GP g := by
 obtain ⟨_,i0,i1,i2,i3,i4,i5⟩ := bf hg;have wf : g.first = 1 + g.ins + g.next.length := rfl
 refine ⟨by omega,by omega,fun i hi => ?_⟩;obtain ⟨o1,o2,o3,o4⟩ := dY i5 hi;exact ⟨by omega,hd i hi,by omega⟩
theorem NU {m : Mo} (h : m.chk = 0) (hd : ∀ i (h : i < m.g.ands.length),m.g.ands[i].2 ≤ m.g.ands[i].1) {r : S} (hr : za3 r) : iW (rE m ++ r) = .ok m := by
 obtain ⟨hg,hl,hn,ht,ho⟩ := dP h;obtain ⟨_,i0,i1,i2,i3,i4,i5⟩ := bf hg;obtain ⟨r1,r2,r3,r4⟩ := dB i4;have wf : m.g.first = 1 + m.g.ins + m.g.next.length := rfl
 have wa : m.g.all = 2 * (m.g.first + m.g.ands.length) := rfl;have hls : (m.ins.length : Int) = m.g.ins ∧ (m.lat.length : Int) = m.g.next.length ∧ (m.out.length : Int) = m.g.outs.length := by simpa [Mo.lens,Bool.or_eq_false_iff,and_assoc] using hl
 obtain ⟨l1,l2,l3⟩ := hls;obtain ⟨s,hs⟩ : ∃ s,s = rE m ++ r := ⟨_,rfl⟩;rw [← hs];have h0 : (hd9 (cu m.g)).getD 0 0 = m.g.first - 1 + (m.g.ands.length : Int) := rfl
 have h1 : (hd9 (cu m.g)).getD 1 0 = m.g.ins := rfl;have h2 : (hd9 (cu m.g)).getD 2 0 = (m.g.next.length : Int) := rfl;have h3 : (hd9 (cu m.g)).getD 3 0 = (m.g.outs.length : Int) := rfl;have h4 : (hd9 (cu m.g)).getD 4 0 = (m.g.ands.length : Int) := rfl;have h5 : (hd9 (cu m.g)).getD 5 0 = 0 := rfl;have h6 : (hd9 (cu m.g)).getD 6 0 = 0 := rfl;obtain ⟨a,ha,hda⟩ := IY (s := s) (magic := [97,105,103]) (l := cu m.g) (r := Cc m.g m.g.next.length ++ (oZ m.g.outs m.g.outs.length ++ (jg m.g m.g.ands.length ++ (mr m ++ r)))) (by
  rw [hs,← zam (cu m.g) (by simp [cu])];simp [rE,Y2]) (fun n hn => by
  simp only [cu,List.mem_cons,List.not_mem_nil,or_false] at hn;omega) (by simp [cu]) (by simp [cu]) (by
  unfold wJ;rw [h0,h1,h2,h3,h4,h5,h6];simp only [Bool.and_eq_true,decide_eq_true_eq];omega)
 unfold Cc oZ jg at hda;rw [jQ,jQ,jQ] at hda;obtain ⟨b,p1,p2⟩ := Lj (mo := 2 * (m.g.first - 1 + (m.g.ands.length : Int)) + 1) (by omega) i0 (by omega) (fun x hx => by have := r3 x hx;omega) r1 r2 m.g.next.length 0 a (by omega) hda
 obtain ⟨c,q1,q2⟩ := Ll (mo := 2 * (m.g.first - 1 + (m.g.ands.length : Int)) + 1) (by omega) (fun x hx => by have := r4 x hx;omega) m.g.outs.length 0 b (by omega) p2;obtain ⟨u1,u2⟩ := FQ (GP.of hg hd) m.g.ands.length 0 c (by omega) q2;rw [List.take_zero,List.take_zero] at p1;rw [List.take_zero] at q1 u1;unfold iW;rw [ha];dsimp only;rw [h0,h1,h2,h3,h4,h5,h6,if_pos (by omega),Int.toNat_natCast,p1];dsimp only;rw [show ((m.g.outs.length : Int) + 0 + 0).toNat = m.g.outs.length by omega,q1];dsimp only;rw [Int.toNat_natCast,← wf,u1];dsimp only;rw [Int.toNat_natCast];rw [← l1,← l2,← l3,I4 (m := m) (n3 := 0) (n4 := 0) (jd h) (by omega) (by omega) (by omega) u2 hr];unfold YG;dsimp only;rw [l1];show (if Mo.chk ⟨m.g,m.ins,m.lat,m.out ++ ([] ++ [])⟩ = 0 then Except.ok (⟨m.g,m.ins,m.lat,m.out ++ ([] ++ [])⟩ : Mo) else _) = _;rw [List.append_nil,List.append_nil];show (if m.chk = 0 then Except.ok m else _) = _;rw [if_pos h]
theorem Ui {f k : Nat → S} : ∀ {n : Nat},(∀ i,i < n → (f i).length ≤ (k i).length) → ((List.range n).flatMap f).length ≤ ((List.range n).flatMap k).length
 | 0,_ => by simp
 | n + 1,h => by rw [ja,ja,List.length_append,List.length_append];have h1 := Ui (n := n) (f := f) (k := k) fun i hi => h i (by omega);have h2 := h n (by omega);omega
theorem Lm (n : Int) (h : 0 ≤ n) : 0 < (Lib.itoa n).length := by obtain ⟨k,rfl⟩ : ∃ k : Nat,n = k := ⟨n.toNat,by omega⟩;rw [Bj];exact List.length_pos_iff.2 (Xh k)
theorem uM {g : Gr} (hg : GP g) {i : Nat} (hi : i < g.ands.length) : (H7 g i).length ≤ 4 := by have hf := hg.f0;have hf1 := hg.f1;obtain ⟨q1,q2,q3⟩ := hg.at_ i hi;have e : g.ands.getD i (0,0) = g.ands[i] := aG hi;unfold H7;rw [e,List.length_append];have a1 := qm 1 (2 * (g.first + (i : Int)) - g.ands[i].1).toNat (by omega);have a2 := qm 1 (g.ands[i].1 - g.ands[i].2).toNat (by omega);omega
theorem Uj {m : Mo} (h : m.chk = 0) (hd : ∀ i (h : i < m.g.ands.length),m.g.ands[i].2 ≤ m.g.ands[i].1) : (rE m).length ≤ (qW m).length := by
 have hg := FC h;obtain ⟨_,i0,i1,i2,i3,i4,i5⟩ := bf hg;have hgp := GP.of hg hd;have e1 : (Cc m.g m.g.next.length).length ≤ (BD m.g m.g.next.length).length := Ui fun i hi => by show (lnT (FN m.g i)).length ≤ (lnT (2 * (1 + m.g.ins + (i : Int)) :: FN m.g i)).length;have : lnT (2 * (1 + m.g.ins + (i : Int)) :: FN m.g i) = Lib.itoa (2 * (1 + m.g.ins + (i : Int))) ++ 32 :: lnT (FN m.g i) := rfl;rw [this,List.length_append,List.length_cons];omega
 have e2 : (jg m.g m.g.ands.length).length ≤ (BF m.g m.g.ands.length).length := Ui fun i hi => by have a1 := uM hgp hi;obtain ⟨q1,q2,q3⟩ := hgp.at_ i hi;have e : m.g.ands.getD i (0,0) = m.g.ands[i] := aG hi;have p2 := Lm m.g.ands[i].1 (by omega);have p3 := Lm m.g.ands[i].2 (by omega);rw [e];simp only [lnT,lnG,List.length_append,List.length_cons,List.length_nil];omega
 unfold rE qW Y2 Ei;simp only [List.length_append,List.length_cons,List.length_nil];omega
theorem nV {g : Gr} (hg : g.chk = 0) : ∀ i (h : i < (fZ g).ands.length),(fZ g).ands[i].2 ≤ (fZ g).ands[i].1 := fun i hi => by have hst := nT hg;unfold nS at hst;simp only [Bool.not_eq_true',List.any_eq_false,List.mem_range] at hst;have := hst i hi;unfold Xv at this;simp only [Bool.or_eq_true,not_or,decide_eq_true_eq] at this;have h1 := this.1;have e : (fZ g).ands.getD i (0,0) = (fZ g).ands[i] := aG hi;rw [e] at h1;omega
theorem Ia {m : Mo} (h : m.chk = 0) : iW (rE m.norm) = .ok m.norm := by
 have := NU (oN h) (nV (FC h)) (r := []) (.inl rfl)
 rwa [List.append_nil] at this
theorem WQ {m : Mo} (hf : m.few = true) (h : m.chk = 0) : (rE m.norm).length ≤ 20000 := by have h1 := Ld hf h;have h2 := Uj (oN h) (nV (FC h));omega
theorem Uk {m : Mo} (h : m.chk = 0) : (rE m.norm).length ≤ (qW m.norm).length := Uj (oN h) (nV (FC h))
abbrev rdP (s : S) (a : Int) : O := .cells [.str s,vi a]
abbrev qp (a e : Int) : V := .iface 86 (.agg [vi a,vi e])
theorem cZ {h : H} {R : AEnd → H → (Nat → Bool) → Prop} (b : Bool) (a e : Int)
 (h1 : b = true → R (.ret (.tup [])) h (fun _ => false)) (h2 : b = false → R (.pan (qp a e)) h (fun _ => false)) : ah TE 46 [.bool b,vi a,vi e] h R := by
 refine au Tryz.func46 rfl (by simp [nts]) (vm ?_);cases b with
 | true => simp only [wq.1,seval,Tryz.results46];exact h1 rfl
 | false => simp only [wq.1,seval,Tryz.results46];exact ⟨nofun,h2 rfl⟩
theorem FT {k a : Nat} {s : S} {h : H} {R : AEnd → H → (Nat → Bool) → Prop} (c : UInt8) (hk : h[k]? = some (rdP s a))
 (hr : R (.ret (.bool (o9 s a c))) h (fun _ => false)) : ah TE 94 [.lp k 0,vb c] h R := by
 refine au Tryz.func94 rfl (by simp [nts]) (vm ?_);unfold o9 at hr;by_cases hlt : a < s.length
 ·have e1 : decide ((a : Int) < (s.length : Int)) = true := by simpa using hlt
  have e2 : s.getD a 0 = s[a] := aG hlt;rw [List.getElem?_eq_getElem hlt] at hr;simp only [wq.1,seval,Tryz.results94,hk,e1,e2,Z9];refine ⟨by decide +kernel,⟨by omega,by omega⟩,hr⟩
 ·have e1 : decide ((a : Int) < (s.length : Int)) = false := by simpa using hlt
  rw [List.getElem?_eq_none (by omega)] at hr;simp only [wq.1,seval,Tryz.results94,hk,e1];exact ⟨by decide +kernel,hr⟩
theorem WR (s : S) (a : Nat) : 0 ≤ (xX s a).2.1 := by
 unfold xX;split
 ·exact Int.natCast_nonneg _
 ·split
  ·show 0 ≤ (a : Int) + _;omega
  ·exact Int.natCast_nonneg _
theorem iM {k a : Nat} {mo : Int} {s : S} {h : H} {R : AEnd → H → (Nat → Bool) → Prop} (hs : s.length ≤ 100000) (hk : h[k]? = some (rdP s a))
 (h1 : ∀ n b,x8 s mo a = .ok (n,b) → R (.ret (vi n)) (h.set k (rdP s (b : Nat))) (fun _ => false)) (h2 : ∀ w e,x8 s mo a = .error (w,e) → R (.pan (qp (w : Nat) e)) h (fun _ => false)) : ah TE 47 [.lp k 0,vi mo] h R := by
 have hG := Xk s a hs;have hend := WR s a;obtain ⟨r,hr⟩ : ∃ r,r = xX s a := ⟨_,rfl⟩;unfold x8 sQ at h1 h2;rw [← hr] at hG h1 h2 hend;obtain ⟨b,hb⟩ : ∃ b : Nat,r.2.1 = b := ⟨r.2.1.toNat,by omega⟩;refine au Tryz.func47 rfl (by simp [nts]) (vm ?_);simp only [wq.1,seval,Tryz.results47,hk];refine ⟨by decide +kernel,yw.mk hG rfl rfl ?_⟩;simp only [wq.1,seval,hk,hb];by_cases he : r.2.2 = 0
 ·rw [if_pos he] at h1 h2;have hd : (r.2.2 == 0) = true := by simpa using he
  dsimp only at h1 h2;simp only [wq.1,hd];refine cZ true a 3 (fun _ => ?_) (fun h => by cases h);simp only [wq.1,seval,hk];refine cZ _ a 1 (fun hle => ?_) (fun hle => ?_)
  ·rw [if_pos (by simpa using hle)] at h1;have := h1 _ _ rfl;rw [hb,Int.toNat_natCast] at this;simp only [wq.1,seval,hk];exact this
  ·rw [if_neg (by simpa using hle)] at h2;simp only [wq.1,aX];exact h2 _ _ rfl
 ·rw [if_neg he] at h2;have hd : (r.2.2 == 0) = false := by simpa using he
  simp only [wq.1,hd];refine cZ false a 3 (fun h => by cases h) (fun _ => ?_);simp only [wq.1,aX];exact h2 _ _ rfl
def Ul : Plan := .take 0 <| .take 2 <| .take 3 <| .take 4 <| .alt 1 (.one 5 <| .one 6 <| .fin) (.one 5 (.one 1 <| .one 6 <| .fin))
theorem y9 {k a : Nat} {s : S} {h : H} {R : AEnd → H → (Nat → Bool) → Prop} (ha : s.length ≤ 1000000000) (hk : h[k]? = some (rdP s a))
 (h1 : o9 s a 10 = true → R (.ret (.tup [])) (h.set k (rdP s ((a + 1 : Nat) : Int))) (fun _ => false)) (h2 : o9 s a 10 = false → R (.pan (qp a 2)) h (fun _ => false)) : ah TE 49 [.lp k 0] h R := by
 have hM : maxLen = 9223372036854775807 := rfl;refine au Tryz.func49 rfl (by simp [nts]) ?_;refine ag (bY mixed Ul (fun f' h' => o9 s a 10 = true ∧ f'.t 0 = .lp k 0 ∧ f'.d = [] ∧ (∀ j,f'.k j = false) ∧ h' = h) [] (fun v d kk t h' => d = [] ∧ (∀ j,kk j = false) ∧ o9 s a 10 = false ∧ v = qp a 2 ∧ h' = h) (by decide +kernel) (by decide +kernel) ?_ ?_ ?_)
 ·simp only [wq.1,seval,Ul,hk]
  repeat' apply And.intro
  all_goals
   refine FT 10 hk ?_;simp only [wq.1,seval,hk];refine cZ _ _ 2 (fun hb => ?_) (fun hb => ?_)
   ·simp only [wq.1,seval,dw];exact hb
   ·simp only [wq.1,aX,gI];exact hb
 ·rintro f h' ⟨hb,h0,hd,hkf,rfl⟩;have hl := sG hb;have hw := ax (show a < maxLen by omega);refine vm ?_;simp only [wq.1,seval,Tryz.results49,h0,hd,hk,hw];rw [show f.k = fun _ => false from funext hkf];exact h1 hb
 ·rintro v f h' ⟨hd,hkf,hb,rfl,rfl⟩;simp only [XE.seq,bz];simp only [wq.1,hd];rw [show f.k = fun _ => false from funext hkf];exact h2 hb
theorem rF {k a : Nat} {lit : Int} {s : S} {h : H} {R : AEnd → H → (Nat → Bool) → Prop} (hs : s.length ≤ 100000) (hk : h[k]? = some (rdP s a))
 (h1 : ∀ n b,H9 s lit a = .ok (n,b) → R (.ret (vi n)) (h.set k (rdP s (b : Nat))) (fun _ => false)) (h2 : ∀ w e,H9 s lit a = .error (w,e) → ∀ b : Nat,R (.pan (qp (w : Nat) e)) (h.set k (rdP s b)) (fun _ => false)) : ah TE 48 [.lp k 0,vi lit] h R := by
 have hM : maxLen = 9223372036854775807 := rfl;unfold H9 at h1 h2;refine au Tryz.func48 rfl (by simp [nts]) ?_;have hkl := (List.getElem?_eq_some_iff.1 hk).1;refine ag (vm ?_);simp only [wq.1,Nat.reduceLT,Tryz.results48];refine ag (vm ?_);simp only [wq.1,seval];refine FT 32 hk ?_;simp only [wq.1,seval];by_cases hb : o9 s a 32 = true
 ·rw [if_pos hb] at h1 h2;have hl := sG hb;have hw := ax (show a < maxLen by omega);have hk2 : (h.set k (rdP s ((a + 1 : Nat) : Int)))[k]? = some (rdP s ((a + 1 : Nat) : Int)) := by rw [List.getElem?_set_self hkl]
  simp only [wq.1,hb];refine ag (vm ?_);simp only [wq.1,seval,hk,hw];refine ag (vm ?_);simp only [wq.1,seval,hk2];refine ag (vm ?_);simp only [wq.1,seval];refine iM hs hk2 (fun n b hn => ?_) (fun w e hn => ?_)
  ·rw [hn] at h1 h2;dsimp only at h1 h2;simp only [wq.1,seval];refine ag (vm ?_);simp only [wq.1,seval];refine cZ _ _ 1 (fun hc => ?_) (fun hc => ?_)
   ·have hc' : n < 2 ∨ n = lit := by simpa using hc
    rw [if_pos hc'] at h1;simp only [wq.1];refine vm ?_;simp only [wq.1,seval,mn];rw [List.set_set];exact h1 _ _ rfl
   ·have hc' : ¬ (n < 2 ∨ n = lit) := by simpa using hc
    rw [if_neg hc'] at h2;simp only [wq.1,aX];simp only [XE.seq,bz];simp only [wq.1];rw [List.set_set];exact h2 _ _ rfl _
  ·rw [hn] at h1 h2;dsimp only at h1 h2;simp only [wq.1,aX];simp only [XE.seq,bz];simp only [wq.1];exact h2 _ _ rfl _
 ·rw [if_neg hb] at h1;have hb' : o9 s a 32 = false := by simpa using hb
  simp only [wq.1,seval,hb'];have := h1 0 a rfl;rw [Bh hk] at this;exact this
theorem nX {k : Nat} {a lo hi : Int} {s : S} {h : H} {R : AEnd → H → (Nat → Bool) → Prop} (hs : s.length ≤ 100000) (hk : h[k]? = some (rdP s a))
 (h1 : ∀ n b,qo s lo hi a = .ok (n,b) → R (.ret (vi n)) (h.set k (rdP s b)) (fun _ => false)) (h2 : ∀ w e,qo s lo hi a = .error (w,e) → R (.pan (qp w e)) h (fun _ => false)) : ah TE 76 [.lp k 0,vi lo,vi hi] h R := by
 have hG := NR s a hs;obtain ⟨r,hr⟩ : ∃ r,r = Cb s a := ⟨_,rfl⟩;unfold qo at h1 h2;rw [← hr] at hG h1 h2;refine au Tryz.func76 rfl (by simp [nts]) (vm ?_);simp only [wq.1,seval,Tryz.results76,hk];refine ⟨by decide +kernel,yw.mk hG rfl rfl ?_⟩;simp only [wq.1,seval,hk];by_cases he : r.2.2 = 0
 ·rw [if_pos he] at h1 h2;have hd : (r.2.2 == 0) = true := by simpa using he
  simp only [wq.1,hd];refine cZ true _ _ (fun _ => ?_) (fun h => by cases h);simp only [wq.1,seval,hk];refine cZ _ a 1 (fun hle => ?_) (fun hle => ?_)
  ·rw [if_pos (by simpa using hle)] at h1;simp only [wq.1,seval,hk];exact h1 _ _ rfl
  ·rw [if_neg (by simpa using hle)] at h2;simp only [wq.1,aX];exact h2 _ _ rfl
 ·rw [if_neg he] at h2;have hd : (r.2.2 == 0) = false := by simpa using he
  simp only [wq.1,hd];refine cZ false _ _ (fun h => by cases h) (fun _ => ?_);simp only [wq.1,aX];exact h2 _ _ rfl
end Go.Proofs.YtfcpapokknfeeaaGreatDoor
