/- Lemmas for this claim, part F12: each holds under what it names. -/
import Derived.Test.YtfcpapokknfeeaaGreatDoorF09
import Derived.Test.YtfcpapokknfeeaaGreatDoorF03
import Derived.Test.YtfcpapokknfeeaaGreatDoorA10
import Derived.Test.YtfcpapokknfeeaaGreatDoorA9
import Derived.Test.YtfcpapokknfeeaaGreatDoorA8
set_option linter.unusedVariables false
set_option linter.unusedSimpArgs false
set_option linter.unnecessarySimpa false
set_option maxRecDepth 20000
set_option maxHeartbeats 8000000
namespace Go.Proofs.YtfcpapokknfeeaaGreatDoor
open Go Go.Proofs Go.Abs
theorem BV {l : Cl} (h : l.length ≤ 9) : (hd9 l).length = 9 := by unfold hd9;simp;omega
theorem YO {l : Cl} {n : Int} (h : l.length < 9) : (hd9 l).set l.length n = hd9 (l ++ [n]) := by unfold hd9;rw [List.set_append_right _ _ (Nat.le_refl _),Nat.sub_self,show 9 - l.length = (9 - (l.length + 1)) + 1 by omega,List.replicate_succ,List.set_cons_zero,List.length_append,List.length_singleton,List.append_assoc];rfl
theorem TJ {l : Cl} (hl : ∀ n ∈ l,0 ≤ n ∧ n ≤ 2147483647) : ∀ n ∈ hd9 l,0 ≤ n ∧ n ≤ 2147483647 := fun n hn => by
 unfold hd9 at hn;rcases List.mem_append.1 hn with h | h
 ·exact hl n h
 ·have := List.eq_of_mem_replicate h;omega
theorem zax {l : Cl} (h : l.length = 9) : ∃ a0 a1 a2 a3 a4 a5 a6 a7 a8,l = [a0,a1,a2,a3,a4,a5,a6,a7,a8] := by
 match l,h with
 | [a0,a1,a2,a3,a4,a5,a6,a7,a8],_ => exact ⟨_,_,_,_,_,_,_,_,_,rfl⟩
theorem TK {s : S} {a b : Nat} {n : Int} (h : sQ s a = .ok (n,b)) : b ≤ s.length := by
 unfold sQ at h;split at h
 ·rename_i h1;simp only [Except.ok.injEq,Prod.mk.injEq] at h;rw [← h.2]
  revert h1
  unfold xX;have hl : ((s.drop (a : Int).toNat).takeWhile bU).length ≤ (s.drop (a : Int).toNat).length := (List.takeWhile_sublist _).length_le;rw [List.length_drop] at hl;split
  ·intro h1;cases h1
  ·rename_i h0;split
   ·intro _;dsimp only;omega
   ·intro h1;cases h1
 ·cases h
theorem YP {l : Cl} {n : Int} (h : l.length < 9) : List.take (l.length * 1) ((hd9 l).map vi) ++ [vi n] ++ List.drop (l.length * 1 + 1) ((hd9 l).map vi) = (hd9 (l ++ [n])).map vi := by have hl := BV (l := l) (by omega);rw [← YO h,List.map_set,List.set_eq_take_append_cons_drop,if_pos (by rw [List.length_map];omega),Nat.mul_one];simp
theorem KJ {s : S} : ∀ {k a : Nat} {l l' : Cl} {b : Nat},mX s k a l = .ok (l',b) → (∀ n ∈ l,0 ≤ n ∧ n ≤ 2147483647) → l.length + k ≤ 9 → (∀ n ∈ l',0 ≤ n ∧ n ≤ 2147483647) ∧ l'.length ≤ 9
 | 0,a,l,l',b,h,hl,hk => by simp only [mX,Except.ok.injEq,Prod.mk.injEq] at h;obtain ⟨rfl,rfl⟩ := h;exact ⟨hl,by omega⟩
 | k + 1,a,l,l',b,h,hl,hk => by
  unfold mX at h;split at h
  ·cases hn : sQ s (a + 1) with
   | error e => rw [hn] at h;cases h
   | ok v =>
    obtain ⟨n,c⟩ := v;rw [hn] at h;dsimp only at h;have := qi hn;refine KJ h (fun x hx => ?_) (by rw [List.length_append,List.length_singleton];omega);rcases List.mem_append.1 hx with h | h
    ·exact hl x h
    ·rw [List.mem_singleton] at h;subst h;exact this
  ·simp only [Except.ok.injEq,Prod.mk.injEq] at h;obtain ⟨rfl,rfl⟩ := h;exact ⟨hl,by omega⟩
theorem uI {s magic : S} {l : Cl} {b : Nat} (h : qg s magic = .ok (l,b)) : ∃ a0 a1 a2 a3 a4 a5 a6,l = [a0,a1,a2,a3,a4,a5,a6,0,0] ∧ 0 ≤ a0 ∧ 0 ≤ a1 ∧ 0 ≤ a2 ∧ 0 ≤ a3 ∧ 0 ≤ a4 ∧ 0 ≤ a5 ∧ 0 ≤ a6 ∧ a0 ≤ 4000 ∧ a1 + a2 + a4 ≤ a0 ∧ a3 + a5 + a6 ≤ 4000 := by
 unfold qg at h;split at h
 ·cases hL : mX s 9 magic.length [] with
  | error e => rw [hL] at h;cases h
  | ok v =>
   obtain ⟨l',a⟩ := v;rw [hL] at h;dsimp only at h;obtain ⟨b1,b2⟩ := KJ hL (fun n hn => by cases hn) (by decide);split at h
   ·cases hb : lC s 10 a with
    | error e => rw [hb] at h;cases h
    | ok c =>
     rw [hb] at h;dsimp only at h;split at h
     ·rename_i h78;split at h
      ·rename_i hlim;simp only [Except.ok.injEq,Prod.mk.injEq] at h;obtain ⟨rfl,rfl⟩ := h;have h9 := TJ b1;obtain ⟨a0,a1,a2,a3,a4,a5,a6,a7,a8,hq⟩ := zax (BV b2);rw [hq] at h78 hlim h9 ⊢;have e7 : a7 = 0 := h78.1;have e8 : a8 = 0 := h78.2;subst e7 e8;have hlim : (decide (a0 ≤ 4000) && decide (a1 + a2 + a4 ≤ a0) && decide (a3 + a5 + a6 ≤ 4000)) = true := hlim;simp only [Bool.and_eq_true,decide_eq_true_eq] at hlim;have c0 := h9 a0 (by simp);have c1 := h9 a1 (by simp);have c2 := h9 a2 (by simp);have c3 := h9 a3 (by simp);have c4 := h9 a4 (by simp);have c5 := h9 a5 (by simp);have c6 := h9 a6 (by simp);exact ⟨a0,a1,a2,a3,a4,a5,a6,rfl,by omega,by omega,by omega,by omega,by omega,by omega,by omega,by omega,by omega,by omega⟩
      ·cases h
     ·cases h
   ·cases h
 ·cases h
abbrev hR (k : Nat) (s : S) (a : Nat) (T : List V) (h X : H) : H := h.set k (rdT s a T) ++ X
theorem Hq {k a : Nat} {s : S} {T : List V} {h X : H} (hk : k < h.length) : (hR k s a T h X)[k]? = some (rdT s a T) := by rw [hR,List.getElem?_append_left (by simpa using hk),List.getElem?_set_self hk]
theorem KL {k a b : Nat} {s : S} {T : List V} {h X : H} (hk : k < h.length) : (hR k s a T h X).set k (rdT s b T) = hR k s b T h X := by rw [hR,hR,List.set_append_left _ _ (by simpa using hk),List.set_set]
theorem pF {k a : Nat} {s : S} {T : List V} {h : H} {o : O} : (hR k s a T h [o])[h.length]? = some o := by rw [hR,List.getElem?_append_right (by simp)];simp
theorem XB {k a : Nat} {s : S} {T : List V} {h : H} {o q : O} : (hR k s a T h [o]).set h.length q = hR k s a T h [q] := by rw [hR,hR,List.set_append_right _ _ (by simp)];simp
theorem zbi {k a : Nat} {s : S} {T : List V} {h X : H} (hk : h[k]? = some (rdT s a T)) : h ++ X = hR k s a T h X := by rw [hR,Bh hk]
theorem uh {k a0 : Nat} {s magic : S} {T : List V} {h : H} (hk : h[k]? = some (rdT s a0 T)) (hs : s.length ≤ 100000) {R : AEnd → H → (Nat → Bool) → Prop}
 (h1 : ∀ l b,qg s magic = .ok (l,b) → R (.ret (.agg (l.map vi))) (hR k s b T h [.cells (l.map vi)]) (fun _ => false))
 (h2 : ∀ (w : Nat) (e : Int),qg s magic = .error (w,e) → ∀ b X,R (.pan (gV w e)) (hR k s b T h X) (fun _ => false)) :
 ah TE 53 [.lp k 0,.str magic] h R := by
 have hM : maxLen = 9223372036854775807 := rfl;have hkl : k < h.length := (List.getElem?_eq_some_iff.1 hk).1;have hne : k ≠ h.length := by omega
 unfold qg at h1 h2;refine ah.kp (fun _ => false) ?_;refine au Tryz.func53 rfl (by simp [nts]) ?_;refine ag (vm ?_);simp only [wq.1,Nat.reduceLT,Tryz.results53];rw [zbi hk];refine ag (vm ?_);simp only [wq.1,seval,Hq hkl];refine ah.ev (PX s magic) rfl ?_;simp only [wq.1,seval];refine aO _ 0 2 (fun hb => ?_) (fun hb => ?_)
 ·rw [if_pos hb] at h1 h2;have hml : magic.length ≤ s.length := by rw [List.isPrefixOf_iff_prefix] at hb;exact hb.length_le
  simp only [wq.1];refine ag (vm ?_);simp only [wq.1,seval,Hq hkl,KL hkl];refine ag (vm ?_);simp only [wq.1,Nat.reduceLT];refine ag (bG (Q := fun xe f h' => (xe = .normal ∧ ∃ l a,mX s 9 magic.length [] = .ok (l,a) ∧ a ≤ s.length ∧ l.length ≤ 9 ∧ (∀ n ∈ l,0 ≤ n ∧ n ≤ 2147483647) ∧ f.t 0 = .lp k 0 ∧ f.t 4 = .lp h.length 0 ∧ f.t 5 = vi l.length ∧ f.d = [] ∧ (∀ j,f.k j = true → False) ∧ h' = hR k s a T h [.cells ((hd9 l).map vi)]) ∨ (∃ (w : Nat) (e : Int),xe = .pan (gV w e) ∧ mX s 9 magic.length [] = .error (w,e) ∧ f.d = [] ∧ (∀ j,f.k j = true → False) ∧ ∃ b X,h' = hR k s b T h X)) ?_ ?_)
  ·rintro xe f h' (⟨rfl,l,a,hL,has,hl9,hlb,t0,t4,t5,hd,hk',rfl⟩ | ⟨w,e,rfl,hL,hd,hk',b,X,rfl⟩)
   ·rw [hL] at h1 h2;dsimp only at h1 h2;show awp _ _ _ _ _ _ _;refine ag (vm ?_);simp only [wq.1,seval,t0,t5,Hq hkl];refine aO _ _ 2 (fun hb5 => ?_) (fun hb5 => ?_)
    ·have hb5' : 5 ≤ l.length := by have := of_decide_eq_true hb5;omega
     rw [if_pos hb5'] at h1 h2;simp only [wq.1];refine ag (vm ?_);simp only [wq.1,seval,t0];refine lG (by omega) (Hq hkl) (fun he => ?_) (fun he => ?_)
     ·unfold lC at h1 h2;rw [if_pos he] at h1 h2;dsimp only at h1 h2;rw [KL hkl];have h9 := TJ hlb;obtain ⟨a0,a1,a2,a3,a4,a5,a6,a7,a8,hq⟩ := zax (BV hl9);rw [hq] at h1 h2 h9 ⊢;have c0 := h9 a0 (by simp);have c1 := h9 a1 (by simp);have c2 := h9 a2 (by simp);have c3 := h9 a3 (by simp);have c4 := h9 a4 (by simp);have c5 := h9 a5 (by simp);have c6 := h9 a6 (by simp);simp only [wq.1];by_cases h7 : a7 = 0
      ·by_cases h8 : a8 = 0
       ·rw [if_pos ⟨h7,h8⟩] at h1 h2;subst h7 h8;refine ag (vm ?_);simp only [wq.1,seval,-Int.reduceNatCast,-Int.reduceNatCast',ak,Tryz.results53,t0,t4,t5,hd,pF];refine ⟨by decide,by decide,aO true 0 9 (fun _ => ?_) (fun h => by cases h)⟩;simp only [wq.1,seval,-Int.reduceNatCast,-Int.reduceNatCast',ak,Tryz.results53,bg,t0,t4,t5,hd];have w1 : IntKind.i64.wrap (a1 + a2) = a1 + a2 := aZ (by omega) (by omega);have w2 : IntKind.i64.wrap (a1 + a2 + a4) = a1 + a2 + a4 := aZ (by omega) (by omega);have w3 : IntKind.i64.wrap (a3 + a5) = a3 + a5 := aZ (by omega) (by omega);have w4 : IntKind.i64.wrap (a3 + a5 + a6) = a3 + a5 + a6 := aZ (by omega) (by omega);rw [show wJ [a0,a1,a2,a3,a4,a5,a6,0,0] = (decide (a0 ≤ 4000) && decide (a1 + a2 + a4 ≤ a0) && decide (a3 + a5 + a6 ≤ 4000)) from rfl] at h1 h2;cases b0 : decide (a0 ≤ 4000) with
        | false => rw [b0] at h2;refine ag (vm ?_);simp only [wq.1,seval,-Int.reduceNatCast,-Int.reduceNatCast',ak,Tryz.results53,t0,t4,t5,hd,pF,b0,w1,w2,w3,w4];refine ⟨by decide,aO false 0 8 (fun h => by cases h) (fun _ => ?_)⟩;simp only [wq.1,seval,-Int.reduceNatCast,-Int.reduceNatCast',ak,Tryz.results53,aX];simp only [XE.seq,bz];simp only [wq.1,seval,-Int.reduceNatCast,-Int.reduceNatCast',ak,Tryz.results53,hd];exact ⟨hk',h2 _ _ rfl _ _⟩
        | true =>
         rw [b0] at h1 h2;cases b1 : decide (a1 + a2 + a4 ≤ a0) with
         | false => rw [b1] at h2;refine ag (vm ?_);simp only [wq.1,seval,-Int.reduceNatCast,-Int.reduceNatCast',ak,Tryz.results53,t0,t4,t5,hd,pF,b0,b1,w1,w2,w3,w4];refine ⟨by decide,by decide,by decide,by decide,by decide,aO false 0 8 (fun h => by cases h) (fun _ => ?_)⟩;simp only [wq.1,seval,-Int.reduceNatCast,-Int.reduceNatCast',ak,Tryz.results53,aX];simp only [XE.seq,bz];simp only [wq.1,seval,-Int.reduceNatCast,-Int.reduceNatCast',ak,Tryz.results53,hd];exact ⟨hk',h2 _ _ rfl _ _⟩
         | true =>
          rw [b1] at h1 h2;cases b2 : decide (a3 + a5 + a6 ≤ 4000) with
          | false => rw [b2] at h2;refine ag (vm ?_);simp only [wq.1,seval,-Int.reduceNatCast,-Int.reduceNatCast',ak,Tryz.results53,t0,t4,t5,hd,pF,b0,b1,b2,w1,w2,w3,w4];refine ⟨by decide,by decide,by decide,by decide,by decide,by decide,by decide,by decide,aO false 0 8 (fun h => by cases h) (fun _ => ?_)⟩;simp only [wq.1,seval,-Int.reduceNatCast,-Int.reduceNatCast',ak,Tryz.results53,aX];simp only [XE.seq,bz];simp only [wq.1,seval,-Int.reduceNatCast,-Int.reduceNatCast',ak,Tryz.results53,hd];exact ⟨hk',h2 _ _ rfl _ _⟩
          | true => rw [b2] at h1;refine ag (vm ?_);simp only [wq.1,seval,-Int.reduceNatCast,-Int.reduceNatCast',ak,Tryz.results53,t0,t4,t5,hd,pF,b0,b1,b2,w1,w2,w3,w4];refine ⟨by decide,by decide,by decide,by decide,by decide,by decide,by decide,by decide,aO true 0 8 (fun _ => ?_) (fun h => by cases h)⟩;simp only [wq.1];refine ag (vm ?_);simp only [wq.1,seval,t4,pF,XB];refine vm ?_;simp only [wq.1,seval,-Int.reduceNatCast,-Int.reduceNatCast',t4,hd,pF];exact ⟨hk',h1 _ _ rfl⟩
       ·rw [if_neg (fun hh => h8 hh.2)] at h2;have e8 : (a8 == 0) = false := by simpa using h8
        subst h7;refine ag (vm ?_);simp only [wq.1,seval,-Int.reduceNatCast,-Int.reduceNatCast',ak,Tryz.results53,t0,t4,t5,hd,pF,e8];refine ⟨by decide,by decide,aO false 0 9 (fun h => by cases h) (fun _ => ?_)⟩;simp only [wq.1,aX];simp only [XE.seq,bz];simp only [wq.1,hd];exact ⟨hk',h2 _ _ rfl _ _⟩
      ·rw [if_neg (fun hh => h7 hh.1)] at h2;have e7 : (a7 == 0) = false := by simpa using h7
       refine ag (vm ?_);simp only [wq.1,seval,-Int.reduceNatCast,-Int.reduceNatCast',ak,Tryz.results53,t0,t4,t5,hd,pF,e7];refine ⟨by decide,aO false 0 9 (fun h => by cases h) (fun _ => ?_)⟩;simp only [wq.1,aX];simp only [XE.seq,bz];simp only [wq.1,hd];exact ⟨hk',h2 _ _ rfl _ _⟩
     ·unfold lC at h1 h2;rw [if_neg (by rw [he];decide)] at h1 h2;simp only [wq.1,aX];simp only [XE.seq,bz];simp only [wq.1,hd];exact ⟨hk',h2 _ _ rfl _ _⟩
    ·have hb5' : ¬ 5 ≤ l.length := by have := of_decide_eq_false hb5;omega
     rw [if_neg hb5'] at h1 h2;simp only [wq.1,aX];simp only [XE.seq,bz];simp only [wq.1,hd];exact ⟨hk',h2 _ _ rfl _ _⟩
   ·rw [hL] at h2;simp only [XE.seq,bz];simp only [wq.1,hd];exact ⟨hk',h2 w e rfl b X⟩
  ·refine az ?_;refine aF (fun mm f h' => ∃ (l : Cl) (a : Nat),mm + l.length = 9 ∧ mX s 9 magic.length [] = mX s (9 - l.length) a l ∧ a ≤ s.length ∧ (∀ n ∈ l,0 ≤ n ∧ n ≤ 2147483647) ∧ f.t 0 = .lp k 0 ∧ f.t 4 = .lp h.length 0 ∧ f.t 5 = vi l.length ∧ f.d = [] ∧ (∀ j,f.k j = true → False) ∧ h' = hR k s a T h [.cells ((hd9 l).map vi)]) 9 ⟨[],magic.length,rfl,rfl,hml,(fun n hn => by cases hn),by simp only [wq.1,seval],by simp only [wq.1,seval],rfl,rfl,(fun j hj => by cases hj),rfl⟩ ?_;rintro mm f h' ⟨l,a,hm,hL,has,hlb,t0,t4,t5,hd,hk',rfl⟩;by_cases hl9 : l.length < 9
   ·have e1 : decide ((l.length : Int) < 9) = true := by simp;omega
    obtain ⟨j,hj⟩ : ∃ j,9 - l.length = j + 1 := ⟨8 - l.length,by omega⟩;rw [hj,show mX s (j + 1) a l = (if o9 s a 32 = true then (match sQ s (a + 1) with
     | .ok (n,b) => mX s j b (l ++ [n])
     | .error e => .error e) else .ok (l,a)) from rfl] at hL
    refine ag ?_;refine vm ?_;simp only [wq.1,seval,t0,t5,e1];refine wR 32 (Hq hkl) ?_;simp only [wq.1,seval];cases hi : o9 s a 32 with
    | true =>
     have hlt := sG hi;have hw := ax (show a < maxLen by omega);have hwl := ax (show l.length < maxLen by omega);rw [if_pos hi] at hL;simp only [wq.1];refine ag (az ?_);refine ag (vm ?_);simp only [wq.1,seval,t0,Hq hkl,KL hkl,hw];refine vm ?_;simp only [wq.1,seval,t0,t5];refine iK hs (Hq hkl) (fun n b hn => ?_) (fun hn => ?_)
     ·rw [hn] at hL;have hnn := qi hn;rw [KL hkl];have hb : b ≤ s.length := TK hn;simp only [wq.1,seval,t4,pF];refine ⟨⟨by omega,by omega⟩,by rw [BV (by omega)];omega,?_⟩;refine vm ?_;simp only [wq.1,seval,t5,hwl,XB];rw [YP hl9];refine .inl ⟨mm - 1,by omega,l ++ [n],b,by rw [List.length_append,List.length_singleton];omega,?_,hb,?_,by simp only [wq.1,seval,t0],by simp only [wq.1,seval,t4],by simp only [wq.1,↓reduceIte],by simp only [wq.1,hd],hk',rfl⟩
      ·rw [hL,List.length_append,List.length_singleton,show 9 - (l.length + 1) = j by omega]
      ·intro x hx;rcases List.mem_append.1 hx with h | h
       ·exact hlb x h
       ·rw [List.mem_singleton] at h;subst h;exact hnn
     ·rw [hn] at hL;simp only [wq.1,aX,hd];simp only [XE.block,XE.seq];simp only [wq.1,seval,hd];exact .inr ⟨_,_,rfl,hL,hk',_,_,rfl⟩
    | false => rw [if_neg (by rw [hi];decide)] at hL;simp only [wq.1,seval,t0,t4,t5,hd];exact .inl ⟨l,a,hL,has,by omega,hlb,rfl,hk',rfl⟩
   ·have e1 : decide ((l.length : Int) < 9) = false := by simp;omega
    have hl : l.length = 9 := by omega
    rw [hl] at hL;refine ag ?_;refine vm ?_;simp only [wq.1,seval,t0,t5,e1];refine ⟨.bool true,?_⟩;simp only [wq.1,seval,t0,t4,t5,hd];exact .inl ⟨l,a,hL,has,by omega,hlb,rfl,hk',rfl⟩
 ·rw [if_neg (by rw [hb];decide)] at h2;simp only [wq.1,aX];simp only [XE.seq,bz];simp only [wq.1];exact h2 _ _ rfl _ _
theorem mJ {s : S} {k : Nat} {h : H} {K : H → (Nat → Bool) → Prop} (hK : ∀ X,K (h ++ [X]) (fun _ => false)) : iR TE 52 [.str s,.lp k 0] h K := by
 have hgE : ∀ x : O,(h ++ [x])[h.length]? = some x := fun x => by simp
 have hgS : ∀ x y : O,(h ++ [x]).set h.length y = h ++ [y] := fun x y => by simp
 refine kW rfl Tryz.func52 rfl rfl (by simp [nts]) rfl (fun ev w => rfl) rfl (by decide) ?_;simp only [nts];refine bW rfl rfl ?_;refine jI (x := .tmp 7) (t := 153) (q := ⟨.struct [(0,3),(1,31)],2,16,.agg [vi 0,vi 0]⟩) rfl (by simp only [wq.1]) (by simp only [wq.1,↓reduceIte]) (by simp only [wq.1,↓reduceIte]) ?_;refine ay rfl rfl ?_;simp only [wq.1,↓reduceIte];refine ay rfl rfl ?_;simp only [wq.1,seval];refine ay rfl rfl ?_;simp only [wq.1,seval];refine ay rfl rfl ?_;simp only [wq.1];refine ay rfl rfl ?_;simp only [wq.1,seval,hgE,hgS];refine ay rfl rfl ?_;simp only [wq.1,seval];refine bT ?_;show awp _ _ _ _ _ _ _;refine vm ?_;simp only [wq.1,seval];exact hK _
theorem qj {s : S} {k : Nat} {h : H} {d1 d2 d3 : V} {K : H → (Nat → Bool) → Prop} (a : Nat) (e : Int) (hs : s.length ≤ 1000000000) (hk : h[k]? = some (.cells [d1,d2,d3])) (hK : ∀ X,K (h.set k (.cells (bD s a e).vc) ++ [X]) (fun _ => false)) :
 mf TE 52 [.str s,.lp k 0] (gV a e) h K := by
 have hgE : ∀ x : O,(h ++ [x])[h.length]? = some x := fun x => by simp
 have hgS : ∀ x y : O,(h ++ [x]).set h.length y = h ++ [y] := fun x y => by simp
 have hkl : k < h.length := (List.getElem?_eq_some_iff.1 hk).1;have hgk : ∀ x : O,(h ++ [x])[k]? = some (.cells [d1,d2,d3]) := fun x => by rw [List.getElem?_append_left hkl];exact hk
 have hsk : ∀ x y : O,(h ++ [x]).set k y = h.set k y ++ [x] := fun x y => by rw [List.set_append_left _ _ hkl]
 refine kU rfl Tryz.func52 rfl rfl (by simp [nts]) rfl (fun ev w => rfl) rfl (by decide) ?_;simp only [nts];refine ay rfl rfl ?_;simp only [wq.1,↓reduceIte];refine ⟨by decide,?_⟩;refine ay rfl rfl ?_;simp only [wq.1,↓reduceIte];refine ay rfl rfl ?_;simp only [wq.1,seval];refine ay rfl rfl ?_;simp only [wq.1,seval];refine ay rfl rfl ?_;simp only [wq.1];refine ay rfl rfl ?_;simp only [wq.1,seval,hgE,hgS];refine ay rfl rfl ?_;simp only [wq.1,seval];refine bT ?_;show awp _ _ _ _ _ _ _;have hf : ∃ x y z,bD s a e = .agg [vi x,vi y,vi z] := by unfold bD;split <;> exact ⟨_,_,_,rfl⟩
 obtain ⟨x,y,z,hf⟩ := hf;rw [hf] at hK;have hsf := II s a e hs;rw [hf] at hsf;refine ag (vm ?_);simp only [wq.1,seval];refine vm ?_;simp only [wq.1,seval,hgE];refine ah.ev hsf rfl ?_;simp only [wq.1,seval,hgk,hsk];exact hK _
theorem xZ {k a : Nat} {s : S} {T : List V} {h : H} {R : AEnd → H → (Nat → Bool) → Prop} (ha : a ≤ s.length) (hk : h[k]? = some (rdT s a T))
 (hr : R (.ret (.bool (Qm s a))) h (fun _ => false)) : ah TE 64 [.lp k 0] h R := by
 have hp := PX (s.drop a) [99,10];unfold Qm at hr;cases hb : ([99,10] : S).isPrefixOf (s.drop a) with
 | true => rw [hb] at hp hr;refine au Tryz.func64 rfl (by simp [nts]) (vm ?_);simp only [wq.1,seval,Tryz.results64,hk];refine ⟨by decide +kernel,⟨by omega,by omega⟩,yw.mk hp rfl rfl ?_⟩;simp only [wq.1,seval,hk];exact hr
 | false => rw [hb] at hp hr;refine au Tryz.func64 rfl (by simp [nts]) (vm ?_);simp only [wq.1,seval,Tryz.results64,hk];refine ⟨by decide +kernel,⟨by omega,by omega⟩,yw.mk hp rfl rfl ?_⟩;simp only [wq.1,seval,hk];exact ⟨⟨by omega,by omega⟩,hr⟩
theorem BX (c : UInt8) : ∀ l : S,Lib.indexByte l c = (match l.findIdx? (· == c) with | some i => (i : Int) | none => -1)
 | [] => rfl
 | b :: l => by
  unfold Lib.indexByte;rw [List.findIdx?_cons,BX c l];by_cases hb : (b == c) = true
  ·rw [if_pos hb,if_pos hb];rfl
  ·rw [if_neg hb,if_neg hb];cases h : l.findIdx? (· == c) with
   | none => rfl
   | some i => show (if ((i : Int) == -1) = true then (-1 : Int) else (i : Int) + 1) = _;rw [if_neg (by simp)];rfl
theorem TL {c : UInt8} (h : Nl c = none) : Lib.indexByte [105,108,111,98,99] c = -1 := by unfold Nl at h;rw [BX,h]
theorem Fj {c : UInt8} {k : Nat} (h : Nl c = some k) : Lib.indexByte [105,108,111,98,99] c = k ∧ k < 5 := by unfold Nl at h;rw [BX,h];exact ⟨rfl,(List.findIdx?_eq_some_iff_getElem.1 h).1⟩
abbrev rwS (L : List (List S)) (k : Nat) : O := .cells ((L.getD k []).map V.str)
abbrev lsS (L : List (List S)) (k : Nat) : V := .ls (3 + k) 1 0 (L.getD k []).length (L.getD k []).length
abbrev hS (many : Cl) (s : S) (a : Nat) (L : List (List S)) : H :=
 [.cells (many.map vi),.cells [lsS L 0,lsS L 1,lsS L 2,lsS L 3,lsS L 4],.cells [vi 0,vi 0,vi 0],rwS L 0,rwS L 1,rwS L 2,rwS L 3,rwS L 4,rdT s a []]
theorem zay {L : List (List S)} (h : L.length = 5) : ∃ l0 l1 l2 l3 l4,L = [l0,l1,l2,l3,l4] := by
 match L,h with
 | [l0,l1,l2,l3,l4],_ => exact ⟨_,_,_,_,_,rfl⟩
theorem YQ {L : List (List S)} {k : Nat} (hk : k < 5) : [lsS L 0,lsS L 1,lsS L 2,lsS L 3,lsS L 4].getD (k * 1) V.any = lsS L k := by rcases k with _|_|_|_|_|k <;> first | rfl | omega
theorem XC {many : Cl} {s : S} {a : Nat} {L : List (List S)} {k : Nat} (hk : k < 5) : (hS many s a L)[3 + k]? = some (rwS L k) := by rcases k with _|_|_|_|_|k <;> first | rfl | omega
theorem XD {many : Cl} {s : S} {a : Nat} {L : List (List S)} {k N : Nat} {nm : S} (hL : L.length = 5) (hk : k < 5) : (hS many s a L).set (3 + k) (.cells (((L.getD k []).set N nm).map V.str)) = hS many s a (L.set k ((L.getD k []).set N nm)) := by
 obtain ⟨l0,l1,l2,l3,l4,rfl⟩ := zay hL;rcases k with _|_|_|_|_|k
 ·simp [hS,lsS,rwS]
 ·simp [hS,lsS,rwS]
 ·simp [hS,lsS,rwS]
 ·simp [hS,lsS,rwS]
 ·simp [hS,lsS,rwS]
 ·omega
theorem TM {l : List S} {N : Nat} {nm : S} (h : N < l.length) : List.take (N * 1) (l.map V.str) ++ [V.str nm] ++ List.drop (N * 1 + 1) (l.map V.str) = (l.set N nm).map V.str := by rw [List.map_set,List.set_eq_take_append_cons_drop,if_pos (by rw [List.length_map];omega),Nat.mul_one];simp
def TN : Plan := .take 0 <| .take 2 <| .take 3 <| .take 4 <| .alt 1 (.one 5 <| .one 6 <| .fin) (.one 5 (.one 1 <| .one 6 <| .fin))
theorem Hr {many : Cl} {s : S} {L : List (List S)} {a : Nat} (hL : L.length = 5) (hLb : ∀ l ∈ L,l.length ≤ 4000) (hs : s.length ≤ 100000) (ha : a < s.length) {R : AEnd → H → (Nat → Bool) → Prop}
 (h1 : ∀ L' b,sS s L a = .ok (L',b) → R (.ret (.tup [])) (hS many s b L') (fun _ => false))
 (h2 : ∀ (w : Nat) (e : Int),sS s L a = .error (w,e) → ∀ b,R (.pan (gV w e)) (hS many s b L) (fun _ => false)) : ah TE 65 [.lp 8 0,.lp 1 0] (hS many s a L) R := by
 have hM : maxLen = 9223372036854775807 := rfl;have hga : s.getD a 0 = s[a] := aG ha;have hib := zac [105,108,111,98,99] (s[a].toNat) (UInt8.toNat_lt _);rw [UInt8.ofNat_toNat] at hib;unfold sS at h1 h2;rw [hga] at h1 h2;refine ah.kp (fun _ => false) ?_;refine au Tryz.func65 rfl (by simp [nts]) ?_;refine ag (vm ?_);simp only [wq.1,seval,Tryz.results65];refine ag ?_;refine vm ?_;simp only [wq.1,seval,hga];refine ⟨by decide +kernel,⟨by omega,by omega⟩,yw.mk hib rfl rfl ?_⟩;simp only [wq.1,seval];cases hk : Nl s[a] with
 | none => rw [hk] at h2;rw [TL hk];refine ag (vm ?_);simp only [wq.1,seval];refine aO false _ 2 (fun h => by cases h) (fun _ => ?_);simp only [wq.1,Int.reduceNeg,aX];simp only [XE.seq,bz];simp only [wq.1,Int.reduceNeg];exact h2 _ _ rfl _
 | some k =>
  rw [hk] at h1 h2;dsimp only at h1 h2;obtain ⟨hki,hk5⟩ := Fj hk;have hk0 : decide ((0 : Int) ≤ (k : Int)) = true := by simp
  have hw := ax (show a < maxLen by omega);rw [hki];refine ag (vm ?_);simp only [wq.1,seval,hk0];refine aO true _ 2 (fun _ => ?_) (fun h => by cases h);simp only [wq.1];refine ag (vm ?_);simp only [wq.1,seval,hw];refine ag (vm ?_);simp only [wq.1,seval];refine ag (vm ?_);simp only [wq.1,seval];refine iK (k := 8) (a := a + 1) (s := s) (T := []) hs rfl (fun n b hn => ?_) (fun hn => ?_)
  ·rw [hn] at h1 h2;dsimp only at h1 h2;have hnn := qi hn;have hbl := TK hn;simp only [wq.1,seval];refine ag (vm ?_);simp only [wq.1,seval];refine kJ (k := 8) (s := s) (a := b) (T := []) (by omega) rfl (fun hb => ?_) (fun hb => ?_)
   ·unfold lC at h1 h2;rw [if_pos hb] at h1 h2;dsimp only at h1 h2;have hblt := sG hb;have hcut := zad (s.drop (b + 1)) 10 (by rw [List.length_drop];omega);obtain ⟨nm,hnm⟩ : ∃ nm,nm = (s.drop (b + 1)).takeWhile (· != 10) := ⟨_,rfl⟩;rw [← hnm] at h1 h2;simp only [wq.1];refine ag ?_;refine vm ?_;simp only [wq.1,seval];rcases vZ 10 (s.drop (b + 1)) with ⟨m1,m2,m3⟩ | ⟨m1,m2⟩
    ·have hcv : Xl (s.drop (b + 1)) 10 = .tup [.str (s.drop (b + 1)),.str [],.bool false] := by unfold Xl;rw [if_pos (by omega)]
     rw [hcv] at hcut;rw [← hnm] at m3;have hge : ¬ b + 1 + nm.length < s.length := by rw [m3,List.length_drop];omega
     rw [if_neg hge] at h2;refine ⟨by decide +kernel,⟨by omega,by omega⟩,yw.mk hcut rfl rfl ?_⟩;simp only [wq.1,seval];refine ag (vm ?_);simp only [wq.1,seval];refine aO false _ 2 (fun h => by cases h) (fun _ => ?_);simp only [wq.1,aX];simp only [XE.seq,bz];simp only [wq.1];exact h2 _ _ rfl _
    ·have hcv : Xl (s.drop (b + 1)) 10 = .tup [.str nm,.str ((s.drop (b + 1)).drop (nm.length + 1)),.bool true] := by unfold Xl;rw [if_neg (by omega),hnm]
     rw [hcv] at hcut;rw [← hnm] at m1 m2;rw [List.length_drop] at m2;have hlt : b + 1 + nm.length < s.length := by omega
     rw [if_pos hlt] at h1 h2;refine ⟨by decide +kernel,⟨by omega,by omega⟩,yw.mk hcut rfl rfl ?_⟩;simp only [wq.1,seval];refine ag (vm ?_);simp only [wq.1,seval];refine aO true _ 2 (fun _ => ?_) (fun h => by cases h);simp only [wq.1];obtain ⟨N,rfl⟩ : ∃ N : Nat,n = N := ⟨n.toNat,by omega⟩;have hls := YQ (L := L) hk5;have hrw := XC (many := many) (s := s) (a := b + 1) (L := L) hk5;have hset := XD (many := many) (s := s) (a := b + 1) (L := L) (N := N) (nm := nm) hL hk5;obtain ⟨l,hl⟩ : ∃ l,l = L.getD k [] := ⟨_,rfl⟩;have hll : l.length ≤ 4000 := by
      rw [hl,aG (by omega)];exact hLb _ (List.getElem_mem _)
     unfold rwS at hrw;unfold lsS at hls;rw [← hl] at h1 h2 hls hrw hset;obtain ⟨H,hH⟩ : ∃ H,H = hS many s (b + 1) L := ⟨_,rfl⟩;have H1 : H[1]? = some (.cells [lsS L 0,lsS L 1,lsS L 2,lsS L 3,lsS L 4]) := by rw [hH];rfl
     have H8 : H[8]? = some (rdT s (b + 1) []) := by rw [hH];rfl
     show awp _ _ _ _ _ _ (hS many s (b + 1) L);rw [← hH] at hrw hset ⊢;by_cases hnl : N < l.length
     ·have hnl' : decide ((N : Int) < (l.length : Int)) = true := by simpa using hnl
      rw [if_pos (by omega)] at h1 h2;rw [Int.toNat_natCast] at h1 h2;have hsn : (l.map V.str).getD (N * 1) V.any = V.str l[N] := by rw [Nat.mul_one];simp [List.getD_eq_getElem?_getD,hnl]
      have hgN : l.getD N [] = l[N] := aG hnl;refine ag (vm ?_);simp only [wq.1,seval,H1,hls,hnl'];refine ⟨⟨by omega,by omega⟩,by omega,?_⟩;refine aO true _ 1 (fun _ => ?_) (fun h => by cases h);simp only [wq.1];have hnmE := Iz nm;refine ag (bY mixed TN (fun f' h' => iP nm = true ∧ f'.t 0 = .lp 8 0 ∧ f'.t 1 = .lp 1 0 ∧ f'.t 4 = vi a ∧ f'.t 5 = vi k ∧ f'.t 7 = vi N ∧ f'.t 8 = .str nm ∧ f'.d = [] ∧ (∀ j,f'.k j = true → False) ∧ h' = H) [] (fun v d kk t h' => d = [] ∧ (∀ j,kk j = true → False) ∧ iP nm = false ∧ v = gV ((b + 1 : Nat) : Int) 4 ∧ h' = H) (by decide +kernel) (by decide +kernel) ?_ ?_ ?_)
      ·simp only [wq.1,seval,TN,H8]
       repeat' apply And.intro
       all_goals
        refine ah.ev hnmE rfl ?_;simp only [wq.1,seval,H8];refine aO _ _ 4 (fun hb => ?_) (fun hb => ?_)
        ·simp only [wq.1,seval,dw];exact hb
        ·simp only [wq.1,aX,gI];exact hb
      ·rintro f' h' ⟨hok,t0,t1,t4,t5,t7,t8,hd,hkk,rfl⟩;show awp _ _ _ _ _ _ _;rw [if_pos hok,hgN] at h1 h2;refine ag (vm ?_);simp only [wq.1,seval,H1,hls,hrw,hsn,t1,t4,t5,t7];refine ⟨⟨by omega,by omega⟩,by omega,⟨by omega,by omega⟩,by omega,aO _ _ 5 (fun hb => ?_) (fun hb => ?_)⟩
       ·have hb' : l[N] = [] := eq_of_beq hb;rw [if_pos hb'] at h1;simp only [wq.1];refine ag (vm ?_);simp only [wq.1,seval,H1,hls,hrw,t1,t5,t7,t8];refine ⟨⟨by omega,by omega⟩,by omega,⟨by omega,by omega⟩,by omega,?_⟩;rw [TM hnl,hset];have w1 := ax (show nm.length < maxLen by omega);have w2 : IntKind.i64.wrap (((b + 1 : Nat) : Int) + ((nm.length + 1 : Nat) : Int)) = ((b + 1 + nm.length + 1 : Nat) : Int) := by rw [aZ (by omega) (by omega)];omega
        refine vm ?_;simp only [wq.1,seval,t0,t8,hd,w1,w2];exact ⟨hkk,h1 _ _ rfl⟩
       ·have hb' : l[N] ≠ [] := by simpa using hb
        rw [if_neg hb'] at h2;simp only [wq.1,aX];simp only [XE.seq,bz];simp only [wq.1,hd];refine ⟨hkk,?_⟩;rw [hH];exact h2 _ _ rfl _
      ·rintro v f' h' ⟨hd,hkk,hok,rfl,rfl⟩;rw [if_neg (by rw [hok];decide)] at h2;simp only [XE.seq,bz];simp only [wq.1,hd];refine ⟨hkk,?_⟩;rw [hH];exact h2 _ _ rfl _
     ·have hnl' : decide ((N : Int) < (l.length : Int)) = false := by simpa using hnl
      rw [if_neg (by omega)] at h2;refine ag (vm ?_);simp only [wq.1,seval,H1,hls,hnl'];refine ⟨⟨by omega,by omega⟩,by omega,?_⟩;refine aO false _ 1 (fun h => by cases h) (fun _ => ?_);simp only [wq.1,aX];simp only [XE.seq,bz];simp only [wq.1];rw [hH];exact h2 _ _ rfl _
   ·unfold lC at h2;rw [if_neg (by rw [hb];decide)] at h2;simp only [wq.1,aX];simp only [XE.seq,bz];simp only [wq.1];exact h2 _ _ rfl _
  ·rw [hn] at h2;simp only [wq.1,aX];simp only [XE.seq,bz];simp only [wq.1];exact h2 _ _ rfl _
theorem yY {e : Int} {d2 d3 : V} {cs : List V} {h : H} {K : H → (Nat → Bool) → Prop} (h1 : h[1]? = some (.cells cs)) (hc : cs.length = 5) (h2 : h[2]? = some (.cells [vi e,d2,d3]))
 (hK0 : e = 0 → K h (fun _ => false)) (hK1 : e ≠ 0 → K (h.set 1 (.cells [.nils,.nils,.nils,.nils,.nils])) (fun _ => false)) : iR TE 63 [.lp 2 0,.lp 1 0] h K := by
 refine ul rfl Tryz.func63 rfl rfl (by simp [nts]) ?_;simp only [nts];by_cases he : e = 0
 ·have he' : (e != 0) = false := by simpa using he
  refine vm ?_;simp only [wq.1,seval,h2,he'];exact hK0 he
 ·have he' : (e != 0) = true := by simpa using he
  refine vm ?_;simp only [wq.1,seval,h2,h1,he'];refine ⟨by omega,?_⟩;rw [List.drop_eq_nil_of_le (by omega)];exact hK1 he
theorem YR {s : S} {a b : Nat} {n : Int} (h : sQ s a = .ok (n,b)) : a ≤ b := by
 unfold sQ at h;split at h
 ·rename_i h1;simp only [Except.ok.injEq,Prod.mk.injEq] at h;rw [← h.2]
  revert h1
  unfold xX;split
  ·intro h1;cases h1
  ·split
   ·intro _;dsimp only;omega
   ·intro h1;cases h1
 ·cases h
theorem KN {s : S} {L L' : List (List S)} {a b : Nat} (h : sS s L a = .ok (L',b)) (hL : L.length = 5) (hLb : ∀ l ∈ L,l.length ≤ 4000) : a < b ∧ b ≤ s.length ∧ L'.length = 5 ∧ ∀ l ∈ L',l.length ≤ 4000 := by
 unfold sS at h;cases hk : Nl (s.getD a 0) with
 | none => rw [hk] at h;cases h
 | some k =>
  obtain ⟨_,hk5⟩ := Fj hk;rw [hk] at h;dsimp only at h;cases hn : sQ s (a + 1) with
  | error e => rw [hn] at h;cases h
  | ok nb =>
   obtain ⟨n,b1⟩ := nb;rw [hn] at h;dsimp only at h;have hge := YR hn;unfold lC at h;split at h
   ·cases h
   ·rename_i b2 hb;split at hb
    ·cases hb;split at h
     ·split at h
      ·split at h
       ·split at h
        ·simp only [Except.ok.injEq,Prod.mk.injEq] at h;obtain ⟨rfl,rfl⟩ := h;refine ⟨by omega,by omega,by rw [List.length_set];exact hL,fun l hl => ?_⟩;rcases List.mem_or_eq_of_mem_set hl with h | h
         ·exact hLb l h
         ·rw [h,List.length_set,aG (by omega)];exact hLb _ (List.getElem_mem _)
        ·cases h
       ·cases h
      ·cases h
     ·cases h
    ·cases hb
theorem KO {s : S} {a w : Nat} {e : Int} (h : sQ s a = .error (w,e)) : w = a ∧ e = 3 := by
 unfold sQ at h;split at h
 ·cases h
 ·simp only [Except.error.injEq,Prod.mk.injEq] at h;exact ⟨h.1.symm,h.2.symm⟩
theorem Fp {s : S} {L : List (List S)} {a w : Nat} {e : Int} (h : sS s L a = .error (w,e)) : e ≠ 0 := by
 unfold sS at h;cases hk : Nl (s.getD a 0) with
 | none => rw [hk] at h;simp only [Except.error.injEq,Prod.mk.injEq] at h;omega
 | some k =>
  rw [hk] at h;dsimp only at h;cases hn : sQ s (a + 1) with
  | error e => obtain ⟨w',e'⟩ := e;rw [hn] at h;have := KO hn;simp only [Except.error.injEq,Prod.mk.injEq] at h;omega
  | ok nb =>
   obtain ⟨n,b1⟩ := nb;rw [hn] at h;dsimp only at h;unfold lC at h
   repeat' split at h
   all_goals first
    | cases h;done
    | (simp only [Except.error.injEq,Prod.mk.injEq] at h;omega)
    | (rename_i hb;split at hb <;> first | cases hb;done | (simp only [Except.error.injEq] at hb h;subst hb;simp only [Prod.mk.injEq] at h;omega))
def yZ (k : Nat) : UInt8 := [(105 : UInt8),108,111,98,99].getD k 0
theorem dQ {c : UInt8} : ∀ {l : List S} {i : Nat},(jq c i l).length = l.length
 | [],i => rfl
 | x :: l,i => by unfold jq;rw [List.length_cons,dQ,List.length_cons]
theorem KP {c : UInt8} : ∀ {l : List S} {b i : Nat} (h : i < l.length),(jq c b l)[i]'(by rw [dQ];exact h) = if l[i] = [] then c :: Lib.itoa ((b + i : Nat) : Int) else l[i]
 | x :: l,b,0,h => rfl
 | x :: l,b,i + 1,h => by have := KP (c := c) (l := l) (b := b + 1) (i := i) (by simpa using h);unfold jq;simp only [List.getElem_cons_succ];rw [this,show b + 1 + i = b + (i + 1) by omega]
def jv (c : UInt8) (i : Nat) (l : List S) : List S := (jq c 0 l).take i ++ l.drop i
theorem YS {c : UInt8} {l : List S} : jv c 0 l = l := by simp [jv]
theorem TP {c : UInt8} {l : List S} : jv c l.length l = jq c 0 l := by unfold jv;rw [List.drop_length,List.append_nil,List.take_of_length_le (by rw [dQ];exact Nat.le_refl _)]
theorem Fq {c : UInt8} {i : Nat} {l : List S} (h : i ≤ l.length) : (jv c i l).length = l.length := by unfold jv;rw [List.length_append,List.length_take,List.length_drop,dQ];omega
theorem KQ {c : UInt8} {i : Nat} {l : List S} (h : i < l.length) : (jv c i l)[i]'(by rw [Fq (by omega)];exact h) = l[i] := by unfold jv;rw [List.getElem_append_right (by rw [List.length_take,dQ];omega)];simp [List.length_take,dQ,Nat.min_eq_left (Nat.le_of_lt h)]
theorem y5 {c : UInt8} {i : Nat} {l : List S} (h : i < l.length) : jv c (i + 1) l = (jv c i l).set i (if l[i] = [] then c :: Lib.itoa (i : Int) else l[i]) := by have hf := KP (c := c) (b := 0) h;rw [Nat.zero_add] at hf;unfold jv;rw [List.take_add_one,List.getElem?_eq_getElem (by rw [dQ];exact h),hf,List.set_append_right _ _ (by rw [List.length_take,dQ];omega),List.length_take,dQ,Nat.min_eq_left (by omega),Nat.sub_self,List.drop_eq_getElem_cons h,List.set_cons_zero,Option.toList_some,List.append_assoc];rfl
def Lk (L : List (List S)) (k : Nat) : List (List S) := (List.range 5).map fun j => if j < k then jq (yZ j) 0 (L.getD j []) else L.getD j []
theorem TQ {L : List (List S)} {k : Nat} : (Lk L k).length = 5 := by simp [Lk]
theorem zaz {L : List (List S)} {k : Nat} (h : k < 5) : (Lk L k).getD k [] = L.getD k [] := by unfold Lk;rw [List.getD_eq_getElem?_getD,List.getElem?_map,List.getElem?_range h];simp
theorem zbE {L : List (List S)} (h : L.length = 5) : Lk L 0 = L := by obtain ⟨l0,l1,l2,l3,l4,rfl⟩ := zay h;rfl
theorem zbF {L : List (List S)} : Lk L 5 = Np L := rfl
theorem YT {L : List (List S)} {k : Nat} (h : k < 5) : (Lk L k).set k (jq (yZ k) 0 (L.getD k [])) = Lk L (k + 1) := by
 rcases k with _|_|_|_|_|k
 ·rfl
 ·rfl
 ·rfl
 ·rfl
 ·rfl
 ·omega
theorem zaA {L : List (List S)} {k : Nat} {r : List S} (h : k < L.length) : (L.set k r).getD k [] = r := by rw [List.getD_eq_getElem?_getD,List.getElem?_set_self h];rfl
theorem ND {k : Nat} (h : k < 5) : (([105,108,111,98,99] : S).drop k).take (k + 1 - k) = [yZ k] := by
 rcases k with _|_|_|_|_|k
 ·rfl
 ·rfl
 ·rfl
 ·rfl
 ·rfl
 ·omega
def XF : Plan := .take 0 <| .take 1 <| .take 3 <| .take 4 <| .take 5 <| .take 6 <| .take 7 <| .take 8 <| .alt 2 (.one 9 <| .one 10 <| .take 11 <| .one 12 <| .fin) (.one 9 (.alt 2 (.one 10 <| .take 11 <| .one 12 <| .fin) (.one 10 (.one 2 <| .take 11 <| .one 12 <| .fin))))
def NE (s : S) (many : Cl) (a : Nat) : V := match wK s many a with
 | .error (w,e) => .tup [.agg [aT [],aT [],aT [],aT [],aT []],bD s w e]
 | .ok N => .tup [.agg [aT (N.getD 0 []),aT (N.getD 1 []),aT (N.getD 2 []),aT (N.getD 3 []),aT (N.getD 4 [])],.agg [vi 0,vi 0,vi 0]]
def hMk (many : Cl) (L : List (List S)) : Nat → H
 | 0 => [.cells (many.map vi),.cells [.nils,.nils,.nils,.nils,.nils],.cells [vi 0,vi 0,vi 0]]
 | 1 => [.cells (many.map vi),.cells [lsS L 0,.nils,.nils,.nils,.nils],.cells [vi 0,vi 0,vi 0],rwS L 0]
 | 2 => [.cells (many.map vi),.cells [lsS L 0,lsS L 1,.nils,.nils,.nils],.cells [vi 0,vi 0,vi 0],rwS L 0,rwS L 1]
 | 3 => [.cells (many.map vi),.cells [lsS L 0,lsS L 1,lsS L 2,.nils,.nils],.cells [vi 0,vi 0,vi 0],rwS L 0,rwS L 1,rwS L 2]
 | 4 => [.cells (many.map vi),.cells [lsS L 0,lsS L 1,lsS L 2,lsS L 3,.nils],.cells [vi 0,vi 0,vi 0],rwS L 0,rwS L 1,rwS L 2,rwS L 3]
 | _ => [.cells (many.map vi),.cells [lsS L 0,lsS L 1,lsS L 2,lsS L 3,lsS L 4],.cells [vi 0,vi 0,vi 0],rwS L 0,rwS L 1,rwS L 2,rwS L 3,rwS L 4]
theorem y7 (s : S) (many : Cl) (a : Nat) (hm : many.length = 5) (hs : s.length ≤ 100000) : Ev TE 21 [.str s,vi a,.agg (many.map vi)] (NE s many a) := by
 have hM : maxLen = 9223372036854775807 := rfl;obtain ⟨m0,m1,m2,m3,m4,rfl⟩ : ∃ m0 m1 m2 m3 m4,many = [m0,m1,m2,m3,m4] := by
  match many,hm with
  | [m0,m1,m2,m3,m4],_ => exact ⟨_,_,_,_,_,rfl⟩
 refine gU ?_;refine gG rfl Tryz.func21 rfl (by simp [nts]) fun ok pl0 w0 => ?_;simp only [nts];refine oz (Q := fun _ _ _ => False) ?_ (fun _ _ _ h => by obtain ⟨_,_,_,_,_,_,h⟩ := h;exact h.elim);refine vm ?_;simp only [wq.1,seval];have hsc : ∀ (tl : List Deferred) (x : Operand),x ∈ #[Operand.tmp 15,Operand.tmp 7] → (Fr.ev { TE with tl := tl } ((((((Fr.init [V.str s,vi a,V.agg ([m0,m1,m2,m3,m4].map vi)]).put (some 5) (.lp 0 0)).put (some 6) (.lp 1 0)).put (some 7) (.lp 2 0)).put (some 14) (.fn (.func 63) [] [.lp 2 0,.lp 1 0])).put (some 15) (.str s)) x).sc := fun tl x hx => by
  simp only [List.mem_toArray,List.mem_cons,List.not_mem_nil,or_false] at hx;rcases hx with rfl | rfl
  ·simp only [wq.1,↓reduceIte]
  ·simp only [wq.1,seval]
 refine Pj (fn := Tryz.f21) (q := 63) (q2 := 52) (avs := [.lp 2 0,.lp 1 0]) (avs2 := [.str s,.lp 2 0]) (F2 := (((((Fr.init [V.str s,vi a,V.agg ([m0,m1,m2,m3,m4].map vi)]).put (some 5) (.lp 0 0)).put (some 6) (.lp 1 0)).put (some 7) (.lp 2 0)).put (some 14) (.fn (.func 63) [] [.lp 2 0,.lp 1 0])).put (some 15) (.str s)) rfl ⟨rfl,by simp only [wq.1,Nat.reduceLT],by simp only [wq.1,seval],rfl,rfl,rfl,⟨.tmp 14,#[],#[],[.lp 2 0,.lp 1 0],rfl,by simp only [wq.1,seval],by simp only [wq.1,seval],by simp,by simp only [wq.1,seval]⟩,by simp only [wq.1]⟩ rfl rfl (fun tl => ⟨rfl,by simp only [wq.1,Nat.reduceLT],by simp only [wq.1,seval],rfl,rfl,rfl,⟨.func 52,#[.tmp 15,.tmp 7],_,[],rfl,by simp only [wq.1],by simp only [wq.1],hsc tl,by simp only [wq.1,seval]⟩,by simp only [wq.1,seval]⟩) rfl fun d d2 => ?_;obtain ⟨ee,hee⟩ : ∃ ee : E,ee = { TE with tl := [d2,d] } := ⟨_,rfl⟩;have hP : ee.P = P := by rw [hee];rfl
 have hmix : ee.P.follows .mixedOrders = true := by rw [hP];exact mixed
 have hT : ∀ {g : FuncId} {args : List V} {h : H} {R : AEnd → H → (Nat → Bool) → Prop},ah TE g args h R → ah ee g args h R := fun hc => by rw [hee];exact hc.tl _
 rw [← hee];obtain ⟨QP,eQP⟩ : ∃ QP : XE → Fr → H → Prop,QP = LV TE Tryz.f21 (fun ae h x => match ae with | AEnd.ret v => aC TE h v (NE s [m0,m1,m2,m3,m4] a) | AEnd.pan v => False) [(52,[V.str s,V.lp 2 0]),(63,[V.lp 2 0,V.lp 1 0])] := ⟨_,rfl⟩;refine bG (Q := QP) (fun xe f' h' hq => by rw [eQP] at hq;exact hq) ?_;have hkd : ∀ {f' : Fr},(∀ j,f'.k j = true → False) → ∀ x ∈ [((52 : FuncId),[V.str s,V.lp 2 0]),(63,[V.lp 2 0,V.lp 1 0])],V.drops f'.k x.2 = x.2 := fun {f'} h x hx => by
  have z : ∀ j,f'.k j = false := fun j => by
   cases hj : f'.k j with
   | false => rfl
   | true => exact (h j hj).elim
  simp only [List.mem_cons,List.not_mem_nil,or_false] at hx;rcases hx with rfl | rfl
  ·simp [V.drops,V.drop,z]
  ·simp [V.drops,V.drop,z]
 have hpan : ∀ {w : Nat} {e : Int} {f' : Fr} {h : H} {cs : List V},wK s [m0,m1,m2,m3,m4] a = .error (w,e) → e ≠ 0 → f'.d = [] → (∀ j,f'.k j = true → False) → f'.t 6 = .lp 1 0 → f'.t 7 = .lp 2 0 → h[1]? = some (.cells cs) → cs.length = 5 → h[2]? = some (.cells [vi 0,vi 0,vi 0]) → QP (.pan (gV w e)) f' h := by
  intro w e f' h cs hp he hd hk t6 t7 g1 gl g2;have l1 : 1 < h.length := (List.getElem?_eq_some_iff.1 g1).1;have l2 : 2 < h.length := (List.getElem?_eq_some_iff.1 g2).1;have hv : NE s [m0,m1,m2,m3,m4] a = .tup [.agg [aT [],aT [],aT [],aT [],aT []],bD s w e] := by unfold NE;rw [hp]
  have hf : bD s w e = .agg [vi e,vi (bZ s w).1,vi (bZ s w).2] := by unfold bD;rw [if_neg he]
  rw [eQP,hv];refine ⟨hd,hkd hk,?_⟩;refine qj w e (by omega) g2 fun X => ⟨fun y hy => ?_,?_⟩
  ·rw [List.mem_singleton] at hy;subst hy;rfl
  refine yY (e := e) (d2 := vi (bZ s w).1) (d3 := vi (bZ s w).2) (cs := cs) ?_ gl ?_ (fun h0 => absurd h0 he) (fun _ => ⟨fun y hy => (by cases hy),?_⟩)
  ·rw [List.getElem?_append_left (by rw [List.length_set];exact l1),List.getElem?_set_ne (by decide)];exact g1
  ·rw [List.getElem?_append_left (by rw [List.length_set];exact l2),List.getElem?_set_self l2,hf];rfl
  have r1 : ((h.set 2 (.cells (bD s w e).vc) ++ [X]).set 1 (.cells [.nils,.nils,.nils,.nils,.nils]))[1]? = some (.cells [.nils,.nils,.nils,.nils,.nils]) := by rw [List.getElem?_set_self (by rw [List.length_append,List.length_set];omega)]
  have r2 : ((h.set 2 (.cells (bD s w e).vc) ++ [X]).set 1 (.cells [.nils,.nils,.nils,.nils,.nils]))[2]? = some (.cells [vi e,vi (bZ s w).1,vi (bZ s w).2]) := by rw [List.getElem?_set_ne (by decide),List.getElem?_append_left (by rw [List.length_set];exact l2),List.getElem?_set_self l2,hf];rfl
  obtain ⟨h3,eh3⟩ : ∃ h3,h3 = (h.set 2 (.cells (bD s w e).vc) ++ [X]).set 1 (.cells [.nils,.nils,.nils,.nils,.nils]) := ⟨_,rfl⟩;rw [← eh3] at r1 r2 ⊢;unfold LVr;simp only [Tryz.results21,nts];simp only [wq.1,seval,hd,t6,t7,r1,r2];rw [hf];exact aC.tup (aB.cons (aC.agg (aB.cons aC.nils (aB.cons aC.nils (aB.cons aC.nils (aB.cons aC.nils (aB.cons aC.nils aB.nil)))))) (aB.cons (aC.dat rfl) aB.nil))
 have hret : ∀ {L : List (List S)} {b : Nat} {f' : Fr},wK s [m0,m1,m2,m3,m4] a = .ok L → f'.d = [] → (∀ j,f'.k j = true → False) → f'.t 6 = .lp 1 0 → f'.t 7 = .lp 2 0 → QP .ret f' (hS [m0,m1,m2,m3,m4] s b L) := by
  intro L b f' hp hd hk t6 t7;have hv : NE s [m0,m1,m2,m3,m4] a = .tup [.agg [aT (L.getD 0 []),aT (L.getD 1 []),aT (L.getD 2 []),aT (L.getD 3 []),aT (L.getD 4 [])],.agg [vi 0,vi 0,vi 0]] := by unfold NE;rw [hp]
  rw [eQP,hv];refine ⟨hd,hkd hk,?_⟩;refine mJ fun X => ⟨fun y hy => ?_,?_⟩
  ·rw [List.mem_singleton] at hy;subst hy;rfl
  refine yY (e := 0) (d2 := vi 0) (d3 := vi 0) (cs := [lsS L 0,lsS L 1,lsS L 2,lsS L 3,lsS L 4]) rfl rfl rfl (fun _ => ⟨fun y hy => (by cases hy),?_⟩) (fun h0 => absurd rfl h0);unfold LVr;simp only [Tryz.results21,nts];simp only [wq.1,seval,hd,t6,t7];exact aC.tup (aB.cons (aC.agg (aB.cons (fP rfl rfl) (aB.cons (fP rfl rfl) (aB.cons (fP rfl rfl) (aB.cons (fP rfl rfl) (aB.cons (fP rfl rfl) aB.nil)))))) (aB.cons (aC.dat rfl) aB.nil))
 obtain ⟨L0,hL0⟩ : ∃ L0,L0 = uq [m0,m1,m2,m3,m4] := ⟨_,rfl⟩;have hL05 : L0.length = 5 := by rw [hL0];unfold uq;rfl
 refine ag ?_;refine ag (aN hmix _ _ _ _ ?_);simp only [wq.1,seval,hP];refine az ?_;refine aF (fun mm f h' => ∃ k,mm + k = 5 ∧ f.t 0 = .str s ∧ f.t 1 = vi a ∧ f.t 6 = .lp 1 0 ∧ f.t 7 = .lp 2 0 ∧ f.t 16 = .agg ([m0,m1,m2,m3,m4].map vi) ∧ f.t 17 = vi k ∧ f.d = [] ∧ (∀ j,f.k j = true → False) ∧ h' = hMk [m0,m1,m2,m3,m4] L0 k) 5 ⟨0,rfl,by simp only [wq.1,seval],by simp only [wq.1,seval],by simp only [wq.1,seval],by simp only [wq.1,seval],by simp only [wq.1,seval],rfl,rfl,fun j hj => (by cases hj),rfl⟩ ?_;rintro mm f h' ⟨k,hmk,t0,t1,t6,t7,t16,t17,hd,hk,rfl⟩;refine ag (aN hmix _ _ _ _ ?_);simp only [wq.1,Nat.reduceLT,hP,t17];refine ag (aN hmix _ _ _ _ ?_);simp only [wq.1,seval,-Int.reduceNatCast,-Int.reduceNatCast',ak,Tryz.results21,hP,t0,t1,t6,t7,t16,t17,hd];refine vcB.mk (fun hlt => ?_) (fun hlt => ?_)
 ·have hlt : k < 5 := by have := of_decide_eq_true hlt;omega
  refine ag (az ?_);rcases k with _|_|_|_|_|k
  ·show awp _ _ _ _ _ _ [.cells [vi m0,vi m1,vi m2,vi m3,vi m4],.cells [.nils,.nils,.nils,.nils,.nils],.cells [vi 0,vi 0,vi 0]];refine ag (aN hmix _ _ _ _ ?_);simp only [wq.1,seval,-Int.reduceNatCast,-Int.reduceNatCast',ak,Tryz.results21,hP,t0,t1,t6,t7,t16,t17,hd];refine ⟨by decide,?_⟩;refine aN hmix _ _ _ _ ?_;simp only [wq.1,seval,-Int.reduceNatCast,-Int.reduceNatCast',ak,Tryz.results21,hP,t0,t1,t6,t7,t16,t17,hd,mx,mn];refine ⟨⟨by omega,by omega⟩,by decide,?_⟩;refine aN hmix _ _ _ _ ?_;simp only [wq.1,seval,hP,t17];refine .inl ⟨mm - 1,by omega,1,by omega,by simp only [wq.1,seval,t0],by simp only [wq.1,seval,t1],by simp only [wq.1,seval,t6],by simp only [wq.1,seval,t7],by simp only [wq.1,seval,t16],rfl,by simp only [wq.1,seval,-Int.reduceNatCast,-Int.reduceNatCast',ak,Tryz.results21,hd],fun j hj => hk j hj,?_⟩;rw [hL0];simp [hMk,uq,lsS,rwS]
  ·show awp _ _ _ _ _ _ [.cells [vi m0,vi m1,vi m2,vi m3,vi m4],.cells [lsS L0 0,.nils,.nils,.nils,.nils],.cells [vi 0,vi 0,vi 0],rwS L0 0];refine ag (aN hmix _ _ _ _ ?_);simp only [wq.1,seval,-Int.reduceNatCast,-Int.reduceNatCast',ak,Tryz.results21,hP,t0,t1,t6,t7,t16,t17,hd];refine ⟨by decide,?_⟩;refine aN hmix _ _ _ _ ?_;simp only [wq.1,seval,-Int.reduceNatCast,-Int.reduceNatCast',ak,Tryz.results21,hP,t0,t1,t6,t7,t16,t17,hd,mx,mn];refine ⟨⟨by omega,by omega⟩,by decide,?_⟩;refine aN hmix _ _ _ _ ?_;simp only [wq.1,seval,hP,t17];refine .inl ⟨mm - 1,by omega,2,by omega,by simp only [wq.1,seval,t0],by simp only [wq.1,seval,t1],by simp only [wq.1,seval,t6],by simp only [wq.1,seval,t7],by simp only [wq.1,seval,t16],rfl,by simp only [wq.1,seval,-Int.reduceNatCast,-Int.reduceNatCast',ak,Tryz.results21,hd],fun j hj => hk j hj,?_⟩;rw [hL0];simp [hMk,uq,lsS,rwS]
  ·show awp _ _ _ _ _ _ [.cells [vi m0,vi m1,vi m2,vi m3,vi m4],.cells [lsS L0 0,lsS L0 1,.nils,.nils,.nils],.cells [vi 0,vi 0,vi 0],rwS L0 0,rwS L0 1];refine ag (aN hmix _ _ _ _ ?_);simp only [wq.1,seval,-Int.reduceNatCast,-Int.reduceNatCast',ak,Tryz.results21,hP,t0,t1,t6,t7,t16,t17,hd];refine ⟨by decide,?_⟩;refine aN hmix _ _ _ _ ?_;simp only [wq.1,seval,-Int.reduceNatCast,-Int.reduceNatCast',ak,Tryz.results21,hP,t0,t1,t6,t7,t16,t17,hd,mx,mn];refine ⟨⟨by omega,by omega⟩,by decide,?_⟩;refine aN hmix _ _ _ _ ?_;simp only [wq.1,seval,hP,t17];refine .inl ⟨mm - 1,by omega,3,by omega,by simp only [wq.1,seval,t0],by simp only [wq.1,seval,t1],by simp only [wq.1,seval,t6],by simp only [wq.1,seval,t7],by simp only [wq.1,seval,t16],rfl,by simp only [wq.1,seval,-Int.reduceNatCast,-Int.reduceNatCast',ak,Tryz.results21,hd],fun j hj => hk j hj,?_⟩;rw [hL0];simp [hMk,uq,lsS,rwS]
  ·show awp _ _ _ _ _ _ [.cells [vi m0,vi m1,vi m2,vi m3,vi m4],.cells [lsS L0 0,lsS L0 1,lsS L0 2,.nils,.nils],.cells [vi 0,vi 0,vi 0],rwS L0 0,rwS L0 1,rwS L0 2];refine ag (aN hmix _ _ _ _ ?_);simp only [wq.1,seval,-Int.reduceNatCast,-Int.reduceNatCast',ak,Tryz.results21,hP,t0,t1,t6,t7,t16,t17,hd];refine ⟨by decide,?_⟩;refine aN hmix _ _ _ _ ?_;simp only [wq.1,seval,-Int.reduceNatCast,-Int.reduceNatCast',ak,Tryz.results21,hP,t0,t1,t6,t7,t16,t17,hd,mx,mn];refine ⟨⟨by omega,by omega⟩,by decide,?_⟩;refine aN hmix _ _ _ _ ?_;simp only [wq.1,seval,hP,t17];refine .inl ⟨mm - 1,by omega,4,by omega,by simp only [wq.1,seval,t0],by simp only [wq.1,seval,t1],by simp only [wq.1,seval,t6],by simp only [wq.1,seval,t7],by simp only [wq.1,seval,t16],rfl,by simp only [wq.1,seval,-Int.reduceNatCast,-Int.reduceNatCast',ak,Tryz.results21,hd],fun j hj => hk j hj,?_⟩;rw [hL0];simp [hMk,uq,lsS,rwS]
  ·show awp _ _ _ _ _ _ [.cells [vi m0,vi m1,vi m2,vi m3,vi m4],.cells [lsS L0 0,lsS L0 1,lsS L0 2,lsS L0 3,.nils],.cells [vi 0,vi 0,vi 0],rwS L0 0,rwS L0 1,rwS L0 2,rwS L0 3];refine ag (aN hmix _ _ _ _ ?_);simp only [wq.1,seval,-Int.reduceNatCast,-Int.reduceNatCast',ak,Tryz.results21,hP,t0,t1,t6,t7,t16,t17,hd];refine ⟨by decide,?_⟩;refine aN hmix _ _ _ _ ?_;simp only [wq.1,seval,-Int.reduceNatCast,-Int.reduceNatCast',ak,Tryz.results21,hP,t0,t1,t6,t7,t16,t17,hd,mx,mn];refine ⟨⟨by omega,by omega⟩,by decide,?_⟩;refine aN hmix _ _ _ _ ?_;simp only [wq.1,seval,hP,t17];refine .inl ⟨mm - 1,by omega,5,by omega,by simp only [wq.1,seval,t0],by simp only [wq.1,seval,t1],by simp only [wq.1,seval,t6],by simp only [wq.1,seval,t7],by simp only [wq.1,seval,t16],rfl,by simp only [wq.1,hd],fun j hj => hk j hj,?_⟩;rw [hL0];simp [hMk,uq,lsS,rwS]
  ·omega
 ·have hk5 : k = 5 := by have := of_decide_eq_false hlt;omega
  subst hk5;simp only [wq.1];refine ag (aN hmix _ _ _ _ ?_);simp only [wq.1,seval,hP,t0,t1,hMk];have hsR : wK s [m0,m1,m2,m3,m4] a = (match rJ s (s.length + 1) L0 a with | .error e => .error e | .ok L => .ok (Np L)) := by rw [hL0];rfl
  have e0 : decide ((0 : Int) ≤ (a : Int)) = true := by simp
  refine ag (bG (Q := fun xe f h' => (xe = .normal ∧ ∃ L b,wK s [m0,m1,m2,m3,m4] a = .ok (Np L) ∧ L.length = 5 ∧ (∀ l ∈ L,l.length ≤ 4000) ∧ f.t 6 = .lp 1 0 ∧ f.t 7 = .lp 2 0 ∧ f.d = [] ∧ (∀ j,f.k j = true → False) ∧ h' = hS [m0,m1,m2,m3,m4] s b L) ∨ (xe ≠ .normal ∧ QP xe f h')) ?_ ?_)
  ·rintro xe f h' (⟨rfl,L,b,hsy,hL5,hLb,t6,t7,hd,hk,rfl⟩ | ⟨hx,hq⟩)
   ·show awp _ _ _ _ _ _ _;have hLt : ∀ j,(L.getD j []).length ≤ 4000 := fun j => by
     by_cases hj : j < L.length
     ·rw [aG hj];exact hLb _ (List.getElem_mem hj)
     ·rw [List.getD_eq_getElem?_getD,List.getElem?_eq_none (by omega)];exact Nat.zero_le _
    refine ag ?_;refine ag ?_;refine aN hmix _ _ _ _ ?_;simp only [wq.1,Nat.reduceLT,hP];refine az ?_;refine aF (fun mm f h' => ∃ k,mm + k = 5 ∧ f.t 6 = .lp 1 0 ∧ f.t 7 = .lp 2 0 ∧ f.t 50 = vi k ∧ f.d = [] ∧ (∀ j,f.k j = true → False) ∧ h' = hS [m0,m1,m2,m3,m4] s b (Lk L k)) 5 ⟨0,rfl,by simp only [wq.1,seval,t6],by simp only [wq.1,seval,t7],rfl,by simp only [wq.1,hd],fun j hj => hk j hj,by rw [zbE hL5]⟩ ?_;clear t6 t7 hd hk;rintro mm f h' ⟨k,hmk,t6,t7,t50,hd,hk,rfl⟩;refine ag (aN hmix _ _ _ _ ?_);simp only [wq.1,Nat.reduceLT,hP,t50];refine ag (aN hmix _ _ _ _ ?_);simp only [wq.1,↓reduceIte];refine vcB.mk (fun hlt => ?_) (fun hlt => ?_)
    ·have hk5 : k < 5 := by have := of_decide_eq_true hlt;omega
     have hls := YQ (L := Lk L k) hk5;unfold lsS at hls;rw [zaz hk5] at hls;obtain ⟨l,hl⟩ : ∃ l,l = L.getD k [] := ⟨_,rfl⟩;have hll := hLt k;rw [← hl] at hls hll;obtain ⟨H,hH⟩ : ∃ H,H = hS [m0,m1,m2,m3,m4] s b (Lk L k) := ⟨_,rfl⟩;have H1 : H[1]? = some (.cells [lsS (Lk L k) 0,lsS (Lk L k) 1,lsS (Lk L k) 2,lsS (Lk L k) 3,lsS (Lk L k) 4]) := by rw [hH];rfl
     rw [← hH];refine ag (az ?_);refine ag (aN hmix _ _ _ _ ?_);simp only [wq.1,seval,hP,t50];refine ag (aN hmix _ _ _ _ ?_);simp only [wq.1,seval,hP,t6,H1,hls];refine ⟨⟨by omega,by omega⟩,by omega,?_⟩;rw [hH];refine az ?_;refine aF (fun mq f h' => ∃ i,mq + i = l.length ∧ f.t 6 = .lp 1 0 ∧ f.t 7 = .lp 2 0 ∧ f.t 11 = vi k ∧ f.t 50 = vi k ∧ f.t 55 = .ls (3 + k) 1 0 l.length l.length ∧ f.t 56 = vi l.length ∧ f.t 57 = vi i ∧ f.d = [] ∧ (∀ j,f.k j = true → False) ∧ h' = hS [m0,m1,m2,m3,m4] s b ((Lk L k).set k (jv (yZ k) i l))) l.length ⟨0,by simp,by simp only [wq.1,seval,t6],by simp only [wq.1,seval,t7],by simp only [wq.1,seval],by simp only [wq.1,seval,t50],by simp only [wq.1,seval],by simp only [wq.1,seval],rfl,by simp only [wq.1,hd],fun j hj => hk j hj,by rw [YS,hl,← zaz hk5,aG (by rw [TQ];exact hk5),List.set_getElem_self]⟩ ?_;clear t6 t7 t50 hd hk;rintro mq f h' ⟨i,hm2,t6,t7,t11,t50,t55,t56,t57,hd,hk,rfl⟩;refine ag (aN hmix _ _ _ _ ?_);simp only [wq.1,Nat.reduceLT,hP,t56,t57];refine ag (aN hmix _ _ _ _ ?_);simp only [wq.1,↓reduceIte];obtain ⟨L2,hL2⟩ : ∃ L2,L2 = (Lk L k).set k (jv (yZ k) i l) := ⟨_,rfl⟩;have hL25 : L2.length = 5 := by rw [hL2,List.length_set,TQ]
     refine vcB.mk (fun hlt2 => ?_) (fun hlt2 => ?_)
     ·have hil : i < l.length := by have := of_decide_eq_true hlt2;omega
      have hLk : L2.getD k [] = jv (yZ k) i l := by rw [hL2,zaA (by rw [TQ];exact hk5)]
      have hfl : (jv (yZ k) i l).length = l.length := Fq (by omega);have hrw2 := XC (many := [m0,m1,m2,m3,m4]) (s := s) (a := b) (L := L2) hk5;have hls2 := YQ (L := L2) hk5;unfold lsS at hls2;unfold rwS at hrw2;rw [hLk] at hrw2 hls2;rw [hfl] at hls2;have hsi : ((jv (yZ k) i l).map V.str).getD (i * 1) .any = .str l[i] := by rw [Nat.mul_one,List.getD_eq_getElem?_getD,List.getElem?_map,List.getElem?_eq_getElem (by rw [hfl];exact hil),KQ hil];rfl
      have hset2 : ∀ x : S,(if l[i] = [] then yZ k :: Lib.itoa (i : Int) else l[i]) = x → (hS [m0,m1,m2,m3,m4] s b L2).set (3 + k) (.cells (((jv (yZ k) i l).set i x).map V.str)) = hS [m0,m1,m2,m3,m4] s b ((Lk L k).set k (jv (yZ k) (i + 1) l)) := fun x hx => by rw [y5 hil,hx,← hLk,XD hL25 hk5,hLk,hL2,List.set_set]
      have hw := ax (show i < maxLen by omega);have hwk := ax (show k < maxLen by omega);obtain ⟨H,hH⟩ : ∃ H,H = hS [m0,m1,m2,m3,m4] s b L2 := ⟨_,rfl⟩;have H1 : H[1]? = some (.cells [lsS L2 0,lsS L2 1,lsS L2 2,lsS L2 3,lsS L2 4]) := by rw [hH];rfl
      rw [← hL2,← hH];rw [← hH] at hset2 hrw2;refine ag (az ?_);refine ag (aN hmix _ _ _ _ ?_);simp only [wq.1,seval,hP,t55,t57,hrw2,hsi,hfl];refine ⟨⟨by omega,by omega⟩,by omega,?_⟩;refine ag (aN hmix _ _ _ _ ?_);simp only [wq.1,seval,hP];by_cases hli : l[i] = []
      ·have hb : (l[i] == ([] : S)) = true := by rw [hli];rfl
       refine bQ (b := true) (by simp only [wq.1,↓reduceIte,hb]) (by simp only [wq.1,↓reduceIte,hb]) (fun _ => ?_) (fun h => by cases h);refine bu hmix XF (fun f' h' => f'.t 6 = .lp 1 0 ∧ f'.t 7 = .lp 2 0 ∧ f'.t 11 = vi k ∧ f'.t 50 = vi k ∧ f'.t 55 = .ls (3 + k) 1 0 l.length l.length ∧ f'.t 56 = vi l.length ∧ f'.t 57 = vi i ∧ f'.d = [] ∧ (∀ j,f'.k j = true → False) ∧ h' = hS [m0,m1,m2,m3,m4] s b ((Lk L k).set k (jv (yZ k) (i + 1) l))) (by rw [hP];decide +kernel) (by decide +kernel) ?_ ?_
       ·simp only [wq.1,seval,XF,hP,t6,t11,H1,hls2,hwk,ND hk5];have hil2 := oJ (i : Int) (by omega) (by omega);have hpu : List.take (i * 1) ((jv (yZ k) i l).map V.str) ++ [V.str (yZ k :: Lib.itoa (i : Int))] ++ List.drop (i * 1 + 1) ((jv (yZ k) i l).map V.str) = ((jv (yZ k) i l).set i (yZ k :: Lib.itoa (i : Int))).map V.str := TM (by rw [hfl];exact hil);have hse := hset2 _ (if_pos hli)
        repeat' apply And.intro
        all_goals first
         | omega
         | skip
        all_goals
         refine hT (ah.ev (vX (i : Int) (by omega) (by omega)) rfl ?_);simp only [wq.1,seval,hP,t6,t7,t11,t50,t55,t56,t57,hd,H1,hls2,hrw2,hfl]
        repeat' apply And.intro
        all_goals first
         | omega
         | exact fun j hj => hk j hj
         | (rw [hpu];exact hse)
       ·rintro f h' ⟨t6,t7,t11,t50,t55,t56,t57,hd,hk,rfl⟩;simp only [wq.1];refine aN hmix _ _ _ _ ?_;simp only [wq.1,seval,hP,t57,hw];exact .inl ⟨mq - 1,by omega,i + 1,by omega,by simp only [wq.1,seval,t6],by simp only [wq.1,seval,t7],by simp only [wq.1,seval,t11],by simp only [wq.1,seval,t50],by simp only [wq.1,seval,t55],by simp only [wq.1,seval,t56],rfl,by simp only [wq.1,hd],fun j hj => hk j hj,rfl⟩
      ·have hb : (l[i] == ([] : S)) = false := by simpa using hli
       have hsame : jv (yZ k) (i + 1) l = jv (yZ k) i l := by
        rw [y5 hil,if_neg hli]
        conv => lhs;rw [← KQ (c := yZ k) hil]
        exact List.set_getElem_self _
       refine bQ (b := false) (by simp only [wq.1,↓reduceIte,hb]) (by simp only [wq.1,↓reduceIte,hb]) (fun h => by cases h) (fun _ => ?_);refine aN hmix _ _ _ _ ?_;simp only [wq.1];refine aN hmix _ _ _ _ ?_;simp only [wq.1,seval,hP,t57,hw];exact .inl ⟨mq - 1,by omega,i + 1,by omega,by simp only [wq.1,seval,t6],by simp only [wq.1,seval,t7],by simp only [wq.1,seval,t11],by simp only [wq.1,seval,t50],by simp only [wq.1,seval,t55],by simp only [wq.1,seval,t56],rfl,by simp only [wq.1,hd],fun j hj => hk j hj,by rw [hsame,← hL2,hH]⟩
     ·have hil : i = l.length := by have := of_decide_eq_false hlt2;omega
      subst hil;have hw := ax (show k < maxLen by omega);rw [TP,hl,YT hk5];simp only [wq.1];refine aN hmix _ _ _ _ ?_;simp only [wq.1,seval,hP,t50,hw];exact .inl ⟨mm - 1,by omega,k + 1,by omega,by simp only [wq.1,seval,t6],by simp only [wq.1,seval,t7],rfl,by simp only [wq.1,hd],fun j hj => hk j hj,rfl⟩
    ·have hk5 : k = 5 := by have := of_decide_eq_false hlt;omega
     subst hk5;rw [zbF];simp only [wq.1];refine ag (aN hmix _ _ _ _ ?_);simp only [wq.1,seval,hP,t6,t7];refine aN hmix _ _ _ _ ?_;simp only [wq.1];exact hret (L := Np L) (b := b) hsy (by simp only [wq.1,hd]) (fun j hj => hk j hj) (by simp only [wq.1,seval,t6]) (by simp only [wq.1,seval,t7])
   ·cases xe with
    | normal => exact absurd rfl hx
    | _ => exact hq
  ·refine az ?_;refine aF (fun kk f h' => ∃ (L : List (List S)) (b : Nat),rJ s (s.length + 1) L0 a = rJ s kk L b ∧ s.length < kk + b ∧ L.length = 5 ∧ (∀ l ∈ L,l.length ≤ 4000) ∧ f.t 0 = .str s ∧ f.t 1 = vi a ∧ f.t 6 = .lp 1 0 ∧ f.t 7 = .lp 2 0 ∧ f.t 10 = .lp 8 0 ∧ f.d = [] ∧ (∀ j,f.k j = true → False) ∧ h' = hS [m0,m1,m2,m3,m4] s b L) (s.length + 1) ⟨L0,a,rfl,by omega,hL05,?_,by simp only [wq.1,seval,t0],by simp only [wq.1,seval,t1],by simp only [wq.1,seval,t6],by simp only [wq.1,seval,t7],by simp only [wq.1,↓reduceIte],by simp only [wq.1,hd],fun j hj => hk j hj,rfl⟩ ?_
   ·rw [hL0];intro l hl;obtain ⟨m,_,rfl⟩ := List.mem_map.1 hl;rw [List.length_replicate];omega
   ·clear t0 t1 t6 t7 hd hk;rintro kk f h' ⟨L,b,hsy,hkb,hL5,hLb,t0,t1,t6,t7,t10,hd,hk,rfl⟩;by_cases hbl : b < s.length
    ·have e1 : decide ((b : Int) < (s.length : Int)) = true := by simpa using hbl
     obtain ⟨j,rfl⟩ : ∃ j,kk = j + 1 := ⟨kk - 1,by omega⟩;refine ag ?_;refine aN hmix _ _ _ _ ?_;simp only [wq.1,seval,hP,t0,t1,t10,e0,e1];refine hT (xZ (k := 8) (a := b) (s := s) (T := []) (by omega) rfl ?_);simp only [wq.1,seval,hP];cases hcm : Qm s b with
     | true =>
      have hst : rJ s (j + 1) L b = .ok L := by rw [show rJ s (j + 1) L b = (if b < s.length ∧ Qm s b = false then _ else .ok L) from rfl,if_neg (by rw [hcm];simp)]
      rw [hst] at hsy;rw [hsy] at hsR;simp only [wq.1,seval,t6,t7,hd];exact .inl ⟨L,b,hsR,hL5,hLb,hk,rfl⟩
     | false =>
      have hst : rJ s (j + 1) L b = (match sS s L b with | .error e => .error e | .ok (L,b) => rJ s j L b) := by rw [show rJ s (j + 1) L b = (if b < s.length ∧ Qm s b = false then _ else .ok L) from rfl,if_pos ⟨hbl,hcm⟩];rfl
      rw [hst] at hsy;simp only [wq.1];refine az ?_;refine aN hmix _ _ _ _ ?_;simp only [wq.1,seval,hP,t6,t10];refine hT (Hr hL5 hLb hs hbl (fun L' b' hn => ?_) (fun w e hn b' => ?_))
      ·rw [hn] at hsy;dsimp only at hsy;obtain ⟨g1,g2,g3,g4⟩ := KN hn hL5 hLb;simp only [wq.1];exact .inl ⟨j,by omega,L',b',hsy,by omega,g3,g4,by simp only [wq.1,seval,t0],by simp only [wq.1,seval,t1],by simp only [wq.1,seval,t6],by simp only [wq.1,seval,t7],by simp only [wq.1,seval,t10],by simp only [wq.1,hd],fun j hj => hk j hj,rfl⟩
      ·rw [hn] at hsy;dsimp only at hsy;rw [hsy] at hsR;have hne := Fp hn;simp only [wq.1,aX,hd];simp only [XE.block,XE.seq];exact .inr ⟨fun h => (by cases h),hpan (cs := [lsS L 0,lsS L 1,lsS L 2,lsS L 3,lsS L 4]) hsR hne (by simp only [wq.1,hd]) (fun j hj => hk j (by have h2 : (f.k j || false) = true := hj;simpa using h2)) (by simp only [wq.1,seval,t6]) (by simp only [wq.1,seval,t7]) rfl rfl rfl⟩
    ·have e1 : decide ((b : Int) < (s.length : Int)) = false := by simpa using hbl
     have hst : rJ s kk L b = .ok L := by
      cases kk with
      | zero => rfl
      | succ j => rw [show rJ s (j + 1) L b = (if b < s.length ∧ Qm s b = false then _ else .ok L) from rfl,if_neg (fun h => hbl h.1)]
     rw [hst] at hsy;rw [hsy] at hsR;refine ag ?_;refine aN hmix _ _ _ _ ?_;simp only [wq.1,seval,hP,t0,t1,t10,e0,e1];refine ⟨.bool true,?_⟩;simp only [wq.1,seval,t6,t7,hd];exact .inl ⟨L,b,hsR,hL5,hLb,hk,rfl⟩
end Go.Proofs.YtfcpapokknfeeaaGreatDoor
