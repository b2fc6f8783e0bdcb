/- Lemmas for the statement of this claim, part F13: they hold with no conditions but those that each one names. -/
import Derived.Test.YtfcpapokknfeeaaGreatDoorF10
import Derived.Test.YtfcpapokknfeeaaGreatDoorF03
import Derived.Test.YtfcpapokknfeeaaGreatDoorA12
import Derived.Test.YtfcpapokknfeeaaGreatDoorA10
set_option linter.unusedVariables false
set_option maxRecDepth 20000
set_option linter.unusedSimpArgs false
set_option linter.unnecessarySimpa false
namespace Go.Proofs.YtfcpapokknfeeaaGreatDoor
open Go Go.Proofs Go.Abs
theorem Aj {l : Cl} (h : l.length ≤ 9) : (hd9 l).length = 9 := by unfold hd9; simp; omega
theorem WS {l : Cl} {n : Int} (h : l.length < 9) : (hd9 l).set l.length n = hd9 (l ++ [n]) := by unfold hd9;rw [List.set_append_right _ _ (Nat.le_refl _), Nat.sub_self, show 9 - l.length = (9 - (l.length + 1)) + 1 by omega, List.replicate_succ, List.set_cons_zero, List.length_append, List.length_singleton, List.append_assoc];rfl
theorem QU {l : Cl} (hl : ∀ n ∈ l, 0 ≤ n ∧ n ≤ 2147483647) : ∀ n ∈ hd9 l, 0 ≤ n ∧ n ≤ 2147483647 := fun n hn => by
 unfold hd9 at hn;rcases List.mem_append.1 hn with h | h
 ·exact hl n h
 ·have := List.eq_of_mem_replicate h; omega
theorem YE {l : Cl} (h : l.length = 9) : ∃ a0 a1 a2 a3 a4 a5 a6 a7 a8, l = [a0, a1, a2, a3, a4, a5, a6, a7, a8] := by
 match l, h with
 | [a0, a1, a2, a3, a4, a5, a6, a7, a8], _ => exact ⟨_, _, _, _, _, _, _, _, _, rfl⟩
theorem QV {s : S} {a b : Nat} {n : Int} (h : uZ s a = .ok (n, b)) : b ≤ s.length := by
 unfold uZ at h;split at h
 ·rename_i h1;simp only [Except.ok.injEq, Prod.mk.injEq] at h;rw [← h.2]
  revert h1
  unfold Eg;have hl : ((s.drop (a : Int).toNat).takeWhile dW).length ≤ (s.drop (a : Int).toNat).length := (List.takeWhile_sublist _).length_le;rw [List.length_drop] at hl;split
  ·intro h1; cases h1
  ·rename_i h0;split
   ·intro _;dsimp only;omega
   ·intro h1; cases h1
 ·cases h
theorem WT {l : Cl} {n : Int} (h : l.length < 9) : List.take (l.length * 1) ((hd9 l).map vi) ++ [vi n] ++ List.drop (l.length * 1 + 1) ((hd9 l).map vi) = (hd9 (l ++ [n])).map vi := by have hl := Aj (l := l) (by omega);rw [← WS h, List.map_set, List.set_eq_take_append_cons_drop, if_pos (by rw [List.length_map]; omega), Nat.mul_one];simp
theorem I7 {s : S} : ∀ {k a : Nat} {l l' : Cl} {b : Nat}, rZ s k a l = .ok (l', b) → (∀ n ∈ l, 0 ≤ n ∧ n ≤ 2147483647) → l.length + k ≤ 9 → (∀ n ∈ l', 0 ≤ n ∧ n ≤ 2147483647) ∧ l'.length ≤ 9
 | 0, a, l, l', b, h, hl, hk => by simp only [rZ, Except.ok.injEq, Prod.mk.injEq] at h;obtain ⟨rfl, rfl⟩ := h;exact ⟨hl, by omega⟩
 | k + 1, a, l, l', b, h, hl, hk => by
  unfold rZ at h;split at h
  ·cases hn : uZ s (a + 1) with
   | error e => rw [hn] at h; cases h
   | ok v =>
    obtain ⟨n, c⟩ := v;rw [hn] at h;dsimp only at h;have := o5 hn;refine I7 h (fun x hx => ?_) (by rw [List.length_append, List.length_singleton]; omega);rcases List.mem_append.1 hx with h | h
    ·exact hl x h
    ·rw [List.mem_singleton] at h; subst h; exact this
  ·simp only [Except.ok.injEq, Prod.mk.injEq] at h;obtain ⟨rfl, rfl⟩ := h;exact ⟨hl, by omega⟩
theorem Ak {s magic : S} {l : Cl} {b : Nat} (h : wQ s magic = .ok (l, b)) : ∃ a0 a1 a2 a3 a4 a5 a6, l = [a0, a1, a2, a3, a4, a5, a6, 0, 0] ∧ 0 ≤ a0 ∧ 0 ≤ a1 ∧ 0 ≤ a2 ∧ 0 ≤ a3 ∧ 0 ≤ a4 ∧ 0 ≤ a5 ∧ 0 ≤ a6 ∧ a0 ≤ 4000 ∧ a1 + a2 + a4 ≤ a0 ∧ a3 + a5 + a6 ≤ 4000 := by
 unfold wQ at h;split at h
 ·cases hL : rZ s 9 magic.length [] with
  | error e => rw [hL] at h; cases h
  | ok v =>
   obtain ⟨l', a⟩ := v;rw [hL] at h;dsimp only at h;obtain ⟨b1, b2⟩ := I7 hL (fun n hn => by cases hn) (by decide);split at h
   ·cases hb : y8 s 10 a with
    | error e => rw [hb] at h; cases h
    | ok c =>
     rw [hb] at h;dsimp only at h;split at h
     ·rename_i h78;split at h
      ·rename_i hlim;simp only [Except.ok.injEq, Prod.mk.injEq] at h;obtain ⟨rfl, rfl⟩ := h;have h9 := QU b1;obtain ⟨a0, a1, a2, a3, a4, a5, a6, a7, a8, hq⟩ := YE (Aj b2);rw [hq] at h78 hlim h9 ⊢;have e7 : a7 = 0 := h78.1;have e8 : a8 = 0 := h78.2;subst e7 e8;have hlim : (decide (a0 ≤ 4000) && decide (a1 + a2 + a4 ≤ a0) && decide (a3 + a5 + a6 ≤ 4000)) = true := hlim;simp only [Bool.and_eq_true, decide_eq_true_eq] at hlim;have c0 := h9 a0 (by simp); have c1 := h9 a1 (by simp); have c2 := h9 a2 (by simp); have c3 := h9 a3 (by simp); have c4 := h9 a4 (by simp); have c5 := h9 a5 (by simp); have c6 := h9 a6 (by simp);exact ⟨a0, a1, a2, a3, a4, a5, a6, rfl, by omega, by omega, by omega, by omega, by omega, by omega, by omega, by omega, by omega, by omega⟩
      ·cases h
     ·cases h
   ·cases h
 ·cases h
abbrev hR (k : Nat) (s : S) (a : Nat) (T : List V) (h X : H) : H := h.set k (rdT s a T) ++ X
theorem Fv {k a : Nat} {s : S} {T : List V} {h X : H} (hk : k < h.length) : (hR k s a T h X)[k]? = some (rdT s a T) := by rw [hR, List.getElem?_append_left (by simpa using hk), List.getElem?_set_self hk]
theorem I8 {k a b : Nat} {s : S} {T : List V} {h X : H} (hk : k < h.length) : (hR k s a T h X).set k (rdT s b T) = hR k s b T h X := by rw [hR, hR, List.set_append_left _ _ (by simpa using hk), List.set_set]
theorem oz {k a : Nat} {s : S} {T : List V} {h : H} {o : O} : (hR k s a T h [o])[h.length]? = some o := by rw [hR, List.getElem?_append_right (by simp)]; simp
theorem Ve {k a : Nat} {s : S} {T : List V} {h : H} {o q : O} : (hR k s a T h [o]).set h.length q = hR k s a T h [q] := by rw [hR, hR, List.set_append_right _ _ (by simp)]; simp
theorem Ze {k a : Nat} {s : S} {T : List V} {h X : H} (hk : h[k]? = some (rdT s a T)) : h ++ X = hR k s a T h X := by rw [hR, Gh hk]
set_option maxHeartbeats 4000000 in
theorem rM {k a0 : Nat} {s magic : S} {T : List V} {h : H} (hk : h[k]? = some (rdT s a0 T)) (hs : s.length ≤ 100000) {R : AEnd → H → (Nat → Bool) → Prop}
 (h1 : ∀ l b, wQ s magic = .ok (l, b) → R (.ret (.agg (l.map vi))) (hR k s b T h [.cells (l.map vi)]) (fun _ => false))
 (h2 : ∀ (w : Nat) (e : Int), wQ s magic = .error (w, e) → ∀ b X, R (.pan (gU w e)) (hR k s b T h X) (fun _ => false)) :
 ah TE 53 [.lp k 0, .str magic] h R := by
 have hM : maxLen = 9223372036854775807 := rfl;have hkl : k < h.length := (List.getElem?_eq_some_iff.1 hk).1;have hne : k ≠ h.length := by omega
 unfold wQ at h1 h2;refine ah.kp (fun _ => false) ?_;refine ay Tryz.func53 rfl (by simp [nts]) ?_;refine ag (vm ?_);simp only [wq.1, Nat.reduceLT, Tryz.results53];rw [Ze hk];refine ag (vm ?_);simp only [wq.1, seval, Fv hkl];refine ah.ev (N9 s magic) rfl ?_;simp only [wq.1, seval];refine aP _ 0 2 (fun hb => ?_) (fun hb => ?_)
 ·rw [if_pos hb] at h1 h2;have hml : magic.length ≤ s.length := by rw [List.isPrefixOf_iff_prefix] at hb; exact hb.length_le
  simp only [wq.1];refine ag (vm ?_);simp only [wq.1, seval, Fv hkl, I8 hkl];refine ag (vm ?_);simp only [wq.1, Nat.reduceLT];refine ag (bH (Q := fun xe f h' => (xe = .normal ∧ ∃ l a, rZ s 9 magic.length [] = .ok (l, a) ∧ a ≤ s.length ∧ l.length ≤ 9 ∧ (∀ n ∈ l, 0 ≤ n ∧ n ≤ 2147483647) ∧ f.t 0 = .lp k 0 ∧ f.t 4 = .lp h.length 0 ∧ f.t 5 = vi l.length ∧ f.d = [] ∧ (∀ j, f.k j = true → False) ∧ h' = hR k s a T h [.cells ((hd9 l).map vi)]) ∨ (∃ (w : Nat) (e : Int), xe = .pan (gU w e) ∧ rZ s 9 magic.length [] = .error (w, e) ∧ f.d = [] ∧ (∀ j, f.k j = true → False) ∧ ∃ b X, h' = hR k s b T h X)) ?_ ?_)
  ·rintro xe f h' (⟨rfl, l, a, hL, has, hl9, hlb, t0, t4, t5, hd, hk', rfl⟩ | ⟨w, e, rfl, hL, hd, hk', b, X, rfl⟩)
   ·rw [hL] at h1 h2;dsimp only at h1 h2;show awp _ _ _ _ _ _ _;refine ag (vm ?_);simp only [wq.1, seval, t0, t5, Fv hkl];refine aP _ _ 2 (fun hb5 => ?_) (fun hb5 => ?_)
    ·have hb5' : 5 ≤ l.length := by have := of_decide_eq_true hb5; omega
     rw [if_pos hb5'] at h1 h2;simp only [wq.1];refine ag (vm ?_);simp only [wq.1, seval, t0];refine kR (by omega) (Fv hkl) (fun he => ?_) (fun he => ?_)
     ·unfold y8 at h1 h2;rw [if_pos he] at h1 h2;dsimp only at h1 h2;rw [I8 hkl];have h9 := QU hlb;obtain ⟨a0, a1, a2, a3, a4, a5, a6, a7, a8, hq⟩ := YE (Aj hl9);rw [hq] at h1 h2 h9 ⊢;have c0 := h9 a0 (by simp); have c1 := h9 a1 (by simp); have c2 := h9 a2 (by simp); have c3 := h9 a3 (by simp); have c4 := h9 a4 (by simp); have c5 := h9 a5 (by simp); have c6 := h9 a6 (by simp);simp only [wq.1];by_cases h7 : a7 = 0
      ·by_cases h8 : a8 = 0
       ·rw [if_pos ⟨h7, h8⟩] at h1 h2;subst h7 h8;refine ag (vm ?_);simp only [wq.1, seval, -Int.reduceNatCast, -Int.reduceNatCast', au, Tryz.results53, t0, t4, t5, hd, oz];refine ⟨by decide, by decide, aP true 0 9 (fun _ => ?_) (fun h => by cases h)⟩;simp only [wq.1, seval, -Int.reduceNatCast, -Int.reduceNatCast', au, Tryz.results53, bD, t0, t4, t5, hd];have w1 : IntKind.i64.wrap (a1 + a2) = a1 + a2 := bu (by omega) (by omega);have w2 : IntKind.i64.wrap (a1 + a2 + a4) = a1 + a2 + a4 := bu (by omega) (by omega);have w3 : IntKind.i64.wrap (a3 + a5) = a3 + a5 := bu (by omega) (by omega);have w4 : IntKind.i64.wrap (a3 + a5 + a6) = a3 + a5 + a6 := bu (by omega) (by omega);rw [show OA [a0, a1, a2, a3, a4, a5, a6, 0, 0] = (decide (a0 ≤ 4000) && decide (a1 + a2 + a4 ≤ a0) && decide (a3 + a5 + a6 ≤ 4000)) from rfl] at h1 h2;cases b0 : decide (a0 ≤ 4000) with
        | false => rw [b0] at h2;refine ag (vm ?_);simp only [wq.1, seval, -Int.reduceNatCast, -Int.reduceNatCast', au, Tryz.results53, t0, t4, t5, hd, oz, b0, w1, w2, w3, w4];refine ⟨by decide, aP false 0 8 (fun h => by cases h) (fun _ => ?_)⟩;simp only [wq.1, seval, -Int.reduceNatCast, -Int.reduceNatCast', au, Tryz.results53, bI];simp only [XE.seq, bG];simp only [wq.1, seval, -Int.reduceNatCast, -Int.reduceNatCast', au, Tryz.results53, hd];exact ⟨hk', h2 _ _ rfl _ _⟩
        | true =>
         rw [b0] at h1 h2;cases b1 : decide (a1 + a2 + a4 ≤ a0) with
         | false => rw [b1] at h2;refine ag (vm ?_);simp only [wq.1, seval, -Int.reduceNatCast, -Int.reduceNatCast', au, Tryz.results53, t0, t4, t5, hd, oz, b0, b1, w1, w2, w3, w4];refine ⟨by decide, by decide, by decide, by decide, by decide, aP false 0 8 (fun h => by cases h) (fun _ => ?_)⟩;simp only [wq.1, seval, -Int.reduceNatCast, -Int.reduceNatCast', au, Tryz.results53, bI];simp only [XE.seq, bG];simp only [wq.1, seval, -Int.reduceNatCast, -Int.reduceNatCast', au, Tryz.results53, hd];exact ⟨hk', h2 _ _ rfl _ _⟩
         | true =>
          rw [b1] at h1 h2;cases b2 : decide (a3 + a5 + a6 ≤ 4000) with
          | false => rw [b2] at h2;refine ag (vm ?_);simp only [wq.1, seval, -Int.reduceNatCast, -Int.reduceNatCast', au, Tryz.results53, t0, t4, t5, hd, oz, b0, b1, b2, w1, w2, w3, w4];refine ⟨by decide, by decide, by decide, by decide, by decide, by decide, by decide, by decide, aP false 0 8 (fun h => by cases h) (fun _ => ?_)⟩;simp only [wq.1, seval, -Int.reduceNatCast, -Int.reduceNatCast', au, Tryz.results53, bI];simp only [XE.seq, bG];simp only [wq.1, seval, -Int.reduceNatCast, -Int.reduceNatCast', au, Tryz.results53, hd];exact ⟨hk', h2 _ _ rfl _ _⟩
          | true => rw [b2] at h1;refine ag (vm ?_);simp only [wq.1, seval, -Int.reduceNatCast, -Int.reduceNatCast', au, Tryz.results53, t0, t4, t5, hd, oz, b0, b1, b2, w1, w2, w3, w4];refine ⟨by decide, by decide, by decide, by decide, by decide, by decide, by decide, by decide, aP true 0 8 (fun _ => ?_) (fun h => by cases h)⟩;simp only [wq.1];refine ag (vm ?_);simp only [wq.1, seval, t4, oz, Ve];refine vm ?_;simp only [wq.1, seval, -Int.reduceNatCast, -Int.reduceNatCast', t4, hd, oz];exact ⟨hk', h1 _ _ rfl⟩
       ·rw [if_neg (fun hh => h8 hh.2)] at h2;have e8 : (a8 == 0) = false := by simpa using h8
        subst h7;refine ag (vm ?_);simp only [wq.1, seval, -Int.reduceNatCast, -Int.reduceNatCast', au, Tryz.results53, t0, t4, t5, hd, oz, e8];refine ⟨by decide, by decide, aP false 0 9 (fun h => by cases h) (fun _ => ?_)⟩;simp only [wq.1, bI];simp only [XE.seq, bG];simp only [wq.1, hd];exact ⟨hk', h2 _ _ rfl _ _⟩
      ·rw [if_neg (fun hh => h7 hh.1)] at h2;have e7 : (a7 == 0) = false := by simpa using h7
       refine ag (vm ?_);simp only [wq.1, seval, -Int.reduceNatCast, -Int.reduceNatCast', au, Tryz.results53, t0, t4, t5, hd, oz, e7];refine ⟨by decide, aP false 0 9 (fun h => by cases h) (fun _ => ?_)⟩;simp only [wq.1, bI];simp only [XE.seq, bG];simp only [wq.1, hd];exact ⟨hk', h2 _ _ rfl _ _⟩
     ·unfold y8 at h1 h2;rw [if_neg (by rw [he]; decide)] at h1 h2;simp only [wq.1, bI];simp only [XE.seq, bG];simp only [wq.1, hd];exact ⟨hk', h2 _ _ rfl _ _⟩
    ·have hb5' : ¬ 5 ≤ l.length := by have := of_decide_eq_false hb5; omega
     rw [if_neg hb5'] at h1 h2;simp only [wq.1, bI];simp only [XE.seq, bG];simp only [wq.1, hd];exact ⟨hk', h2 _ _ rfl _ _⟩
   ·rw [hL] at h2;simp only [XE.seq, bG];simp only [wq.1, hd];exact ⟨hk', h2 w e rfl b X⟩
  ·refine az ?_;refine aA (fun mm f h' => ∃ (l : Cl) (a : Nat), mm + l.length = 9 ∧ rZ s 9 magic.length [] = rZ s (9 - l.length) a l ∧ a ≤ s.length ∧ (∀ n ∈ l, 0 ≤ n ∧ n ≤ 2147483647) ∧ f.t 0 = .lp k 0 ∧ f.t 4 = .lp h.length 0 ∧ f.t 5 = vi l.length ∧ f.d = [] ∧ (∀ j, f.k j = true → False) ∧ h' = hR k s a T h [.cells ((hd9 l).map vi)]) 9 ⟨[], magic.length, rfl, rfl, hml, (fun n hn => by cases hn), by simp only [wq.1, seval], by simp only [wq.1, seval], rfl, rfl, (fun j hj => by cases hj), rfl⟩ ?_;rintro mm f h' ⟨l, a, hm, hL, has, hlb, t0, t4, t5, hd, hk', rfl⟩;by_cases hl9 : l.length < 9
   ·have e1 : decide ((l.length : Int) < 9) = true := by simp; omega
    obtain ⟨j, hj⟩ : ∃ j, 9 - l.length = j + 1 := ⟨8 - l.length, by omega⟩;rw [hj, show rZ s (j + 1) a l = (if yU s a 32 = true then (match uZ s (a + 1) with
     | .ok (n, b) => rZ s j b (l ++ [n])
     | .error e => .error e) else .ok (l, a)) from rfl] at hL
    refine ag ?_;refine vm ?_;simp only [wq.1, seval, t0, t5, e1];refine vk 32 (Fv hkl) ?_;simp only [wq.1, seval];cases hi : yU s a 32 with
    | true =>
     have hlt := yV hi;have hw := ak (show a < maxLen by omega);have hwl := ak (show l.length < maxLen by omega);rw [if_pos hi] at hL;simp only [wq.1];refine ag (az ?_);refine ag (vm ?_);simp only [wq.1, seval, t0, Fv hkl, I8 hkl, hw];refine vm ?_;simp only [wq.1, seval, t0, t5];refine iF hs (Fv hkl) (fun n b hn => ?_) (fun hn => ?_)
     ·rw [hn] at hL;have hnn := o5 hn;rw [I8 hkl];have hb : b ≤ s.length := QV hn;simp only [wq.1, seval, t4, oz];refine ⟨⟨by omega, by omega⟩, by rw [Aj (by omega)]; omega, ?_⟩;refine vm ?_;simp only [wq.1, seval, t5, hwl, Ve];rw [WT hl9];refine .inl ⟨mm - 1, by omega, l ++ [n], b, by rw [List.length_append, List.length_singleton]; omega, ?_, hb, ?_, by simp only [wq.1, seval, t0], by simp only [wq.1, seval, t4], by simp only [wq.1, ↓reduceIte], by simp only [wq.1, hd], hk', rfl⟩
      ·rw [hL, List.length_append, List.length_singleton, show 9 - (l.length + 1) = j by omega]
      ·intro x hx;rcases List.mem_append.1 hx with h | h
       ·exact hlb x h
       ·rw [List.mem_singleton] at h; subst h; exact hnn
     ·rw [hn] at hL;simp only [wq.1, bI, hd];simp only [XE.block, XE.seq];simp only [wq.1, seval, hd];exact .inr ⟨_, _, rfl, hL, hk', _, _, rfl⟩
    | false => rw [if_neg (by rw [hi]; decide)] at hL;simp only [wq.1, seval, t0, t4, t5, hd];exact .inl ⟨l, a, hL, has, by omega, hlb, rfl, hk', rfl⟩
   ·have e1 : decide ((l.length : Int) < 9) = false := by simp; omega
    have hl : l.length = 9 := by omega
    rw [hl] at hL;refine ag ?_;refine vm ?_;simp only [wq.1, seval, t0, t5, e1];refine ⟨.bool true, ?_⟩;simp only [wq.1, seval, t0, t4, t5, hd];exact .inl ⟨l, a, hL, has, by omega, hlb, rfl, hk', rfl⟩
 ·rw [if_neg (by rw [hb]; decide)] at h2;simp only [wq.1, bI];simp only [XE.seq, bG];simp only [wq.1];exact h2 _ _ rfl _ _
theorem lQ {s : S} {k : Nat} {h : H} {K : H → (Nat → Bool) → Prop} (hK : ∀ X, K (h ++ [X]) (fun _ => false)) : lG TE 52 [.str s, .lp k 0] h K := by
 have hgE : ∀ x : O, (h ++ [x])[h.length]? = some x := fun x => by simp
 have hgS : ∀ x y : O, (h ++ [x]).set h.length y = h ++ [y] := fun x y => by simp
 refine wJ rfl Tryz.func52 rfl rfl (by simp [nts]) rfl (fun ev w => rfl) rfl (by decide) ?_;simp only [nts];refine dO rfl rfl ?_;refine ut (x := .tmp 7) (t := 153) (q := ⟨.struct [(0, 3), (1, 31)], 2, 16, .agg [vi 0, vi 0]⟩) rfl (by simp only [wq.1]) (by simp only [wq.1, ↓reduceIte]) (by simp only [wq.1, ↓reduceIte]) ?_;refine aB rfl rfl ?_;simp only [wq.1, ↓reduceIte];refine aB rfl rfl ?_;simp only [wq.1, seval];refine aB rfl rfl ?_;simp only [wq.1, seval];refine aB rfl rfl ?_;simp only [wq.1];refine aB rfl rfl ?_;simp only [wq.1, seval, hgE, hgS];refine aB rfl rfl ?_;simp only [wq.1, seval];refine eX ?_;show awp _ _ _ _ _ _ _;refine vm ?_;simp only [wq.1, seval];exact hK _
theorem o6 {s : S} {k : Nat} {h : H} {d1 d2 d3 : V} {K : H → (Nat → Bool) → Prop} (a : Nat) (e : Int) (hs : s.length ≤ 1000000000) (hk : h[k]? = some (.cells [d1, d2, d3])) (hK : ∀ X, K (h.set k (.cells (bZ s a e).vc) ++ [X]) (fun _ => false)) :
 uo TE 52 [.str s, .lp k 0] (gU a e) h K := by
 have hgE : ∀ x : O, (h ++ [x])[h.length]? = some x := fun x => by simp
 have hgS : ∀ x y : O, (h ++ [x]).set h.length y = h ++ [y] := fun x y => by simp
 have hkl : k < h.length := (List.getElem?_eq_some_iff.1 hk).1;have hgk : ∀ x : O, (h ++ [x])[k]? = some (.cells [d1, d2, d3]) := fun x => by rw [List.getElem?_append_left hkl]; exact hk
 have hsk : ∀ x y : O, (h ++ [x]).set k y = h.set k y ++ [x] := fun x y => by rw [List.set_append_left _ _ hkl]
 refine wI rfl Tryz.func52 rfl rfl (by simp [nts]) rfl (fun ev w => rfl) rfl (by decide) ?_;simp only [nts];refine aB rfl rfl ?_;simp only [wq.1, ↓reduceIte];refine ⟨by decide, ?_⟩;refine aB rfl rfl ?_;simp only [wq.1, ↓reduceIte];refine aB rfl rfl ?_;simp only [wq.1, seval];refine aB rfl rfl ?_;simp only [wq.1, seval];refine aB rfl rfl ?_;simp only [wq.1];refine aB rfl rfl ?_;simp only [wq.1, seval, hgE, hgS];refine aB rfl rfl ?_;simp only [wq.1, seval];refine eX ?_;show awp _ _ _ _ _ _ _;have hf : ∃ x y z, bZ s a e = .agg [vi x, vi y, vi z] := by unfold bZ; split <;> exact ⟨_, _, _, rfl⟩
 obtain ⟨x, y, z, hf⟩ := hf;rw [hf] at hK;have hsf := TB s a e hs;rw [hf] at hsf;refine ag (vm ?_);simp only [wq.1, seval];refine vm ?_;simp only [wq.1, seval, hgE];refine ah.ev hsf rfl ?_;simp only [wq.1, seval, hgk, hsk];exact hK _
theorem wS {k a : Nat} {s : S} {T : List V} {h : H} {R : AEnd → H → (Nat → Bool) → Prop} (ha : a ≤ s.length) (hk : h[k]? = some (rdT s a T))
 (hr : R (.ret (.bool (WJ s a))) h (fun _ => false)) : ah TE 64 [.lp k 0] h R := by
 have hp := N9 (s.drop a) [99, 10];unfold WJ at hr;cases hb : ([99, 10] : S).isPrefixOf (s.drop a) with
 | true => rw [hb] at hp hr;refine ay Tryz.func64 rfl (by simp [nts]) (vm ?_);simp only [wq.1, seval, Tryz.results64, hk];refine ⟨by decide +kernel, ⟨by omega, by omega⟩, tZ.mk hp rfl rfl ?_⟩;simp only [wq.1, seval, hk];exact hr
 | false => rw [hb] at hp hr;refine ay Tryz.func64 rfl (by simp [nts]) (vm ?_);simp only [wq.1, seval, Tryz.results64, hk];refine ⟨by decide +kernel, ⟨by omega, by omega⟩, tZ.mk hp rfl rfl ?_⟩;simp only [wq.1, seval, hk];exact ⟨⟨by omega, by omega⟩, hr⟩
theorem Am (c : UInt8) : ∀ l : S, Lib.indexByte l c = (match l.findIdx? (· == c) with | some i => (i : Int) | none => -1)
 | [] => rfl
 | b :: l => by
  unfold Lib.indexByte;rw [List.findIdx?_cons, Am c l];by_cases hb : (b == c) = true
  ·rw [if_pos hb, if_pos hb];rfl
  ·rw [if_neg hb, if_neg hb];cases h : l.findIdx? (· == c) with
   | none => rfl
   | some i => show (if ((i : Int) == -1) = true then (-1 : Int) else (i : Int) + 1) = _;rw [if_neg (by simp)];rfl
theorem QW {c : UInt8} (h : U8 c = none) : Lib.indexByte [105, 108, 111, 98, 99] c = -1 := by unfold U8 at h;rw [Am, h]
theorem D9 {c : UInt8} {k : Nat} (h : U8 c = some k) : Lib.indexByte [105, 108, 111, 98, 99] c = k ∧ k < 5 := by unfold U8 at h;rw [Am, h];exact ⟨rfl, (List.findIdx?_eq_some_iff_getElem.1 h).1⟩
abbrev rwS (L : List (List S)) (k : Nat) : O := .cells ((L.getD k []).map V.str)
abbrev lsS (L : List (List S)) (k : Nat) : V := .ls (3 + k) 1 0 (L.getD k []).length (L.getD k []).length
abbrev hS (many : Cl) (s : S) (a : Nat) (L : List (List S)) : H :=
 [.cells (many.map vi), .cells [lsS L 0, lsS L 1, lsS L 2, lsS L 3, lsS L 4], .cells [vi 0, vi 0, vi 0], rwS L 0, rwS L 1, rwS L 2, rwS L 3, rwS L 4, rdT s a []]
theorem YF {L : List (List S)} (h : L.length = 5) : ∃ l0 l1 l2 l3 l4, L = [l0, l1, l2, l3, l4] := by
 match L, h with
 | [l0, l1, l2, l3, l4], _ => exact ⟨_, _, _, _, _, rfl⟩
theorem WU {L : List (List S)} {k : Nat} (hk : k < 5) : [lsS L 0, lsS L 1, lsS L 2, lsS L 3, lsS L 4].getD (k * 1) V.any = lsS L k := by rcases k with _|_|_|_|_|k <;> first | rfl | omega
theorem Vf {many : Cl} {s : S} {a : Nat} {L : List (List S)} {k : Nat} (hk : k < 5) : (hS many s a L)[3 + k]? = some (rwS L k) := by rcases k with _|_|_|_|_|k <;> first | rfl | omega
theorem Vg {many : Cl} {s : S} {a : Nat} {L : List (List S)} {k N : Nat} {nm : S} (hL : L.length = 5) (hk : k < 5) : (hS many s a L).set (3 + k) (.cells (((L.getD k []).set N nm).map V.str)) = hS many s a (L.set k ((L.getD k []).set N nm)) := by
 obtain ⟨l0, l1, l2, l3, l4, rfl⟩ := YF hL;rcases k with _|_|_|_|_|k
 ·simp [hS, lsS, rwS]
 ·simp [hS, lsS, rwS]
 ·simp [hS, lsS, rwS]
 ·simp [hS, lsS, rwS]
 ·simp [hS, lsS, rwS]
 ·omega
theorem QX {l : List S} {N : Nat} {nm : S} (h : N < l.length) : List.take (N * 1) (l.map V.str) ++ [V.str nm] ++ List.drop (N * 1 + 1) (l.map V.str) = (l.set N nm).map V.str := by rw [List.map_set, List.set_eq_take_append_cons_drop, if_pos (by rw [List.length_map]; omega), Nat.mul_one];simp
def QY : Plan := .take 0 <| .take 2 <| .take 3 <| .take 4 <| .alt 1 (.one 5 <| .one 6 <| .fin) (.one 5 (.one 1 <| .one 6 <| .fin))
set_option maxHeartbeats 4000000 in
theorem Fz {many : Cl} {s : S} {L : List (List S)} {a : Nat} (hL : L.length = 5) (hLb : ∀ l ∈ L, l.length ≤ 4000) (hs : s.length ≤ 100000) (ha : a < s.length) {R : AEnd → H → (Nat → Bool) → Prop}
 (h1 : ∀ L' b, vg s L a = .ok (L', b) → R (.ret (.tup [])) (hS many s b L') (fun _ => false))
 (h2 : ∀ (w : Nat) (e : Int), vg s L a = .error (w, e) → ∀ b, R (.pan (gU w e)) (hS many s b L) (fun _ => false)) : ah TE 65 [.lp 8 0, .lp 1 0] (hS many s a L) R := by
 have hM : maxLen = 9223372036854775807 := rfl;have hga : s.getD a 0 = s[a] := aO ha;have hib := Yo [105, 108, 111, 98, 99] (s[a].toNat) (UInt8.toNat_lt _);rw [UInt8.ofNat_toNat] at hib;unfold vg at h1 h2;rw [hga] at h1 h2;refine ah.kp (fun _ => false) ?_;refine ay Tryz.func65 rfl (by simp [nts]) ?_;refine ag (vm ?_);simp only [wq.1, seval, Tryz.results65];refine ag ?_;refine vm ?_;simp only [wq.1, seval, hga];refine ⟨by decide +kernel, ⟨by omega, by omega⟩, tZ.mk hib rfl rfl ?_⟩;simp only [wq.1, seval];cases hk : U8 s[a] with
 | none => rw [hk] at h2;rw [QW hk];refine ag (vm ?_);simp only [wq.1, seval];refine aP false _ 2 (fun h => by cases h) (fun _ => ?_);simp only [wq.1, Int.reduceNeg, bI];simp only [XE.seq, bG];simp only [wq.1, Int.reduceNeg];exact h2 _ _ rfl _
 | some k =>
  rw [hk] at h1 h2;dsimp only at h1 h2;obtain ⟨hki, hk5⟩ := D9 hk;have hk0 : decide ((0 : Int) ≤ (k : Int)) = true := by simp
  have hw := ak (show a < maxLen by omega);rw [hki];refine ag (vm ?_);simp only [wq.1, seval, hk0];refine aP true _ 2 (fun _ => ?_) (fun h => by cases h);simp only [wq.1];refine ag (vm ?_);simp only [wq.1, seval, hw];refine ag (vm ?_);simp only [wq.1, seval];refine ag (vm ?_);simp only [wq.1, seval];refine iF (k := 8) (a := a + 1) (s := s) (T := []) hs rfl (fun n b hn => ?_) (fun hn => ?_)
  ·rw [hn] at h1 h2;dsimp only at h1 h2;have hnn := o5 hn;have hbl := QV hn;simp only [wq.1, seval];refine ag (vm ?_);simp only [wq.1, seval];refine jU (k := 8) (s := s) (a := b) (T := []) (by omega) rfl (fun hb => ?_) (fun hb => ?_)
   ·unfold y8 at h1 h2;rw [if_pos hb] at h1 h2;dsimp only at h1 h2;have hblt := yV hb;have hcut := Yp (s.drop (b + 1)) 10 (by rw [List.length_drop]; omega);obtain ⟨nm, hnm⟩ : ∃ nm, nm = (s.drop (b + 1)).takeWhile (· != 10) := ⟨_, rfl⟩;rw [← hnm] at h1 h2;simp only [wq.1];refine ag ?_;refine vm ?_;simp only [wq.1, seval];rcases uJ 10 (s.drop (b + 1)) with ⟨m1, m2, m3⟩ | ⟨m1, m2⟩
    ·have hcv : UX (s.drop (b + 1)) 10 = .tup [.str (s.drop (b + 1)), .str [], .bool false] := by unfold UX; rw [if_pos (by omega)]
     rw [hcv] at hcut;rw [← hnm] at m3;have hge : ¬ b + 1 + nm.length < s.length := by rw [m3, List.length_drop]; omega
     rw [if_neg hge] at h2;refine ⟨by decide +kernel, ⟨by omega, by omega⟩, tZ.mk hcut rfl rfl ?_⟩;simp only [wq.1, seval];refine ag (vm ?_);simp only [wq.1, seval];refine aP false _ 2 (fun h => by cases h) (fun _ => ?_);simp only [wq.1, bI];simp only [XE.seq, bG];simp only [wq.1];exact h2 _ _ rfl _
    ·have hcv : UX (s.drop (b + 1)) 10 = .tup [.str nm, .str ((s.drop (b + 1)).drop (nm.length + 1)), .bool true] := by unfold UX; rw [if_neg (by omega), hnm]
     rw [hcv] at hcut;rw [← hnm] at m1 m2;rw [List.length_drop] at m2;have hlt : b + 1 + nm.length < s.length := by omega
     rw [if_pos hlt] at h1 h2;refine ⟨by decide +kernel, ⟨by omega, by omega⟩, tZ.mk hcut rfl rfl ?_⟩;simp only [wq.1, seval];refine ag (vm ?_);simp only [wq.1, seval];refine aP true _ 2 (fun _ => ?_) (fun h => by cases h);simp only [wq.1];obtain ⟨N, rfl⟩ : ∃ N : Nat, n = N := ⟨n.toNat, by omega⟩;have hls := WU (L := L) hk5;have hrw := Vf (many := many) (s := s) (a := b + 1) (L := L) hk5;have hset := Vg (many := many) (s := s) (a := b + 1) (L := L) (N := N) (nm := nm) hL hk5;obtain ⟨l, hl⟩ : ∃ l, l = L.getD k [] := ⟨_, rfl⟩;have hll : l.length ≤ 4000 := by
      rw [hl, aO (by omega)]; exact hLb _ (List.getElem_mem _)
     unfold rwS at hrw;unfold lsS at hls;rw [← hl] at h1 h2 hls hrw hset;obtain ⟨H, hH⟩ : ∃ H, H = hS many s (b + 1) L := ⟨_, rfl⟩;have H1 : H[1]? = some (.cells [lsS L 0, lsS L 1, lsS L 2, lsS L 3, lsS L 4]) := by rw [hH]; rfl
     have H8 : H[8]? = some (rdT s (b + 1) []) := by rw [hH]; rfl
     show awp _ _ _ _ _ _ (hS many s (b + 1) L);rw [← hH] at hrw hset ⊢;by_cases hnl : N < l.length
     ·have hnl' : decide ((N : Int) < (l.length : Int)) = true := by simpa using hnl
      rw [if_pos (by omega)] at h1 h2;rw [Int.toNat_natCast] at h1 h2;have hsn : (l.map V.str).getD (N * 1) V.any = V.str l[N] := by rw [Nat.mul_one]; simp [List.getD_eq_getElem?_getD, hnl]
      have hgN : l.getD N [] = l[N] := aO hnl;refine ag (vm ?_);simp only [wq.1, seval, H1, hls, hnl'];refine ⟨⟨by omega, by omega⟩, by omega, ?_⟩;refine aP true _ 1 (fun _ => ?_) (fun h => by cases h);simp only [wq.1];have hnmE := Gf nm;refine ag (iT mixed QY (fun f' h' => jC nm = true ∧ f'.t 0 = .lp 8 0 ∧ f'.t 1 = .lp 1 0 ∧ f'.t 4 = vi a ∧ f'.t 5 = vi k ∧ f'.t 7 = vi N ∧ f'.t 8 = .str nm ∧ f'.d = [] ∧ (∀ j, f'.k j = true → False) ∧ h' = H) [] (fun v d kk t h' => d = [] ∧ (∀ j, kk j = true → False) ∧ jC nm = false ∧ v = gU ((b + 1 : Nat) : Int) 4 ∧ h' = H) (by decide +kernel) (by decide +kernel) ?_ ?_ ?_)
      ·simp only [wq.1, seval, QY, H8]
       repeat' apply And.intro
       all_goals
        refine ah.ev hnmE rfl ?_;simp only [wq.1, seval, H8];refine aP _ _ 4 (fun hb => ?_) (fun hb => ?_)
        ·simp only [wq.1, seval, iU];exact hb
        ·simp only [wq.1, bI, mQ];exact hb
      ·rintro f' h' ⟨hok, t0, t1, t4, t5, t7, t8, hd, hkk, rfl⟩;show awp _ _ _ _ _ _ _;rw [if_pos hok, hgN] at h1 h2;refine ag (vm ?_);simp only [wq.1, seval, H1, hls, hrw, hsn, t1, t4, t5, t7];refine ⟨⟨by omega, by omega⟩, by omega, ⟨by omega, by omega⟩, by omega, aP _ _ 5 (fun hb => ?_) (fun hb => ?_)⟩
       ·have hb' : l[N] = [] := eq_of_beq hb;rw [if_pos hb'] at h1;simp only [wq.1];refine ag (vm ?_);simp only [wq.1, seval, H1, hls, hrw, t1, t5, t7, t8];refine ⟨⟨by omega, by omega⟩, by omega, ⟨by omega, by omega⟩, by omega, ?_⟩;rw [QX hnl, hset];have w1 := ak (show nm.length < maxLen by omega);have w2 : IntKind.i64.wrap (((b + 1 : Nat) : Int) + ((nm.length + 1 : Nat) : Int)) = ((b + 1 + nm.length + 1 : Nat) : Int) := by rw [bu (by omega) (by omega)]; omega
        refine vm ?_;simp only [wq.1, seval, t0, t8, hd, w1, w2];exact ⟨hkk, h1 _ _ rfl⟩
       ·have hb' : l[N] ≠ [] := by simpa using hb
        rw [if_neg hb'] at h2;simp only [wq.1, bI];simp only [XE.seq, bG];simp only [wq.1, hd];refine ⟨hkk, ?_⟩;rw [hH];exact h2 _ _ rfl _
      ·rintro v f' h' ⟨hd, hkk, hok, rfl, rfl⟩;rw [if_neg (by rw [hok]; decide)] at h2;simp only [XE.seq, bG];simp only [wq.1, hd];refine ⟨hkk, ?_⟩;rw [hH];exact h2 _ _ rfl _
     ·have hnl' : decide ((N : Int) < (l.length : Int)) = false := by simpa using hnl
      rw [if_neg (by omega)] at h2;refine ag (vm ?_);simp only [wq.1, seval, H1, hls, hnl'];refine ⟨⟨by omega, by omega⟩, by omega, ?_⟩;refine aP false _ 1 (fun h => by cases h) (fun _ => ?_);simp only [wq.1, bI];simp only [XE.seq, bG];simp only [wq.1];rw [hH];exact h2 _ _ rfl _
   ·unfold y8 at h2;rw [if_neg (by rw [hb]; decide)] at h2;simp only [wq.1, bI];simp only [XE.seq, bG];simp only [wq.1];exact h2 _ _ rfl _
  ·rw [hn] at h2;simp only [wq.1, bI];simp only [XE.seq, bG];simp only [wq.1];exact h2 _ _ rfl _
end Go.Proofs.YtfcpapokknfeeaaGreatDoor
