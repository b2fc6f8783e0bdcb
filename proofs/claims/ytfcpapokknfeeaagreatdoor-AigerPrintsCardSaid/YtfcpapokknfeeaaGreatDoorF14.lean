/- Lemmas for the statement of this claim, part F14: they hold with no conditions but those that each one names. -/
import Derived.Test.YtfcpapokknfeeaaGreatDoorF13
import Derived.Test.YtfcpapokknfeeaaGreatDoorA12
import Derived.Test.YtfcpapokknfeeaaGreatDoorA9
import Derived.Test.YtfcpapokknfeeaaGreatDoorF12
set_option linter.unusedVariables false
set_option maxRecDepth 20000
set_option linter.unusedSimpArgs false
set_option linter.unnecessarySimpa false
namespace Go.Proofs.YtfcpapokknfeeaaGreatDoor
open Go Go.Proofs Go.Abs
theorem xR {e : Int} {d2 d3 : V} {cs : List V} {h : H} {K : H → (Nat → Bool) → Prop} (h1 : h[1]? = some (.cells cs)) (hc : cs.length = 5) (h2 : h[2]? = some (.cells [vi e, d2, d3]))
 (hK0 : e = 0 → K h (fun _ => false)) (hK1 : e ≠ 0 → K (h.set 1 (.cells [.nils, .nils, .nils, .nils, .nils])) (fun _ => false)) : lG TE 63 [.lp 2 0, .lp 1 0] h K := by
 refine rQ rfl Tryz.func63 rfl rfl (by simp [nts]) ?_;simp only [nts];by_cases he : e = 0
 ·have he' : (e != 0) = false := by simpa using he
  refine vm ?_;simp only [wq.1, seval, h2, he'];exact hK0 he
 ·have he' : (e != 0) = true := by simpa using he
  refine vm ?_;simp only [wq.1, seval, h2, h1, he'];refine ⟨by omega, ?_⟩;rw [List.drop_eq_nil_of_le (by omega)];exact hK1 he
theorem WV {s : S} {a b : Nat} {n : Int} (h : uZ s a = .ok (n, b)) : a ≤ b := by
 unfold uZ at h;split at h
 ·rename_i h1;simp only [Except.ok.injEq, Prod.mk.injEq] at h;rw [← h.2]
  revert h1
  unfold Eg;split
  ·intro h1; cases h1
  ·split
   ·intro _;dsimp only;omega
   ·intro h1; cases h1
 ·cases h
theorem I9 {s : S} {L L' : List (List S)} {a b : Nat} (h : vg s L a = .ok (L', b)) (hL : L.length = 5) (hLb : ∀ l ∈ L, l.length ≤ 4000) : a < b ∧ b ≤ s.length ∧ L'.length = 5 ∧ ∀ l ∈ L', l.length ≤ 4000 := by
 unfold vg at h;cases hk : U8 (s.getD a 0) with
 | none => rw [hk] at h; cases h
 | some k =>
  obtain ⟨_, hk5⟩ := D9 hk;rw [hk] at h;dsimp only at h;cases hn : uZ s (a + 1) with
  | error e => rw [hn] at h; cases h
  | ok nb =>
   obtain ⟨n, b1⟩ := nb;rw [hn] at h;dsimp only at h;have hge := WV hn;unfold y8 at h;split at h
   ·cases h
   ·rename_i b2 hb;split at hb
    ·cases hb;split at h
     ·split at h
      ·split at h
       ·split at h
        ·simp only [Except.ok.injEq, Prod.mk.injEq] at h;obtain ⟨rfl, rfl⟩ := h;refine ⟨by omega, by omega, by rw [List.length_set]; exact hL, fun l hl => ?_⟩;rcases List.mem_or_eq_of_mem_set hl with h | h
         ·exact hLb l h
         ·rw [h, List.length_set, aO (by omega)];exact hLb _ (List.getElem_mem _)
        ·cases h
       ·cases h
      ·cases h
     ·cases h
    ·cases hb
theorem Uu {s : S} {a w : Nat} {e : Int} (h : uZ s a = .error (w, e)) : w = a ∧ e = 3 := by
 unfold uZ at h;split at h
 ·cases h
 ·simp only [Except.error.injEq, Prod.mk.injEq] at h;exact ⟨h.1.symm, h.2.symm⟩
theorem Ea {s : S} {L : List (List S)} {a w : Nat} {e : Int} (h : vg s L a = .error (w, e)) : e ≠ 0 := by
 unfold vg at h;cases hk : U8 (s.getD a 0) with
 | none => rw [hk] at h; simp only [Except.error.injEq, Prod.mk.injEq] at h; omega
 | some k =>
  rw [hk] at h;dsimp only at h;cases hn : uZ s (a + 1) with
  | error e => obtain ⟨w', e'⟩ := e;rw [hn] at h;have := Uu hn;simp only [Except.error.injEq, Prod.mk.injEq] at h;omega
  | ok nb =>
   obtain ⟨n, b1⟩ := nb;rw [hn] at h;dsimp only at h;unfold y8 at h
   repeat' split at h
   all_goals first
    | cases h; done
    | (simp only [Except.error.injEq, Prod.mk.injEq] at h; omega)
    | (rename_i hb; split at hb <;> first | cases hb; done | (simp only [Except.error.injEq] at hb h; subst hb; simp only [Prod.mk.injEq] at h; omega))
def xU (k : Nat) : UInt8 := [(105 : UInt8), 108, 111, 98, 99].getD k 0
theorem dN {c : UInt8} : ∀ {l : List S} {i : Nat}, (lL c i l).length = l.length
 | [], i => rfl
 | x :: l, i => by unfold lL; rw [List.length_cons, dN, List.length_cons]
theorem Ja {c : UInt8} : ∀ {l : List S} {b i : Nat} (h : i < l.length), (lL c b l)[i]'(by rw [dN]; exact h) = if l[i] = [] then c :: Lib.itoa ((b + i : Nat) : Int) else l[i]
 | x :: l, b, 0, h => rfl
 | x :: l, b, i + 1, h => by have := Ja (c := c) (l := l) (b := b + 1) (i := i) (by simpa using h);unfold lL;simp only [List.getElem_cons_succ];rw [this, show b + 1 + i = b + (i + 1) by omega]
def jg (c : UInt8) (i : Nat) (l : List S) : List S := (lL c 0 l).take i ++ l.drop i
theorem WW {c : UInt8} {l : List S} : jg c 0 l = l := by simp [jg]
theorem QZ {c : UInt8} {l : List S} : jg c l.length l = lL c 0 l := by unfold jg;rw [List.drop_length, List.append_nil, List.take_of_length_le (by rw [dN]; exact Nat.le_refl _)]
theorem Eb {c : UInt8} {i : Nat} {l : List S} (h : i ≤ l.length) : (jg c i l).length = l.length := by unfold jg;rw [List.length_append, List.length_take, List.length_drop, dN]; omega
theorem Jb {c : UInt8} {i : Nat} {l : List S} (h : i < l.length) : (jg c i l)[i]'(by rw [Eb (by omega)]; exact h) = l[i] := by unfold jg;rw [List.getElem_append_right (by rw [List.length_take, dN]; omega)];simp [List.length_take, dN, Nat.min_eq_left (Nat.le_of_lt h)]
theorem xW {c : UInt8} {i : Nat} {l : List S} (h : i < l.length) : jg c (i + 1) l = (jg c i l).set i (if l[i] = [] then c :: Lib.itoa (i : Int) else l[i]) := by have hf := Ja (c := c) (b := 0) h;rw [Nat.zero_add] at hf;unfold jg;rw [List.take_add_one, List.getElem?_eq_getElem (by rw [dN]; exact h), hf, List.set_append_right _ _ (by rw [List.length_take, dN]; omega), List.length_take, dN, Nat.min_eq_left (by omega), Nat.sub_self, List.drop_eq_getElem_cons h, List.set_cons_zero, Option.toList_some, List.append_assoc];rfl
def Lk (L : List (List S)) (k : Nat) : List (List S) := (List.range 5).map fun j => if j < k then lL (xU j) 0 (L.getD j []) else L.getD j []
theorem Q3 {L : List (List S)} {k : Nat} : (Lk L k).length = 5 := by simp [Lk]
theorem YG {L : List (List S)} {k : Nat} (h : k < 5) : (Lk L k).getD k [] = L.getD k [] := by unfold Lk;rw [List.getD_eq_getElem?_getD, List.getElem?_map, List.getElem?_range h];simp
theorem ZC {L : List (List S)} (h : L.length = 5) : Lk L 0 = L := by obtain ⟨l0, l1, l2, l3, l4, rfl⟩ := YF h;rfl
theorem ZE {L : List (List S)} : Lk L 5 = KH L := rfl
theorem WX {L : List (List S)} {k : Nat} (h : k < 5) : (Lk L k).set k (lL (xU k) 0 (L.getD k [])) = Lk L (k + 1) := by
 rcases k with _|_|_|_|_|k
 ·rfl
 ·rfl
 ·rfl
 ·rfl
 ·rfl
 ·omega
theorem YH {L : List (List S)} {k : Nat} {r : List S} (h : k < L.length) : (L.set k r).getD k [] = r := by rw [List.getD_eq_getElem?_getD, List.getElem?_set_self h]; rfl
theorem KQ {k : Nat} (h : k < 5) : (([105, 108, 111, 98, 99] : S).drop k).take (k + 1 - k) = [xU k] := by
 rcases k with _|_|_|_|_|k
 ·rfl
 ·rfl
 ·rfl
 ·rfl
 ·rfl
 ·omega
def Vh : Plan := .take 0 <| .take 1 <| .take 3 <| .take 4 <| .take 5 <| .take 6 <| .take 7 <| .take 8 <| .alt 2 (.one 9 <| .one 10 <| .take 11 <| .one 12 <| .fin) (.one 9 (.alt 2 (.one 10 <| .take 11 <| .one 12 <| .fin) (.one 10 (.one 2 <| .take 11 <| .one 12 <| .fin))))
def KR (s : S) (many : Cl) (a : Nat) : V := match Ej s many a with
 | .error (w, e) => .tup [.agg [aV [], aV [], aV [], aV [], aV []], bZ s w e]
 | .ok N => .tup [.agg [aV (N.getD 0 []), aV (N.getD 1 []), aV (N.getD 2 []), aV (N.getD 3 []), aV (N.getD 4 [])], .agg [vi 0, vi 0, vi 0]]
def hMk (many : Cl) (L : List (List S)) : Nat → H
 | 0 => [.cells (many.map vi), .cells [.nils, .nils, .nils, .nils, .nils], .cells [vi 0, vi 0, vi 0]]
 | 1 => [.cells (many.map vi), .cells [lsS L 0, .nils, .nils, .nils, .nils], .cells [vi 0, vi 0, vi 0], rwS L 0]
 | 2 => [.cells (many.map vi), .cells [lsS L 0, lsS L 1, .nils, .nils, .nils], .cells [vi 0, vi 0, vi 0], rwS L 0, rwS L 1]
 | 3 => [.cells (many.map vi), .cells [lsS L 0, lsS L 1, lsS L 2, .nils, .nils], .cells [vi 0, vi 0, vi 0], rwS L 0, rwS L 1, rwS L 2]
 | 4 => [.cells (many.map vi), .cells [lsS L 0, lsS L 1, lsS L 2, lsS L 3, .nils], .cells [vi 0, vi 0, vi 0], rwS L 0, rwS L 1, rwS L 2, rwS L 3]
 | _ => [.cells (many.map vi), .cells [lsS L 0, lsS L 1, lsS L 2, lsS L 3, lsS L 4], .cells [vi 0, vi 0, vi 0], rwS L 0, rwS L 1, rwS L 2, rwS L 3, rwS L 4]
set_option maxHeartbeats 8000000 in
theorem xX (s : S) (many : Cl) (a : Nat) (hm : many.length = 5) (hs : s.length ≤ 100000) : Ev TE 21 [.str s, vi a, .agg (many.map vi)] (KR s many a) := by
 have hM : maxLen = 9223372036854775807 := rfl;obtain ⟨m0, m1, m2, m3, m4, rfl⟩ : ∃ m0 m1 m2 m3 m4, many = [m0, m1, m2, m3, m4] := by
  match many, hm with
  | [m0, m1, m2, m3, m4], _ => exact ⟨_, _, _, _, _, rfl⟩
 refine jo ?_;refine kC rfl Tryz.func21 rfl (by simp [nts]) fun ok pl0 w0 => ?_;simp only [nts];refine yK (Q := fun _ _ _ => False) ?_ (fun _ _ _ h => by obtain ⟨_, _, _, _, _, _, h⟩ := h; exact h.elim);refine vm ?_;simp only [wq.1, seval];have hsc : ∀ (tl : List Deferred) (x : Operand), x ∈ #[Operand.tmp 15, Operand.tmp 7] → (Fr.ev { TE with tl := tl } ((((((Fr.init [V.str s, vi a, V.agg ([m0, m1, m2, m3, m4].map vi)]).put (some 5) (.lp 0 0)).put (some 6) (.lp 1 0)).put (some 7) (.lp 2 0)).put (some 14) (.fn (.func 63) [] [.lp 2 0, .lp 1 0])).put (some 15) (.str s)) x).sc := fun tl x hx => by
  simp only [List.mem_toArray, List.mem_cons, List.not_mem_nil, or_false] at hx;rcases hx with rfl | rfl
  ·simp only [wq.1, ↓reduceIte]
  ·simp only [wq.1, seval]
 refine Nv (fn := Tryz.f21) (q := 63) (q2 := 52) (avs := [.lp 2 0, .lp 1 0]) (avs2 := [.str s, .lp 2 0]) (F2 := (((((Fr.init [V.str s, vi a, V.agg ([m0, m1, m2, m3, m4].map vi)]).put (some 5) (.lp 0 0)).put (some 6) (.lp 1 0)).put (some 7) (.lp 2 0)).put (some 14) (.fn (.func 63) [] [.lp 2 0, .lp 1 0])).put (some 15) (.str s)) rfl ⟨rfl, by simp only [wq.1, Nat.reduceLT], by simp only [wq.1, seval], rfl, rfl, rfl, ⟨.tmp 14, #[], #[], [.lp 2 0, .lp 1 0], rfl, by simp only [wq.1, seval], by simp only [wq.1, seval], by simp, by simp only [wq.1, seval]⟩, by simp only [wq.1]⟩ rfl rfl (fun tl => ⟨rfl, by simp only [wq.1, Nat.reduceLT], by simp only [wq.1, seval], rfl, rfl, rfl, ⟨.func 52, #[.tmp 15, .tmp 7], _, [], rfl, by simp only [wq.1], by simp only [wq.1], hsc tl, by simp only [wq.1, seval]⟩, by simp only [wq.1, seval]⟩) rfl fun d d2 => ?_;obtain ⟨ee, hee⟩ : ∃ ee : E, ee = { TE with tl := [d2, d] } := ⟨_, rfl⟩;have hP : ee.P = P := by rw [hee]; rfl
 have hmix : ee.P.follows .mixedOrders = true := by rw [hP]; exact mixed
 have hT : ∀ {g : FuncId} {args : List V} {h : H} {R : AEnd → H → (Nat → Bool) → Prop}, ah TE g args h R → ah ee g args h R := fun hc => by rw [hee]; exact hc.tl _
 rw [← hee];obtain ⟨QP, eQP⟩ : ∃ QP : XE → Fr → H → Prop, QP = LV TE Tryz.f21 (fun ae h x => match ae with | AEnd.ret v => aG TE h v (KR s [m0, m1, m2, m3, m4] a) | AEnd.pan v => False) [(52, [V.str s, V.lp 2 0]), (63, [V.lp 2 0, V.lp 1 0])] := ⟨_, rfl⟩;refine bH (Q := QP) (fun xe f' h' hq => by rw [eQP] at hq; exact hq) ?_;have hkd : ∀ {f' : Fr}, (∀ j, f'.k j = true → False) → ∀ x ∈ [((52 : FuncId), [V.str s, V.lp 2 0]), (63, [V.lp 2 0, V.lp 1 0])], V.drops f'.k x.2 = x.2 := fun {f'} h x hx => by
  have z : ∀ j, f'.k j = false := fun j => by
   cases hj : f'.k j with
   | false => rfl
   | true => exact (h j hj).elim
  simp only [List.mem_cons, List.not_mem_nil, or_false] at hx;rcases hx with rfl | rfl
  ·simp [V.drops, V.drop, z]
  ·simp [V.drops, V.drop, z]
 have hpan : ∀ {w : Nat} {e : Int} {f' : Fr} {h : H} {cs : List V}, Ej s [m0, m1, m2, m3, m4] a = .error (w, e) → e ≠ 0 → f'.d = [] → (∀ j, f'.k j = true → False) → f'.t 6 = .lp 1 0 → f'.t 7 = .lp 2 0 → h[1]? = some (.cells cs) → cs.length = 5 → h[2]? = some (.cells [vi 0, vi 0, vi 0]) → QP (.pan (gU w e)) f' h := by
  intro w e f' h cs hp he hd hk t6 t7 g1 gl g2;have l1 : 1 < h.length := (List.getElem?_eq_some_iff.1 g1).1;have l2 : 2 < h.length := (List.getElem?_eq_some_iff.1 g2).1;have hv : KR s [m0, m1, m2, m3, m4] a = .tup [.agg [aV [], aV [], aV [], aV [], aV []], bZ s w e] := by unfold KR; rw [hp]
  have hf : bZ s w e = .agg [vi e, vi (eQ s w).1, vi (eQ s w).2] := by unfold bZ; rw [if_neg he]
  rw [eQP, hv];refine ⟨hd, hkd hk, ?_⟩;refine o6 w e (by omega) g2 fun X => ⟨fun y hy => ?_, ?_⟩
  ·rw [List.mem_singleton] at hy; subst hy; rfl
  refine xR (e := e) (d2 := vi (eQ s w).1) (d3 := vi (eQ s w).2) (cs := cs) ?_ gl ?_ (fun h0 => absurd h0 he) (fun _ => ⟨fun y hy => (by cases hy), ?_⟩)
  ·rw [List.getElem?_append_left (by rw [List.length_set]; exact l1), List.getElem?_set_ne (by decide)]; exact g1
  ·rw [List.getElem?_append_left (by rw [List.length_set]; exact l2), List.getElem?_set_self l2, hf]; rfl
  have r1 : ((h.set 2 (.cells (bZ s w e).vc) ++ [X]).set 1 (.cells [.nils, .nils, .nils, .nils, .nils]))[1]? = some (.cells [.nils, .nils, .nils, .nils, .nils]) := by rw [List.getElem?_set_self (by rw [List.length_append, List.length_set]; omega)]
  have r2 : ((h.set 2 (.cells (bZ s w e).vc) ++ [X]).set 1 (.cells [.nils, .nils, .nils, .nils, .nils]))[2]? = some (.cells [vi e, vi (eQ s w).1, vi (eQ s w).2]) := by rw [List.getElem?_set_ne (by decide), List.getElem?_append_left (by rw [List.length_set]; exact l2), List.getElem?_set_self l2, hf]; rfl
  obtain ⟨h3, eh3⟩ : ∃ h3, h3 = (h.set 2 (.cells (bZ s w e).vc) ++ [X]).set 1 (.cells [.nils, .nils, .nils, .nils, .nils]) := ⟨_, rfl⟩;rw [← eh3] at r1 r2 ⊢;unfold LVr;simp only [Tryz.results21, nts];simp only [wq.1, seval, hd, t6, t7, r1, r2];rw [hf];exact aG.tup (aC.cons (aG.agg (aC.cons aG.nils (aC.cons aG.nils (aC.cons aG.nils (aC.cons aG.nils (aC.cons aG.nils aC.nil)))))) (aC.cons (aG.dat rfl) aC.nil))
 have hret : ∀ {L : List (List S)} {b : Nat} {f' : Fr}, Ej s [m0, m1, m2, m3, m4] a = .ok L → f'.d = [] → (∀ j, f'.k j = true → False) → f'.t 6 = .lp 1 0 → f'.t 7 = .lp 2 0 → QP .ret f' (hS [m0, m1, m2, m3, m4] s b L) := by
  intro L b f' hp hd hk t6 t7;have hv : KR s [m0, m1, m2, m3, m4] a = .tup [.agg [aV (L.getD 0 []), aV (L.getD 1 []), aV (L.getD 2 []), aV (L.getD 3 []), aV (L.getD 4 [])], .agg [vi 0, vi 0, vi 0]] := by unfold KR; rw [hp]
  rw [eQP, hv];refine ⟨hd, hkd hk, ?_⟩;refine lQ fun X => ⟨fun y hy => ?_, ?_⟩
  ·rw [List.mem_singleton] at hy; subst hy; rfl
  refine xR (e := 0) (d2 := vi 0) (d3 := vi 0) (cs := [lsS L 0, lsS L 1, lsS L 2, lsS L 3, lsS L 4]) rfl rfl rfl (fun _ => ⟨fun y hy => (by cases hy), ?_⟩) (fun h0 => absurd rfl h0);unfold LVr;simp only [Tryz.results21, nts];simp only [wq.1, seval, hd, t6, t7];exact aG.tup (aC.cons (aG.agg (aC.cons (fH rfl rfl) (aC.cons (fH rfl rfl) (aC.cons (fH rfl rfl) (aC.cons (fH rfl rfl) (aC.cons (fH rfl rfl) aC.nil)))))) (aC.cons (aG.dat rfl) aC.nil))
 obtain ⟨L0, hL0⟩ : ∃ L0, L0 = wR [m0, m1, m2, m3, m4] := ⟨_, rfl⟩;have hL05 : L0.length = 5 := by rw [hL0]; unfold wR; rfl
 refine ag ?_;refine ag (aT hmix _ _ _ _ ?_);simp only [wq.1, seval, hP];refine az ?_;refine aA (fun mm f h' => ∃ k, mm + k = 5 ∧ f.t 0 = .str s ∧ f.t 1 = vi a ∧ f.t 6 = .lp 1 0 ∧ f.t 7 = .lp 2 0 ∧ f.t 16 = .agg ([m0, m1, m2, m3, m4].map vi) ∧ f.t 17 = vi k ∧ f.d = [] ∧ (∀ j, f.k j = true → False) ∧ h' = hMk [m0, m1, m2, m3, m4] L0 k) 5 ⟨0, rfl, by simp only [wq.1, seval], by simp only [wq.1, seval], by simp only [wq.1, seval], by simp only [wq.1, seval], by simp only [wq.1, seval], rfl, rfl, fun j hj => (by cases hj), rfl⟩ ?_;rintro mm f h' ⟨k, hmk, t0, t1, t6, t7, t16, t17, hd, hk, rfl⟩;refine ag (aT hmix _ _ _ _ ?_);simp only [wq.1, Nat.reduceLT, hP, t17];refine ag (aT hmix _ _ _ _ ?_);simp only [wq.1, seval, -Int.reduceNatCast, -Int.reduceNatCast', au, Tryz.results21, hP, t0, t1, t6, t7, t16, t17, hd];refine vcB.mk (fun hlt => ?_) (fun hlt => ?_)
 ·have hlt : k < 5 := by have := of_decide_eq_true hlt;omega
  refine ag (az ?_);rcases k with _|_|_|_|_|k
  ·show awp _ _ _ _ _ _ [.cells [vi m0, vi m1, vi m2, vi m3, vi m4], .cells [.nils, .nils, .nils, .nils, .nils], .cells [vi 0, vi 0, vi 0]];refine ag (aT hmix _ _ _ _ ?_);simp only [wq.1, seval, -Int.reduceNatCast, -Int.reduceNatCast', au, Tryz.results21, hP, t0, t1, t6, t7, t16, t17, hd];refine ⟨by decide, ?_⟩;refine aT hmix _ _ _ _ ?_;simp only [wq.1, seval, -Int.reduceNatCast, -Int.reduceNatCast', au, Tryz.results21, hP, t0, t1, t6, t7, t16, t17, hd, mx, mn];refine ⟨⟨by omega, by omega⟩, by decide, ?_⟩;refine aT hmix _ _ _ _ ?_;simp only [wq.1, seval, hP, t17];refine .inl ⟨mm - 1, by omega, 1, by omega, by simp only [wq.1, seval, t0], by simp only [wq.1, seval, t1], by simp only [wq.1, seval, t6], by simp only [wq.1, seval, t7], by simp only [wq.1, seval, t16], rfl, by simp only [wq.1, seval, -Int.reduceNatCast, -Int.reduceNatCast', au, Tryz.results21, hd], fun j hj => hk j hj, ?_⟩;rw [hL0];simp [hMk, wR, lsS, rwS]
  ·show awp _ _ _ _ _ _ [.cells [vi m0, vi m1, vi m2, vi m3, vi m4], .cells [lsS L0 0, .nils, .nils, .nils, .nils], .cells [vi 0, vi 0, vi 0], rwS L0 0];refine ag (aT hmix _ _ _ _ ?_);simp only [wq.1, seval, -Int.reduceNatCast, -Int.reduceNatCast', au, Tryz.results21, hP, t0, t1, t6, t7, t16, t17, hd];refine ⟨by decide, ?_⟩;refine aT hmix _ _ _ _ ?_;simp only [wq.1, seval, -Int.reduceNatCast, -Int.reduceNatCast', au, Tryz.results21, hP, t0, t1, t6, t7, t16, t17, hd, mx, mn];refine ⟨⟨by omega, by omega⟩, by decide, ?_⟩;refine aT hmix _ _ _ _ ?_;simp only [wq.1, seval, hP, t17];refine .inl ⟨mm - 1, by omega, 2, by omega, by simp only [wq.1, seval, t0], by simp only [wq.1, seval, t1], by simp only [wq.1, seval, t6], by simp only [wq.1, seval, t7], by simp only [wq.1, seval, t16], rfl, by simp only [wq.1, seval, -Int.reduceNatCast, -Int.reduceNatCast', au, Tryz.results21, hd], fun j hj => hk j hj, ?_⟩;rw [hL0];simp [hMk, wR, lsS, rwS]
  ·show awp _ _ _ _ _ _ [.cells [vi m0, vi m1, vi m2, vi m3, vi m4], .cells [lsS L0 0, lsS L0 1, .nils, .nils, .nils], .cells [vi 0, vi 0, vi 0], rwS L0 0, rwS L0 1];refine ag (aT hmix _ _ _ _ ?_);simp only [wq.1, seval, -Int.reduceNatCast, -Int.reduceNatCast', au, Tryz.results21, hP, t0, t1, t6, t7, t16, t17, hd];refine ⟨by decide, ?_⟩;refine aT hmix _ _ _ _ ?_;simp only [wq.1, seval, -Int.reduceNatCast, -Int.reduceNatCast', au, Tryz.results21, hP, t0, t1, t6, t7, t16, t17, hd, mx, mn];refine ⟨⟨by omega, by omega⟩, by decide, ?_⟩;refine aT hmix _ _ _ _ ?_;simp only [wq.1, seval, hP, t17];refine .inl ⟨mm - 1, by omega, 3, by omega, by simp only [wq.1, seval, t0], by simp only [wq.1, seval, t1], by simp only [wq.1, seval, t6], by simp only [wq.1, seval, t7], by simp only [wq.1, seval, t16], rfl, by simp only [wq.1, seval, -Int.reduceNatCast, -Int.reduceNatCast', au, Tryz.results21, hd], fun j hj => hk j hj, ?_⟩;rw [hL0];simp [hMk, wR, lsS, rwS]
  ·show awp _ _ _ _ _ _ [.cells [vi m0, vi m1, vi m2, vi m3, vi m4], .cells [lsS L0 0, lsS L0 1, lsS L0 2, .nils, .nils], .cells [vi 0, vi 0, vi 0], rwS L0 0, rwS L0 1, rwS L0 2];refine ag (aT hmix _ _ _ _ ?_);simp only [wq.1, seval, -Int.reduceNatCast, -Int.reduceNatCast', au, Tryz.results21, hP, t0, t1, t6, t7, t16, t17, hd];refine ⟨by decide, ?_⟩;refine aT hmix _ _ _ _ ?_;simp only [wq.1, seval, -Int.reduceNatCast, -Int.reduceNatCast', au, Tryz.results21, hP, t0, t1, t6, t7, t16, t17, hd, mx, mn];refine ⟨⟨by omega, by omega⟩, by decide, ?_⟩;refine aT hmix _ _ _ _ ?_;simp only [wq.1, seval, hP, t17];refine .inl ⟨mm - 1, by omega, 4, by omega, by simp only [wq.1, seval, t0], by simp only [wq.1, seval, t1], by simp only [wq.1, seval, t6], by simp only [wq.1, seval, t7], by simp only [wq.1, seval, t16], rfl, by simp only [wq.1, seval, -Int.reduceNatCast, -Int.reduceNatCast', au, Tryz.results21, hd], fun j hj => hk j hj, ?_⟩;rw [hL0];simp [hMk, wR, lsS, rwS]
  ·show awp _ _ _ _ _ _ [.cells [vi m0, vi m1, vi m2, vi m3, vi m4], .cells [lsS L0 0, lsS L0 1, lsS L0 2, lsS L0 3, .nils], .cells [vi 0, vi 0, vi 0], rwS L0 0, rwS L0 1, rwS L0 2, rwS L0 3];refine ag (aT hmix _ _ _ _ ?_);simp only [wq.1, seval, -Int.reduceNatCast, -Int.reduceNatCast', au, Tryz.results21, hP, t0, t1, t6, t7, t16, t17, hd];refine ⟨by decide, ?_⟩;refine aT hmix _ _ _ _ ?_;simp only [wq.1, seval, -Int.reduceNatCast, -Int.reduceNatCast', au, Tryz.results21, hP, t0, t1, t6, t7, t16, t17, hd, mx, mn];refine ⟨⟨by omega, by omega⟩, by decide, ?_⟩;refine aT hmix _ _ _ _ ?_;simp only [wq.1, seval, hP, t17];refine .inl ⟨mm - 1, by omega, 5, by omega, by simp only [wq.1, seval, t0], by simp only [wq.1, seval, t1], by simp only [wq.1, seval, t6], by simp only [wq.1, seval, t7], by simp only [wq.1, seval, t16], rfl, by simp only [wq.1, hd], fun j hj => hk j hj, ?_⟩;rw [hL0];simp [hMk, wR, lsS, rwS]
  ·omega
 ·have hk5 : k = 5 := by have := of_decide_eq_false hlt;omega
  subst hk5;simp only [wq.1];refine ag (aT hmix _ _ _ _ ?_);simp only [wq.1, seval, hP, t0, t1, hMk];have hsR : Ej s [m0, m1, m2, m3, m4] a = (match Ei s (s.length + 1) L0 a with | .error e => .error e | .ok L => .ok (KH L)) := by rw [hL0]; rfl
  have e0 : decide ((0 : Int) ≤ (a : Int)) = true := by simp
  refine ag (bH (Q := fun xe f h' => (xe = .normal ∧ ∃ L b, Ej s [m0, m1, m2, m3, m4] a = .ok (KH L) ∧ L.length = 5 ∧ (∀ l ∈ L, l.length ≤ 4000) ∧ f.t 6 = .lp 1 0 ∧ f.t 7 = .lp 2 0 ∧ f.d = [] ∧ (∀ j, f.k j = true → False) ∧ h' = hS [m0, m1, m2, m3, m4] s b L) ∨ (xe ≠ .normal ∧ QP xe f h')) ?_ ?_)
  ·rintro xe f h' (⟨rfl, L, b, hsy, hL5, hLb, t6, t7, hd, hk, rfl⟩ | ⟨hx, hq⟩)
   ·show awp _ _ _ _ _ _ _;have hLt : ∀ j, (L.getD j []).length ≤ 4000 := fun j => by
     by_cases hj : j < L.length
     ·rw [aO hj]; exact hLb _ (List.getElem_mem hj)
     ·rw [List.getD_eq_getElem?_getD, List.getElem?_eq_none (by omega)]; exact Nat.zero_le _
    refine ag ?_;refine ag ?_;refine aT hmix _ _ _ _ ?_;simp only [wq.1, Nat.reduceLT, hP];refine az ?_;refine aA (fun mm f h' => ∃ k, mm + k = 5 ∧ f.t 6 = .lp 1 0 ∧ f.t 7 = .lp 2 0 ∧ f.t 50 = vi k ∧ f.d = [] ∧ (∀ j, f.k j = true → False) ∧ h' = hS [m0, m1, m2, m3, m4] s b (Lk L k)) 5 ⟨0, rfl, by simp only [wq.1, seval, t6], by simp only [wq.1, seval, t7], rfl, by simp only [wq.1, hd], fun j hj => hk j hj, by rw [ZC hL5]⟩ ?_;clear t6 t7 hd hk;rintro mm f h' ⟨k, hmk, t6, t7, t50, hd, hk, rfl⟩;refine ag (aT hmix _ _ _ _ ?_);simp only [wq.1, Nat.reduceLT, hP, t50];refine ag (aT hmix _ _ _ _ ?_);simp only [wq.1, ↓reduceIte];refine vcB.mk (fun hlt => ?_) (fun hlt => ?_)
    ·have hk5 : k < 5 := by have := of_decide_eq_true hlt;omega
     have hls := WU (L := Lk L k) hk5;unfold lsS at hls;rw [YG hk5] at hls;obtain ⟨l, hl⟩ : ∃ l, l = L.getD k [] := ⟨_, rfl⟩;have hll := hLt k;rw [← hl] at hls hll;obtain ⟨H, hH⟩ : ∃ H, H = hS [m0, m1, m2, m3, m4] s b (Lk L k) := ⟨_, rfl⟩;have H1 : H[1]? = some (.cells [lsS (Lk L k) 0, lsS (Lk L k) 1, lsS (Lk L k) 2, lsS (Lk L k) 3, lsS (Lk L k) 4]) := by rw [hH]; rfl
     rw [← hH];refine ag (az ?_);refine ag (aT hmix _ _ _ _ ?_);simp only [wq.1, seval, hP, t50];refine ag (aT hmix _ _ _ _ ?_);simp only [wq.1, seval, hP, t6, H1, hls];refine ⟨⟨by omega, by omega⟩, by omega, ?_⟩;rw [hH];refine az ?_;refine aA (fun mq f h' => ∃ i, mq + i = l.length ∧ f.t 6 = .lp 1 0 ∧ f.t 7 = .lp 2 0 ∧ f.t 11 = vi k ∧ f.t 50 = vi k ∧ f.t 55 = .ls (3 + k) 1 0 l.length l.length ∧ f.t 56 = vi l.length ∧ f.t 57 = vi i ∧ f.d = [] ∧ (∀ j, f.k j = true → False) ∧ h' = hS [m0, m1, m2, m3, m4] s b ((Lk L k).set k (jg (xU k) i l))) l.length ⟨0, by simp, by simp only [wq.1, seval, t6], by simp only [wq.1, seval, t7], by simp only [wq.1, seval], by simp only [wq.1, seval, t50], by simp only [wq.1, seval], by simp only [wq.1, seval], rfl, by simp only [wq.1, hd], fun j hj => hk j hj, by rw [WW, hl, ← YG hk5, aO (by rw [Q3]; exact hk5), List.set_getElem_self]⟩ ?_;clear t6 t7 t50 hd hk;rintro mq f h' ⟨i, hm2, t6, t7, t11, t50, t55, t56, t57, hd, hk, rfl⟩;refine ag (aT hmix _ _ _ _ ?_);simp only [wq.1, Nat.reduceLT, hP, t56, t57];refine ag (aT hmix _ _ _ _ ?_);simp only [wq.1, ↓reduceIte];obtain ⟨L2, hL2⟩ : ∃ L2, L2 = (Lk L k).set k (jg (xU k) i l) := ⟨_, rfl⟩;have hL25 : L2.length = 5 := by rw [hL2, List.length_set, Q3]
     refine vcB.mk (fun hlt2 => ?_) (fun hlt2 => ?_)
     ·have hil : i < l.length := by have := of_decide_eq_true hlt2;omega
      have hLk : L2.getD k [] = jg (xU k) i l := by rw [hL2, YH (by rw [Q3]; exact hk5)]
      have hfl : (jg (xU k) i l).length = l.length := Eb (by omega);have hrw2 := Vf (many := [m0, m1, m2, m3, m4]) (s := s) (a := b) (L := L2) hk5;have hls2 := WU (L := L2) hk5;unfold lsS at hls2;unfold rwS at hrw2;rw [hLk] at hrw2 hls2;rw [hfl] at hls2;have hsi : ((jg (xU k) i l).map V.str).getD (i * 1) .any = .str l[i] := by rw [Nat.mul_one, List.getD_eq_getElem?_getD, List.getElem?_map, List.getElem?_eq_getElem (by rw [hfl]; exact hil), Jb hil]; rfl
      have hset2 : ∀ x : S, (if l[i] = [] then xU k :: Lib.itoa (i : Int) else l[i]) = x → (hS [m0, m1, m2, m3, m4] s b L2).set (3 + k) (.cells (((jg (xU k) i l).set i x).map V.str)) = hS [m0, m1, m2, m3, m4] s b ((Lk L k).set k (jg (xU k) (i + 1) l)) := fun x hx => by rw [xW hil, hx, ← hLk, Vg hL25 hk5, hLk, hL2, List.set_set]
      have hw := ak (show i < maxLen by omega);have hwk := ak (show k < maxLen by omega);obtain ⟨H, hH⟩ : ∃ H, H = hS [m0, m1, m2, m3, m4] s b L2 := ⟨_, rfl⟩;have H1 : H[1]? = some (.cells [lsS L2 0, lsS L2 1, lsS L2 2, lsS L2 3, lsS L2 4]) := by rw [hH]; rfl
      rw [← hL2, ← hH];rw [← hH] at hset2 hrw2;refine ag (az ?_);refine ag (aT hmix _ _ _ _ ?_);simp only [wq.1, seval, hP, t55, t57, hrw2, hsi, hfl];refine ⟨⟨by omega, by omega⟩, by omega, ?_⟩;refine ag (aT hmix _ _ _ _ ?_);simp only [wq.1, seval, hP];by_cases hli : l[i] = []
      ·have hb : (l[i] == ([] : S)) = true := by rw [hli]; rfl
       refine gJ (b := true) (by simp only [wq.1, ↓reduceIte, hb]) (by simp only [wq.1, ↓reduceIte, hb]) (fun _ => ?_) (fun h => by cases h);refine bg hmix Vh (fun f' h' => f'.t 6 = .lp 1 0 ∧ f'.t 7 = .lp 2 0 ∧ f'.t 11 = vi k ∧ f'.t 50 = vi k ∧ f'.t 55 = .ls (3 + k) 1 0 l.length l.length ∧ f'.t 56 = vi l.length ∧ f'.t 57 = vi i ∧ f'.d = [] ∧ (∀ j, f'.k j = true → False) ∧ h' = hS [m0, m1, m2, m3, m4] s b ((Lk L k).set k (jg (xU k) (i + 1) l))) (by rw [hP]; decide +kernel) (by decide +kernel) ?_ ?_
       ·simp only [wq.1, seval, Vh, hP, t6, t11, H1, hls2, hwk, KQ hk5];have hil2 := jR (i : Int) (by omega) (by omega);have hpu : List.take (i * 1) ((jg (xU k) i l).map V.str) ++ [V.str (xU k :: Lib.itoa (i : Int))] ++ List.drop (i * 1 + 1) ((jg (xU k) i l).map V.str) = ((jg (xU k) i l).set i (xU k :: Lib.itoa (i : Int))).map V.str := QX (by rw [hfl]; exact hil);have hse := hset2 _ (if_pos hli)
        repeat' apply And.intro
        all_goals first
         | omega
         | skip
        all_goals
         refine hT (ah.ev (yT (i : Int) (by omega) (by omega)) rfl ?_);simp only [wq.1, seval, hP, t6, t7, t11, t50, t55, t56, t57, hd, H1, hls2, hrw2, hfl]
        repeat' apply And.intro
        all_goals first
         | omega
         | exact fun j hj => hk j hj
         | (rw [hpu]; exact hse)
       ·rintro f h' ⟨t6, t7, t11, t50, t55, t56, t57, hd, hk, rfl⟩;simp only [wq.1];refine aT hmix _ _ _ _ ?_;simp only [wq.1, seval, hP, t57, hw];exact .inl ⟨mq - 1, by omega, i + 1, by omega, by simp only [wq.1, seval, t6], by simp only [wq.1, seval, t7], by simp only [wq.1, seval, t11], by simp only [wq.1, seval, t50], by simp only [wq.1, seval, t55], by simp only [wq.1, seval, t56], rfl, by simp only [wq.1, hd], fun j hj => hk j hj, rfl⟩
      ·have hb : (l[i] == ([] : S)) = false := by simpa using hli
       have hsame : jg (xU k) (i + 1) l = jg (xU k) i l := by
        rw [xW hil, if_neg hli]
        conv => lhs; rw [← Jb (c := xU k) hil]
        exact List.set_getElem_self _
       refine gJ (b := false) (by simp only [wq.1, ↓reduceIte, hb]) (by simp only [wq.1, ↓reduceIte, hb]) (fun h => by cases h) (fun _ => ?_);refine aT hmix _ _ _ _ ?_;simp only [wq.1];refine aT hmix _ _ _ _ ?_;simp only [wq.1, seval, hP, t57, hw];exact .inl ⟨mq - 1, by omega, i + 1, by omega, by simp only [wq.1, seval, t6], by simp only [wq.1, seval, t7], by simp only [wq.1, seval, t11], by simp only [wq.1, seval, t50], by simp only [wq.1, seval, t55], by simp only [wq.1, seval, t56], rfl, by simp only [wq.1, hd], fun j hj => hk j hj, by rw [hsame, ← hL2, hH]⟩
     ·have hil : i = l.length := by have := of_decide_eq_false hlt2;omega
      subst hil;have hw := ak (show k < maxLen by omega);rw [QZ, hl, WX hk5];simp only [wq.1];refine aT hmix _ _ _ _ ?_;simp only [wq.1, seval, hP, t50, hw];exact .inl ⟨mm - 1, by omega, k + 1, by omega, by simp only [wq.1, seval, t6], by simp only [wq.1, seval, t7], rfl, by simp only [wq.1, hd], fun j hj => hk j hj, rfl⟩
    ·have hk5 : k = 5 := by have := of_decide_eq_false hlt;omega
     subst hk5;rw [ZE];simp only [wq.1];refine ag (aT hmix _ _ _ _ ?_);simp only [wq.1, seval, hP, t6, t7];refine aT hmix _ _ _ _ ?_;simp only [wq.1];exact hret (L := KH L) (b := b) hsy (by simp only [wq.1, hd]) (fun j hj => hk j hj) (by simp only [wq.1, seval, t6]) (by simp only [wq.1, seval, t7])
   ·cases xe with
    | normal => exact absurd rfl hx
    | _ => exact hq
  ·refine az ?_;refine aA (fun kk f h' => ∃ (L : List (List S)) (b : Nat), Ei s (s.length + 1) L0 a = Ei s kk L b ∧ s.length < kk + b ∧ L.length = 5 ∧ (∀ l ∈ L, l.length ≤ 4000) ∧ f.t 0 = .str s ∧ f.t 1 = vi a ∧ f.t 6 = .lp 1 0 ∧ f.t 7 = .lp 2 0 ∧ f.t 10 = .lp 8 0 ∧ f.d = [] ∧ (∀ j, f.k j = true → False) ∧ h' = hS [m0, m1, m2, m3, m4] s b L) (s.length + 1) ⟨L0, a, rfl, by omega, hL05, ?_, by simp only [wq.1, seval, t0], by simp only [wq.1, seval, t1], by simp only [wq.1, seval, t6], by simp only [wq.1, seval, t7], by simp only [wq.1, ↓reduceIte], by simp only [wq.1, hd], fun j hj => hk j hj, rfl⟩ ?_
   ·rw [hL0];intro l hl;obtain ⟨m, _, rfl⟩ := List.mem_map.1 hl;rw [List.length_replicate];omega
   ·clear t0 t1 t6 t7 hd hk;rintro kk f h' ⟨L, b, hsy, hkb, hL5, hLb, t0, t1, t6, t7, t10, hd, hk, rfl⟩;by_cases hbl : b < s.length
    ·have e1 : decide ((b : Int) < (s.length : Int)) = true := by simpa using hbl
     obtain ⟨j, rfl⟩ : ∃ j, kk = j + 1 := ⟨kk - 1, by omega⟩;refine ag ?_;refine aT hmix _ _ _ _ ?_;simp only [wq.1, seval, hP, t0, t1, t10, e0, e1];refine hT (wS (k := 8) (a := b) (s := s) (T := []) (by omega) rfl ?_);simp only [wq.1, seval, hP];cases hcm : WJ s b with
     | true =>
      have hst : Ei s (j + 1) L b = .ok L := by rw [show Ei s (j + 1) L b = (if b < s.length ∧ WJ s b = false then _ else .ok L) from rfl, if_neg (by rw [hcm]; simp)]
      rw [hst] at hsy;rw [hsy] at hsR;simp only [wq.1, seval, t6, t7, hd];exact .inl ⟨L, b, hsR, hL5, hLb, hk, rfl⟩
     | false =>
      have hst : Ei s (j + 1) L b = (match vg s L b with | .error e => .error e | .ok (L, b) => Ei s j L b) := by rw [show Ei s (j + 1) L b = (if b < s.length ∧ WJ s b = false then _ else .ok L) from rfl, if_pos ⟨hbl, hcm⟩];rfl
      rw [hst] at hsy;simp only [wq.1];refine az ?_;refine aT hmix _ _ _ _ ?_;simp only [wq.1, seval, hP, t6, t10];refine hT (Fz hL5 hLb hs hbl (fun L' b' hn => ?_) (fun w e hn b' => ?_))
      ·rw [hn] at hsy;dsimp only at hsy;obtain ⟨g1, g2, g3, g4⟩ := I9 hn hL5 hLb;simp only [wq.1];exact .inl ⟨j, by omega, L', b', hsy, by omega, g3, g4, by simp only [wq.1, seval, t0], by simp only [wq.1, seval, t1], by simp only [wq.1, seval, t6], by simp only [wq.1, seval, t7], by simp only [wq.1, seval, t10], by simp only [wq.1, hd], fun j hj => hk j hj, rfl⟩
      ·rw [hn] at hsy;dsimp only at hsy;rw [hsy] at hsR;have hne := Ea hn;simp only [wq.1, bI, hd];simp only [XE.block, XE.seq];exact .inr ⟨fun h => (by cases h), hpan (cs := [lsS L 0, lsS L 1, lsS L 2, lsS L 3, lsS L 4]) hsR hne (by simp only [wq.1, hd]) (fun j hj => hk j (by have h2 : (f.k j || false) = true := hj; simpa using h2)) (by simp only [wq.1, seval, t6]) (by simp only [wq.1, seval, t7]) rfl rfl rfl⟩
    ·have e1 : decide ((b : Int) < (s.length : Int)) = false := by simpa using hbl
     have hst : Ei s kk L b = .ok L := by
      cases kk with
      | zero => rfl
      | succ j => rw [show Ei s (j + 1) L b = (if b < s.length ∧ WJ s b = false then _ else .ok L) from rfl, if_neg (fun h => hbl h.1)]
     rw [hst] at hsy;rw [hsy] at hsR;refine ag ?_;refine aT hmix _ _ _ _ ?_;simp only [wq.1, seval, hP, t0, t1, t10, e0, e1];refine ⟨.bool true, ?_⟩;simp only [wq.1, seval, t6, t7, hd];exact .inl ⟨L, b, hsR, hL5, hLb, hk, rfl⟩
def fB (s : S) (a : Nat) (a1 a2 a3 a5 a6 : Int) (u w : V) : List (Nat × Nat × V) := [(0, 69, .str s), (1, 70, .lp 3 0), (2, 71, .lp 3 0), (3, 72, .lp 3 0), (4, 73, .lp 3 1), (5, 74, vi a), (6, 75, .lp 11 1), (7, 76, vi a1), (8, 77, .lp 11 2), (9, 78, vi a2), (10, 79, .lp 11 3), (11, 80, vi a3), (12, 81, .lp 11 5), (13, 82, vi a5), (14, 83, .lp 11 6), (15, 84, vi a6), (16, 85, .agg [vi a1, vi a2, vi a3, vi a5, vi a6]), (17, 86, .tup [u, w]), (18, 68, .tup [u, w]), (19, 87, u), (20, 88, w)]
structure G13 (s : S) (f f0 : Fr) : Prop where
 t0 : f.t 0 = .str s
 t2 : f.t 2 = f0.t 2
 t3 : f.t 3 = f0.t 3
 t4 : f.t 4 = .lp 3 0
 t5 : f.t 5 = .lp 11 0
 d : f.d = f0.d
 k : f.k = f0.k
theorem G13.put {s : S} {f f0 : Fr} (g : G13 s f f0) {d : Nat} {v : V} (hd : d ∉ [0, 2, 3, 4, 5]) : G13 s (f.put (some d) v) f0 := by simp only [List.mem_cons, List.not_mem_nil, or_false, not_or] at hd;obtain ⟨h0, h2, h3, h4, h5⟩ := hd;exact ⟨by simpa [Fr.put, Ne.symm h0] using g.t0, by simpa [Fr.put, Ne.symm h2] using g.t2, by simpa [Fr.put, Ne.symm h3] using g.t3, by simpa [Fr.put, Ne.symm h4] using g.t4, by simpa [Fr.put, Ne.symm h5] using g.t5, g.d, g.k⟩
def N13 (L : Array Bool) (B X : H) (f : Fr) (ia is d p : Nat) (zc uc : List V) : Prop := L.getD ia false = true → f.t d = .lp p 0 ∧ B.length ≤ p ∧ (B ++ X)[p]? = some (.cells (if L.getD is false = true then uc else zc))
theorem N13.put {L : Array Bool} {B X : H} {f : Fr} {ia is d p i d' : Nat} {v : V} {zc uc : List V} (hn : N13 L B X f ia is d p zc uc) (h1 : i ≠ ia) (h2 : i ≠ is) (h3 : d' ≠ d) : N13 (L.setIfInBounds i true) B X (f.put (some d') v) ia is d p zc uc := by intro hl;rw [getD_set_ne false h1] at hl;rw [getD_set_ne false h2];obtain ⟨q1, q2, q3⟩ := hn hl;exact ⟨by simpa [Fr.put, Ne.symm h3] using q1, q2, q3⟩
theorem N13.more {L : Array Bool} {B X Z : H} {f : Fr} {ia is d p i d' : Nat} {v : V} {zc uc : List V} (hn : N13 L B X f ia is d p zc uc) (h1 : i ≠ ia) (h2 : i ≠ is) (h3 : d' ≠ d) : N13 (L.setIfInBounds i true) B (X ++ Z) (f.put (some d') v) ia is d p zc uc := by intro hl;rw [getD_set_ne false h1] at hl;rw [getD_set_ne false h2];obtain ⟨q1, q2, q3⟩ := hn hl;refine ⟨by simpa [Fr.put, Ne.symm h3] using q1, q2, ?_⟩;rw [← List.append_assoc, List.getElem?_append_left (List.getElem?_eq_some_iff.1 q3).1];exact q3
theorem N13.lt {L : Array Bool} {B X : H} {f : Fr} {ia is d p : Nat} {zc uc : List V} (hn : N13 L B X f ia is d p zc uc) (hl : L.getD ia false = true) : p < B.length + X.length := by have := (List.getElem?_eq_some_iff.1 (hn hl).2.2).1;simpa using this
theorem N13.new {L : Array Bool} {B X : H} {f : Fr} {ia is d : Nat} {zc uc : List V} (h : L.getD is false = false) (hne : ia ≠ is) : N13 (L.setIfInBounds ia true) B (X ++ [.cells zc]) (f.put (some d) (.lp (B.length + X.length) 0)) ia is d (B.length + X.length) zc uc := by intro _;refine ⟨by simp [Fr.put], Nat.le_add_right _ _, ?_⟩;rw [getD_set_ne false hne, h, if_neg (by decide), ← List.append_assoc, ← List.length_append];simp
theorem N13.store {L : Array Bool} {B X : H} {f : Fr} {ia is d p : Nat} {zc uc : List V} (hn : N13 L B X f ia is d p zc uc) (hl : L.getD ia false = true) (hs : is < L.size) : N13 (L.setIfInBounds is true) B (X.set (p - B.length) (.cells uc)) f ia is d p zc uc := by intro _;obtain ⟨q1, q2, q3⟩ := hn hl;refine ⟨q1, q2, ?_⟩;have hp := (List.getElem?_eq_some_iff.1 q3).1;rw [if_pos (by simp [Array.getD, hs]), ← List.set_append_right _ _ q2, List.getElem?_set_self hp]
theorem N13.other {L : Array Bool} {B X : H} {f : Fr} {ia is d p p' i : Nat} {o : O} {zc uc : List V} (hn : N13 L B X f ia is d p zc uc) (h1 : i ≠ ia) (h2 : i ≠ is) (hb : B.length ≤ p') (hp : L.getD ia false = true → p ≠ p') : N13 (L.setIfInBounds i true) B (X.set (p' - B.length) o) f ia is d p zc uc := by intro hl;rw [getD_set_ne false h1] at hl;rw [getD_set_ne false h2];obtain ⟨q1, q2, q3⟩ := hn hl;refine ⟨q1, q2, ?_⟩;rw [← List.set_append_right _ _ hb, List.getElem?_set_ne (Ne.symm (hp hl))];exact q3
theorem Uw {ops : Array Oper} {L : Array Bool} (hc : sK ops L) {i : Nat} (hi : L.getD i false = true) {l : List Nat} (hl : XV ops i l = true) : ∀ j ∈ l, L.getD j false = true := by
 intro j hj;unfold XV at hl;split at hl
 ·rename_i o ho;have h1 := List.all_eq_true.1 hl j hj;rw [Array.any_eq_true] at h1;obtain ⟨q, hq, h3⟩ := h1;rw [Bool.and_eq_true, beq_iff_eq] at h3;rw [← h3.2];exact hc i o ho hi _ (Array.getElem_mem hq) h3.1
 ·cases hl
theorem Ap {ops : Array Oper} {L : Array Bool} (hc : sK ops L) {i j : Nat} (hj : L.getD j false = false) (hl : XV ops i [j] = true) : L.getD i false = false := by
 cases h : L.getD i false with
 | false => rfl
 | true => rw [Uw hc h hl j (by simp)] at hj; cases hj
set_option maxHeartbeats 4000000 in
theorem Ux {ee : E} (hP : ee.P = P) (hT : ∀ {g : FuncId} {args : List V} {h : H} {R : AEnd → H → (Nat → Bool) → Prop}, ah TE g args h R → ah ee g args h R)
 {r : Option Nat} {Q : XE → Fr → H → Prop} {f0 : Fr} {B : H} {s : S} {a : Nat} {a0 a1 a2 a3 a4 a5 a6 : Int} {T : List V} {n0 n1 n2 n3 n4 : List S} {w0 w1 w2 : Int} (hs : s.length ≤ 100000)
 (g3 : B[3]? = some (rdT s a T)) (g11 : B[11]? = some (.cells [vi a0, vi a1, vi a2, vi a3, vi a4, vi a5, vi a6, vi 0, vi 0]))
 (hy : KR s [a1, a2, a3, a5, a6] a = .tup [.agg [aV n0, aV n1, aV n2, aV n3, aV n4], .agg [vi w0, vi w1, vi w2]])
 (t0 : f0.t 0 = .str s) (t4 : f0.t 4 = .lp 3 0) (t5 : f0.t 5 = .lp 11 0)
 (hk : ∀ f p q X, (∀ o ∈ X, ∀ c : Nat → Bool, o.drop c = o) → G13 s f f0 → f.t 8 = .lp p 0 → f.t 9 = .lp q 0 → B.length ≤ p → B.length ≤ q → p ≠ q → (B ++ X)[p]? = some (.cells [aV n0, aV n1, aV n2, aV n3, aV n4]) → (B ++ X)[q]? = some (.cells [vi w0, vi w1, vi w2]) → Q .normal f (B ++ X)) :
 awp ee 143 r (.region 13 (aH Tryz.f18 13) true) Q f0 B := by
 simp only [aH, Tryz.f18, yQ, List.nil_append, List.append_nil, List.headD_cons, Nat.reduceBEq, Bool.false_eq_true, if_false, if_true, List.cons_append];have hmix : ee.P.follows .mixedOrders = true := by rw [hP]; exact mixed
 obtain ⟨u, hu⟩ : ∃ u : V, u = .agg [aV n0, aV n1, aV n2, aV n3, aV n4] := ⟨_, rfl⟩;obtain ⟨w, hw⟩ : ∃ w : V, w = .agg [vi w0, vi w1, vi w2] := ⟨_, rfl⟩;have l3 : 3 < B.length := (List.getElem?_eq_some_iff.1 g3).1;have l11 : 11 < B.length := (List.getElem?_eq_some_iff.1 g11).1;have b3 : ∀ X, (B ++ X)[3]? = some (rdT s a T) := fun X => by rw [List.getElem?_append_left l3]; exact g3
 have b11 : ∀ X, (B ++ X)[11]? = some (.cells [vi a0, vi a1, vi a2, vi a3, vi a4, vi a5, vi a6, vi 0, vi 0]) := fun X => by rw [List.getElem?_append_left l11]; exact g11
 obtain ⟨I, hI⟩ : ∃ I : Array Bool → Fr → H → Prop, ∀ L f h, I L f h ↔ ∃ X p q, h = B ++ X ∧ FA L f (fB s a a1 a2 a3 a5 a6 u w) ∧ G13 s f f0 ∧ N13 L B X f 21 23 8 p [.nils, .nils, .nils, .nils, .nils] [aV n0, aV n1, aV n2, aV n3, aV n4] ∧ N13 L B X f 22 24 9 q [vi 0, vi 0, vi 0] [vi w0, vi w1, vi w2] ∧ (L.getD 21 false = true → L.getD 22 false = true → p ≠ q) ∧ (∀ o ∈ X, ∀ c : Nat → Bool, o.drop c = o) := ⟨_, fun _ _ _ => Iff.rfl⟩;refine V6 hmix I (fun f h => ∃ X p q, h = B ++ X ∧ (∀ o ∈ X, ∀ c : Nat → Bool, o.drop c = o) ∧ G13 s f f0 ∧ f.t 8 = .lp p 0 ∧ f.t 9 = .lp q 0 ∧ B.length ≤ p ∧ B.length ≤ q ∧ p ≠ q ∧ (B ++ X)[p]? = some (.cells [aV n0, aV n1, aV n2, aV n3, aV n4]) ∧ (B ++ X)[q]? = some (.cells [vi w0, vi w1, vi w2])) (by decide +kernel) ?_ ?_ ?_ (fun f h ⟨X, p, q, e, dX, g, a1, a2, a3, a4, a5, a6, a7⟩ => by subst e; exact hk f p q X dX g a1 a2 a3 a4 a5 a6 a7)
 ·refine (hI _ _ _).2 ⟨[], 0, 0, by simp, FA.none, ⟨t0, rfl, rfl, t4, t5, rfl, rfl⟩, fun h => ?_, fun h => ?_, fun h => ?_, fun o ho => (by cases ho)⟩
  all_goals (exfalso; revert h; decide +kernel)
 ·intro L f h i hcl hII hi;obtain ⟨X, p, q, rfl, hfa, hg, hn8, hn9, hpq, hXd⟩ := (hI _ _ _).1 hII;have t0 := hg.t0;have t4 := hg.t4;have t5 := hg.t5;have pu : ∀ (d : Nat) (v : V), (∀ x ∈ fB s a a1 a2 a3 a5 a6 u w, x.1 = i → x.2.1 = d ∧ x.2.2 = v) → (∀ x ∈ fB s a a1 a2 a3 a5 a6 u w, x.2.1 = d → x.1 = i) → (decide (d ∉ [0, 2, 3, 4, 5, 8, 9]) && decide (i < 21)) = true → I (L.setIfInBounds i true) (f.put (some d) v) (B ++ X) := by
   intro d v h1 h2 h3;rw [Bool.and_eq_true, decide_eq_true_eq, decide_eq_true_eq] at h3;simp only [List.mem_cons, List.not_mem_nil, or_false, not_or] at h3;obtain ⟨⟨d0, d2, d3, d4, d5, d8, d9⟩, hlt⟩ := h3;refine (hI _ _ _).2 ⟨X, p, q, rfl, hfa.put h1 h2, hg.put ?_, hn8.put (by omega) (by omega) d8, hn9.put (by omega) (by omega) d9, ?_, hXd⟩
   ·simp only [List.mem_cons, List.not_mem_nil, or_false, not_or];exact ⟨d0, d2, d3, d4, d5⟩
   ·rw [getD_set_ne false (by omega), getD_set_ne false (by omega)];exact hpq
  have hlt : i < 25 := F9 hi
  match i, hlt with
  | 0, _ => have pu := pu 69 (.str s) (by simp [fB]) (by simp [fB]) (by decide);simp only [wq.1, Nat.reduceLT, hP, t0];exact pu
  | 1, _ => have pu := pu 70 (.lp 3 0) (by simp [fB]) (by simp [fB]) (by decide);simp only [wq.1, Nat.reduceLT, hP, t4];exact pu
  | 2, _ => have dp := aX hi (l := [1]) (by decide +kernel);have e70 : f.t 70 = .lp 3 0 := hfa (1, 70, .lp 3 0) (by simp [fB]) (dp 1 (by simp));have pu := pu 71 (.lp 3 0) (by simp [fB]) (by simp [fB]) (by decide);simp only [wq.1, Nat.reduceLT, hP, e70];exact pu
  | 3, _ => have dp := aX hi (l := [2]) (by decide +kernel);have e71 : f.t 71 = .lp 3 0 := hfa (2, 71, .lp 3 0) (by simp [fB]) (dp 2 (by simp));have pu := pu 72 (.lp 3 0) (by simp [fB]) (by simp [fB]) (by decide);simp only [wq.1, Nat.reduceLT, hP, e71];exact pu
  | 4, _ => have dp := aX hi (l := [3]) (by decide +kernel);have e72 : f.t 72 = .lp 3 0 := hfa (3, 72, .lp 3 0) (by simp [fB]) (dp 3 (by simp));have pu := pu 73 (.lp 3 1) (by simp [fB]) (by simp [fB]) (by decide);simp only [wq.1, Nat.reduceLT, hP, e72];exact pu
  | 5, _ => have dp := aX hi (l := [4]) (by decide +kernel);have e73 : f.t 73 = .lp 3 1 := hfa (4, 73, .lp 3 1) (by simp [fB]) (dp 4 (by simp));have pu := pu 74 (vi a) (by simp [fB]) (by simp [fB]) (by decide);simp only [wq.1, Nat.reduceLT, Nat.reduceLeDiff, Nat.reduceAdd, hP, b3, e73];exact pu
  | 6, _ => have pu := pu 75 (.lp 11 1) (by simp [fB]) (by simp [fB]) (by decide);simp only [wq.1, Nat.reduceLT, Int.reduceToNat, Int.reduceLE, Nat.reduceMul, hP, t5];exact ⟨by decide, pu⟩
  | 7, _ => have dp := aX hi (l := [6]) (by decide +kernel);have e75 : f.t 75 = .lp 11 1 := hfa (6, 75, .lp 11 1) (by simp [fB]) (dp 6 (by simp));have pu := pu 76 (vi a1) (by simp [fB]) (by simp [fB]) (by decide);simp only [wq.1, Nat.reduceLT, Nat.reduceLeDiff, Nat.reduceAdd, hP, b11, e75];exact pu
  | 8, _ => have pu := pu 77 (.lp 11 2) (by simp [fB]) (by simp [fB]) (by decide);simp only [wq.1, Nat.reduceLT, Int.reduceToNat, Int.reduceLE, Nat.reduceMul, hP, t5];exact ⟨by decide, pu⟩
  | 9, _ => have dp := aX hi (l := [8]) (by decide +kernel);have e77 : f.t 77 = .lp 11 2 := hfa (8, 77, .lp 11 2) (by simp [fB]) (dp 8 (by simp));have pu := pu 78 (vi a2) (by simp [fB]) (by simp [fB]) (by decide);simp only [wq.1, Nat.reduceLT, Nat.reduceLeDiff, Nat.reduceAdd, hP, b11, e77];exact pu
  | 10, _ => have pu := pu 79 (.lp 11 3) (by simp [fB]) (by simp [fB]) (by decide);simp only [wq.1, Nat.reduceLT, Int.reduceToNat, Int.reduceLE, Nat.reduceMul, hP, t5];exact ⟨by decide, pu⟩
  | 11, _ => have dp := aX hi (l := [10]) (by decide +kernel);have e79 : f.t 79 = .lp 11 3 := hfa (10, 79, .lp 11 3) (by simp [fB]) (dp 10 (by simp));have pu := pu 80 (vi a3) (by simp [fB]) (by simp [fB]) (by decide);simp only [wq.1, Nat.reduceLT, Nat.reduceLeDiff, Nat.reduceAdd, hP, b11, e79];exact pu
  | 12, _ => have pu := pu 81 (.lp 11 5) (by simp [fB]) (by simp [fB]) (by decide);simp only [wq.1, Nat.reduceLT, Int.reduceToNat, Int.reduceLE, Nat.reduceMul, hP, t5];exact ⟨by decide, pu⟩
  | 13, _ => have dp := aX hi (l := [12]) (by decide +kernel);have e81 : f.t 81 = .lp 11 5 := hfa (12, 81, .lp 11 5) (by simp [fB]) (dp 12 (by simp));have pu := pu 82 (vi a5) (by simp [fB]) (by simp [fB]) (by decide);simp only [wq.1, Nat.reduceLT, Nat.reduceLeDiff, Nat.reduceAdd, hP, b11, e81];exact pu
  | 14, _ => have pu := pu 83 (.lp 11 6) (by simp [fB]) (by simp [fB]) (by decide);simp only [wq.1, Nat.reduceLT, Int.reduceToNat, Int.reduceLE, Nat.reduceMul, hP, t5];exact ⟨by decide, pu⟩
  | 15, _ => have dp := aX hi (l := [14]) (by decide +kernel);have e83 : f.t 83 = .lp 11 6 := hfa (14, 83, .lp 11 6) (by simp [fB]) (dp 14 (by simp));have pu := pu 84 (vi a6) (by simp [fB]) (by simp [fB]) (by decide);simp only [wq.1, seval, hP, b11, e83];exact pu
  | 16, _ => have dp := aX hi (l := [7, 9, 11, 13, 15]) (by decide +kernel);have e76 : f.t 76 = vi a1 := hfa (7, 76, vi a1) (by simp [fB]) (dp 7 (by simp));have e78 : f.t 78 = vi a2 := hfa (9, 78, vi a2) (by simp [fB]) (dp 9 (by simp));have e80 : f.t 80 = vi a3 := hfa (11, 80, vi a3) (by simp [fB]) (dp 11 (by simp));have e82 : f.t 82 = vi a5 := hfa (13, 82, vi a5) (by simp [fB]) (dp 13 (by simp));have e84 : f.t 84 = vi a6 := hfa (15, 84, vi a6) (by simp [fB]) (dp 15 (by simp));have pu := pu 85 (.agg [vi a1, vi a2, vi a3, vi a5, vi a6]) (by simp [fB]) (by simp [fB]) (by decide);simp only [wq.1, seval, hP, e76, e78, e80, e82, e84];exact pu
  | 17, _ => have dp := aX hi (l := [0, 5, 16]) (by decide +kernel);have e69 : f.t 69 = .str s := hfa (0, 69, .str s) (by simp [fB]) (dp 0 (by simp));have e74 : f.t 74 = vi a := hfa (5, 74, vi a) (by simp [fB]) (dp 5 (by simp));have e85 : f.t 85 = .agg [vi a1, vi a2, vi a3, vi a5, vi a6] := hfa (16, 85, .agg [vi a1, vi a2, vi a3, vi a5, vi a6]) (by simp [fB]) (dp 16 (by simp));have pu := pu 86 (.tup [u, w]) (by simp [fB]) (by simp [fB]) (by decide);simp only [wq.1, Nat.reduceLT, hP, e69, e74, e85];refine hT (ah.ev (xX s [a1, a2, a3, a5, a6] a rfl hs) rfl ?_);rw [hy, ← hu, ← hw];simp only [wq.1];exact pu
  | 18, _ => have dp := aX hi (l := [17]) (by decide +kernel);have e86 : f.t 86 = .tup [u, w] := hfa (17, 86, .tup [u, w]) (by simp [fB]) (dp 17 (by simp));have pu := pu 68 (.tup [u, w]) (by simp [fB]) (by simp [fB]) (by decide);simp only [wq.1, Nat.reduceLT, hP, e86];exact pu
  | 19, _ => have dp := aX hi (l := [18]) (by decide +kernel);have e68 : f.t 68 = .tup [u, w] := hfa (18, 68, .tup [u, w]) (by simp [fB]) (dp 18 (by simp));have pu := pu 87 (u) (by simp [fB]) (by simp [fB]) (by decide);simp only [wq.1, seval, hP, e68];exact pu
  | 20, _ => have dp := aX hi (l := [18]) (by decide +kernel);have e68 : f.t 68 = .tup [u, w] := hfa (18, 68, .tup [u, w]) (by simp [fB]) (dp 18 (by simp));have pu := pu 88 (w) (by simp [fB]) (by simp [fB]) (by decide);simp only [wq.1, seval, hP, e68];exact pu
  | 21, _ => have no := jA hi;have n3 : L.getD 23 false = false := Ap hcl no (by decide +kernel);simp only [wq.1, Nat.reduceLT, hP];refine (hI _ _ _).2 ⟨X ++ [.cells [.nils, .nils, .nils, .nils, .nils]], B.length + X.length, q, by rw [List.append_assoc], hfa.put (by simp [fB]) (by simp [fB]), hg.put (by decide), N13.new n3 (by decide), hn9.more (by decide) (by decide) (by decide), fun _ h => ?_, fun o ho c => by rcases List.mem_append.1 ho with h | h; exact hXd o h c; rw [List.mem_singleton.1 h]; rfl⟩;rw [getD_set_ne false (by decide)] at h;have := hn9.lt h;omega
  | 22, _ => have no := jA hi;have n3 : L.getD 24 false = false := Ap hcl no (by decide +kernel);simp only [wq.1, Nat.reduceLT, hP];refine (hI _ _ _).2 ⟨X ++ [.cells [vi 0, vi 0, vi 0]], p, B.length + X.length, by rw [List.append_assoc], hfa.put (by simp [fB]) (by simp [fB]), hg.put (by decide), hn8.more (by decide) (by decide) (by decide), N13.new n3 (by decide), fun h _ => ?_, fun o ho c => by rcases List.mem_append.1 ho with h | h; exact hXd o h c; rw [List.mem_singleton.1 h]; rfl⟩;rw [getD_set_ne false (by decide)] at h;have := hn8.lt h;omega
  | 23, _ => have dp := aX hi (l := [19, 21]) (by decide +kernel);have e87 : f.t 87 = u := hfa (19, 87, u) (by simp [fB]) (dp 19 (by simp));rw [hu] at e87;have n8 := hn8.store (dp 21 (by simp)) (nI hi);obtain ⟨z1, z2, z3⟩ := hn8 (dp 21 (by simp));rw [if_neg (by rw [jA hi]; decide)] at z3;simp only [wq.1, Nat.reduceAdd, hP, e87, z1, z3];rw [List.set_append_right _ _ z2];refine (hI _ _ _).2 ⟨_, p, q, rfl, hfa.skip (by simp [fB]), hg, n8, hn9.other (by decide) (by decide) z2 (fun h => Ne.symm (hpq (dp 21 (by simp)) h)), ?_, fun o ho c => by rcases List.mem_or_eq_of_mem_set ho with h | h; exact hXd o h c; rw [h]; rfl⟩;rw [getD_set_ne false (by decide), getD_set_ne false (by decide)];exact hpq
  | 24, _ => have dp := aX hi (l := [20, 22]) (by decide +kernel);have e88 : f.t 88 = w := hfa (20, 88, w) (by simp [fB]) (dp 20 (by simp));rw [hw] at e88;have n9 := hn9.store (dp 22 (by simp)) (nI hi);obtain ⟨z1, z2, z3⟩ := hn9 (dp 22 (by simp));rw [if_neg (by rw [jA hi]; decide)] at z3;simp only [wq.1, Nat.reduceAdd, hP, e88, z1, z3];rw [List.set_append_right _ _ z2];refine (hI _ _ _).2 ⟨_, p, q, rfl, hfa.skip (by simp [fB]), hg, hn8.other (by decide) (by decide) z2 (fun h => hpq h (dp 22 (by simp))), n9, ?_, fun o ho c => by rcases List.mem_or_eq_of_mem_set ho with h | h; exact hXd o h c; rw [h]; rfl⟩;rw [getD_set_ne false (by decide), getD_set_ne false (by decide)];exact hpq
  | n + 25, h => exact absurd h (by omega)
 ·intro L f h hall hII;obtain ⟨X, p, q, rfl, hfa, hg, hn8, hn9, hpq, hXd⟩ := (hI _ _ _).1 hII;obtain ⟨x1, x2, x3⟩ := hn8 (hall 21 (by decide +kernel));obtain ⟨y1, y2, y3⟩ := hn9 (hall 22 (by decide +kernel));rw [if_pos (hall 23 (by decide +kernel))] at x3;rw [if_pos (hall 24 (by decide +kernel))] at y3;exact ⟨X, p, q, rfl, hXd, hg, x1, y1, x2, y2, hpq (hall 21 (by decide +kernel)) (hall 22 (by decide +kernel)), x3, y3⟩
end Go.Proofs.YtfcpapokknfeeaaGreatDoor
