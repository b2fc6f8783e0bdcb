/- Lemmas for the statement of this claim, part F11: they hold with no conditions but those that each one names. -/
import Derived.Test.YtfcpapokknfeeaaGreatDoorF10
import Derived.Test.YtfcpapokknfeeaaGreatDoorA12
import Derived.Test.YtfcpapokknfeeaaGreatDoorA9
import Derived.Test.YtfcpapokknfeeaaGreatDoorA11
set_option linter.unusedVariables false
set_option maxRecDepth 20000
set_option linter.unusedSimpArgs false
set_option linter.unnecessarySimpa false
namespace Go.Proofs.YtfcpapokknfeeaaGreatDoor
open Go Go.Proofs Go.Abs
theorem zgv {e : Int} {d2 d3 : V} {cs : List V} {h : H} {K : H → (Nat → Bool) → Prop} (h1 : h[1]? = some (.cells cs)) (hc : cs.length = 5) (h2 : h[2]? = some (.cells [vi e, d2, d3]))
 (hK0 : e = 0 → K h (fun _ => false)) (hK1 : e ≠ 0 → K (h.set 1 (.cells [.nils, .nils, .nils, .nils, .nils])) (fun _ => false)) : zba TE 63 [.lp 2 0, .lp 1 0] h K := by
 refine zeK rfl Tryz.func63 rfl rfl (by simp [nts]) ?_
 simp only [nts]
 by_cases he : e = 0
 ·have he' : (e != 0) = false := by simpa using he
  refine vm ?_
  simp only [wq.down, seval, h2, he']
  exact hK0 he
 ·have he' : (e != 0) = true := by simpa using he
  refine vm ?_
  simp only [wq.down, seval, h2, h1, he']
  refine ⟨by omega, ?_⟩
  rw [List.drop_eq_nil_of_le (by omega)]
  exact hK1 he
theorem zqN {s : S} {a b : Nat} {n : Int} (h : zf0 s a = .ok (n, b)) : a ≤ b := by
 unfold zf0 at h
 split at h
 ·rename_i h1
  simp only [Except.ok.injEq, Prod.mk.injEq] at h
  rw [← h.2]
  revert h1
  unfold zha
  split
  ·intro h1; cases h1
  ·split
   ·intro _
    dsimp only
    omega
   ·intro h1; cases h1
 ·cases h
theorem zke {s : S} {L L' : List (List S)} {a b : Nat} (h : zfM s L a = .ok (L', b)) (hL : L.length = 5) (hLb : ∀ l ∈ L, l.length ≤ 4000) : a < b ∧ b ≤ s.length ∧ L'.length = 5 ∧ ∀ l ∈ L', l.length ≤ 4000 := by
 unfold zfM at h
 cases hk : zpE (s.getD a 0) with
 | none => rw [hk] at h; cases h
 | some k =>
  obtain ⟨_, hk5⟩ := ziw hk
  rw [hk] at h
  dsimp only at h
  cases hn : zf0 s (a + 1) with
  | error e => rw [hn] at h; cases h
  | ok nb =>
   obtain ⟨n, b1⟩ := nb
   rw [hn] at h
   dsimp only at h
   have hge := zqN hn
   unfold zde at h
   split at h
   ·cases h
   ·rename_i b2 hb
    split at hb
    ·cases hb
     split at h
     ·split at h
      ·split at h
       ·split at h
        ·simp only [Except.ok.injEq, Prod.mk.injEq] at h
         obtain ⟨rfl, rfl⟩ := h
         refine ⟨by omega, by omega, by rw [List.length_set]; exact hL, fun l hl => ?_⟩
         rcases List.mem_or_eq_of_mem_set hl with h | h
         ·exact hLb l h
         ·rw [h, List.length_set, zw (by omega)]
          exact hLb _ (List.getElem_mem _)
        ·cases h
       ·cases h
      ·cases h
     ·cases h
    ·cases hb
theorem zkf {s : S} {a w : Nat} {e : Int} (h : zf0 s a = .error (w, e)) : w = a ∧ e = 3 := by
 unfold zf0 at h
 split at h
 ·cases h
 ·simp only [Except.error.injEq, Prod.mk.injEq] at h
  exact ⟨h.1.symm, h.2.symm⟩
theorem zix {s : S} {L : List (List S)} {a w : Nat} {e : Int} (h : zfM s L a = .error (w, e)) : e ≠ 0 := by
 unfold zfM at h
 cases hk : zpE (s.getD a 0) with
 | none => rw [hk] at h; simp only [Except.error.injEq, Prod.mk.injEq] at h; omega
 | some k =>
  rw [hk] at h
  dsimp only at h
  cases hn : zf0 s (a + 1) with
  | error e =>
   obtain ⟨w', e'⟩ := e
   rw [hn] at h
   have := zkf hn
   simp only [Except.error.injEq, Prod.mk.injEq] at h
   omega
  | ok nb =>
   obtain ⟨n, b1⟩ := nb
   rw [hn] at h
   dsimp only at h
   unfold zde at h
   repeat' split at h
   all_goals first
    | cases h; done
    | (simp only [Except.error.injEq, Prod.mk.injEq] at h; omega)
    | (rename_i hb; split at hb <;> first | cases hb; done | (simp only [Except.error.injEq] at hb h; subst hb; simp only [Prod.mk.injEq] at h; omega))
def zgw (k : Nat) : UInt8 := [(105 : UInt8), 108, 111, 98, 99].getD k 0
theorem zaf {c : UInt8} : ∀ {l : List S} {i : Nat}, (zcw c i l).length = l.length
 | [], i => rfl
 | x :: l, i => by unfold zcw; rw [List.length_cons, zaf, List.length_cons]
theorem zkg {c : UInt8} : ∀ {l : List S} {b i : Nat} (h : i < l.length), (zcw c b l)[i]'(by rw [zaf]; exact h) = if l[i] = [] then c :: Lib.itoa ((b + i : Nat) : Int) else l[i]
 | x :: l, b, 0, h => rfl
 | x :: l, b, i + 1, h => by
  have := zkg (c := c) (l := l) (b := b + 1) (i := i) (by simpa using h)
  unfold zcw
  simp only [List.getElem_cons_succ]
  rw [this, show b + 1 + i = b + (i + 1) by omega]
def zbs (c : UInt8) (i : Nat) (l : List S) : List S := (zcw c 0 l).take i ++ l.drop i
theorem zqO {c : UInt8} {l : List S} : zbs c 0 l = l := by simp [zbs]
theorem zns {c : UInt8} {l : List S} : zbs c l.length l = zcw c 0 l := by
 unfold zbs
 rw [List.drop_length, List.append_nil, List.take_of_length_le (by rw [zaf]; exact Nat.le_refl _)]
theorem ziy {c : UInt8} {i : Nat} {l : List S} (h : i ≤ l.length) : (zbs c i l).length = l.length := by
 unfold zbs
 rw [List.length_append, List.length_take, List.length_drop, zaf]; omega
theorem zkh {c : UInt8} {i : Nat} {l : List S} (h : i < l.length) : (zbs c i l)[i]'(by rw [ziy (by omega)]; exact h) = l[i] := by
 unfold zbs
 rw [List.getElem_append_right (by rw [List.length_take, zaf]; omega)]
 simp [List.length_take, zaf, Nat.min_eq_left (Nat.le_of_lt h)]
theorem zgx {c : UInt8} {i : Nat} {l : List S} (h : i < l.length) : zbs c (i + 1) l = (zbs c i l).set i (if l[i] = [] then c :: Lib.itoa (i : Int) else l[i]) := by
 have hf := zkg (c := c) (b := 0) h
 rw [Nat.zero_add] at hf
 unfold zbs
 rw [List.take_add_one, List.getElem?_eq_getElem (by rw [zaf]; exact h), hf, List.set_append_right _ _ (by rw [List.length_take, zaf]; omega), List.length_take, zaf, Nat.min_eq_left (by omega), Nat.sub_self, List.drop_eq_getElem_cons h, List.set_cons_zero, Option.toList_some, List.append_assoc]
 rfl
def Lk (L : List (List S)) (k : Nat) : List (List S) := (List.range 5).map fun j => if j < k then zcw (zgw j) 0 (L.getD j []) else L.getD j []
theorem znt {L : List (List S)} {k : Nat} : (Lk L k).length = 5 := by simp [Lk]
theorem zsg {L : List (List S)} {k : Nat} (h : k < 5) : (Lk L k).getD k [] = L.getD k [] := by
 unfold Lk
 rw [List.getD_eq_getElem?_getD, List.getElem?_map, List.getElem?_range h]
 simp
theorem ztl {L : List (List S)} (h : L.length = 5) : Lk L 0 = L := by
 obtain ⟨l0, l1, l2, l3, l4, rfl⟩ := zsf h
 rfl
theorem ztm {L : List (List S)} : Lk L 5 = zlo L := rfl
theorem zqP {L : List (List S)} {k : Nat} (h : k < 5) : (Lk L k).set k (zcw (zgw k) 0 (L.getD k [])) = Lk L (k + 1) := by
 rcases k with _|_|_|_|_|k
 ·rfl
 ·rfl
 ·rfl
 ·rfl
 ·rfl
 ·omega
theorem zsh {L : List (List S)} {k : Nat} {r : List S} (h : k < L.length) : (L.set k r).getD k [] = r := by
 rw [List.getD_eq_getElem?_getD, List.getElem?_set_self h]; rfl
theorem zlq {k : Nat} (h : k < 5) : (([105, 108, 111, 98, 99] : S).drop k).take (k + 1 - k) = [zgw k] := by
 rcases k with _|_|_|_|_|k
 ·rfl
 ·rfl
 ·rfl
 ·rfl
 ·rfl
 ·omega
def zpJ : Plan := .take 0 <| .take 1 <| .take 3 <| .take 4 <| .take 5 <| .take 6 <| .take 7 <| .take 8 <| .alt 2 (.one 9 <| .one 10 <| .take 11 <| .one 12 <| .fin) (.one 9 (.alt 2 (.one 10 <| .take 11 <| .one 12 <| .fin) (.one 10 (.one 2 <| .take 11 <| .one 12 <| .fin))))
def znu (s : S) (many : Cl) (a : Nat) : V := match zkb s many a with
 | .error (w, e) => .tup [.agg [zT [], zT [], zT [], zT [], zT []], zP s w e]
 | .ok N => .tup [.agg [zT (N.getD 0 []), zT (N.getD 1 []), zT (N.getD 2 []), zT (N.getD 3 []), zT (N.getD 4 [])], .agg [vi 0, vi 0, vi 0]]
def hMk (many : Cl) (L : List (List S)) : Nat → H
 | 0 => [.cells (many.map vi), .cells [.nils, .nils, .nils, .nils, .nils], .cells [vi 0, vi 0, vi 0]]
 | 1 => [.cells (many.map vi), .cells [lsS L 0, .nils, .nils, .nils, .nils], .cells [vi 0, vi 0, vi 0], rwS L 0]
 | 2 => [.cells (many.map vi), .cells [lsS L 0, lsS L 1, .nils, .nils, .nils], .cells [vi 0, vi 0, vi 0], rwS L 0, rwS L 1]
 | 3 => [.cells (many.map vi), .cells [lsS L 0, lsS L 1, lsS L 2, .nils, .nils], .cells [vi 0, vi 0, vi 0], rwS L 0, rwS L 1, rwS L 2]
 | 4 => [.cells (many.map vi), .cells [lsS L 0, lsS L 1, lsS L 2, lsS L 3, .nils], .cells [vi 0, vi 0, vi 0], rwS L 0, rwS L 1, rwS L 2, rwS L 3]
 | _ => [.cells (many.map vi), .cells [lsS L 0, lsS L 1, lsS L 2, lsS L 3, lsS L 4], .cells [vi 0, vi 0, vi 0], rwS L 0, rwS L 1, rwS L 2, rwS L 3, rwS L 4]
set_option maxHeartbeats 8000000 in
theorem zlr (s : S) (many : Cl) (a : Nat) (hm : many.length = 5) (hs : s.length ≤ 100000) : Ev TE 21 [.str s, vi a, .agg (many.map vi)] (znu s many a) := by
 have hM : maxLen = 9223372036854775807 := rfl
 obtain ⟨m0, m1, m2, m3, m4, rfl⟩ : ∃ m0 m1 m2 m3 m4, many = [m0, m1, m2, m3, m4] := by
  match many, hm with
  | [m0, m1, m2, m3, m4], _ => exact ⟨_, _, _, _, _, rfl⟩
 refine za9 ?_
 refine zbd rfl Tryz.func21 rfl (by simp [nts]) fun ok pl0 w0 => ?_
 simp only [nts]
 refine zdK (Q := fun _ _ _ => False) ?_ (fun _ _ _ h => by obtain ⟨_, _, _, _, _, _, h⟩ := h; exact h.elim)
 refine vm ?_
 simp only [wq.down, seval]
 have hsc : ∀ (tl : List Deferred) (x : Operand), x ∈ #[Operand.tmp 15, Operand.tmp 7] → (Fr.ev { TE with tl := tl } ((((((Fr.init [V.str s, vi a, V.agg ([m0, m1, m2, m3, m4].map vi)]).put (some 5) (.lp 0 0)).put (some 6) (.lp 1 0)).put (some 7) (.lp 2 0)).put (some 14) (.fn (.func 63) [] [.lp 2 0, .lp 1 0])).put (some 15) (.str s)) x).sc := fun tl x hx => by
  simp only [List.mem_toArray, List.mem_cons, List.not_mem_nil, or_false] at hx
  rcases hx with rfl | rfl
  ·simp only [wq.down, ↓reduceIte]
  ·simp only [wq.down, seval]
 refine zmE (fn := Tryz.f21) (q := 63) (q2 := 52) (avs := [.lp 2 0, .lp 1 0]) (avs2 := [.str s, .lp 2 0]) (F2 := (((((Fr.init [V.str s, vi a, V.agg ([m0, m1, m2, m3, m4].map vi)]).put (some 5) (.lp 0 0)).put (some 6) (.lp 1 0)).put (some 7) (.lp 2 0)).put (some 14) (.fn (.func 63) [] [.lp 2 0, .lp 1 0])).put (some 15) (.str s)) rfl ⟨rfl, by simp only [wq.down, Nat.reduceLT], by simp only [wq.down, seval], rfl, rfl, rfl, ⟨.tmp 14, #[], #[], [.lp 2 0, .lp 1 0], rfl, by simp only [wq.down, seval], by simp only [wq.down, seval], by simp, by simp only [wq.down, seval]⟩, by simp only [wq.down]⟩ rfl rfl (fun tl => ⟨rfl, by simp only [wq.down, Nat.reduceLT], by simp only [wq.down, seval], rfl, rfl, rfl, ⟨.func 52, #[.tmp 15, .tmp 7], _, [], rfl, by simp only [wq.down], by simp only [wq.down], hsc tl, by simp only [wq.down, seval]⟩, by simp only [wq.down, seval]⟩) rfl fun d d2 => ?_
 obtain ⟨ee, hee⟩ : ∃ ee : E, ee = { TE with tl := [d2, d] } := ⟨_, rfl⟩
 have hP : ee.P = P := by rw [hee]; rfl
 have hmix : ee.P.follows .mixedOrders = true := by rw [hP]; exact mixed
 have hT : ∀ {g : FuncId} {args : List V} {h : H} {R : AEnd → H → (Nat → Bool) → Prop}, zb TE g args h R → zb ee g args h R := fun hc => by rw [hee]; exact hc.tl _
 rw [← hee]
 obtain ⟨QP, eQP⟩ : ∃ QP : XE → Fr → H → Prop, QP = LV TE Tryz.f21 (fun ae h x => match ae with | AEnd.ret v => zn TE h v (znu s [m0, m1, m2, m3, m4] a) | AEnd.pan v => False) [(52, [V.str s, V.lp 2 0]), (63, [V.lp 2 0, V.lp 1 0])] := ⟨_, rfl⟩
 refine zN (Q := QP) (fun xe f' h' hq => by rw [eQP] at hq; exact hq) ?_
 have hkd : ∀ {f' : Fr}, (∀ j, f'.k j = true → False) → ∀ x ∈ [((52 : FuncId), [V.str s, V.lp 2 0]), (63, [V.lp 2 0, V.lp 1 0])], V.drops f'.k x.2 = x.2 := fun {f'} h x hx => by
  have z : ∀ j, f'.k j = false := fun j => by
   cases hj : f'.k j with
   | false => rfl
   | true => exact (h j hj).elim
  simp only [List.mem_cons, List.not_mem_nil, or_false] at hx
  rcases hx with rfl | rfl
  ·simp [V.drops, V.drop, z]
  ·simp [V.drops, V.drop, z]
 have hpan : ∀ {w : Nat} {e : Int} {f' : Fr} {h : H} {cs : List V}, zkb s [m0, m1, m2, m3, m4] a = .error (w, e) → e ≠ 0 → f'.d = [] → (∀ j, f'.k j = true → False) → f'.t 6 = .lp 1 0 → f'.t 7 = .lp 2 0 → h[1]? = some (.cells cs) → cs.length = 5 → h[2]? = some (.cells [vi 0, vi 0, vi 0]) → QP (.pan (zeu w e)) f' h := by
  intro w e f' h cs hp he hd hk t6 t7 g1 gl g2
  have l1 : 1 < h.length := (List.getElem?_eq_some_iff.1 g1).1
  have l2 : 2 < h.length := (List.getElem?_eq_some_iff.1 g2).1
  have hv : znu s [m0, m1, m2, m3, m4] a = .tup [.agg [zT [], zT [], zT [], zT [], zT []], zP s w e] := by unfold znu; rw [hp]
  have hf : zP s w e = .agg [vi e, vi (zY s w).1, vi (zY s w).2] := by unfold zP; rw [if_neg he]
  rw [eQP, hv]
  refine ⟨hd, hkd hk, ?_⟩
  refine zfP w e (by omega) g2 fun X => ⟨fun y hy => ?_, ?_⟩
  ·rw [List.mem_singleton] at hy; subst hy; rfl
  refine zgv (e := e) (d2 := vi (zY s w).1) (d3 := vi (zY s w).2) (cs := cs) ?_ gl ?_ (fun h0 => absurd h0 he) (fun _ => ⟨fun y hy => (by cases hy), ?_⟩)
  ·rw [List.getElem?_append_left (by rw [List.length_set]; exact l1), List.getElem?_set_ne (by decide)]; exact g1
  ·rw [List.getElem?_append_left (by rw [List.length_set]; exact l2), List.getElem?_set_self l2, hf]; rfl
  have r1 : ((h.set 2 (.cells (zP s w e).vc) ++ [X]).set 1 (.cells [.nils, .nils, .nils, .nils, .nils]))[1]? = some (.cells [.nils, .nils, .nils, .nils, .nils]) := by
   rw [List.getElem?_set_self (by rw [List.length_append, List.length_set]; omega)]
  have r2 : ((h.set 2 (.cells (zP s w e).vc) ++ [X]).set 1 (.cells [.nils, .nils, .nils, .nils, .nils]))[2]? = some (.cells [vi e, vi (zY s w).1, vi (zY s w).2]) := by
   rw [List.getElem?_set_ne (by decide), List.getElem?_append_left (by rw [List.length_set]; exact l2), List.getElem?_set_self l2, hf]; rfl
  obtain ⟨h3, eh3⟩ : ∃ h3, h3 = (h.set 2 (.cells (zP s w e).vc) ++ [X]).set 1 (.cells [.nils, .nils, .nils, .nils, .nils]) := ⟨_, rfl⟩
  rw [← eh3] at r1 r2 ⊢
  unfold LVr
  simp only [Tryz.results21, nts]
  simp only [wq.down, seval, hd, t6, t7, r1, r2]
  rw [hf]
  exact zn.tup (zj.cons (zn.agg (zj.cons zn.nils (zj.cons zn.nils (zj.cons zn.nils (zj.cons zn.nils (zj.cons zn.nils zj.nil)))))) (zj.cons (zn.dat rfl) zj.nil))
 have hret : ∀ {L : List (List S)} {b : Nat} {f' : Fr}, zkb s [m0, m1, m2, m3, m4] a = .ok L → f'.d = [] → (∀ j, f'.k j = true → False) → f'.t 6 = .lp 1 0 → f'.t 7 = .lp 2 0 → QP .ret f' (hS [m0, m1, m2, m3, m4] s b L) := by
  intro L b f' hp hd hk t6 t7
  have hv : znu s [m0, m1, m2, m3, m4] a = .tup [.agg [zT (L.getD 0 []), zT (L.getD 1 []), zT (L.getD 2 []), zT (L.getD 3 []), zT (L.getD 4 [])], .agg [vi 0, vi 0, vi 0]] := by unfold znu; rw [hp]
  rw [eQP, hv]
  refine ⟨hd, hkd hk, ?_⟩
  refine zfO fun X => ⟨fun y hy => ?_, ?_⟩
  ·rw [List.mem_singleton] at hy; subst hy; rfl
  refine zgv (e := 0) (d2 := vi 0) (d3 := vi 0) (cs := [lsS L 0, lsS L 1, lsS L 2, lsS L 3, lsS L 4]) rfl rfl rfl (fun _ => ⟨fun y hy => (by cases hy), ?_⟩) (fun h0 => absurd rfl h0)
  unfold LVr
  simp only [Tryz.results21, nts]
  simp only [wq.down, seval, hd, t6, t7]
  exact zn.tup (zj.cons (zn.agg (zj.cons (zav rfl rfl) (zj.cons (zav rfl rfl) (zj.cons (zav rfl rfl) (zj.cons (zav rfl rfl) (zj.cons (zav rfl rfl) zj.nil)))))) (zj.cons (zn.dat rfl) zj.nil))
 obtain ⟨L0, hL0⟩ : ∃ L0, L0 = zf9 [m0, m1, m2, m3, m4] := ⟨_, rfl⟩
 have hL05 : L0.length = 5 := by rw [hL0]; unfold zf9; rfl
 refine za ?_
 refine za (zC hmix _ _ _ _ ?_)
 simp only [wq.down, seval, hP]
 refine zy ?_
 refine zp (fun mm f h' => ∃ k, mm + k = 5 ∧ f.t 0 = .str s ∧ f.t 1 = vi a ∧ f.t 6 = .lp 1 0 ∧ f.t 7 = .lp 2 0 ∧ f.t 16 = .agg ([m0, m1, m2, m3, m4].map vi) ∧ f.t 17 = vi k ∧ f.d = [] ∧ (∀ j, f.k j = true → False) ∧ h' = hMk [m0, m1, m2, m3, m4] L0 k) 5 ⟨0, rfl, by simp only [wq.down, seval], by simp only [wq.down, seval], by simp only [wq.down, seval], by simp only [wq.down, seval], by simp only [wq.down, seval], rfl, rfl, fun j hj => (by cases hj), rfl⟩ ?_
 rintro mm f h' ⟨k, hmk, t0, t1, t6, t7, t16, t17, hd, hk, rfl⟩
 refine za (zC hmix _ _ _ _ ?_)
 simp only [wq.down, Nat.reduceLT, hP, t17]
 refine za (zC hmix _ _ _ _ ?_)
 simp only [wq.down, seval, -Int.reduceNatCast, -Int.reduceNatCast', zg, Tryz.results21, hP, t0, t1, t6, t7, t16, t17, hd]
 refine vcB.mk (fun hlt => ?_) (fun hlt => ?_)
 ·have hlt : k < 5 := by
   have := of_decide_eq_true hlt
   omega
  refine za (zy ?_)
  rcases k with _|_|_|_|_|k
  ·show awp _ _ _ _ _ _ [.cells [vi m0, vi m1, vi m2, vi m3, vi m4], .cells [.nils, .nils, .nils, .nils, .nils], .cells [vi 0, vi 0, vi 0]]
   refine za (zC hmix _ _ _ _ ?_)
   simp only [wq.down, seval, -Int.reduceNatCast, -Int.reduceNatCast', zg, Tryz.results21, hP, t0, t1, t6, t7, t16, t17, hd]
   refine ⟨by decide, ?_⟩
   refine zC hmix _ _ _ _ ?_
   simp only [wq.down, seval, -Int.reduceNatCast, -Int.reduceNatCast', zg, Tryz.results21, hP, t0, t1, t6, t7, t16, t17, hd, mx, mn]
   refine ⟨⟨by omega, by omega⟩, by decide, ?_⟩
   refine zC hmix _ _ _ _ ?_
   simp only [wq.down, seval, hP, t17]
   refine .inl ⟨mm - 1, by omega, 1, by omega, by simp only [wq.down, seval, t0], by simp only [wq.down, seval, t1], by simp only [wq.down, seval, t6], by simp only [wq.down, seval, t7], by simp only [wq.down, seval, t16], rfl, by simp only [wq.down, seval, -Int.reduceNatCast, -Int.reduceNatCast', zg, Tryz.results21, hd], fun j hj => hk j hj, ?_⟩
   rw [hL0]
   simp [hMk, zf9, lsS, rwS]
  ·show awp _ _ _ _ _ _ [.cells [vi m0, vi m1, vi m2, vi m3, vi m4], .cells [lsS L0 0, .nils, .nils, .nils, .nils], .cells [vi 0, vi 0, vi 0], rwS L0 0]
   refine za (zC hmix _ _ _ _ ?_)
   simp only [wq.down, seval, -Int.reduceNatCast, -Int.reduceNatCast', zg, Tryz.results21, hP, t0, t1, t6, t7, t16, t17, hd]
   refine ⟨by decide, ?_⟩
   refine zC hmix _ _ _ _ ?_
   simp only [wq.down, seval, -Int.reduceNatCast, -Int.reduceNatCast', zg, Tryz.results21, hP, t0, t1, t6, t7, t16, t17, hd, mx, mn]
   refine ⟨⟨by omega, by omega⟩, by decide, ?_⟩
   refine zC hmix _ _ _ _ ?_
   simp only [wq.down, seval, hP, t17]
   refine .inl ⟨mm - 1, by omega, 2, by omega, by simp only [wq.down, seval, t0], by simp only [wq.down, seval, t1], by simp only [wq.down, seval, t6], by simp only [wq.down, seval, t7], by simp only [wq.down, seval, t16], rfl, by simp only [wq.down, seval, -Int.reduceNatCast, -Int.reduceNatCast', zg, Tryz.results21, hd], fun j hj => hk j hj, ?_⟩
   rw [hL0]
   simp [hMk, zf9, lsS, rwS]
  ·show awp _ _ _ _ _ _ [.cells [vi m0, vi m1, vi m2, vi m3, vi m4], .cells [lsS L0 0, lsS L0 1, .nils, .nils, .nils], .cells [vi 0, vi 0, vi 0], rwS L0 0, rwS L0 1]
   refine za (zC hmix _ _ _ _ ?_)
   simp only [wq.down, seval, -Int.reduceNatCast, -Int.reduceNatCast', zg, Tryz.results21, hP, t0, t1, t6, t7, t16, t17, hd]
   refine ⟨by decide, ?_⟩
   refine zC hmix _ _ _ _ ?_
   simp only [wq.down, seval, -Int.reduceNatCast, -Int.reduceNatCast', zg, Tryz.results21, hP, t0, t1, t6, t7, t16, t17, hd, mx, mn]
   refine ⟨⟨by omega, by omega⟩, by decide, ?_⟩
   refine zC hmix _ _ _ _ ?_
   simp only [wq.down, seval, hP, t17]
   refine .inl ⟨mm - 1, by omega, 3, by omega, by simp only [wq.down, seval, t0], by simp only [wq.down, seval, t1], by simp only [wq.down, seval, t6], by simp only [wq.down, seval, t7], by simp only [wq.down, seval, t16], rfl, by simp only [wq.down, seval, -Int.reduceNatCast, -Int.reduceNatCast', zg, Tryz.results21, hd], fun j hj => hk j hj, ?_⟩
   rw [hL0]
   simp [hMk, zf9, lsS, rwS]
  ·show awp _ _ _ _ _ _ [.cells [vi m0, vi m1, vi m2, vi m3, vi m4], .cells [lsS L0 0, lsS L0 1, lsS L0 2, .nils, .nils], .cells [vi 0, vi 0, vi 0], rwS L0 0, rwS L0 1, rwS L0 2]
   refine za (zC hmix _ _ _ _ ?_)
   simp only [wq.down, seval, -Int.reduceNatCast, -Int.reduceNatCast', zg, Tryz.results21, hP, t0, t1, t6, t7, t16, t17, hd]
   refine ⟨by decide, ?_⟩
   refine zC hmix _ _ _ _ ?_
   simp only [wq.down, seval, -Int.reduceNatCast, -Int.reduceNatCast', zg, Tryz.results21, hP, t0, t1, t6, t7, t16, t17, hd, mx, mn]
   refine ⟨⟨by omega, by omega⟩, by decide, ?_⟩
   refine zC hmix _ _ _ _ ?_
   simp only [wq.down, seval, hP, t17]
   refine .inl ⟨mm - 1, by omega, 4, by omega, by simp only [wq.down, seval, t0], by simp only [wq.down, seval, t1], by simp only [wq.down, seval, t6], by simp only [wq.down, seval, t7], by simp only [wq.down, seval, t16], rfl, by simp only [wq.down, seval, -Int.reduceNatCast, -Int.reduceNatCast', zg, Tryz.results21, hd], fun j hj => hk j hj, ?_⟩
   rw [hL0]
   simp [hMk, zf9, lsS, rwS]
  ·show awp _ _ _ _ _ _ [.cells [vi m0, vi m1, vi m2, vi m3, vi m4], .cells [lsS L0 0, lsS L0 1, lsS L0 2, lsS L0 3, .nils], .cells [vi 0, vi 0, vi 0], rwS L0 0, rwS L0 1, rwS L0 2, rwS L0 3]
   refine za (zC hmix _ _ _ _ ?_)
   simp only [wq.down, seval, -Int.reduceNatCast, -Int.reduceNatCast', zg, Tryz.results21, hP, t0, t1, t6, t7, t16, t17, hd]
   refine ⟨by decide, ?_⟩
   refine zC hmix _ _ _ _ ?_
   simp only [wq.down, seval, -Int.reduceNatCast, -Int.reduceNatCast', zg, Tryz.results21, hP, t0, t1, t6, t7, t16, t17, hd, mx, mn]
   refine ⟨⟨by omega, by omega⟩, by decide, ?_⟩
   refine zC hmix _ _ _ _ ?_
   simp only [wq.down, seval, hP, t17]
   refine .inl ⟨mm - 1, by omega, 5, by omega, by simp only [wq.down, seval, t0], by simp only [wq.down, seval, t1], by simp only [wq.down, seval, t6], by simp only [wq.down, seval, t7], by simp only [wq.down, seval, t16], rfl, by simp only [wq.down, hd], fun j hj => hk j hj, ?_⟩
   rw [hL0]
   simp [hMk, zf9, lsS, rwS]
  ·omega
 ·have hk5 : k = 5 := by
   have := of_decide_eq_false hlt
   omega
  subst hk5
  simp only [wq.down]
  refine za (zC hmix _ _ _ _ ?_)
  simp only [wq.down, seval, hP, t0, t1, hMk]
  have hsR : zkb s [m0, m1, m2, m3, m4] a = (match ziR s (s.length + 1) L0 a with | .error e => .error e | .ok L => .ok (zlo L)) := by rw [hL0]; rfl
  have e0 : decide ((0 : Int) ≤ (a : Int)) = true := by simp
  refine za (zN (Q := fun xe f h' => (xe = .normal ∧ ∃ L b, zkb s [m0, m1, m2, m3, m4] a = .ok (zlo L) ∧ L.length = 5 ∧ (∀ l ∈ L, l.length ≤ 4000) ∧ f.t 6 = .lp 1 0 ∧ f.t 7 = .lp 2 0 ∧ f.d = [] ∧ (∀ j, f.k j = true → False) ∧ h' = hS [m0, m1, m2, m3, m4] s b L) ∨ (xe ≠ .normal ∧ QP xe f h')) ?_ ?_)
  ·rintro xe f h' (⟨rfl, L, b, hsy, hL5, hLb, t6, t7, hd, hk, rfl⟩ | ⟨hx, hq⟩)
   ·show awp _ _ _ _ _ _ _
    have hLt : ∀ j, (L.getD j []).length ≤ 4000 := fun j => by
     by_cases hj : j < L.length
     ·rw [zw hj]; exact hLb _ (List.getElem_mem hj)
     ·rw [List.getD_eq_getElem?_getD, List.getElem?_eq_none (by omega)]; exact Nat.zero_le _
    refine za ?_
    refine za ?_
    refine zC hmix _ _ _ _ ?_
    simp only [wq.down, Nat.reduceLT, hP]
    refine zy ?_
    refine zp (fun mm f h' => ∃ k, mm + k = 5 ∧ f.t 6 = .lp 1 0 ∧ f.t 7 = .lp 2 0 ∧ f.t 50 = vi k ∧ f.d = [] ∧ (∀ j, f.k j = true → False) ∧ h' = hS [m0, m1, m2, m3, m4] s b (Lk L k)) 5 ⟨0, rfl, by simp only [wq.down, seval, t6], by simp only [wq.down, seval, t7], rfl, by simp only [wq.down, hd], fun j hj => hk j hj, by rw [ztl hL5]⟩ ?_
    clear t6 t7 hd hk
    rintro mm f h' ⟨k, hmk, t6, t7, t50, hd, hk, rfl⟩
    refine za (zC hmix _ _ _ _ ?_)
    simp only [wq.down, Nat.reduceLT, hP, t50]
    refine za (zC hmix _ _ _ _ ?_)
    simp only [wq.down, ↓reduceIte]
    refine vcB.mk (fun hlt => ?_) (fun hlt => ?_)
    ·have hk5 : k < 5 := by
      have := of_decide_eq_true hlt
      omega
     have hls := zqM (L := Lk L k) hk5
     unfold lsS at hls
     rw [zsg hk5] at hls
     obtain ⟨l, hl⟩ : ∃ l, l = L.getD k [] := ⟨_, rfl⟩
     have hll := hLt k
     rw [← hl] at hls hll
     obtain ⟨H, hH⟩ : ∃ H, H = hS [m0, m1, m2, m3, m4] s b (Lk L k) := ⟨_, rfl⟩
     have H1 : H[1]? = some (.cells [lsS (Lk L k) 0, lsS (Lk L k) 1, lsS (Lk L k) 2, lsS (Lk L k) 3, lsS (Lk L k) 4]) := by rw [hH]; rfl
     rw [← hH]
     refine za (zy ?_)
     refine za (zC hmix _ _ _ _ ?_)
     simp only [wq.down, seval, hP, t50]
     refine za (zC hmix _ _ _ _ ?_)
     simp only [wq.down, seval, hP, t6, H1, hls]
     refine ⟨⟨by omega, by omega⟩, by omega, ?_⟩
     rw [hH]
     refine zy ?_
     refine zp (fun mq f h' => ∃ i, mq + i = l.length ∧ f.t 6 = .lp 1 0 ∧ f.t 7 = .lp 2 0 ∧ f.t 11 = vi k ∧ f.t 50 = vi k ∧ f.t 55 = .ls (3 + k) 1 0 l.length l.length ∧ f.t 56 = vi l.length ∧ f.t 57 = vi i ∧ f.d = [] ∧ (∀ j, f.k j = true → False) ∧ h' = hS [m0, m1, m2, m3, m4] s b ((Lk L k).set k (zbs (zgw k) i l))) l.length ⟨0, by simp, by simp only [wq.down, seval, t6], by simp only [wq.down, seval, t7], by simp only [wq.down, seval], by simp only [wq.down, seval, t50], by simp only [wq.down, seval], by simp only [wq.down, seval], rfl, by simp only [wq.down, hd], fun j hj => hk j hj, by rw [zqO, hl, ← zsg hk5, zw (by rw [znt]; exact hk5), List.set_getElem_self]⟩ ?_
     clear t6 t7 t50 hd hk
     rintro mq f h' ⟨i, hm2, t6, t7, t11, t50, t55, t56, t57, hd, hk, rfl⟩
     refine za (zC hmix _ _ _ _ ?_)
     simp only [wq.down, Nat.reduceLT, hP, t56, t57]
     refine za (zC hmix _ _ _ _ ?_)
     simp only [wq.down, ↓reduceIte]
     obtain ⟨L2, hL2⟩ : ∃ L2, L2 = (Lk L k).set k (zbs (zgw k) i l) := ⟨_, rfl⟩
     have hL25 : L2.length = 5 := by rw [hL2, List.length_set, znt]
     refine vcB.mk (fun hlt2 => ?_) (fun hlt2 => ?_)
     ·have hil : i < l.length := by
       have := of_decide_eq_true hlt2
       omega
      have hLk : L2.getD k [] = zbs (zgw k) i l := by rw [hL2, zsh (by rw [znt]; exact hk5)]
      have hfl : (zbs (zgw k) i l).length = l.length := ziy (by omega)
      have hrw2 := zpH (many := [m0, m1, m2, m3, m4]) (s := s) (a := b) (L := L2) hk5
      have hls2 := zqM (L := L2) hk5
      unfold lsS at hls2
      unfold rwS at hrw2
      rw [hLk] at hrw2 hls2
      rw [hfl] at hls2
      have hsi : ((zbs (zgw k) i l).map V.str).getD (i * 1) .any = .str l[i] := by
       rw [Nat.mul_one, List.getD_eq_getElem?_getD, List.getElem?_map, List.getElem?_eq_getElem (by rw [hfl]; exact hil), zkh hil]; rfl
      have hset2 : ∀ x : S, (if l[i] = [] then zgw k :: Lib.itoa (i : Int) else l[i]) = x → (hS [m0, m1, m2, m3, m4] s b L2).set (3 + k) (.cells (((zbs (zgw k) i l).set i x).map V.str)) = hS [m0, m1, m2, m3, m4] s b ((Lk L k).set k (zbs (zgw k) (i + 1) l)) := fun x hx => by
       rw [zgx hil, hx, ← hLk, zpI hL25 hk5, hLk, hL2, List.set_set]
      have hw := zi (show i < maxLen by omega)
      have hwk := zi (show k < maxLen by omega)
      obtain ⟨H, hH⟩ : ∃ H, H = hS [m0, m1, m2, m3, m4] s b L2 := ⟨_, rfl⟩
      have H1 : H[1]? = some (.cells [lsS L2 0, lsS L2 1, lsS L2 2, lsS L2 3, lsS L2 4]) := by rw [hH]; rfl
      rw [← hL2, ← hH]
      rw [← hH] at hset2 hrw2
      refine za (zy ?_)
      refine za (zC hmix _ _ _ _ ?_)
      simp only [wq.down, seval, hP, t55, t57, hrw2, hsi, hfl]
      refine ⟨⟨by omega, by omega⟩, by omega, ?_⟩
      refine za (zC hmix _ _ _ _ ?_)
      simp only [wq.down, seval, hP]
      by_cases hli : l[i] = []
      ·have hb : (l[i] == ([] : S)) = true := by rw [hli]; rfl
       refine zS (b := true) (by simp only [wq.down, ↓reduceIte, hb]) (by simp only [wq.down, ↓reduceIte, hb]) (fun _ => ?_) (fun h => by cases h)
       refine zM hmix zpJ (fun f' h' => f'.t 6 = .lp 1 0 ∧ f'.t 7 = .lp 2 0 ∧ f'.t 11 = vi k ∧ f'.t 50 = vi k ∧ f'.t 55 = .ls (3 + k) 1 0 l.length l.length ∧ f'.t 56 = vi l.length ∧ f'.t 57 = vi i ∧ f'.d = [] ∧ (∀ j, f'.k j = true → False) ∧ h' = hS [m0, m1, m2, m3, m4] s b ((Lk L k).set k (zbs (zgw k) (i + 1) l))) (by rw [hP]; decide +kernel) (by decide +kernel) ?_ ?_
       ·simp only [wq.down, seval, zpJ, hP, t6, t11, H1, hls2, hwk, zlq hk5]
        have hil2 := zcu (i : Int) (by omega) (by omega)
        have hpu : List.take (i * 1) ((zbs (zgw k) i l).map V.str) ++ [V.str (zgw k :: Lib.itoa (i : Int))] ++ List.drop (i * 1 + 1) ((zbs (zgw k) i l).map V.str) = ((zbs (zgw k) i l).set i (zgw k :: Lib.itoa (i : Int))).map V.str := znq (by rw [hfl]; exact hil)
        have hse := hset2 _ (if_pos hli)
        repeat' apply And.intro
        all_goals first
         | omega
         | skip
        all_goals
         refine hT (zb.ev (zg9 (i : Int) (by omega) (by omega)) rfl ?_)
         simp only [wq.down, seval, hP, t6, t7, t11, t50, t55, t56, t57, hd, H1, hls2, hrw2, hfl]
        repeat' apply And.intro
        all_goals first
         | omega
         | exact fun j hj => hk j hj
         | (rw [hpu]; exact hse)
       ·rintro f h' ⟨t6, t7, t11, t50, t55, t56, t57, hd, hk, rfl⟩
        simp only [wq.down]
        refine zC hmix _ _ _ _ ?_
        simp only [wq.down, seval, hP, t57, hw]
        exact .inl ⟨mq - 1, by omega, i + 1, by omega, by simp only [wq.down, seval, t6], by simp only [wq.down, seval, t7], by simp only [wq.down, seval, t11], by simp only [wq.down, seval, t50], by simp only [wq.down, seval, t55], by simp only [wq.down, seval, t56], rfl, by simp only [wq.down, hd], fun j hj => hk j hj, rfl⟩
      ·have hb : (l[i] == ([] : S)) = false := by simpa using hli
       have hsame : zbs (zgw k) (i + 1) l = zbs (zgw k) i l := by
        rw [zgx hil, if_neg hli]
        conv => lhs; rw [← zkh (c := zgw k) hil]
        exact List.set_getElem_self _
       refine zS (b := false) (by simp only [wq.down, ↓reduceIte, hb]) (by simp only [wq.down, ↓reduceIte, hb]) (fun h => by cases h) (fun _ => ?_)
       refine zC hmix _ _ _ _ ?_
       simp only [wq.down]
       refine zC hmix _ _ _ _ ?_
       simp only [wq.down, seval, hP, t57, hw]
       exact .inl ⟨mq - 1, by omega, i + 1, by omega, by simp only [wq.down, seval, t6], by simp only [wq.down, seval, t7], by simp only [wq.down, seval, t11], by simp only [wq.down, seval, t50], by simp only [wq.down, seval, t55], by simp only [wq.down, seval, t56], rfl, by simp only [wq.down, hd], fun j hj => hk j hj, by rw [hsame, ← hL2, hH]⟩
     ·have hil : i = l.length := by
       have := of_decide_eq_false hlt2
       omega
      subst hil
      have hw := zi (show k < maxLen by omega)
      rw [zns, hl, zqP hk5]
      simp only [wq.down]
      refine zC hmix _ _ _ _ ?_
      simp only [wq.down, seval, hP, t50, hw]
      exact .inl ⟨mm - 1, by omega, k + 1, by omega, by simp only [wq.down, seval, t6], by simp only [wq.down, seval, t7], rfl, by simp only [wq.down, hd], fun j hj => hk j hj, rfl⟩
    ·have hk5 : k = 5 := by
      have := of_decide_eq_false hlt
      omega
     subst hk5
     rw [ztm]
     simp only [wq.down]
     refine za (zC hmix _ _ _ _ ?_)
     simp only [wq.down, seval, hP, t6, t7]
     refine zC hmix _ _ _ _ ?_
     simp only [wq.down]
     exact hret (L := zlo L) (b := b) hsy (by simp only [wq.down, hd]) (fun j hj => hk j hj) (by simp only [wq.down, seval, t6]) (by simp only [wq.down, seval, t7])
   ·cases xe with
    | normal => exact absurd rfl hx
    | _ => exact hq
  ·refine zy ?_
   refine zp (fun kk f h' => ∃ (L : List (List S)) (b : Nat), ziR s (s.length + 1) L0 a = ziR s kk L b ∧ s.length < kk + b ∧ L.length = 5 ∧ (∀ l ∈ L, l.length ≤ 4000) ∧ f.t 0 = .str s ∧ f.t 1 = vi a ∧ f.t 6 = .lp 1 0 ∧ f.t 7 = .lp 2 0 ∧ f.t 10 = .lp 8 0 ∧ f.d = [] ∧ (∀ j, f.k j = true → False) ∧ h' = hS [m0, m1, m2, m3, m4] s b L) (s.length + 1) ⟨L0, a, rfl, by omega, hL05, ?_, by simp only [wq.down, seval, t0], by simp only [wq.down, seval, t1], by simp only [wq.down, seval, t6], by simp only [wq.down, seval, t7], by simp only [wq.down, ↓reduceIte], by simp only [wq.down, hd], fun j hj => hk j hj, rfl⟩ ?_
   ·rw [hL0]
    intro l hl
    obtain ⟨m, _, rfl⟩ := List.mem_map.1 hl
    rw [List.length_replicate]
    omega
   ·clear t0 t1 t6 t7 hd hk
    rintro kk f h' ⟨L, b, hsy, hkb, hL5, hLb, t0, t1, t6, t7, t10, hd, hk, rfl⟩
    by_cases hbl : b < s.length
    ·have e1 : decide ((b : Int) < (s.length : Int)) = true := by simpa using hbl
     obtain ⟨j, rfl⟩ : ∃ j, kk = j + 1 := ⟨kk - 1, by omega⟩
     refine za ?_
     refine zC hmix _ _ _ _ ?_
     simp only [wq.down, seval, hP, t0, t1, t10, e0, e1]
     refine hT (zga (k := 8) (a := b) (s := s) (T := []) (by omega) rfl ?_)
     simp only [wq.down, seval, hP]
     cases hcm : zqJ s b with
     | true =>
      have hst : ziR s (j + 1) L b = .ok L := by
       rw [show ziR s (j + 1) L b = (if b < s.length ∧ zqJ s b = false then _ else .ok L) from rfl, if_neg (by rw [hcm]; simp)]
      rw [hst] at hsy
      rw [hsy] at hsR
      simp only [wq.down, seval, t6, t7, hd]
      exact .inl ⟨L, b, hsR, hL5, hLb, hk, rfl⟩
     | false =>
      have hst : ziR s (j + 1) L b = (match zfM s L b with | .error e => .error e | .ok (L, b) => ziR s j L b) := by
       rw [show ziR s (j + 1) L b = (if b < s.length ∧ zqJ s b = false then _ else .ok L) from rfl, if_pos ⟨hbl, hcm⟩]
       rfl
      rw [hst] at hsy
      simp only [wq.down]
      refine zy ?_
      refine zC hmix _ _ _ _ ?_
      simp only [wq.down, seval, hP, t6, t10]
      refine hT (zjB hL5 hLb hs hbl (fun L' b' hn => ?_) (fun w e hn b' => ?_))
      ·rw [hn] at hsy
       dsimp only at hsy
       obtain ⟨g1, g2, g3, g4⟩ := zke hn hL5 hLb
       simp only [wq.down]
       exact .inl ⟨j, by omega, L', b', hsy, by omega, g3, g4, by simp only [wq.down, seval, t0], by simp only [wq.down, seval, t1], by simp only [wq.down, seval, t6], by simp only [wq.down, seval, t7], by simp only [wq.down, seval, t10], by simp only [wq.down, hd], fun j hj => hk j hj, rfl⟩
      ·rw [hn] at hsy
       dsimp only at hsy
       rw [hsy] at hsR
       have hne := zix hn
       simp only [wq.down, z8, hd]
       simp only [XE.block, XE.seq]
       exact .inr ⟨fun h => (by cases h), hpan (cs := [lsS L 0, lsS L 1, lsS L 2, lsS L 3, lsS L 4]) hsR hne (by simp only [wq.down, hd]) (fun j hj => hk j (by have h2 : (f.k j || false) = true := hj; simpa using h2)) (by simp only [wq.down, seval, t6]) (by simp only [wq.down, seval, t7]) rfl rfl rfl⟩
    ·have e1 : decide ((b : Int) < (s.length : Int)) = false := by simpa using hbl
     have hst : ziR s kk L b = .ok L := by
      cases kk with
      | zero => rfl
      | succ j => rw [show ziR s (j + 1) L b = (if b < s.length ∧ zqJ s b = false then _ else .ok L) from rfl, if_neg (fun h => hbl h.1)]
     rw [hst] at hsy
     rw [hsy] at hsR
     refine za ?_
     refine zC hmix _ _ _ _ ?_
     simp only [wq.down, seval, hP, t0, t1, t10, e0, e1]
     refine ⟨.bool true, ?_⟩
     simp only [wq.down, seval, t6, t7, hd]
     exact .inl ⟨L, b, hsR, hL5, hLb, hk, rfl⟩
structure G13 (s : S) (f f0 : Fr) : Prop where
 t0 : f.t 0 = .str s
 t2 : f.t 2 = f0.t 2
 t3 : f.t 3 = f0.t 3
 t4 : f.t 4 = .lp 3 0
 t5 : f.t 5 = .lp 11 0
 d : f.d = f0.d
 k : f.k = f0.k
theorem G13.put {s : S} {f f0 : Fr} (g : G13 s f f0) {d : Nat} {v : V} (hd : d ∉ [0, 2, 3, 4, 5]) : G13 s (f.put (some d) v) f0 := by
 simp only [List.mem_cons, List.not_mem_nil, or_false, not_or] at hd
 obtain ⟨h0, h2, h3, h4, h5⟩ := hd
 exact ⟨by simpa [Fr.put, Ne.symm h0] using g.t0, by simpa [Fr.put, Ne.symm h2] using g.t2, by simpa [Fr.put, Ne.symm h3] using g.t3, by simpa [Fr.put, Ne.symm h4] using g.t4, by simpa [Fr.put, Ne.symm h5] using g.t5, g.d, g.k⟩
def N13 (L : Array Bool) (B X : H) (f : Fr) (ia is d p : Nat) (zc uc : List V) : Prop := L.getD ia false = true → f.t d = .lp p 0 ∧ B.length ≤ p ∧ (B ++ X)[p]? = some (.cells (if L.getD is false = true then uc else zc))
theorem N13.put {L : Array Bool} {B X : H} {f : Fr} {ia is d p i d' : Nat} {v : V} {zc uc : List V} (hn : N13 L B X f ia is d p zc uc) (h1 : i ≠ ia) (h2 : i ≠ is) (h3 : d' ≠ d) : N13 (L.setIfInBounds i true) B X (f.put (some d') v) ia is d p zc uc := by
 intro hl
 rw [getD_set_ne false h1] at hl
 rw [getD_set_ne false h2]
 obtain ⟨q1, q2, q3⟩ := hn hl
 exact ⟨by simpa [Fr.put, Ne.symm h3] using q1, q2, q3⟩
theorem N13.lt {L : Array Bool} {B X : H} {f : Fr} {ia is d p : Nat} {zc uc : List V} (hn : N13 L B X f ia is d p zc uc) (hl : L.getD ia false = true) : p < B.length + X.length := by
 have := (List.getElem?_eq_some_iff.1 (hn hl).2.2).1
 simpa using this
theorem N13.new {L : Array Bool} {B X : H} {f : Fr} {ia is d : Nat} {zc uc : List V} (h : L.getD is false = false) (hne : ia ≠ is) : N13 (L.setIfInBounds ia true) B (X ++ [.cells zc]) (f.put (some d) (.lp (B.length + X.length) 0)) ia is d (B.length + X.length) zc uc := by
 intro _
 refine ⟨by simp [Fr.put], Nat.le_add_right _ _, ?_⟩
 rw [getD_set_ne false hne, h, if_neg (by decide), ← List.append_assoc, ← List.length_append]
 simp
theorem N13.store {L : Array Bool} {B X : H} {f : Fr} {ia is d p : Nat} {zc uc : List V} (hn : N13 L B X f ia is d p zc uc) (hl : L.getD ia false = true) (hs : is < L.size) : N13 (L.setIfInBounds is true) B (X.set (p - B.length) (.cells uc)) f ia is d p zc uc := by
 intro _
 obtain ⟨q1, q2, q3⟩ := hn hl
 refine ⟨q1, q2, ?_⟩
 have hp := (List.getElem?_eq_some_iff.1 q3).1
 rw [if_pos (by simp [Array.getD, hs]), ← List.set_append_right _ _ q2, List.getElem?_set_self hp]
theorem N13.other {L : Array Bool} {B X : H} {f : Fr} {ia is d p p' i : Nat} {o : O} {zc uc : List V} (hn : N13 L B X f ia is d p zc uc) (h1 : i ≠ ia) (h2 : i ≠ is) (hb : B.length ≤ p') (hp : L.getD ia false = true → p ≠ p') : N13 (L.setIfInBounds i true) B (X.set (p' - B.length) o) f ia is d p zc uc := by
 intro hl
 rw [getD_set_ne false h1] at hl
 rw [getD_set_ne false h2]
 obtain ⟨q1, q2, q3⟩ := hn hl
 refine ⟨q1, q2, ?_⟩
 rw [← List.set_append_right _ _ hb, List.getElem?_set_ne (Ne.symm (hp hl))]
 exact q3
structure G23 (p8 : Nat) (f f0 : Fr) : Prop where
 t2 : f.t 2 = f0.t 2
 t3 : f.t 3 = f0.t 3
 t4 : f.t 4 = .lp 3 0
 t8 : f.t 8 = .lp p8 0
 d : f.d = f0.d
 k : f.k = f0.k
theorem G23.put {p8 : Nat} {f f0 : Fr} (g : G23 p8 f f0) {d : Nat} {v : V} (hd : d ∉ [2, 3, 4, 8]) : G23 p8 (f.put (some d) v) f0 := by
 simp only [List.mem_cons, List.not_mem_nil, or_false, not_or] at hd
 obtain ⟨h2, h3, h4, h8⟩ := hd
 exact ⟨by simpa [Fr.put, Ne.symm h2] using g.t2, by simpa [Fr.put, Ne.symm h3] using g.t3, by simpa [Fr.put, Ne.symm h4] using g.t4, by simpa [Fr.put, Ne.symm h8] using g.t8, g.d, g.k⟩
def ziz : V := .agg [vi 0, zo [], zo [], prs [], zo [], zT [], zT [], zT []]
abbrev bM : O := .cells [vi 0, .nils, .nils, .nils, .nils, .nils, .nils, .nils]
abbrev bF : O := .cells [vi 0, vi 0, vi 0]
theorem zqQ {s : S} {many : Cl} {a : Nat} {N : List (List S)} (h : zkb s many a = .ok N) : znu s many a = .tup [.agg [zT (N.getD 0 []), zT (N.getD 1 []), zT (N.getD 2 []), zT (N.getD 3 []), zT (N.getD 4 [])], .agg [vi 0, vi 0, vi 0]] := by unfold znu; rw [h]
theorem zqR {s : S} {many : Cl} {a w : Nat} {e : Int} (h : zkb s many a = .error (w, e)) : znu s many a = .tup [.agg [zT [], zT [], zT [], zT [], zT []], zP s w e] := by unfold znu; rw [h]
theorem zki {s : S} : ∀ {k : Nat} {L : List (List S)} {a w : Nat} {e : Int}, ziR s k L a = .error (w, e) → e ≠ 0
 | 0, L, a, w, e, h => by cases h
 | k + 1, L, a, w, e, h => by
  unfold ziR at h
  split at h
  ·cases hn : zfM s L a with
   | error er => rw [hn] at h; cases h; exact zix hn
   | ok r => rw [hn] at h; exact zki h
  ·cases h
theorem zo0 {s : S} {many : Cl} {a w : Nat} {e : Int} (h : zkb s many a = .error (w, e)) : e ≠ 0 := by
 unfold zkb at h
 split at h
 ·rename_i heq
  cases h
  exact zki heq
 ·cases h
theorem zkj {s : S} : ∀ {k : Nat} {L L' : List (List S)} {a : Nat}, ziR s k L a = .ok L' → L.length = 5 → (∀ l ∈ L, l.length ≤ 4000) → ∀ l ∈ L', l.length ≤ 4000
 | 0, L, L', a, h, h5, hb => by cases h; exact hb
 | k + 1, L, L', a, h, h5, hb => by
  unfold ziR at h
  split at h
  ·cases hn : zfM s L a with
   | error er => rw [hn] at h; cases h
   | ok r =>
    rw [hn] at h
    obtain ⟨_, _, h1, h2⟩ := zke hn h5 hb
    exact zkj h h1 h2
  ·cases h; exact hb
theorem zo1 {s : S} {many : Cl} {a : Nat} {N : List (List S)} (hm : many.length = 5) (h : zkb s many a = .ok N) : ∀ i, (N.getD i []).length ≤ 4000 := by
 unfold zkb at h
 split at h
 ·cases h
 ·rename_i L heq
  cases h
  have hb := zkj heq (by unfold zf9; simpa using hm) (fun l hl => by
   unfold zf9 at hl
   obtain ⟨n, _, rfl⟩ := List.mem_map.1 hl
   rw [List.length_replicate]
   omega)
  have hg : ∀ j, (L.getD j []).length ≤ 4000 := fun j => by
   rw [List.getD_eq_getElem?_getD]
   cases hj : L[j]? with
   | none => simp
   | some l => exact hb l (List.mem_of_getElem? hj)
  intro i
  unfold zlo
  rcases i with _|_|_|_|_|i
  ·show (zcw _ _ _).length ≤ _; rw [zaf]; exact hg _
  ·show (zcw _ _ _).length ≤ _; rw [zaf]; exact hg _
  ·show (zcw _ _ _).length ≤ _; rw [zaf]; exact hg _
  ·show (zcw _ _ _).length ≤ _; rw [zaf]; exact hg _
  ·show (zcw _ _ _).length ≤ _; rw [zaf]; exact hg _
  ·show ([] : List S).length ≤ _; simp
def st1 (s : S) (mo : Int) (b N1 : Nat) : RE Fi := zsN (zsa s mo) N1 (.start b)
def st2 (s : S) (mo : Int) (b N1 N2 : Nat) : RE Fi := match st1 s mo b N1 with
 | .error e => .error e
 | .ok x => zsN (zsc s mo) N2 x
def zjC (s magic : S) : V := match zeP s magic with
 | .error (w, e) => .tup [.agg [vi 0, vi 0, vi 0, vi 0, vi 0, vi 0, vi 0, vi 0, vi 0], vi 0, zP s w e]
 | .ok (l, b) => .tup [.agg (l.map vi), vi b, .agg [vi 0, vi 0, vi 0]]
abbrev b9 : O := .cells [vi 0, vi 0, vi 0, vi 0, vi 0, vi 0, vi 0, vi 0, vi 0]
def zpK : Plan := .take 1 <| .take 2 <| .take 3 <| .alt 0 (.alt 4 (.alt 5 (.one 6 <| .take 7 <| .one 8 <| .fin) (.one 6 (.take 7 <| .one 5 <| .one 8 <| .fin))) (.alt 5 (.alt 4 (.one 6 <| .take 7 <| .one 8 <| .fin) (.one 6 (.one 4 <| .take 7 <| .one 8 <| .fin))) (.one 6 (.alt 4 (.take 7 <| .one 5 <| .one 8 <| .fin) (.one 5 (.one 4 <| .take 7 <| .one 8 <| .fin)))))) (.alt 4 (.alt 0 (.alt 5 (.one 6 <| .take 7 <| .one 8 <| .fin) (.one 6 (.take 7 <| .one 5 <| .one 8 <| .fin))) (.one 5 (.one 0 <| .one 6 <| .take 7 <| .one 8 <| .fin))) (.one 5 (.alt 0 (.alt 4 (.one 6 <| .take 7 <| .one 8 <| .fin) (.one 6 (.one 4 <| .take 7 <| .one 8 <| .fin))) (.one 4 (.one 0 <| .one 6 <| .take 7 <| .one 8 <| .fin)))))
set_option maxHeartbeats 4000000 in
theorem znv (s magic : S) (hs : s.length ≤ 100000) : Ev TE 20 [.str s, .str magic] (zjC s magic) := by
 have hM : maxLen = 9223372036854775807 := rfl
 refine za9 ?_
 refine zbd rfl Tryz.func20 rfl (by simp [nts]) fun ok pl0 w0 => ?_
 simp only [nts]
 refine zdK (Q := fun _ _ _ => False) ?_ (fun _ _ _ h => by obtain ⟨_, _, _, _, _, _, h⟩ := h; exact h.elim)
 refine vm ?_
 simp only [wq.down, Nat.reduceLT]
 obtain ⟨F0, hF0⟩ : ∃ F0 : Fr, F0 = (((Fr.init [V.str s, V.str magic]).put (some 4) (.lp 0 0)).put (some 5) (vi 0)).put (some 6) (.lp 1 0) := ⟨_, rfl⟩
 have hsc : ∀ (x : Operand), x ∈ #[Operand.tmp 9, Operand.tmp 6] → (Fr.ev TE (((((Fr.init [V.str s, V.str magic]).put (some 4) (.lp 0 0)).put (some 5) (vi 0)).put (some 6) (.lp 1 0)).put (some 9) (.str s)) x).sc := fun x hx => by
  simp only [List.mem_toArray, List.mem_cons, List.not_mem_nil, or_false] at hx
  rcases hx with rfl | rfl
  ·simp only [wq.down, ↓reduceIte]
  ·simp only [wq.down, seval]
 refine zfs (fn := Tryz.f20) (q := 52) (avs := [.str s, .lp 1 0]) (F1 := ((((Fr.init [V.str s, V.str magic]).put (some 4) (.lp 0 0)).put (some 5) (vi 0)).put (some 6) (.lp 1 0)).put (some 9) (.str s)) rfl ⟨rfl, by simp only [wq.down, Nat.reduceLT], by simp only [wq.down, seval], rfl, rfl, rfl, ⟨.func 52, #[.tmp 9, .tmp 6], _, [], rfl, by simp only [wq.down], by simp only [wq.down], hsc, by simp only [wq.down, seval]⟩, by simp only [wq.down]⟩ rfl rfl fun d => ?_
 obtain ⟨ee, hee⟩ : ∃ ee : E, ee = { TE with tl := [d] } := ⟨_, rfl⟩
 have hP : ee.P = P := by rw [hee]; rfl
 have hmix : ee.P.follows .mixedOrders = true := by rw [hP]; exact mixed
 have hT : ∀ {g : FuncId} {args : List V} {h : H} {R : AEnd → H → (Nat → Bool) → Prop}, zb TE g args h R → zb ee g args h R := fun hc => by rw [hee]; exact hc.tl _
 rw [← hee]
 obtain ⟨QP, eQP⟩ : ∃ QP : XE → Fr → H → Prop, QP = LV TE Tryz.f20 (fun ae h x => match ae with | AEnd.ret v => zn TE h v (zjC s magic) | AEnd.pan v => False) [(52, [V.str s, V.lp 1 0])] := ⟨_, rfl⟩
 refine zN (Q := QP) (fun xe f' h' hq => by rw [eQP] at hq; exact hq) ?_
 have hkd : ∀ {f' : Fr}, (∀ j, f'.k j = true → 4 ≤ j) → ∀ x ∈ [((52 : FuncId), [V.str s, V.lp 1 0])], V.drops f'.k x.2 = x.2 := fun {f'} h x hx => by
  have z : f'.k 1 = false := by
   cases hj : f'.k 1 with
   | false => rfl
   | true => exact absurd (h 1 hj) (by decide)
  simp only [List.mem_singleton] at hx
  subst hx
  simp [V.drops, V.drop, z]
 have hpan : ∀ {w : Nat} {e : Int} {f' : Fr} {h : H}, zeP s magic = .error (w, e) → f'.d = [] → (∀ j, f'.k j = true → 4 ≤ j) → f'.t 4 = .lp 0 0 → f'.t 5 = vi 0 → f'.t 6 = .lp 1 0 → h[0]? = some b9 → h[1]? = some bF → QP (.pan (zeu w e)) f' h := by
  intro w e f' h hp hd hk t4 t5 t6 g0 g1
  have l0 : 0 < h.length := (List.getElem?_eq_some_iff.1 g0).1
  have l1 : 1 < h.length := (List.getElem?_eq_some_iff.1 g1).1
  have hv : zjC s magic = .tup [.agg [vi 0, vi 0, vi 0, vi 0, vi 0, vi 0, vi 0, vi 0, vi 0], vi 0, zP s w e] := by unfold zjC; rw [hp]
  have hf : ∃ x y z, zP s w e = .agg [vi x, vi y, vi z] := by unfold zP; split <;> exact ⟨_, _, _, rfl⟩
  obtain ⟨e1, e2, e3, hf⟩ := hf
  rw [eQP, hv]
  refine ⟨hd, hkd hk, ?_⟩
  refine zfP w e (by omega) g1 fun X => ⟨fun y hy => (by cases hy), ?_⟩
  have r0 : (h.set 1 (.cells (zP s w e).vc) ++ [X])[0]? = some b9 := by
   rw [List.getElem?_append_left (by rw [List.length_set]; exact l0), List.getElem?_set_ne (by decide)]; exact g0
  have r1 : (h.set 1 (.cells (zP s w e).vc) ++ [X])[1]? = some (.cells [vi e1, vi e2, vi e3]) := by
   rw [List.getElem?_append_left (by rw [List.length_set]; exact l1), List.getElem?_set_self l1, hf]; rfl
  obtain ⟨h3, eh3⟩ : ∃ h3, h3 = h.set 1 (.cells (zP s w e).vc) ++ [X] := ⟨_, rfl⟩
  rw [← eh3] at r0 r1 ⊢
  unfold LVr
  simp only [Tryz.results20, nts]
  simp only [wq.down, seval, hd, t4, t5, t6, r0, r1]
  rw [hf]
  exact zn.dat rfl
 have hret : ∀ {l : Cl} {b : Nat} {f' : Fr} {h : H}, zeP s magic = .ok (l, b) → f'.d = [] → (∀ j, f'.k j = true → 4 ≤ j) → f'.t 4 = .lp 0 0 → f'.t 5 = vi b → f'.t 6 = .lp 1 0 → h[0]? = some (.cells (l.map vi)) → h[1]? = some bF → QP .ret f' h := by
  intro l b f' h hv hd hk t4 t5 t6 g0 g1
  obtain ⟨a0, a1, a2, a3, a4, a5, a6, rfl, _⟩ := zhj hv
  rw [eQP, show zjC s magic = .tup [.agg [vi a0, vi a1, vi a2, vi a3, vi a4, vi a5, vi a6, vi 0, vi 0], vi b, .agg [vi 0, vi 0, vi 0]] by unfold zjC; rw [hv]; rfl]
  refine ⟨hd, hkd hk, ?_⟩
  refine zfO fun X => ⟨fun y hy => (by cases hy), ?_⟩
  have r0 : (h ++ [X])[0]? = some (.cells [vi a0, vi a1, vi a2, vi a3, vi a4, vi a5, vi a6, vi 0, vi 0]) := by rw [List.getElem?_append_left (List.getElem?_eq_some_iff.1 g0).1]; exact g0
  have r1 : (h ++ [X])[1]? = some bF := by rw [List.getElem?_append_left (List.getElem?_eq_some_iff.1 g1).1]; exact g1
  unfold LVr
  simp only [Tryz.results20, nts]
  simp only [wq.down, seval, hd, t4, t5, t6, r0, r1]
  exact zn.dat rfl
 refine za (zC hmix _ _ _ _ ?_)
 simp only [wq.down, seval, hP]
 refine za (zC hmix _ _ _ _ ?_)
 simp only [wq.down, seval, hP]
 refine hT (ziv (k := 2) (a0 := 0) (T := []) rfl hs (fun l b hh => ?_) (fun w e hh b X => ?_))
 ·obtain ⟨a0, a1, a2, a3, a4, a5, a6, rfl, _⟩ := zhj hh
  rw [show hR 2 s b [] [b9, bF, .cells [.str s, vi 0]] [.cells ([a0, a1, a2, a3, a4, a5, a6, 0, 0].map vi)] = [b9, bF, .cells [.str s, vi b], .cells [vi a0, vi a1, vi a2, vi a3, vi a4, vi a5, vi a6, vi 0, vi 0]] from rfl]
  simp only [wq.down, seval, hP]
  refine za ?_
  refine zM hmix zpK (fun f h => f.d = [] ∧ (∀ j, f.k j = true → 4 ≤ j) ∧ f.t 4 = .lp 0 0 ∧ f.t 5 = vi b ∧ f.t 6 = .lp 1 0 ∧ h[0]? = some (.cells [vi a0, vi a1, vi a2, vi a3, vi a4, vi a5, vi a6, vi 0, vi 0]) ∧ h[1]? = some bF) (by rw [hP]; decide +kernel) (by decide +kernel) ?_ ?_
  ·simp only [wq.down, seval, zpK, hP]
  ·rintro f h ⟨hd, hk, t4, t5, t6, g0, g1⟩
   show awp _ _ _ _ _ _ _
   refine zC hmix _ _ _ _ ?_
   simp only [wq.down]
   exact hret hh hd hk t4 t5 t6 g0 g1
 ·simp only [wq.down, z8]
  simp only [XE.seq]
  exact hpan hh rfl (fun j hj => (by cases hj)) rfl rfl rfl rfl rfl
theorem ziA : BT 59 := ⟨by kernel_rfl, fun k => by kernel_rfl⟩
abbrev wH (id bid : Nat) (out : S) (h : H) : H := (h.set bid (.typed 5 (out.map vb))).set id (.typed 59 [.lp id 0, .ls bid 1 0 out.length out.length])
structure WOk (id bid : Nat) (h : H) : Prop where
 ne : id ≠ bid
 l1 : id < h.length
 l2 : bid < h.length
 cl : ∀ j o, h[j]? = some o → j ≠ id → j ≠ bid → o.drop (· == bid) = o
theorem WOk.at1 {id bid : Nat} {h : H} (w : WOk id bid h) (out : S) : (wH id bid out h)[id]? = some (.typed 59 [.lp id 0, .ls bid 1 0 out.length out.length]) := by
 have := w.l1
 rw [wH, List.getElem?_set_self (by simpa using this)]
theorem WOk.at2 {id bid : Nat} {h : H} (w : WOk id bid h) (out : S) : (wH id bid out h)[bid]? = some (.typed 5 (out.map vb)) := by
 have := w.l2
 rw [wH, List.getElem?_set_ne w.ne, List.getElem?_set_self this]
theorem WOk.step {id bid : Nat} {h : H} (w : WOk id bid h) (out out2 : S) : (((wH id bid out h).map (O.drop (· == bid))).set bid (.typed 5 (out2.map vb))).set id (.typed 59 [.lp id 0, .ls bid 1 0 out2.length out2.length]) = wH id bid out2 h := by
 refine List.ext_getElem? fun j => ?_
 have l1 := w.l1
 have l2 := w.l2
 by_cases h1 : j = id
 ·subst h1
  rw [w.at1, List.getElem?_set_self (by simpa using l1)]
 ·by_cases h2 : j = bid
  ·subst h2
   rw [w.at2, List.getElem?_set_ne w.ne, List.getElem?_set_self (by simpa using l2)]
  ·rw [wH, wH, List.getElem?_set_ne (Ne.symm h1), List.getElem?_set_ne (Ne.symm h2), List.getElem?_set_ne (Ne.symm h1), List.getElem?_set_ne (Ne.symm h2), List.getElem?_map, List.getElem?_set_ne (Ne.symm h1), List.getElem?_set_ne (Ne.symm h2)]
   cases ho : h[j]? with
   | none => rfl
   | some o => rw [Option.map_some, w.cl j o ho h1 h2]
def zpL (i : Nat) (n : Int) : S := (if i = 0 then [] else [32]) ++ Lib.itoa n
def lnP (l : Cl) (i : Nat) : S := (List.range i).flatMap fun j => zpL j (l.getD j 0)
theorem zkk {l : Cl} {i : Nat} (h : i < l.length) : lnP l (i + 1) = lnP l i ++ zpL i l[i] := by
 unfold lnP
 rw [List.range_succ, List.flatMap_append, List.flatMap_singleton, zw h]
theorem zsi : ∀ l : Cl, lnG l = ((List.range l.length).flatMap fun j => 32 :: Lib.itoa (l.getD j 0)) ++ [10]
 | [] => rfl
 | n :: l => by
  unfold lnG
  rw [zsi l, List.length_cons, List.range_succ_eq_map, List.flatMap_cons, List.flatMap_map]
  simp
theorem zsj (l : Cl) : lnT l = lnP l l.length ++ [10] := by
 cases l with
 | nil => rfl
 | cons n l =>
  show Lib.itoa n ++ lnG l = _
  unfold lnP
  rw [zsi l, List.length_cons, List.range_succ_eq_map, List.flatMap_cons, List.flatMap_map]
  simp [zpL]
theorem zhl {l : Cl} (hl : ∀ n ∈ l, 0 ≤ n ∧ n ≤ 2147483647) : ∀ i, i ≤ l.length → (lnP l i).length ≤ 11 * i
 | 0, _ => by simp [lnP]
 | i + 1, h => by
  have h1 := zhl hl i (by omega)
  have h2 : i < l.length := by omega
  have h3 := hl _ (List.getElem_mem h2)
  have h4 := zcu l[i] h3.1 h3.2
  rw [zkk h2, List.length_append]
  have : (zpL i l[i]).length ≤ 11 := by unfold zpL; split <;> simp <;> omega
  omega
end Go.Proofs.YtfcpapokknfeeaaGreatDoor
