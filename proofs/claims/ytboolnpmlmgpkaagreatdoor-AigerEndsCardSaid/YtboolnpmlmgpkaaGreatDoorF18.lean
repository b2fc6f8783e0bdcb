/- Lemmas for the statement of this claim, part F18: they hold with no conditions but those that each one names. -/
import Derived.Test.YtboolnpmlmgpkaaGreatDoorF10
import Derived.Test.YtboolnpmlmgpkaaGreatDoorA11
import Derived.Test.YtboolnpmlmgpkaaGreatDoorF11
import Derived.Test.YtboolnpmlmgpkaaGreatDoorF17
set_option linter.unusedVariables false
set_option maxRecDepth 20000
set_option linter.unusedSimpArgs false
set_option linter.unnecessarySimpa false
namespace Go.Proofs.YtboolnpmlmgpkaaGreatDoor
open Go Go.Proofs Go.Abs
theorem zck : BT 100 := ⟨by kernel_rfl, fun k => by kernel_rfl⟩
abbrev wH (id bid : Nat) (out : S) (h : H) : H := (h.set bid (.typed 5 (out.map vb))).set id (.typed 100 [.lp id 0, .ls bid 1 0 out.length out.length])
structure WOk (id bid : Nat) (h : H) : Prop where
 ne : id ≠ bid
 l1 : id < h.length
 l2 : bid < h.length
 cl : ∀ j o, h[j]? = some o → j ≠ id → j ≠ bid → o.drop (· == bid) = o
theorem WOk.at1 {id bid : Nat} {h : H} (w : WOk id bid h) (out : S) : (wH id bid out h)[id]? = some (.typed 100 [.lp id 0, .ls bid 1 0 out.length out.length]) := by
 have := w.l1
 rw [wH, List.getElem?_set_self (by simpa using this)]
theorem WOk.at2 {id bid : Nat} {h : H} (w : WOk id bid h) (out : S) : (wH id bid out h)[bid]? = some (.typed 5 (out.map vb)) := by
 have := w.l2
 rw [wH, List.getElem?_set_ne w.ne, List.getElem?_set_self this]
theorem WOk.step {id bid : Nat} {h : H} (w : WOk id bid h) (out out2 : S) : (((wH id bid out h).map (O.drop (· == bid))).set bid (.typed 5 (out2.map vb))).set id (.typed 100 [.lp id 0, .ls bid 1 0 out2.length out2.length]) = wH id bid out2 h := by
 refine List.ext_getElem? fun j => ?_
 have l1 := w.l1
 have l2 := w.l2
 by_cases h1 : j = id
 ·subst h1
  rw [w.at1, List.getElem?_set_self (by simpa using l1)]
 ·by_cases h2 : j = bid
  ·subst h2
   rw [w.at2, List.getElem?_set_ne w.ne, List.getElem?_set_self (by simpa using l2)]
  ·rw [wH, wH, List.getElem?_set_ne (Ne.symm h1), List.getElem?_set_ne (Ne.symm h2), List.getElem?_set_ne (Ne.symm h1), List.getElem?_set_ne (Ne.symm h2), List.getElem?_map, List.getElem?_set_ne (Ne.symm h1), List.getElem?_set_ne (Ne.symm h2)]
   cases ho : h[j]? with
   | none => rfl
   | some o => rw [Option.map_some, w.cl j o ho h1 h2]
def zvn (i : Nat) (n : Int) : S := (if i = 0 then [] else [32]) ++ Lib.itoa n
def lnP (l : Cl) (i : Nat) : S := (List.range i).flatMap fun j => zvn j (l.getD j 0)
theorem zmP {l : Cl} {i : Nat} (h : i < l.length) : lnP l (i + 1) = lnP l i ++ zvn i l[i] := by
 unfold lnP
 rw [List.range_succ, List.flatMap_append, List.flatMap_singleton, zA h]
theorem zwJ : ∀ l : Cl, lnG l = ((List.range l.length).flatMap fun j => 32 :: Lib.itoa (l.getD j 0)) ++ [10]
 | [] => rfl
 | n :: l => by
  unfold lnG
  rw [zwJ l, List.length_cons, List.range_succ_eq_map, List.flatMap_cons, List.flatMap_map]
  simp
theorem zwK (l : Cl) : lnT l = lnP l l.length ++ [10] := by
 cases l with
 | nil => rfl
 | cons n l =>
  show Lib.itoa n ++ lnG l = _
  unfold lnP
  rw [zwJ l, List.length_cons, List.range_succ_eq_map, List.flatMap_cons, List.flatMap_map]
  simp [zvn]
theorem zkO {l : Cl} (hl : ∀ n ∈ l, 0 ≤ n ∧ n ≤ 2147483647) : ∀ i, i ≤ l.length → (lnP l i).length ≤ 11 * i
 | 0, _ => by simp [lnP]
 | i + 1, h => by
  have h1 := zkO hl i (by omega)
  have h2 : i < l.length := by omega
  have h3 := hl _ (List.getElem_mem h2)
  have h4 := zdh l[i] h3.1 h3.2
  rw [zmP h2, List.length_append]
  have : (zvn i l[i]).length ≤ 11 := by unfold zvn; split <;> simp <;> omega
  omega
def zua : Plan := .take 0 <| .take 1 <| .take 2 <| .take 3 <| .one 4 <| .one 5 <| .fin
set_option maxHeartbeats 1000000 in
theorem znP {id bid : Nat} {out : S} {h : H} {l : Cl} {ex : Bool} {R : AEnd → H → (Nat → Bool) → Prop} (w : WOk id bid h) (hl : ∀ n ∈ l, 0 ≤ n ∧ n ≤ 2147483647) (hlen : out.length + 11 * l.length + 1 ≤ 20000000000000)
 (hr : R (.ret (.tup [])) (wH id bid (out ++ lnT l) h) (· == bid)) : zb TE 59 [.lp id 0, .is ex 1 (l.map vi)] (wH id bid out h) R := by
 have hM : maxLen = 9223372036854775807 := rfl
 have hidb : (id == bid) = false := by simpa using w.ne
 have hk' : ∀ {k : Nat → Bool}, (∀ j, k j = true → (j == bid) = true) → ∀ j, (k j || j == bid) = true → (j == bid) = true := fun {k} hk j hj => by
  cases hkj : k j with
  | true => exact hk j hkj
  | false => rw [hkj] at hj; exact hj
 refine zb.kp (· == bid) ?_
 refine zh Tryz.func59 rfl (by simp [nts]) ?_
 refine za ?_
 refine za ?_
 refine vm ?_
 simp only [wq.down, seval, Tryz.results59]
 refine zj ?_
 refine zt (fun m f h' => ∃ i, m + i = l.length ∧ f.t 0 = .lp id 0 ∧ f.t 6 = .is ex 1 (l.map vi) ∧ f.t 7 = vi l.length ∧ f.t 8 = vi i ∧ f.d = [] ∧ (∀ j, f.k j = true → (j == bid) = true) ∧ h' = wH id bid (out ++ lnP l i) h) l.length ⟨0, by simp, by simp only [wq.down, seval], by simp only [wq.down, seval], rfl, rfl, rfl, fun j hj => (by cases hj), by simp [lnP]⟩ ?_
 rintro m f h' ⟨i, hm, h0, h6, h7, h8, hd, hk, rfl⟩
 have a1 := w.at1 (out ++ lnP l i)
 have a2 := w.at2 (out ++ lnP l i)
 have hil := zkO hl i (by omega)
 refine za (vm ?_)
 simp only [wq.down, Nat.reduceLT, h7, h8]
 refine za (vm ?_)
 simp only [wq.down, ↓reduceIte]
 refine vcB.mk (fun hlt => ?_) (fun hlt => ?_)
 ·simp only [decide_eq_true_eq, Int.ofNat_lt] at hlt
  have hgi : (l.map vi).getD i .any = vi l[i] := zkn hlt _
  have hb := hl _ (List.getElem_mem hlt)
  have hit := zdh l[i] hb.1 hb.2
  have hw := zi (show i < maxLen by omega)
  refine za (zj ?_)
  refine za (vm ?_)
  simp only [wq.down, seval, h6, h8, hgi]
  obtain ⟨cur, hcur⟩ : ∃ cur, cur = out ++ lnP l i ++ (if i = 0 then [] else [32]) := ⟨_, rfl⟩
  have hcl : cur.length ≤ out.length + 11 * i + 1 := by rw [hcur]; simp only [List.length_append]; split <;> simp <;> omega
  have hnx : cur ++ Lib.itoa l[i] = out ++ lnP l (i + 1) := by rw [hcur, zmP hlt, zvn]; simp
  refine ⟨⟨by omega, by omega⟩, ?_⟩
  refine za (zP (Q := fun xe f h' => xe = .normal ∧ f.t 0 = .lp id 0 ∧ f.t 5 = vi l[i] ∧ f.t 6 = .is ex 1 (l.map vi) ∧ f.t 7 = vi l.length ∧ f.t 8 = vi i ∧ f.d = [] ∧ (∀ j, f.k j = true → (j == bid) = true) ∧ h' = wH id bid cur h) ?_ ?_)
  ·rintro xe f h' ⟨rfl, h0, h5, h6, h7, h8, hd, hk, rfl⟩
   have b1 := w.at1 cur
   have b2 := w.at2 cur
   show awp _ _ _ _ _ _ _
   refine zN mixed zua (fun f' h' => f'.t 0 = .lp id 0 ∧ f'.t 6 = .is ex 1 (l.map vi) ∧ f'.t 7 = vi l.length ∧ f'.t 8 = vi i ∧ f'.d = [] ∧ (∀ j, f'.k j = true → (j == bid) = true) ∧ h' = wH id bid (out ++ lnP l (i + 1)) h) (by decide +kernel) (by decide +kernel) ?_ ?_
   ·simp only [wq.down, seval, zua, h0, h5]
    refine zb.ev (zhD l[i] hb.1 hb.2) rfl ?_
    simp only [wq.down, seval]
    refine zld zck cur (Lib.itoa l[i]) (.inr rfl) w.ne b1 b2 (by omega) ?_
    rw [w.step, hnx]
    simp only [wq.down, seval, zS, h0, h6, h7, h8, hd, hidb]
    exact hk' hk
   ·rintro f h' ⟨h0, h6, h7, h8, hd, hk, rfl⟩
    simp only [wq.down]
    refine vm ?_
    simp only [wq.down, seval, h8, hw]
    exact .inl ⟨m - 1, by omega, i + 1, by omega, by simp only [wq.down, seval, h0], by simp only [wq.down, seval, h6], by simp only [wq.down, seval, h7], rfl, hd, hk, rfl⟩
  ·refine za (vm ?_)
   simp only [wq.down, seval]
   by_cases hi : i = 0
   ·subst hi
    rw [if_pos rfl, List.append_nil] at hcur
    rw [hcur]
    refine vm ?_
    simp only [wq.down, seval, h0, h6, h7, h8, hd, show decide ((0 : Int) < ((0 : Nat) : Int)) = false from rfl]
    exact hk
   ·have hp : decide ((0 : Int) < (i : Int)) = true := by simp; omega
    rw [if_neg hi] at hcur
    refine vm ?_
    simp only [wq.down, seval, h0, hp]
    refine zle zck (out ++ lnP l i) 32 (.inr rfl) w.ne a1 a2 (by rw [List.length_append]; omega) ?_
    rw [w.step, ← hcur]
    simp only [wq.down, seval, zS, h0, h6, h7, h8, hd, hidb]
    exact hk' hk
 ·simp only [decide_eq_false_iff_not, Int.ofNat_lt] at hlt
  have hi : i = l.length := by omega
  subst hi
  refine vm ?_
  simp only [wq.down, seval, h0]
  refine zle zck (out ++ lnP l l.length) 10 (.inr rfl) w.ne a1 a2 (by rw [List.length_append]; omega) ?_
  rw [w.step, List.append_assoc, ← zwK]
  simp only [wq.down, zS, hd]
  exact ⟨hk' hk, hr⟩
open Go.RowKit
set_option maxHeartbeats 1000000 in
set_option maxRecDepth 100000 in
theorem zkP (b : Nat) (w : World) (c1 : w.drew.cell? ⟨b, 1, none⟩ = some (.slice none 0 0)) :
 Calls Tryz.prog 60 #[.pointer (some ⟨b, 0, none⟩)] w fun e w' => e = .returned (.string ⟨#[]⟩) ∧ w' = w.drew := by
 have hSD : (Builtin.unsafeSliceData_ #[96] 194 #[.slice none 0 0]).run Tryz.prog w.drew = .ok (.pointer none) w.drew :=
  Lib.run_unsafeSliceData_nil w.drew _ _ _ _
 have hUS : (Builtin.unsafeString_ #[194, 3] 9 #[.pointer none, .int .i64 0]).run Tryz.prog w.drew = .ok (.string .empty) w.drew :=
  Lib.run_unsafeString_none w.drew 194 3 9 none
 go_enter Tryz.func60, Tryz.ntmps60
 go_wp2
 go_region
 all_goals (go_wp2; go_ret; exact ⟨rfl, rfl⟩)
theorem zto {T id : Nat} {a : V} {h : H} {R : AEnd → H → (Nat → Bool) → Prop} (hh : h[id]? = some (.typed T [a, .nils])) (hr : R (.ret (.str [])) h (fun _ => false)) : zb TE 60 [.lp id 0] h R := by
 intro ok pl w vs hs hv
 simp only [VList, VRel] at hv
 obtain ⟨y, ys, rfl, ⟨b, hpb, rfl⟩, rfl⟩ := hv
 have hpb : pl id = some b := hpb
 obtain ⟨o, ho, hat⟩ := hs.obj id b hpb
 rw [hh] at ho; cases ho
 obtain ⟨arr, fz, g1, g2, g3, g4⟩ := hat
 have g1 : w.heap[b]? = some (.cells arr T fz) := g1
 obtain ⟨x1, e1, r1⟩ := VList.get 1 .nils g4 rfl
 have e1 : arr[1]? = some x1 := by
  rw [List.getElem?_take_of_lt (by simp)] at e1
  simpa using e1
 simp only [VRel] at r1
 have hcell : w.drew.cell? ⟨b, 1, none⟩ = some (.slice none 0 0) := by
  rw [Lib.cell_of_heap (w := w.drew) g1, e1, r1]
 refine (zkP b w hcell).mono ?_
 rintro en w' ⟨rfl, rfl⟩
 have x : WExt w w.drew := WExt.drew w
 exact ⟨fun _ => false, pl, h, .ret (.str []), hs.wext x, x.keeps hs, by show VRel _ _ _; simp only [VRel]; exact ⟨_, rfl, by simp, by decide⟩, hr⟩
def tH (mb : O) : S → H
 | [] => [mb, .typed 100 [.nilp, .nils]]
 | c :: s => [mb, .typed 100 [.lp 1 0, .ls 2 1 0 (c :: s).length (c :: s).length], .typed 5 ((c :: s).map vb)]
theorem ztp {mb : O} (hm : mb.drop (· == 2) = mb) {out s : S} (hs : s ≠ []) (hl : out.length + s.length ≤ 20000000000000) {R : AEnd → H → (Nat → Bool) → Prop} (hr : R (.ret (.tup [vi s.length, .nili])) (tH mb (out ++ s)) (· == 2)) : zb TE 58 [.lp 1 0, .str s] (tH mb out) R := by
 refine zb.kp (· == 2) ?_
 cases out with
 | nil =>
  refine ziO zck s (.inl rfl) rfl hs (by simpa using hl) ⟨fun j hj => (by cases hj), ?_⟩
  cases s with
  | nil => exact absurd rfl hs
  | cons c s => exact hr
 | cons c out =>
  refine zld zck (c :: out) s (.inr rfl) (by decide) rfl rfl hl ⟨fun j hj => hj, ?_⟩
  have e : (((tH mb (c :: out)).map (O.drop (· == 2))).set 2 (O.typed 5 ((c :: out ++ s).map vb))).set 1 (.typed 100 [.lp 1 0, .ls 2 1 0 (c :: out ++ s).length (c :: out ++ s).length]) = tH mb (c :: out ++ s) := by
   simp only [tH, List.map_cons, List.map_nil, hm, List.set_cons_succ, List.set_cons_zero, List.cons_append]
  rw [e]
  exact hr
theorem zwL {mb : O} {out : S} (hl : out.length ≤ 20000000000000) {R : AEnd → H → (Nat → Bool) → Prop} (hr : ∀ h', h'[0]? = some (mb.drop (· == 2)) ∨ h'[0]? = some mb → R (.ret (.str out)) h' (· == 2)) : zb TE 60 [.lp 1 0] (tH mb out) R := by
 refine zb.kp (· == 2) ?_
 cases out with
 | nil => exact zto (a := .nilp) (T := 100) rfl ⟨fun j hj => (by cases hj), hr _ (.inr rfl)⟩
 | cons c out => exact zo7 (c :: out) rfl rfl (by simp) hl ⟨fun j hj => hj, hr _ (.inl rfl)⟩
def nmL (c : UInt8) (i : Nat) (s : S) : S := c :: (Lib.itoa i ++ 32 :: (s ++ [10]))
def nmP (c : UInt8) (l : List S) (i : Nat) : S := (List.range i).flatMap fun j => nmL c j (l.getD j [])
theorem ztq {c : UInt8} {l : List S} {i : Nat} (h : i < l.length) : nmP c l (i + 1) = nmP c l i ++ nmL c i l[i] := by
 unfold nmP
 rw [List.range_succ, List.flatMap_append, List.flatMap_singleton, zA h]
theorem zwM {c : UInt8} : ∀ (l : List S) (b : Nat), nmT c b l = (List.range l.length).flatMap fun j => nmL c (b + j) (l.getD j [])
 | [], b => rfl
 | s :: l, b => by
  unfold nmT
  rw [zwM l (b + 1), List.length_cons, List.range_succ_eq_map, List.flatMap_cons, List.flatMap_map]
  simp [nmL, Nat.add_assoc, Nat.add_comm 1]
theorem zrB {c : UInt8} (l : List S) : nmT c 0 l = nmP c l l.length := by
 rw [zwM]; simp [nmP]
def ltr (k : Nat) : UInt8 := [(105 : UInt8), 108, 111].getD k 0
def zdS (L : List (List S)) (k : Nat) : S := (List.range k).flatMap fun j => nmT (ltr j) 0 (L.getD j [])
theorem znQ {L : List (List S)} {k : Nat} (h : k < L.length) : zdS L (k + 1) = zdS L k ++ nmT (ltr k) 0 L[k] := by
 unfold zdS
 rw [List.range_succ, List.flatMap_append, List.flatMap_singleton, zA h]
theorem zrC (m : Mo) : zdS [m.ins, m.lat, m.out] 3 = zb7 m := by simp [zdS, zb7, ltr, List.range_succ]
theorem zwN {c : UInt8} {l : List S} {i : Nat} (h : i ≤ l.length) : (nmP c l i).length ≤ (nmT c 0 l).length := by
 rw [zrB]
 unfold nmP
 obtain ⟨n, hn⟩ : ∃ n, l.length = i + n := ⟨l.length - i, by omega⟩
 rw [hn, List.range_add, List.flatMap_append, List.length_append]
 omega
theorem ztr {L : List (List S)} {k : Nat} (h : k ≤ L.length) : (zdS L k).length ≤ (zdS L L.length).length := by
 unfold zdS
 obtain ⟨n, hn⟩ : ∃ n, L.length = k + n := ⟨L.length - k, by omega⟩
 rw [hn, List.range_add, List.flatMap_append, List.length_append]
 omega
theorem zve {L : List (List S)} {k : Nat} (h : k < L.length) : ((L.map zG).getD k .any) = zG L[k] := by simp [List.getD_eq_getElem?_getD, h]
theorem zvf {l : List S} {k : Nat} (h : k < l.length) : ((l.map V.str).getD k .any) = V.str l[k] := by simp [List.getD_eq_getElem?_getD, h]
theorem zrD {k : Nat} (h : k < 3) : (([105, 108, 111, 98, 99] : S).drop k).take (k + 1 - k) = [ltr k] := by
 rcases k with _|_|_|k
 ·rfl
 ·rfl
 ·rfl
 ·omega
def zub : Plan := .take 0 <| .take 1 <| .take 2 <| .take 3 <| .take 4 <| .take 5 <| .take 6 <| .take 7 <| .take 11 <| .one 8 <| .one 9 <| .one 10 <| .one 12 <| .one 13 <| .one 14 <| .fin
set_option maxHeartbeats 4000000 in
theorem zkQ (m : Mo) (hb1 : m.ins.length ≤ 100000) (hb2 : m.lat.length ≤ 100000) (hb3 : m.out.length ≤ 100000) (ht : (zb7 m).length ≤ 10000000000000) : Ev TE 19 [m.v] (.str (zb7 m)) := by
 have hM : maxLen = 9223372036854775807 := rfl
 obtain ⟨L, hL⟩ : ∃ L, L = [m.ins, m.lat, m.out] := ⟨_, rfl⟩
 have hL3 : L.length = 3 := by rw [hL]; rfl
 have hLb : ∀ l ∈ L, l.length ≤ 100000 := by rw [hL]; intro l hl; simp at hl; rcases hl with rfl | rfl | rfl <;> assumption
 have hrow : zdS L L.length = zb7 m := by rw [hL3, hL]; exact zrC m
 have hLm : [zG m.ins, zG m.lat, zG m.out] = L.map zG := by rw [hL]; rfl
 obtain ⟨mb, hmb⟩ : ∃ mb : O, mb = .cells (vi m.g.ins :: zy m.g.next :: zy m.g.init :: prs m.g.ands :: zy m.g.outs :: L.map zG) := ⟨_, rfl⟩
 have hmd : mb.drop (· == 2) = mb := by rw [hmb, hL]; rfl
 rw [← hrow] at ht ⊢
 refine zl Tryz.func19 rfl (by simp [nts]) ?_
 refine za (vm ?_)
 simp only [wq.down, seval, Tryz.results19]
 refine za (zaO ?_)
 refine zm rfl rfl ?_
 simp only [wq.down]
 refine zah rfl rfl ?_
 refine zk7 rfl (by simp only [wq.down, ↓reduceIte]) (by simp only [wq.down, ↓reduceIte]) ?_
 simp only [wq.down, ↓reduceIte]
 refine zm rfl rfl ?_
 simp only [wq.down, ↓reduceIte]
 refine zax ?_
 simp only [wq.down]
 refine za ?_
 refine za ?_
 refine vm ?_
 simp only [wq.down, ↓reduceIte, Nat.reduceEqDiff, Nat.reduceLT, Nat.reduceLeDiff, Nat.reduceAdd, reduceCtorEq, Nat.reduceMul]
 rw [hLm, ← hmb]
 refine ⟨⟨rfl, by decide⟩, ?_⟩
 refine zj ?_
 refine zt (fun mm f h' => ∃ k, mm + k = L.length ∧ f.t 3 = .lp 1 0 ∧ f.t 16 = .is true 1 (L.map zG) ∧ f.t 17 = vi L.length ∧ f.t 18 = vi k ∧ f.d = [] ∧ h' = tH mb (zdS L k)) L.length ⟨0, by simp, by simp only [wq.down, seval], by simp only [wq.down, seval], by rw [hL3]; rfl, rfl, rfl, rfl⟩ ?_
 rintro mm f h' ⟨k, hm, h3, h16, h17, h18, hd, rfl⟩
 refine za (vm ?_)
 simp only [wq.down, Nat.reduceLT, h17, h18]
 refine za (vm ?_)
 simp only [wq.down, ↓reduceIte]
 refine vcB.mk (fun hlt => ?_) (fun hlt => ?_)
 ·simp only [decide_eq_true_eq, Int.ofNat_lt] at hlt
  have hgk := zve hlt
  have hlk := hLb _ (List.getElem_mem hlt)
  have hk3 : k < 3 := by omega
  have hrk := ztr (L := L) (k := k + 1) (by omega)
  have hsk := znQ hlt
  obtain ⟨l, hl⟩ : ∃ l, l = L[k] := ⟨_, rfl⟩
  rw [← hl] at hgk hlk hsk
  refine za (zj ?_)
  refine za (vm ?_)
  simp only [wq.down, seval, h16, h18, hgk]
  refine ⟨⟨by omega, by omega⟩, ?_⟩
  refine za ?_
  refine vm ?_
  simp only [wq.down, seval]
  refine zj ?_
  refine zt (fun m2 f h' => ∃ i, m2 + i = l.length ∧ f.t 3 = .lp 1 0 ∧ f.t 4 = vi k ∧ f.t 16 = .is true 1 (L.map zG) ∧ f.t 17 = vi L.length ∧ f.t 18 = vi k ∧ f.t 23 = zG l ∧ f.t 24 = vi l.length ∧ f.t 25 = vi i ∧ f.d = [] ∧ h' = tH mb (zdS L k ++ nmP (ltr k) l i)) l.length ⟨0, by simp, by simp only [wq.down, seval, h3], by simp only [wq.down, seval], by simp only [wq.down, seval, h16], by simp only [wq.down, seval, h17], by simp only [wq.down, seval, h18], by simp only [wq.down, seval], by simp only [wq.down, seval], rfl, by simp only [wq.down, hd], by simp [nmP]⟩ ?_
  rintro m2 f h' ⟨i, hm2, h3, h4, h16, h17, h18, h23, h24, h25, hd, rfl⟩
  refine za (vm ?_)
  simp only [wq.down, Nat.reduceLT, h24, h25]
  refine za (vm ?_)
  simp only [wq.down, ↓reduceIte]
  refine vcB.mk (fun hlt2 => ?_) (fun hlt2 => ?_)
  ·simp only [decide_eq_true_eq, Int.ofNat_lt] at hlt2
   have hgi := zvf hlt2
   have hni := zwN (c := ltr k) (l := l) (i := i + 1) hlt2
   have hsi := ztq (c := ltr k) hlt2
   have hw := zi (show i < maxLen by omega)
   have hwk := zi (show k < maxLen by omega)
   have hlen : (zdS L k ++ nmP (ltr k) l i).length + (nmL (ltr k) i l[i]).length ≤ 10000000000000 := by
    have e1 := congrArg List.length hsi
    have e2 := congrArg List.length hsk
    rw [List.length_append] at e1 e2 ⊢
    omega
   refine za (zj ?_)
   refine za (vm ?_)
   simp only [wq.down, seval, h23, h25, hgi]
   refine ⟨⟨by omega, by omega⟩, ?_⟩
   refine zN mixed zub (fun f' h' => f'.t 3 = .lp 1 0 ∧ f'.t 4 = vi k ∧ f'.t 16 = .is true 1 (L.map zG) ∧ f'.t 17 = vi L.length ∧ f'.t 18 = vi k ∧ f'.t 23 = zG l ∧ f'.t 24 = vi l.length ∧ f'.t 25 = vi i ∧ f'.d = [] ∧ h' = tH mb (zdS L k ++ nmP (ltr k) l (i + 1))) (by decide +kernel) (by decide +kernel) ?_ ?_
   ·simp only [wq.down, seval, zub, h3, h4, hwk, zrD hk3]
    refine ⟨⟨by omega, by omega, by omega⟩, zb.ev (zhD (i : Int) (by omega) (by omega)) rfl ?_⟩
    simp only [wq.down, seval]
    have hil := zdh (i : Int) (by omega) (by omega)
    have hll : l[i].length ≤ 10000000000000 := by
     rw [List.length_append] at hlen
     simp only [nmL, List.length_cons, List.length_append] at hlen
     omega
    have en : (ltr k :: (Lib.itoa (i : Int) ++ [32] ++ l[i] ++ [10]) : S) = nmL (ltr k) i l[i] := by simp [nmL]
    rw [en]
    refine ⟨by omega, by omega, by omega, by omega, ztp hmd (by simp [nmL]) (by omega) ?_⟩
    rw [show zdS L k ++ nmP (ltr k) l i ++ nmL (ltr k) i l[i] = zdS L k ++ nmP (ltr k) l (i + 1) by rw [hsi, List.append_assoc]]
    simp only [wq.down, seval, zS, h3, h4, h16, h17, h18, h23, h24, h25, hd]
   ·rintro f h' ⟨h3, h4, h16, h17, h18, h23, h24, h25, hd, rfl⟩
    simp only [wq.down]
    refine vm ?_
    simp only [wq.down, seval, h25, hw]
    exact .inl ⟨m2 - 1, by omega, i + 1, by omega, by simp only [wq.down, seval, h3], by simp only [wq.down, seval, h4], by simp only [wq.down, seval, h16], by simp only [wq.down, seval, h17], by simp only [wq.down, seval, h18], by simp only [wq.down, seval, h23], by simp only [wq.down, seval, h24], rfl, hd, rfl⟩
  ·simp only [decide_eq_false_iff_not, Int.ofNat_lt] at hlt2
   have hi : i = l.length := by omega
   subst hi
   have hw := zi (show k < maxLen by omega)
   rw [← zrB, ← hsk]
   simp only [wq.down]
   refine vm ?_
   simp only [wq.down, seval, h18, hw]
   exact .inl ⟨mm - 1, by omega, k + 1, by omega, by simp only [wq.down, seval, h3], by simp only [wq.down, seval, h16], by simp only [wq.down, seval, h17], rfl, hd, rfl⟩
 ·simp only [decide_eq_false_iff_not, Int.ofNat_lt] at hlt
  have hk : k = L.length := by omega
  subst hk
  simp only [wq.down]
  refine za (vm ?_)
  simp only [wq.down, seval, h3]
  refine zwL (by omega) (fun h' _ => ?_)
  simp only [wq.down, seval, zS, hd]
  refine vm ?_
  simp only [wq.down, ↓reduceIte, hd]
  exact zw.dat rfl
theorem zb8 {l : Cl} (hl : ∀ n ∈ l, 0 ≤ n ∧ n ≤ 2147483647) : (lnT l).length ≤ 11 * l.length + 1 := by
 have := zkO hl l.length (Nat.le_refl _)
 rw [zwK, List.length_append, List.length_singleton]
 omega
theorem zem {f : Nat → S} {n : Nat} : (List.range (n + 1)).flatMap f = (List.range n).flatMap f ++ f n := by
 rw [List.range_succ, List.flatMap_append, List.flatMap_singleton]
theorem zcI {f : Nat → S} {c n : Nat} (h : ∀ i, i < n → (f i).length ≤ c) : ∀ i, i ≤ n → ((List.range i).flatMap f).length ≤ c * i
 | 0, _ => by simp
 | i + 1, hi => by
  have := zcI h i (by omega)
  have := h i (by omega)
  rw [zem, List.length_append, Nat.mul_succ]
  omega
def tB1 (g : Gr) : S := [97, 97, 103, 32] ++ lnT (zaY g)
def tBI (g : Gr) (i : Nat) : S := tB1 g ++ ztW i
def tBL (g : Gr) (i : Nat) : S := tBI g g.ins.toNat ++ zi9 g i
def tBO (g : Gr) (i : Nat) : S := tBL g g.next.length ++ zja g.outs i
def tBA (g : Gr) (i : Nat) : S := tBO g g.outs.length ++ zjb g i
theorem zwO (g : Gr) : tBA g g.ands.length = zdp g := by simp [tBA, tBO, tBL, tBI, tB1, zdp]
theorem zts (g : Gr) (i : Nat) : tBI g (i + 1) = tBI g i ++ lnT [2 * ((i : Int) + 1)] := by unfold tBI ztW; rw [zem, List.append_assoc]
theorem ztt (g : Gr) (i : Nat) : tBL g (i + 1) = tBL g i ++ lnT (znW g i) := by unfold tBL zi9; rw [zem, List.append_assoc]
theorem ztu (g : Gr) (i : Nat) : tBO g (i + 1) = tBO g i ++ lnT [g.outs.getD i 0] := by unfold tBO zja; rw [zem, List.append_assoc]
theorem ztv (g : Gr) (i : Nat) : tBA g (i + 1) = tBA g i ++ lnT [2 * (g.first + (i : Int)), (g.ands.getD i (0, 0)).1, (g.ands.getD i (0, 0)).2] := by unfold tBA zjb; rw [zem, List.append_assoc]
structure GSm (g : Gr) : Prop where
 i0 : 0 ≤ g.ins
 i2 : g.ins + g.next.length + g.ands.length ≤ 4000
 i3 : g.outs.length ≤ 4000
 hil : g.init.length = g.next.length
 hin : ∀ a ∈ g.init, 0 ≤ a ∧ a ≤ 2
 nx : ∀ a ∈ g.next, 0 ≤ a ∧ a ≤ 10000
 ou : ∀ a ∈ g.outs, 0 ≤ a ∧ a ≤ 10000
 an : ∀ i (h : i < g.ands.length), 0 ≤ g.ands[i].1 ∧ g.ands[i].1 ≤ 10000 ∧ 0 ≤ g.ands[i].2 ∧ g.ands[i].2 ≤ 10000
theorem GSm.of {g : Gr} (hg : g.chk = 0) : GSm g := by
 obtain ⟨_, i0, i1, i2, i3, i4, i5⟩ := zM hg
 obtain ⟨r1, r2, r3, r4⟩ := zaf i4
 have wf : g.first = 1 + g.ins + g.next.length := rfl
 have wa : g.all = 2 * (g.first + g.ands.length) := rfl
 exact ⟨i0, i2, by omega, r1, r2, fun a ha => by have := r3 a ha; omega, fun a ha => by have := r4 a ha; omega, fun i hi => by
  obtain ⟨o1, o2, o3, o4⟩ := zas i5 hi
  omega⟩
theorem GSm.head {g : Gr} (s : GSm g) : ∀ n ∈ zaY g, 0 ≤ n ∧ n ≤ 2147483647 := fun n hn => by
 have := s.i0; have := s.i2; have := s.i3
 have wf : g.first = 1 + g.ins + g.next.length := rfl
 simp only [zaY, List.mem_cons, List.not_mem_nil, or_false] at hn
 omega
theorem GSm.in1 {g : Gr} (s : GSm g) {i : Nat} (h : i < g.ins.toNat) : ∀ n ∈ [2 * ((i : Int) + 1)], 0 ≤ n ∧ n ≤ 2147483647 := fun n hn => by
 have := s.i2
 simp only [List.mem_singleton] at hn
 omega
theorem GSm.la {g : Gr} (s : GSm g) {i : Nat} (h : i < g.next.length) : (∀ n ∈ znW g i, 0 ≤ n ∧ n ≤ 2147483647) ∧ (znW g i).length ≤ 3 := by
 have := s.i0; have := s.i2
 have h1 := s.nx _ (List.getElem_mem h)
 rw [← zA (d := (0 : Int)) h] at h1
 unfold znW
 refine ⟨fun n hn => ?_, ?_⟩
 ·rw [List.mem_cons, List.mem_cons] at hn
  rcases hn with hn | hn | hn
  ·omega
  ·omega
  ·split at hn
   ·simp at hn
   ·split at hn
    ·simp at hn; omega
    ·simp at hn; omega
 ·split
  ·simp
  ·split <;> simp
theorem GSm.o1 {g : Gr} (s : GSm g) {i : Nat} (h : i < g.outs.length) : ∀ n ∈ [g.outs.getD i 0], 0 ≤ n ∧ n ≤ 2147483647 := fun n hn => by
 have h1 := s.ou _ (List.getElem_mem h)
 rw [← zA (d := (0 : Int)) h] at h1
 simp only [List.mem_singleton] at hn
 omega
theorem GSm.a1 {g : Gr} (s : GSm g) {i : Nat} (h : i < g.ands.length) : ∀ n ∈ [2 * (g.first + (i : Int)), (g.ands.getD i (0, 0)).1, (g.ands.getD i (0, 0)).2], 0 ≤ n ∧ n ≤ 2147483647 := fun n hn => by
 have := s.i0; have := s.i2
 have h1 := s.an i h
 rw [← zA (d := ((0, 0) : Pr)) h] at h1
 have wf : g.first = 1 + g.ins + g.next.length := rfl
 simp only [List.mem_cons, List.not_mem_nil, or_false] at hn
 omega
theorem GSm.lens {g : Gr} (s : GSm g) : (tB1 g).length ≤ 100 ∧ (∀ i, i ≤ g.ins.toNat → (tBI g i).length ≤ 200000) ∧ (∀ i, i ≤ g.next.length → (tBL g i).length ≤ 400000) ∧ (∀ i, i ≤ g.outs.length → (tBO g i).length ≤ 600000) ∧ (∀ i, i ≤ g.ands.length → (tBA g i).length ≤ 800000) := by
 have := s.i0; have := s.i2; have := s.i3
 have z0 : (tB1 g).length ≤ 100 := by
  have := zb8 s.head
  unfold tB1
  rw [List.length_append]
  simp only [zaY, List.length_cons, List.length_nil] at this ⊢
  omega
 have z1 : ∀ i, i ≤ g.ins.toNat → (tBI g i).length ≤ 200000 := fun i hi => by
  have := zcI (f := fun i : Nat => lnT [2 * ((i : Int) + 1)]) (c := 12) (n := g.ins.toNat) (fun i hi => zb8 (s.in1 hi)) i hi
  unfold tBI ztW
  rw [List.length_append]
  omega
 have z2 : ∀ i, i ≤ g.next.length → (tBL g i).length ≤ 400000 := fun i hi => by
  have := zcI (f := fun i : Nat => lnT (znW g i)) (c := 34) (n := g.next.length) (fun i hi => by have := zb8 (s.la hi).1; have := (s.la hi).2; omega) i hi
  have := z1 g.ins.toNat (Nat.le_refl _)
  unfold tBL zi9
  rw [List.length_append]
  omega
 have z3 : ∀ i, i ≤ g.outs.length → (tBO g i).length ≤ 600000 := fun i hi => by
  have := zcI (f := fun i : Nat => lnT [g.outs.getD i 0]) (c := 12) (n := g.outs.length) (fun i hi => zb8 (s.o1 hi)) i hi
  have := z2 g.next.length (Nat.le_refl _)
  unfold tBO zja
  rw [List.length_append]
  omega
 have z4 : ∀ i, i ≤ g.ands.length → (tBA g i).length ≤ 800000 := fun i hi => by
  have := zcI (f := fun i : Nat => lnT [2 * (g.first + (i : Int)), (g.ands.getD i (0, 0)).1, (g.ands.getD i (0, 0)).2]) (c := 34) (n := g.ands.length) (fun i hi => zb8 (s.a1 hi)) i hi
  have := z3 g.outs.length (Nat.le_refl _)
  unfold tBA zjb
  rw [List.length_append]
  omega
 exact ⟨z0, z1, z2, z3, z4⟩
abbrev mbO (m : Mo) : O := .cells [vi m.g.ins, zy m.g.next, zy m.g.init, prs m.g.ands, zy m.g.outs, zG m.ins, zG m.lat, zG m.out]
abbrev gbO (g : Gr) : O := .cells [vi g.ins, zy g.next, zy g.init, prs g.ands, zy g.outs]
abbrev hP (m : Mo) (out : S) (X : H) : H := mbO m :: gbO m.g :: .typed 100 [.lp 2 0, .ls 3 1 0 out.length out.length] :: .typed 5 (out.map vb) :: X
def zvg (X : H) : Prop := ∀ o ∈ X, ∀ p, o.drop p = o
theorem zxh {m : Mo} {X : H} (hX : zvg X) : WOk 2 3 (mbO m :: gbO m.g :: .dead :: .dead :: X) where
 ne := by decide
 l1 := by simp
 l2 := by simp
 cl := fun j o ho h1 h2 => by
  rcases j with _|_|_|_|j
  ·obtain rfl := Option.some.inj ho; rfl
  ·obtain rfl := Option.some.inj ho; rfl
  ·exact absurd rfl h1
  ·exact absurd rfl h2
  ·exact hX o (List.mem_of_getElem? (show X[j]? = some o from ho)) _
theorem zbH {m : Mo} {out : S} {X : H} {l : Cl} {ex : Bool} {R : AEnd → H → (Nat → Bool) → Prop} (hX : zvg X) (hl : ∀ n ∈ l, 0 ≤ n ∧ n ≤ 2147483647) (hlen : out.length + 11 * l.length + 1 ≤ 20000000000000)
 (hr : R (.ret (.tup [])) (hP m (out ++ lnT l) X) (· == 3)) : zb TE 59 [.lp 2 0, .is ex 1 (l.map vi)] (hP m out X) R :=
 znP (zxh hX) hl hlen hr
theorem zgk {c : UInt8} : ∀ (l : List S) (b : Nat), (∀ x ∈ l, x.length ≤ 40) → b + l.length ≤ 100000 → (nmT c b l).length ≤ 60 * l.length
 | [], b, _, _ => by simp [nmT]
 | s :: l, b, h, hb => by
  rw [List.length_cons] at hb
  have h1 := zgk (c := c) l (b + 1) (fun x hx => h x (by simp [hx])) (by omega)
  have h2 := h s (by simp)
  have h3 := zdh (b : Int) (by omega) (by omega)
  simp only [nmT, List.length_cons, List.length_append]
  omega
theorem zcl {s : S} (h : zba s = true) : s.length ≤ 40 := by
 unfold zba at h
 simp only [Bool.and_eq_true, decide_eq_true_eq] at h
 exact h.2.2
theorem ztw (n : Mo) (h1 : n.ins.length ≤ 10000) (h2 : n.lat.length ≤ 10000) (h3 : n.out.length ≤ 10000) (h : ∀ x, x ∈ n.ins ∨ x ∈ n.lat ∨ x ∈ n.out → zba x = true) : (zb7 n).length ≤ 2000000 := by
 have a1 := zgk (c := 105) n.ins 0 (fun x hx => zcl (h x (.inl hx))) (by omega)
 have a2 := zgk (c := 108) n.lat 0 (fun x hx => zcl (h x (.inr (.inl hx)))) (by omega)
 have a3 := zgk (c := 111) n.out 0 (fun x hx => zcl (h x (.inr (.inr hx)))) (by omega)
 simp only [zb7, List.length_append]
 omega
def zuc : Plan := .take 0 <| .take 1 <| .take 2 <| .alt 3 (.one 4 <| .one 5 <| .one 6 <| .take 7 <| .take 8 <| .fin) (.one 4 (.one 3 <| .one 5 <| .one 6 <| .take 7 <| .take 8 <| .fin))
set_option maxHeartbeats 8000000 in
theorem zff (m : Mo) (hs : m.g.Sm) : Ev TE 16 [m.v] (.tup [.str (zc6 m).1, vi (zc6 m).2]) := by
 have hM : maxLen = 9223372036854775807 := rfl
 have hn := zgK m hs
 unfold zpu at hn
 unfold zc6
 by_cases hc : m.chk = 0
 ·rw [if_pos hc] at hn ⊢
  have hgc := (zaW hc).1
  have hst := zpx (g := zch m.g) (zaP (zaP hgc _) _)
  rw [zeS hgc] at hst
  have gs : GSm (zch m.g) := GSm.of (zaP (zaP hgc _) _)
  obtain ⟨n, hnm⟩ : ∃ n, n = m.norm := ⟨_, rfl⟩
  rw [← hnm] at hn ⊢
  have hng : zch m.g = n.g := by rw [hnm]; rfl
  rw [hng] at hst gs
  have hls : (m.ins.length : Int) = m.g.ins ∧ (m.lat.length : Int) = m.g.next.length ∧ (m.out.length : Int) = m.g.outs.length := by
   simpa [Mo.lens, Bool.or_eq_false_iff, and_assoc] using (zaW hc).2.1
  have hnm4 := zc8 hc
  have hok := zM hgc
  have ho1 := hok.i0; have ho2 := hok.i2; have ho3 := hok.i3
  have hni : n.ins = m.ins ∧ n.lat = m.lat ∧ n.out = m.out := by rw [hnm]; exact ⟨rfl, rfl, rfl⟩
  have bl1 : n.ins.length ≤ 10000 := by rw [hni.1]; omega
  have bl2 : n.lat.length ≤ 10000 := by rw [hni.2.1]; omega
  have bl3 : n.out.length ≤ 10000 := by rw [hni.2.2]; omega
  have htl := ztw n bl1 bl2 bl3 (by rw [hni.1, hni.2.1, hni.2.2]; exact hnm4)
  have g0 := gs.i0
  have g2 := gs.i2
  have g3 := gs.i3
  have gl := gs.lens
  obtain ⟨L1, L2, L3, L4, L5⟩ := gl
  have wf : n.g.first = 1 + n.g.ins + n.g.next.length := rfl
  refine zl Tryz.func16 rfl (by simp [nts]) ?_
  refine za (vm ?_)
  simp only [wq.down, seval, Tryz.results16]
  refine za (vm ?_)
  simp only [wq.down, seval]
  refine zb.ev hn rfl ?_
  simp only [wq.down, seval]
  refine za (vm ?_)
  simp only [wq.down, seval]
  refine zb.ev hst rfl ?_
  simp only [wq.down, seval]
  refine za (vm ?_)
  simp only [wq.down, seval]
  refine za (vm ?_)
  simp only [wq.down, seval]
  refine za (zaO ?_)
  refine zm rfl rfl ?_
  simp only [wq.down]
  refine zah rfl rfl ?_
  refine zk7 rfl (by simp only [wq.down, ↓reduceIte]) (by simp only [wq.down, ↓reduceIte]) ?_
  simp only [wq.down, seval]
  refine zm rfl rfl ?_
  simp only [wq.down, ↓reduceIte]
  refine zax ?_
  simp only [wq.down]
  refine za (vm ?_)
  simp only [wq.down, seval]
  refine ziO zck [97, 97, 103, 32] (.inl rfl) rfl (by simp) (by simp) ?_
  simp only [wq.down, Nat.reduceAdd]
  have w1 : IntKind.i64.wrap (1 + n.g.ins) = 1 + n.g.ins := z6 (by omega) (by omega)
  have w2 : IntKind.i64.wrap (1 + n.g.ins + (n.g.next.length : Int)) = n.g.first := z6 (by omega) (by omega)
  have w3 : IntKind.i64.wrap (n.g.first - 1) = n.g.first - 1 := z6 (by omega) (by omega)
  have w4 : IntKind.i64.wrap (n.g.first - 1 + (n.g.ands.length : Int)) = n.g.first - 1 + (n.g.ands.length : Int) := z6 (by omega) (by omega)
  have hPl0 : zvg [] := fun o ho => by cases ho
  refine za (vm ?_)
  simp only [wq.down, ↓reduceIte, Nat.reduceEqDiff, Nat.reduceLT, Nat.reduceLeDiff, Nat.reduceAdd, reduceCtorEq, Nat.reduceMul, w1, w2, w3, w4]
  refine ⟨⟨rfl, by decide⟩, zbH (m := n) (out := [97, 97, 103, 32]) (X := []) (l := zaY n.g) hPl0 gs.head (by simp [zaY]) ?_⟩
  obtain ⟨B1, hB1⟩ : ∃ B1, B1 = tB1 n.g := ⟨_, rfl⟩
  rw [show ([97, 97, 103, 32] ++ lnT (zaY n.g) : S) = B1 by rw [hB1]; rfl]
  simp only [wq.down, zS]
  refine za ?_
  refine za ?_
  refine vm ?_
  simp only [wq.down, seval]
  refine zj ?_
  refine zt (fun mm f h' => ∃ i, mm + i = n.g.ins.toNat ∧ f.t 1 = .lp 0 0 ∧ f.t 5 = .lp 1 0 ∧ f.t 6 = vi n.g.first ∧ f.t 7 = .lp 2 0 ∧ f.t 66 = vi n.g.ins ∧ f.t 67 = vi i ∧ f.d = [] ∧ h' = hP n (tBI n.g i) []) n.g.ins.toNat ⟨0, by simp, by simp only [wq.down, seval], by simp only [wq.down, seval], by simp only [wq.down, seval], by simp only [wq.down, seval], by simp only [wq.down, seval], rfl, rfl, by rw [hB1]; simp [tBI, ztW]⟩ ?_
  rintro mm f h' ⟨i, hm, h1, h5, h6, h7, h66, h67, hd, rfl⟩
  refine za (vm ?_)
  simp only [wq.down, Nat.reduceLT, h66, h67]
  refine za (vm ?_)
  simp only [wq.down, ↓reduceIte]
  refine vcB.mk (fun hlt => ?_) (fun hlt => ?_)
  ·simp only [decide_eq_true_eq] at hlt
   have hi : i < n.g.ins.toNat := by omega
   have hw := zi (show i < maxLen by omega)
   have hw2 : IntKind.i64.wrap (2 * ((i + 1 : Nat) : Int)) = 2 * ((i : Int) + 1) := by rw [z6 (by omega) (by omega)]; omega
   have hlb := L2 i (by omega)
   refine za (zj ?_)
   refine za (vm ?_)
   simp only [wq.down, ↓reduceIte, Nat.reduceEqDiff, Nat.reduceLT, h67]
   refine vm ?_
   simp only [wq.down, ↓reduceIte, Nat.reduceEqDiff, Nat.reduceLT, reduceCtorEq, Nat.reduceMul, h7, hw, hw2]
   refine ⟨⟨rfl, by decide⟩, zbH (m := n) (out := tBI n.g i) (X := []) (l := [2 * ((i : Int) + 1)]) hPl0 (gs.in1 hi) (by simp; omega) ?_⟩
   rw [← zts]
   simp only [wq.down, zS, hd]
   refine vm ?_
   simp only [wq.down, seval, h67, hw]
   exact .inl ⟨mm - 1, by omega, i + 1, by omega, by simp only [wq.down, seval, h1], by simp only [wq.down, seval, h5], by simp only [wq.down, seval, h6], by simp only [wq.down, seval, h7], by simp only [wq.down, seval, h66], rfl, by simp only [wq.down, hd], rfl⟩
  ·simp only [decide_eq_false_iff_not] at hlt
   have hi : i = n.g.ins.toNat := by omega
   subst hi
   clear h66 h67 hm
   simp only [wq.down]
   refine za ?_
   refine za ?_
   refine vm ?_
   simp only [wq.down, seval, h5]
   refine zj ?_
   refine zt (fun mm f h' => ∃ i, mm + i = n.g.next.length ∧ f.t 1 = .lp 0 0 ∧ f.t 5 = .lp 1 0 ∧ f.t 6 = vi n.g.first ∧ f.t 7 = .lp 2 0 ∧ f.t 78 = zy n.g.next ∧ f.t 79 = vi n.g.next.length ∧ f.t 80 = vi i ∧ f.d = [] ∧ h' = hP n (tBL n.g i) []) n.g.next.length ⟨0, by simp, by simp only [wq.down, seval, h1], by simp only [wq.down, seval, h5], by simp only [wq.down, seval, h6], by simp only [wq.down, seval, h7], by simp only [wq.down, seval], by simp only [wq.down, seval], rfl, by simp only [wq.down, hd], by simp [tBL, zi9]⟩ ?_
   rintro mm f h' ⟨i, hm, h1, h5, h6, h7, h78, h79, h80, hd, rfl⟩
   refine za (vm ?_)
   simp only [wq.down, Nat.reduceLT, h79, h80]
   refine za (vm ?_)
   simp only [wq.down, ↓reduceIte]
   refine vcB.mk (fun hlt => ?_) (fun hlt => ?_)
   ·simp only [decide_eq_true_eq, Int.ofNat_lt] at hlt
    have hw := zi (show i < maxLen by omega)
    have hg1 : (n.g.next.map vi).getD i .any = vi n.g.next[i] := zkn hlt _
    have hli : i < n.g.init.length := by rw [gs.hil]; exact hlt
    have hg2 : (n.g.init.map vi).getD i .any = vi n.g.init[i] := zkn hli _
    have hib := gs.hin _ (List.getElem_mem hli)
    have hlb := L3 i (by omega)
    have wA : IntKind.i64.wrap (1 + n.g.ins + (i : Int)) = 1 + n.g.ins + (i : Int) := z6 (by omega) (by omega)
    have wB : IntKind.i64.wrap (2 * (1 + n.g.ins + (i : Int))) = 2 * (1 + n.g.ins + (i : Int)) := z6 (by omega) (by omega)
    obtain ⟨nx, hnx⟩ : ∃ nx, nx = n.g.next[i] := ⟨_, rfl⟩
    obtain ⟨v, hv⟩ : ∃ v, v = n.g.init[i] := ⟨_, rfl⟩
    obtain ⟨lit, hlit⟩ : ∃ lit, lit = 2 * (1 + n.g.ins + (i : Int)) := ⟨_, rfl⟩
    have hla : znW n.g i = lit :: nx :: (if v = 0 then [] else if v = 1 then [1] else [lit]) := by
     unfold znW
     rw [zA hlt, zA hli, hnx, hv, hlit]
    rw [← hnx] at hg1
    rw [← hv] at hg2 hib
    rw [← hlit] at wB
    have hll := gs.la hlt
    have hsu := ztt n.g i
    rw [hla] at hll hsu
    refine za (zj ?_)
    refine za (vm ?_)
    simp only [wq.down, seval, h78, h80, hg1]
    refine ⟨⟨by omega, by omega⟩, ?_⟩
    refine za (vm ?_)
    simp only [wq.down, ↓reduceIte, Nat.reduceEqDiff, Nat.reduceLT, Nat.reduceLeDiff, Nat.reduceAdd, Nat.reduceSub, Int.reduceToNat, Nat.reduceDiv, Int.reduceLT, Int.reduceLE, Int.reduceNeg, Int.reduceBEq, Int.reduceBNe, Int.reduceAdd, Int.reduceSub, Nat.reduceBEq, reduceCtorEq, Nat.reduceMul, zn, Tryz.results16, h1, h5, h6, h7, h78, h79, h80, hd, w1, wA, ← hlit, wB]
    have hv3 : v = 0 ∨ v = 1 ∨ v = 2 := by omega
    have fin : ∀ (l : Cl), (∀ n ∈ l, 0 ≤ n ∧ n ≤ 2147483647) → l.length ≤ 3 → tBL n.g (i + 1) = tBL n.g i ++ lnT l → ∀ {R : AEnd → H → (Nat → Bool) → Prop}, R (.ret (.tup [])) (hP n (tBL n.g (i + 1)) []) (· == 3) → zb TE 59 [.lp 2 0, .is true 1 (l.map vi)] (hP n (tBL n.g i) []) R := fun l h1 h2 h3 R hr => by
     rw [h3] at hr
     exact zbH (m := n) (out := tBL n.g i) (X := []) (l := l) hPl0 h1 (by omega) hr
    rcases hv3 with hv0 | hv0 | hv0
    all_goals
     rw [hv0] at hg2 hll hsu
     refine vm ?_
     simp only [wq.down, ↓reduceIte, Nat.reduceEqDiff, Nat.reduceLT, Nat.reduceLeDiff, Nat.reduceAdd, Nat.reduceSub, Int.reduceToNat, Nat.reduceDiv, Int.reduceLT, Int.reduceLE, Int.reduceNeg, Int.reduceBEq, Int.reduceBNe, Int.reduceAdd, Int.reduceSub, Nat.reduceBEq, reduceCtorEq, Nat.reduceMul, zn, Tryz.results16, h1, h5, h6, h7, h78, h79, h80, hd, hg2]
    ·refine ⟨⟨rfl, by decide⟩, ⟨rfl, by decide⟩, ⟨rfl, by decide⟩, ⟨rfl, by decide⟩, ⟨by omega, by omega⟩, by decide, fin [lit, nx] hll.1 hll.2 hsu ?_⟩
     simp only [wq.down, zS, hd]
     refine vm ?_
     simp only [wq.down, seval, h80, hw]
     exact .inl ⟨mm - 1, by omega, i + 1, by omega, by simp only [wq.down, seval, h1], by simp only [wq.down, seval, h5], by simp only [wq.down, seval, h6], by simp only [wq.down, seval, h7], by simp only [wq.down, seval, h78], by simp only [wq.down, ↓reduceIte, Nat.reduceEqDiff, Nat.reduceLT, Nat.reduceLeDiff, Nat.reduceAdd, Nat.reduceSub, Int.reduceToNat, Nat.reduceDiv, Int.reduceLT, Int.reduceLE, Int.reduceNeg, Int.reduceBEq, Int.reduceBNe, Int.reduceAdd, Int.reduceSub, Nat.reduceBEq, reduceCtorEq, Nat.reduceMul, zn, Tryz.results16, h79], rfl, by simp only [wq.down, ↓reduceIte, Nat.reduceEqDiff, Nat.reduceLT, Nat.reduceLeDiff, Nat.reduceAdd, Nat.reduceSub, Int.reduceToNat, Nat.reduceDiv, Int.reduceLT, Int.reduceLE, Int.reduceNeg, Int.reduceBEq, Int.reduceBNe, Int.reduceAdd, Int.reduceSub, Nat.reduceBEq, reduceCtorEq, Nat.reduceMul, zn, Tryz.results16, hd], rfl⟩
    ·refine ⟨⟨rfl, by decide⟩, ⟨rfl, by decide⟩, ⟨rfl, by decide⟩, ⟨rfl, by decide⟩, ⟨by omega, by omega⟩, by decide, fin [lit, nx, 1] hll.1 hll.2 hsu ?_⟩
     simp only [wq.down, zS, hd]
     refine vm ?_
     simp only [wq.down, seval, h80, hw]
     exact .inl ⟨mm - 1, by omega, i + 1, by omega, by simp only [wq.down, seval, h1], by simp only [wq.down, seval, h5], by simp only [wq.down, seval, h6], by simp only [wq.down, seval, h7], by simp only [wq.down, seval, h78], by simp only [wq.down, ↓reduceIte, Nat.reduceEqDiff, Nat.reduceLT, Nat.reduceLeDiff, Nat.reduceAdd, Nat.reduceSub, Int.reduceToNat, Nat.reduceDiv, Int.reduceLT, Int.reduceLE, Int.reduceNeg, Int.reduceBEq, Int.reduceBNe, Int.reduceAdd, Int.reduceSub, Nat.reduceBEq, reduceCtorEq, Nat.reduceMul, zn, Tryz.results16, h79], rfl, by simp only [wq.down, ↓reduceIte, Nat.reduceEqDiff, Nat.reduceLT, Nat.reduceLeDiff, Nat.reduceAdd, Nat.reduceSub, Int.reduceToNat, Nat.reduceDiv, Int.reduceLT, Int.reduceLE, Int.reduceNeg, Int.reduceBEq, Int.reduceBNe, Int.reduceAdd, Int.reduceSub, Nat.reduceBEq, reduceCtorEq, Nat.reduceMul, zn, Tryz.results16, hd], rfl⟩
    ·refine ⟨⟨rfl, by decide⟩, ⟨rfl, by decide⟩, ⟨rfl, by decide⟩, ⟨rfl, by decide⟩, ⟨by omega, by omega⟩, by decide, fin [lit, nx, lit] hll.1 hll.2 hsu ?_⟩
     simp only [wq.down, zS, hd]
     refine vm ?_
     simp only [wq.down, seval, h80, hw]
     exact .inl ⟨mm - 1, by omega, i + 1, by omega, by simp only [wq.down, seval, h1], by simp only [wq.down, seval, h5], by simp only [wq.down, seval, h6], by simp only [wq.down, seval, h7], by simp only [wq.down, seval, h78], by simp only [wq.down, seval, h79], rfl, by simp only [wq.down, hd], rfl⟩
   ·simp only [decide_eq_false_iff_not, Int.ofNat_lt] at hlt
    have hi : i = n.g.next.length := by omega
    subst hi
    clear h78 h79 h80 hm
    simp only [wq.down]
    refine za ?_
    refine za ?_
    refine vm ?_
    simp only [wq.down, seval, h5]
    refine zj ?_
    refine zt (fun mm f h' => ∃ i, mm + i = n.g.outs.length ∧ f.t 1 = .lp 0 0 ∧ f.t 5 = .lp 1 0 ∧ f.t 6 = vi n.g.first ∧ f.t 7 = .lp 2 0 ∧ f.t 113 = zy n.g.outs ∧ f.t 114 = vi n.g.outs.length ∧ f.t 115 = vi i ∧ f.d = [] ∧ h' = hP n (tBO n.g i) []) n.g.outs.length ⟨0, by simp, by simp only [wq.down, seval, h1], by simp only [wq.down, seval, h5], by simp only [wq.down, seval, h6], by simp only [wq.down, seval, h7], by simp only [wq.down, seval], by simp only [wq.down, seval], rfl, by simp only [wq.down, hd], by simp [tBO, zja]⟩ ?_
    rintro mm f h' ⟨i, hm, h1, h5, h6, h7, h78, h79, h80, hd, rfl⟩
    refine za (vm ?_)
    simp only [wq.down, Nat.reduceLT, h79, h80]
    refine za (vm ?_)
    simp only [wq.down, ↓reduceIte]
    refine vcB.mk (fun hlt => ?_) (fun hlt => ?_)
    ·simp only [decide_eq_true_eq, Int.ofNat_lt] at hlt
     have hw := zi (show i < maxLen by omega)
     have hg1 : (n.g.outs.map vi).getD i .any = vi (n.g.outs.getD i 0) := by rw [zA hlt]; exact zkn hlt _
     have hlb := L4 i (by omega)
     refine za (zj ?_)
     refine za (vm ?_)
     simp only [wq.down, ↓reduceIte, Nat.reduceEqDiff, Nat.reduceLT, h78, h80, hg1]
     refine ⟨⟨by omega, by omega⟩, ?_⟩
     refine vm ?_
     simp only [wq.down, ↓reduceIte, Nat.reduceEqDiff, Nat.reduceLT, reduceCtorEq, Nat.reduceMul, h7]
     refine ⟨⟨rfl, by decide⟩, zbH (m := n) (out := tBO n.g i) (X := []) (l := [n.g.outs.getD i 0]) hPl0 (gs.o1 hlt) (by simp; omega) ?_⟩
     rw [← ztu]
     simp only [wq.down, zS, hd]
     refine vm ?_
     simp only [wq.down, seval, h80, hw]
     exact .inl ⟨mm - 1, by omega, i + 1, by omega, by simp only [wq.down, seval, h1], by simp only [wq.down, seval, h5], by simp only [wq.down, seval, h6], by simp only [wq.down, seval, h7], by simp only [wq.down, seval, h78], by simp only [wq.down, seval, h79], rfl, by simp only [wq.down, hd], rfl⟩
    ·simp only [decide_eq_false_iff_not, Int.ofNat_lt] at hlt
     have hi : i = n.g.outs.length := by omega
     subst hi
     clear h78 h79 h80 hm
     simp only [wq.down]
     refine za ?_
     refine za ?_
     refine vm ?_
     simp only [wq.down, seval, h5]
     refine zj ?_
     refine zt (fun mm f h' => ∃ i X, mm + i = n.g.ands.length ∧ f.t 1 = .lp 0 0 ∧ f.t 5 = .lp 1 0 ∧ f.t 6 = vi n.g.first ∧ f.t 7 = .lp 2 0 ∧ f.t 125 = prs n.g.ands ∧ f.t 126 = vi n.g.ands.length ∧ f.t 127 = vi i ∧ f.d = [] ∧ h' = hP n (tBA n.g i) [] ++ X) n.g.ands.length ⟨0, [], by simp, by simp only [wq.down, seval, h1], by simp only [wq.down, seval, h5], by simp only [wq.down, seval, h6], by simp only [wq.down, seval, h7], by simp only [wq.down, seval], by simp only [wq.down, seval], rfl, by simp only [wq.down, hd], by simp [tBA, zjb]⟩ ?_
     rintro mm f h' ⟨i, X, hm, h1, h5, h6, h7, h78, h79, h80, hd, rfl⟩
     have hcl : zae (hP n (tBA n.g i) []) := fun p hp => by
      have q2 := hp 2 (by show 2 < 4; decide)
      have q3 := hp 3 (by show 3 < 4; decide)
      have d2 := zd7 (p := p) (tBA n.g i)
      simp only [wq.down, ↓reduceIte, O.drop, V.drops, V.drop, q2, q3, d2]
     refine zan (by rw [hd]; simp) ?_
     rw [hcl.from_]
     obtain ⟨f', hf'⟩ : ∃ f', f' = f.drop (Abs.zK (hP n (tBA n.g i) []).length) := ⟨_, rfl⟩
     have u1 : f'.t 1 = .lp 0 0 := by rw [hf']; show (f.t 1).drop _ = _; rw [h1]; rfl
     have u5 : f'.t 5 = .lp 1 0 := by rw [hf']; show (f.t 5).drop _ = _; rw [h5]; rfl
     have u6 : f'.t 6 = vi n.g.first := by rw [hf']; show (f.t 6).drop _ = _; rw [h6]; rfl
     have u7 : f'.t 7 = .lp 2 0 := by rw [hf']; show (f.t 7).drop _ = _; rw [h7]; rfl
     have u78 : f'.t 125 = prs n.g.ands := by rw [hf']; show (f.t 125).drop _ = _; rw [h78]; rfl
     have u79 : f'.t 126 = vi n.g.ands.length := by rw [hf']; show (f.t 126).drop _ = _; rw [h79]; rfl
     have u80 : f'.t 127 = vi i := by rw [hf']; show (f.t 127).drop _ = _; rw [h80]; rfl
     have ud : f'.d = [] := by rw [hf']; exact hd
     rw [← hf']
     clear hf' h1 h5 h6 h7 h78 h79 h80 hd X
     refine za (vm ?_)
     simp only [wq.down, Nat.reduceLT, u79, u80]
     refine za (vm ?_)
     simp only [wq.down, ↓reduceIte]
     refine vcB.mk (fun hlt => ?_) (fun hlt => ?_)
     ·simp only [decide_eq_true_eq, Int.ofNat_lt] at hlt
      have hw := zi (show i < maxLen by omega)
      have hg1 := zeQ hlt V.any
      have hlb := L5 i (by omega)
      have wA : IntKind.i64.wrap (n.g.first + (i : Int)) = n.g.first + (i : Int) := z6 (by omega) (by omega)
      have wB : IntKind.i64.wrap (2 * (n.g.first + (i : Int))) = 2 * (n.g.first + (i : Int)) := z6 (by omega) (by omega)
      have hal := gs.a1 hlt
      have hsu := ztv n.g i
      rw [zA hlt] at hal hsu
      refine za (zj ?_)
      refine za (vm ?_)
      simp only [wq.down, ↓reduceIte, Nat.reduceEqDiff, Nat.reduceLT, Nat.reduceLeDiff, Nat.reduceAdd, Nat.reduceSub, Int.reduceToNat, Nat.reduceDiv, Int.reduceLT, Int.reduceLE, Int.reduceNeg, Int.reduceBEq, Int.reduceBNe, Int.reduceAdd, Int.reduceSub, Nat.reduceBEq, reduceCtorEq, Nat.reduceMul, zn, Tryz.results16, u1, u5, u6, u7, u78, u79, u80, ud, hg1]
      refine ⟨⟨by omega, by omega⟩, ?_⟩
      refine vm ?_
      simp only [wq.down, ↓reduceIte, Nat.reduceEqDiff, Nat.reduceLT, Nat.reduceLeDiff, Nat.reduceAdd, Nat.reduceSub, Int.reduceToNat, Nat.reduceDiv, Int.reduceLT, Int.reduceLE, Int.reduceNeg, Int.reduceBEq, Int.reduceBNe, Int.reduceAdd, Int.reduceSub, Nat.reduceBEq, reduceCtorEq, Nat.reduceMul, zn, Tryz.results16, u1, u5, u6, u7, u78, u79, u80, ud, wA, wB]
      refine ⟨by omega, by omega, ⟨rfl, by decide⟩, zbH (m := n) (out := tBA n.g i) (X := [.cells [vi n.g.ands[i].1, vi n.g.ands[i].2]]) (l := [2 * (n.g.first + (i : Int)), n.g.ands[i].1, n.g.ands[i].2]) (fun o ho p => by rw [List.mem_singleton] at ho; subst ho; rfl) hal (by simp; omega) ?_⟩
      rw [← hsu]
      simp only [wq.down, zS, ud]
      refine vm ?_
      simp only [wq.down, seval, u80, hw]
      exact .inl ⟨mm - 1, by omega, i + 1, [.cells [vi n.g.ands[i].1, vi n.g.ands[i].2]], by omega, by simp only [wq.down, seval, u1], by simp only [wq.down, seval, u5], by simp only [wq.down, seval, u6], by simp only [wq.down, seval, u7], by simp only [wq.down, seval, u78], by simp only [wq.down, seval, u79], rfl, by simp only [wq.down, ud], rfl⟩
     ·simp only [decide_eq_false_iff_not, Int.ofNat_lt] at hlt
      have hi : i = n.g.ands.length := by omega
      subst hi
      have hte := zkQ n (by omega) (by omega) (by omega) (by omega)
      have htt : tBA n.g n.g.ands.length ++ zb7 n = zbJ n := by rw [zwO]; rfl
      have hlb := L5 n.g.ands.length (Nat.le_refl _)
      have hBne : tBA n.g n.g.ands.length ≠ [] := by simp [tBA, tBO, tBL, tBI, tB1]
      obtain ⟨B, hB⟩ : ∃ B, B = tBA n.g n.g.ands.length := ⟨_, rfl⟩
      simp only [wq.down]
      rw [← hB] at htt hlb hBne ⊢
      refine za ?_
      refine zN mixed zuc (fun f' h' => f'.t 2 = .str (zbJ n) ∧ f'.t 3 = vi 0 ∧ f'.d = []) (by decide +kernel) (by decide +kernel) ?_ ?_
      ·simp only [wq.down, seval, zuc, u1, u7]
       repeat' apply And.intro
       all_goals
        refine zo7 B rfl rfl hBne (by omega) ?_
        simp only [wq.down, seval, zS, u1, ud]
        refine zb.ev hte rfl ?_
        simp only [wq.down, seval, ud, htt]
        omega
      ·rintro f h' ⟨h2, h3, hd⟩
       simp only [wq.down]
       refine vm ?_
       simp only [wq.down, h2, h3, hd]
       exact zw.dat rfl
 ·rw [if_neg hc] at hn ⊢
  refine zl Tryz.func16 rfl (by simp [nts]) ?_
  refine za (vm ?_)
  simp only [wq.down, seval, Tryz.results16]
  refine za (vm ?_)
  simp only [wq.down, seval]
  refine zb.ev hn rfl ?_
  simp only [wq.down, seval]
  have hc' : (m.chk != 0) = true := by simpa using hc
  refine za (vm ?_)
  simp only [wq.down, seval, hc']
  refine ⟨.bool true, ?_⟩
  simp only [wq.down, seval]
  exact zw.dat rfl
def zxr (r : RE Mo) (g1 : Int) (g2 g3 : Cl) (g4 : List (Int × Int)) (g5 : Cl) (n1 n2 n3 : List S) : Bool := match r with
 | .ok ⟨⟨a, b, c, d, e⟩, f, g, h⟩ => decide ((a : Int) = g1) && decide (b = g2) && decide (c = g3) && decide (d = g4) && decide (e = g5) && decide (f = n1) && decide (g = n2) && decide (h = n3)
 | .error _ => false
theorem zrE {r : RE Mo} {g1 : Int} {g2 g3 : Cl} {g4 : List (Int × Int)} {g5 : Cl} {n1 n2 n3 : List S} (h : zxr r g1 g2 g3 g4 g5 n1 n2 n3 = true) : r = .ok ⟨⟨g1, g2, g3, g4, g5⟩, n1, n2, n3⟩ := by
 unfold zxr at h
 split at h
 ·simp only [Bool.and_eq_true, decide_eq_true_eq] at h
  obtain ⟨⟨⟨⟨⟨⟨⟨h1, rfl⟩, rfl⟩, rfl⟩, rfl⟩, rfl⟩, rfl⟩, rfl⟩ := h
  subst h1
  rfl
 ·cases h
def erB {α : Type} (r : RE α) (w : Nat) (e : Int) : Bool := match r with
 | .error (a, b) => decide (a = w) && decide (b = e)
 | .ok _ => false
theorem zwP {α : Type} {r : RE α} {w : Nat} {e : Int} (h : erB r w e = true) : r = .error (w, e) := by
 unfold erB at h
 split at h
 ·simp only [Bool.and_eq_true, decide_eq_true_eq] at h
  obtain ⟨rfl, rfl⟩ := h
  rfl
 ·cases h
def okB {α : Type} [DecidableEq α] (r : RE α) (x : α) : Bool := match r with
 | .ok y => decide (y = x)
 | .error _ => false
theorem zud {α : Type} [DecidableEq α] {r : RE α} {x : α} (h : okB r x = true) : r = .ok x := by
 unfold okB at h
 split at h
 ·rw [of_decide_eq_true h]
 ·cases h
def wA : S := [97, 97, 103, 32, 48, 32, 48, 32, 48, 32, 49, 32, 48, 10, 49, 10]
def wB : S := [97, 97, 103, 32, 51, 32, 49, 32, 49, 32, 49, 32, 49, 10, 50, 10, 52, 32, 55, 32, 52, 10, 54, 10, 54, 32, 50, 32, 52, 10, 105, 48, 32, 97, 10, 99, 10, 120]
def wC : S := [97, 97, 103, 32, 49, 32, 49, 32, 48, 32, 48, 32, 48, 10, 51, 10]
def wD : S := [97, 105, 103, 32, 49, 32, 49, 32, 48, 32, 48, 32, 48, 10]
def wE : S := [111, 48, 32, 122, 10]
theorem zxi : zaX wA = .ok ⟨⟨0, [], [], [], [1]⟩, [], [], [[111, 48]]⟩ := zrE (by decide +kernel)
theorem zxj : zaX wB = .ok ⟨⟨1, [7], [2], [(2, 4)], [6]⟩, [[97]], [[108, 48]], [[111, 48]]⟩ := zrE (by decide +kernel)
theorem zxk : zaX wC = .error (14, 1) := zwP (by decide +kernel)
theorem zxl : ze2 wD [97, 105, 103] = .ok ([1, 1, 0, 0, 0, 0, 0, 0, 0], 14) := zud (by decide +kernel)
theorem zxm : zgm wE [0, 0, 2, 0, 0] 0 = .ok [[], [], [[122], [111, 49]], [], []] := zud (by decide +kernel)
end Go.Proofs.YtboolnpmlmgpkaaGreatDoor
