/- Lemmas for the statement of this claim, part F12: they hold with no conditions but those that each one names. -/
import Derived.Test.YtfcpapokknfeeaaGreatDoorF11
import Derived.Test.YtfcpapokknfeeaaGreatDoorA12
import Derived.Test.YtfcpapokknfeeaaGreatDoorF10
import Derived.Test.YtfcpapokknfeeaaGreatDoorF09
import Derived.Test.YtfcpapokknfeeaaGreatDoorF04
import Derived.Test.YtfcpapokknfeeaaGreatDoorF03
import Derived.Test.YtfcpapokknfeeaaGreatDoorA9
set_option linter.unusedVariables false
set_option maxRecDepth 20000
set_option linter.unusedSimpArgs false
set_option linter.unnecessarySimpa false
namespace Go.Proofs.YtfcpapokknfeeaaGreatDoor
open Go Go.Proofs Go.Abs Go.RowKit
set_option maxHeartbeats 1000000 in
set_option maxRecDepth 100000 in
theorem zjD (b : Nat) (w : World) (c1 : w.drew.cell? ⟨b, 1, none⟩ = some (.slice none 0 0)) :
 Calls Tryz.prog 29 #[.pointer (some ⟨b, 0, none⟩)] w fun e w' => e = .returned (.string ⟨#[]⟩) ∧ w' = w.drew := by
 have hSD : (Builtin.unsafeSliceData_ #[55] 126 #[.slice none 0 0]).run Tryz.prog w.drew = .ok (.pointer none) w.drew :=
  Lib.run_unsafeSliceData_nil w.drew _ _ _ _
 have hUS : (Builtin.unsafeString_ #[126, 3] 9 #[.pointer none, .int .i64 0]).run Tryz.prog w.drew = .ok (.string .empty) w.drew :=
  Lib.run_unsafeString_none w.drew 126 3 9 none
 go_enter Tryz.func29, Tryz.ntmps29
 go_wp2
 go_region
 all_goals (go_wp2; go_ret; exact ⟨rfl, rfl⟩)
theorem zkl {T id : Nat} {a : V} {h : H} {R : AEnd → H → (Nat → Bool) → Prop} (hh : h[id]? = some (.typed T [a, .nils])) (hr : R (.ret (.str [])) h (fun _ => false)) : zb TE 29 [.lp id 0] h R := by
 intro ok pl w vs hs hv
 simp only [VList, VRel] at hv
 obtain ⟨y, ys, rfl, ⟨b, hpb, rfl⟩, rfl⟩ := hv
 have hpb : pl id = some b := hpb
 obtain ⟨o, ho, hat⟩ := hs.obj id b hpb
 rw [hh] at ho; cases ho
 obtain ⟨arr, fz, g1, g2, g3, g4⟩ := hat
 have g1 : w.heap[b]? = some (.cells arr T fz) := g1
 obtain ⟨x1, e1, r1⟩ := VList.get 1 .nils g4 rfl
 have e1 : arr[1]? = some x1 := by
  rw [List.getElem?_take_of_lt (by simp)] at e1
  simpa using e1
 simp only [VRel] at r1
 have hcell : w.drew.cell? ⟨b, 1, none⟩ = some (.slice none 0 0) := by
  rw [Lib.cell_of_heap (w := w.drew) g1, e1, r1]
 refine (zjD b w hcell).mono ?_
 rintro en w' ⟨rfl, rfl⟩
 have x : WExt w w.drew := WExt.drew w
 exact ⟨fun _ => false, pl, h, .ret (.str []), hs.wext x, x.keeps hs, by show VRel _ _ _; simp only [VRel]; exact ⟨_, rfl, by simp, by decide⟩, hr⟩
def tH (mb : O) : S → H
 | [] => [mb, .typed 59 [.nilp, .nils]]
 | c :: s => [mb, .typed 59 [.lp 1 0, .ls 2 1 0 (c :: s).length (c :: s).length], .typed 5 ((c :: s).map vb)]
theorem zo2 {mb : O} (hm : mb.drop (· == 2) = mb) {out s : S} (hs : s ≠ []) (hl : out.length + s.length ≤ 20000000000000) {R : AEnd → H → (Nat → Bool) → Prop} (hr : R (.ret (.tup [vi s.length, .nili])) (tH mb (out ++ s)) (· == 2)) : zb TE 27 [.lp 1 0, .str s] (tH mb out) R := by
 refine zb.kp (· == 2) ?_
 cases out with
 | nil =>
  refine zfx ziA s (.inl rfl) rfl hs (by simpa using hl) ⟨fun j hj => (by cases hj), ?_⟩
  cases s with
  | nil => exact absurd rfl hs
  | cons c s => exact hr
 | cons c out =>
  refine zg8 ziA (c :: out) s (.inr rfl) (by decide) rfl rfl hl ⟨fun j hj => hj, ?_⟩
  have e : (((tH mb (c :: out)).map (O.drop (· == 2))).set 2 (O.typed 5 ((c :: out ++ s).map vb))).set 1 (.typed 59 [.lp 1 0, .ls 2 1 0 (c :: out ++ s).length (c :: out ++ s).length]) = tH mb (c :: out ++ s) := by
   simp only [tH, List.map_cons, List.map_nil, hm, List.set_cons_succ, List.set_cons_zero, List.cons_append]
  rw [e]
  exact hr
theorem zsk {mb : O} {out : S} (hl : out.length ≤ 20000000000000) {R : AEnd → H → (Nat → Bool) → Prop} (hr : ∀ h', h'[0]? = some (mb.drop (· == 2)) ∨ h'[0]? = some mb → R (.ret (.str out)) h' (· == 2)) : zb TE 29 [.lp 1 0] (tH mb out) R := by
 refine zb.kp (· == 2) ?_
 cases out with
 | nil => exact zkl (a := .nilp) (T := 59) rfl ⟨fun j hj => (by cases hj), hr _ (.inr rfl)⟩
 | cons c out => exact zji (c :: out) rfl rfl (by simp) hl ⟨fun j hj => hj, hr _ (.inl rfl)⟩
def nmL (c : UInt8) (i : Nat) (s : S) : S := c :: (Lib.itoa i ++ 32 :: (s ++ [10]))
def nmP (c : UInt8) (l : List S) (i : Nat) : S := (List.range i).flatMap fun j => nmL c j (l.getD j [])
theorem zkm {c : UInt8} {l : List S} {i : Nat} (h : i < l.length) : nmP c l (i + 1) = nmP c l i ++ nmL c i l[i] := by
 unfold nmP
 rw [List.range_succ, List.flatMap_append, List.flatMap_singleton, zw h]
theorem zsl {c : UInt8} : ∀ (l : List S) (b : Nat), nmT c b l = (List.range l.length).flatMap fun j => nmL c (b + j) (l.getD j [])
 | [], b => rfl
 | s :: l, b => by
  unfold nmT
  rw [zsl l (b + 1), List.length_cons, List.range_succ_eq_map, List.flatMap_cons, List.flatMap_map]
  simp [nmL, Nat.add_assoc, Nat.add_comm 1]
theorem zjE {c : UInt8} (l : List S) : nmT c 0 l = nmP c l l.length := by
 rw [zsl]; simp [nmP]
def ltr (k : Nat) : UInt8 := [(105 : UInt8), 108, 111].getD k 0
def zdz (L : List (List S)) (k : Nat) : S := (List.range k).flatMap fun j => nmT (ltr j) 0 (L.getD j [])
theorem zls {L : List (List S)} {k : Nat} (h : k < L.length) : zdz L (k + 1) = zdz L k ++ nmT (ltr k) 0 L[k] := by
 unfold zdz
 rw [List.range_succ, List.flatMap_append, List.flatMap_singleton, zw h]
theorem znw (m : Mo) : zdz [m.ins, m.lat, m.out] 3 = zcA m := by simp [zdz, zcA, ltr, List.range_succ]
theorem zpM {c : UInt8} {l : List S} {i : Nat} (h : i ≤ l.length) : (nmP c l i).length ≤ (nmT c 0 l).length := by
 rw [zjE]
 unfold nmP
 obtain ⟨n, hn⟩ : ∃ n, l.length = i + n := ⟨l.length - i, by omega⟩
 rw [hn, List.range_add, List.flatMap_append, List.length_append]
 omega
theorem zo3 {L : List (List S)} {k : Nat} (h : k ≤ L.length) : (zdz L k).length ≤ (zdz L L.length).length := by
 unfold zdz
 obtain ⟨n, hn⟩ : ∃ n, L.length = k + n := ⟨L.length - k, by omega⟩
 rw [hn, List.range_add, List.flatMap_append, List.length_append]
 omega
theorem zqS {L : List (List S)} {k : Nat} (h : k < L.length) : ((L.map zT).getD k .any) = zT L[k] := by simp [List.getD_eq_getElem?_getD, h]
theorem znx {l : List S} {k : Nat} (h : k < l.length) : ((l.map V.str).getD k .any) = V.str l[k] := by simp [List.getD_eq_getElem?_getD, h]
theorem zny {k : Nat} (h : k < 3) : (([105, 108, 111, 98, 99] : S).drop k).take (k + 1 - k) = [ltr k] := by
 rcases k with _|_|_|k
 ·rfl
 ·rfl
 ·rfl
 ·omega
def zpN : Plan := .take 0 <| .take 1 <| .take 2 <| .take 3 <| .take 4 <| .take 5 <| .take 6 <| .take 7 <| .take 11 <| .one 8 <| .one 9 <| .one 10 <| .one 12 <| .one 13 <| .one 14 <| .fin
set_option maxHeartbeats 4000000 in
theorem zqT (m : Mo) (hb1 : m.ins.length ≤ 100000) (hb2 : m.lat.length ≤ 100000) (hb3 : m.out.length ≤ 100000) (ht : (zcA m).length ≤ 10000000000000) : Ev TE 11 [m.v] (.str (zcA m)) := by
 have hM : maxLen = 9223372036854775807 := rfl
 obtain ⟨L, hL⟩ : ∃ L, L = [m.ins, m.lat, m.out] := ⟨_, rfl⟩
 have hL3 : L.length = 3 := by rw [hL]; rfl
 have hLb : ∀ l ∈ L, l.length ≤ 100000 := by rw [hL]; intro l hl; simp at hl; rcases hl with rfl | rfl | rfl <;> assumption
 have hrow : zdz L L.length = zcA m := by rw [hL3, hL]; exact znw m
 have hLm : [zT m.ins, zT m.lat, zT m.out] = L.map zT := by rw [hL]; rfl
 obtain ⟨mb, hmb⟩ : ∃ mb : O, mb = .cells (vi m.g.ins :: zo m.g.next :: zo m.g.init :: prs m.g.ands :: zo m.g.outs :: L.map zT) := ⟨_, rfl⟩
 have hmd : mb.drop (· == 2) = mb := by rw [hmb, hL]; rfl
 rw [← hrow] at ht ⊢
 refine zh Tryz.func11 rfl (by simp [nts]) ?_
 refine za (vm ?_)
 simp only [wq.down, seval, Tryz.results11]
 refine za (zbc ?_)
 refine zm rfl rfl ?_
 simp only [wq.down]
 refine zap rfl rfl ?_
 refine zov rfl (by simp only [wq.down, ↓reduceIte]) (by simp only [wq.down, ↓reduceIte]) ?_
 simp only [wq.down, ↓reduceIte]
 refine zm rfl rfl ?_
 simp only [wq.down, ↓reduceIte]
 refine zak ?_
 simp only [wq.down]
 refine za ?_
 refine za ?_
 refine vm ?_
 simp only [wq.down, ↓reduceIte, Nat.reduceEqDiff, Nat.reduceLT, Nat.reduceLeDiff, Nat.reduceAdd, reduceCtorEq, Nat.reduceMul]
 rw [hLm, ← hmb]
 refine ⟨⟨rfl, by decide⟩, ?_⟩
 refine zy ?_
 refine zp (fun mm f h' => ∃ k, mm + k = L.length ∧ f.t 3 = .lp 1 0 ∧ f.t 16 = .is true 1 (L.map zT) ∧ f.t 17 = vi L.length ∧ f.t 18 = vi k ∧ f.d = [] ∧ h' = tH mb (zdz L k)) L.length ⟨0, by simp, by simp only [wq.down, seval], by simp only [wq.down, seval], by rw [hL3]; rfl, rfl, rfl, rfl⟩ ?_
 rintro mm f h' ⟨k, hm, h3, h16, h17, h18, hd, rfl⟩
 refine za (vm ?_)
 simp only [wq.down, Nat.reduceLT, h17, h18]
 refine za (vm ?_)
 simp only [wq.down, ↓reduceIte]
 refine vcB.mk (fun hlt => ?_) (fun hlt => ?_)
 ·simp only [decide_eq_true_eq, Int.ofNat_lt] at hlt
  have hgk := zqS hlt
  have hlk := hLb _ (List.getElem_mem hlt)
  have hk3 : k < 3 := by omega
  have hrk := zo3 (L := L) (k := k + 1) (by omega)
  have hsk := zls hlt
  obtain ⟨l, hl⟩ : ∃ l, l = L[k] := ⟨_, rfl⟩
  rw [← hl] at hgk hlk hsk
  refine za (zy ?_)
  refine za (vm ?_)
  simp only [wq.down, seval, h16, h18, hgk]
  refine ⟨⟨by omega, by omega⟩, ?_⟩
  refine za ?_
  refine vm ?_
  simp only [wq.down, seval]
  refine zy ?_
  refine zp (fun m2 f h' => ∃ i, m2 + i = l.length ∧ f.t 3 = .lp 1 0 ∧ f.t 4 = vi k ∧ f.t 16 = .is true 1 (L.map zT) ∧ f.t 17 = vi L.length ∧ f.t 18 = vi k ∧ f.t 23 = zT l ∧ f.t 24 = vi l.length ∧ f.t 25 = vi i ∧ f.d = [] ∧ h' = tH mb (zdz L k ++ nmP (ltr k) l i)) l.length ⟨0, by simp, by simp only [wq.down, seval, h3], by simp only [wq.down, seval], by simp only [wq.down, seval, h16], by simp only [wq.down, seval, h17], by simp only [wq.down, seval, h18], by simp only [wq.down, seval], by simp only [wq.down, seval], rfl, by simp only [wq.down, hd], by simp [nmP]⟩ ?_
  rintro m2 f h' ⟨i, hm2, h3, h4, h16, h17, h18, h23, h24, h25, hd, rfl⟩
  refine za (vm ?_)
  simp only [wq.down, Nat.reduceLT, h24, h25]
  refine za (vm ?_)
  simp only [wq.down, ↓reduceIte]
  refine vcB.mk (fun hlt2 => ?_) (fun hlt2 => ?_)
  ·simp only [decide_eq_true_eq, Int.ofNat_lt] at hlt2
   have hgi := znx hlt2
   have hni := zpM (c := ltr k) (l := l) (i := i + 1) hlt2
   have hsi := zkm (c := ltr k) hlt2
   have hw := zi (show i < maxLen by omega)
   have hwk := zi (show k < maxLen by omega)
   have hlen : (zdz L k ++ nmP (ltr k) l i).length + (nmL (ltr k) i l[i]).length ≤ 10000000000000 := by
    have e1 := congrArg List.length hsi
    have e2 := congrArg List.length hsk
    rw [List.length_append] at e1 e2 ⊢
    omega
   refine za (zy ?_)
   refine za (vm ?_)
   simp only [wq.down, seval, h23, h25, hgi]
   refine ⟨⟨by omega, by omega⟩, ?_⟩
   refine zM mixed zpN (fun f' h' => f'.t 3 = .lp 1 0 ∧ f'.t 4 = vi k ∧ f'.t 16 = .is true 1 (L.map zT) ∧ f'.t 17 = vi L.length ∧ f'.t 18 = vi k ∧ f'.t 23 = zT l ∧ f'.t 24 = vi l.length ∧ f'.t 25 = vi i ∧ f'.d = [] ∧ h' = tH mb (zdz L k ++ nmP (ltr k) l (i + 1))) (by decide +kernel) (by decide +kernel) ?_ ?_
   ·simp only [wq.down, seval, zpN, h3, h4, hwk, zny hk3]
    refine ⟨⟨by omega, by omega, by omega⟩, zb.ev (zg9 (i : Int) (by omega) (by omega)) rfl ?_⟩
    simp only [wq.down, seval]
    have hil := zcu (i : Int) (by omega) (by omega)
    have hll : l[i].length ≤ 10000000000000 := by
     rw [List.length_append] at hlen
     simp only [nmL, List.length_cons, List.length_append] at hlen
     omega
    have en : (ltr k :: (Lib.itoa (i : Int) ++ [32] ++ l[i] ++ [10]) : S) = nmL (ltr k) i l[i] := by simp [nmL]
    rw [en]
    refine ⟨by omega, by omega, by omega, by omega, zo2 hmd (by simp [nmL]) (by omega) ?_⟩
    rw [show zdz L k ++ nmP (ltr k) l i ++ nmL (ltr k) i l[i] = zdz L k ++ nmP (ltr k) l (i + 1) by rw [hsi, List.append_assoc]]
    simp only [wq.down, seval, zX, h3, h4, h16, h17, h18, h23, h24, h25, hd]
   ·rintro f h' ⟨h3, h4, h16, h17, h18, h23, h24, h25, hd, rfl⟩
    simp only [wq.down]
    refine vm ?_
    simp only [wq.down, seval, h25, hw]
    exact .inl ⟨m2 - 1, by omega, i + 1, by omega, by simp only [wq.down, seval, h3], by simp only [wq.down, seval, h4], by simp only [wq.down, seval, h16], by simp only [wq.down, seval, h17], by simp only [wq.down, seval, h18], by simp only [wq.down, seval, h23], by simp only [wq.down, seval, h24], rfl, hd, rfl⟩
  ·simp only [decide_eq_false_iff_not, Int.ofNat_lt] at hlt2
   have hi : i = l.length := by omega
   subst hi
   have hw := zi (show k < maxLen by omega)
   rw [← zjE, ← hsk]
   simp only [wq.down]
   refine vm ?_
   simp only [wq.down, seval, h18, hw]
   exact .inl ⟨mm - 1, by omega, k + 1, by omega, by simp only [wq.down, seval, h3], by simp only [wq.down, seval, h16], by simp only [wq.down, seval, h17], rfl, hd, rfl⟩
 ·simp only [decide_eq_false_iff_not, Int.ofNat_lt] at hlt
  have hk : k = L.length := by omega
  subst hk
  simp only [wq.down]
  refine za (vm ?_)
  simp only [wq.down, seval, h3]
  refine zsk (by omega) (fun h' _ => ?_)
  simp only [wq.down, seval, zX, hd]
  refine vm ?_
  simp only [wq.down, ↓reduceIte, hd]
  exact zn.dat rfl
theorem zbK {l : Cl} (hl : ∀ n ∈ l, 0 ≤ n ∧ n ≤ 2147483647) : (lnT l).length ≤ 11 * l.length + 1 := by
 have := zhl hl l.length (Nat.le_refl _)
 rw [zsj, List.length_append, List.length_singleton]
 omega
theorem zeZ {f : Nat → S} {n : Nat} : (List.range (n + 1)).flatMap f = (List.range n).flatMap f ++ f n := by
 rw [List.range_succ, List.flatMap_append, List.flatMap_singleton]
theorem zdA {f : Nat → S} {c n : Nat} (h : ∀ i, i < n → (f i).length ≤ c) : ∀ i, i ≤ n → ((List.range i).flatMap f).length ≤ c * i
 | 0, _ => by simp
 | i + 1, hi => by
  have := zdA h i (by omega)
  have := h i (by omega)
  rw [zeZ, List.length_append, Nat.mul_succ]
  omega
def tB1 (g : Gr) : S := [97, 97, 103, 32] ++ lnT (zdd g)
def tBI (g : Gr) (i : Nat) : S := tB1 g ++ zs4 i
def tBL (g : Gr) (i : Nat) : S := tBI g g.ins.toNat ++ zr8 g i
def tBO (g : Gr) (i : Nat) : S := tBL g g.next.length ++ zhh g.outs i
def tBA (g : Gr) (i : Nat) : S := tBO g g.outs.length ++ zr9 g i
structure GSm (g : Gr) : Prop where
 i0 : 0 ≤ g.ins
 i2 : g.ins + g.next.length + g.ands.length ≤ 4000
 i3 : g.outs.length ≤ 4000
 hil : g.init.length = g.next.length
 hin : ∀ a ∈ g.init, 0 ≤ a ∧ a ≤ 2
 nx : ∀ a ∈ g.next, 0 ≤ a ∧ a ≤ 10000
 ou : ∀ a ∈ g.outs, 0 ≤ a ∧ a ≤ 10000
 an : ∀ i (h : i < g.ands.length), 0 ≤ g.ands[i].1 ∧ g.ands[i].1 ≤ 10000 ∧ 0 ≤ g.ands[i].2 ∧ g.ands[i].2 ≤ 10000
theorem GSm.of {g : Gr} (hg : g.chk = 0) : GSm g := by
 obtain ⟨_, i0, i1, i2, i3, i4, i5⟩ := zI hg
 obtain ⟨r1, r2, r3, r4⟩ := zU i4
 have wf : g.first = 1 + g.ins + g.next.length := rfl
 have wa : g.all = 2 * (g.first + g.ands.length) := rfl
 exact ⟨i0, i2, by omega, r1, r2, fun a ha => by have := r3 a ha; omega, fun a ha => by have := r4 a ha; omega, fun i hi => by
  obtain ⟨o1, o2, o3, o4⟩ := zal i5 hi
  omega⟩
theorem GSm.head {g : Gr} (s : GSm g) : ∀ n ∈ zdd g, 0 ≤ n ∧ n ≤ 2147483647 := fun n hn => by
 have := s.i0; have := s.i2; have := s.i3
 have wf : g.first = 1 + g.ins + g.next.length := rfl
 simp only [zdd, List.mem_cons, List.not_mem_nil, or_false] at hn
 omega
theorem GSm.in1 {g : Gr} (s : GSm g) {i : Nat} (h : i < g.ins.toNat) : ∀ n ∈ [2 * ((i : Int) + 1)], 0 ≤ n ∧ n ≤ 2147483647 := fun n hn => by
 have := s.i2
 simp only [List.mem_singleton] at hn
 omega
theorem GSm.la {g : Gr} (s : GSm g) {i : Nat} (h : i < g.next.length) : (∀ n ∈ zqH g i, 0 ≤ n ∧ n ≤ 2147483647) ∧ (zqH g i).length ≤ 3 := by
 have := s.i0; have := s.i2
 have h1 := s.nx _ (List.getElem_mem h)
 rw [← zw (d := (0 : Int)) h] at h1
 unfold zqH
 refine ⟨fun n hn => ?_, ?_⟩
 ·rw [List.mem_cons, List.mem_cons] at hn
  rcases hn with hn | hn | hn
  ·omega
  ·omega
  ·split at hn
   ·simp at hn
   ·split at hn
    ·simp at hn; omega
    ·simp at hn; omega
 ·split
  ·simp
  ·split <;> simp
theorem GSm.o1 {g : Gr} (s : GSm g) {i : Nat} (h : i < g.outs.length) : ∀ n ∈ [g.outs.getD i 0], 0 ≤ n ∧ n ≤ 2147483647 := fun n hn => by
 have h1 := s.ou _ (List.getElem_mem h)
 rw [← zw (d := (0 : Int)) h] at h1
 simp only [List.mem_singleton] at hn
 omega
theorem GSm.a1 {g : Gr} (s : GSm g) {i : Nat} (h : i < g.ands.length) : ∀ n ∈ [2 * (g.first + (i : Int)), (g.ands.getD i (0, 0)).1, (g.ands.getD i (0, 0)).2], 0 ≤ n ∧ n ≤ 2147483647 := fun n hn => by
 have := s.i0; have := s.i2
 have h1 := s.an i h
 rw [← zw (d := ((0, 0) : Pr)) h] at h1
 have wf : g.first = 1 + g.ins + g.next.length := rfl
 simp only [List.mem_cons, List.not_mem_nil, or_false] at hn
 omega
theorem GSm.lens {g : Gr} (s : GSm g) : (tB1 g).length ≤ 100 ∧ (∀ i, i ≤ g.ins.toNat → (tBI g i).length ≤ 200000) ∧ (∀ i, i ≤ g.next.length → (tBL g i).length ≤ 400000) ∧ (∀ i, i ≤ g.outs.length → (tBO g i).length ≤ 600000) ∧ (∀ i, i ≤ g.ands.length → (tBA g i).length ≤ 800000) := by
 have := s.i0; have := s.i2; have := s.i3
 have z0 : (tB1 g).length ≤ 100 := by
  have := zbK s.head
  unfold tB1
  rw [List.length_append]
  simp only [zdd, List.length_cons, List.length_nil] at this ⊢
  omega
 have z1 : ∀ i, i ≤ g.ins.toNat → (tBI g i).length ≤ 200000 := fun i hi => by
  have := zdA (f := fun i : Nat => lnT [2 * ((i : Int) + 1)]) (c := 12) (n := g.ins.toNat) (fun i hi => zbK (s.in1 hi)) i hi
  unfold tBI zs4
  rw [List.length_append]
  omega
 have z2 : ∀ i, i ≤ g.next.length → (tBL g i).length ≤ 400000 := fun i hi => by
  have := zdA (f := fun i : Nat => lnT (zqH g i)) (c := 34) (n := g.next.length) (fun i hi => by have := zbK (s.la hi).1; have := (s.la hi).2; omega) i hi
  have := z1 g.ins.toNat (Nat.le_refl _)
  unfold tBL zr8
  rw [List.length_append]
  omega
 have z3 : ∀ i, i ≤ g.outs.length → (tBO g i).length ≤ 600000 := fun i hi => by
  have := zdA (f := fun i : Nat => lnT [g.outs.getD i 0]) (c := 12) (n := g.outs.length) (fun i hi => zbK (s.o1 hi)) i hi
  have := z2 g.next.length (Nat.le_refl _)
  unfold tBO zhh
  rw [List.length_append]
  omega
 have z4 : ∀ i, i ≤ g.ands.length → (tBA g i).length ≤ 800000 := fun i hi => by
  have := zdA (f := fun i : Nat => lnT [2 * (g.first + (i : Int)), (g.ands.getD i (0, 0)).1, (g.ands.getD i (0, 0)).2]) (c := 34) (n := g.ands.length) (fun i hi => zbK (s.a1 hi)) i hi
  have := z3 g.outs.length (Nat.le_refl _)
  unfold tBA zr9
  rw [List.length_append]
  omega
 exact ⟨z0, z1, z2, z3, z4⟩
abbrev mbO (m : Mo) : O := .cells [vi m.g.ins, zo m.g.next, zo m.g.init, prs m.g.ands, zo m.g.outs, zT m.ins, zT m.lat, zT m.out]
abbrev gbO (g : Gr) : O := .cells [vi g.ins, zo g.next, zo g.init, prs g.ands, zo g.outs]
abbrev hP (m : Mo) (out : S) (X : H) : H := mbO m :: gbO m.g :: .typed 59 [.lp 2 0, .ls 3 1 0 out.length out.length] :: .typed 5 (out.map vb) :: X
def zqU (X : H) : Prop := ∀ o ∈ X, ∀ p, o.drop p = o
theorem zkn {c : UInt8} : ∀ (l : List S) (b : Nat), (∀ x ∈ l, x.length ≤ 40) → b + l.length ≤ 100000 → (nmT c b l).length ≤ 60 * l.length
 | [], b, _, _ => by simp [nmT]
 | s :: l, b, h, hb => by
  rw [List.length_cons] at hb
  have h1 := zkn (c := c) l (b + 1) (fun x hx => h x (by simp [hx])) (by omega)
  have h2 := h s (by simp)
  have h3 := zcu (b : Int) (by omega) (by omega)
  simp only [nmT, List.length_cons, List.length_append]
  omega
theorem zfQ {s : S} (h : zbH s = true) : s.length ≤ 40 := by
 unfold zbH at h
 simp only [Bool.and_eq_true, decide_eq_true_eq] at h
 exact h.2.2
theorem zko (n : Mo) (h1 : n.ins.length ≤ 10000) (h2 : n.lat.length ≤ 10000) (h3 : n.out.length ≤ 10000) (h : ∀ x, x ∈ n.ins ∨ x ∈ n.lat ∨ x ∈ n.out → zbH x = true) : (zcA n).length ≤ 2000000 := by
 have a1 := zkn (c := 105) n.ins 0 (fun x hx => zfQ (h x (.inl hx))) (by omega)
 have a2 := zkn (c := 108) n.lat 0 (fun x hx => zfQ (h x (.inr (.inl hx)))) (by omega)
 have a3 := zkn (c := 111) n.out 0 (fun x hx => zfQ (h x (.inr (.inr hx)))) (by omega)
 simp only [zcA, List.length_append]
 omega
def zs6 (r : RE Mo) (g1 : Int) (g2 g3 : Cl) (g4 : List (Int × Int)) (g5 : Cl) (n1 n2 n3 : List S) : Bool := match r with
 | .ok ⟨⟨a, b, c, d, e⟩, f, g, h⟩ => decide ((a : Int) = g1) && decide (b = g2) && decide (c = g3) && decide (d = g4) && decide (e = g5) && decide (f = n1) && decide (g = n2) && decide (h = n3)
 | .error _ => false
theorem zqV {r : RE Mo} {g1 : Int} {g2 g3 : Cl} {g4 : List (Int × Int)} {g5 : Cl} {n1 n2 n3 : List S} (h : zs6 r g1 g2 g3 g4 g5 n1 n2 n3 = true) : r = .ok ⟨⟨g1, g2, g3, g4, g5⟩, n1, n2, n3⟩ := by
 unfold zs6 at h
 split at h
 ·simp only [Bool.and_eq_true, decide_eq_true_eq] at h
  obtain ⟨⟨⟨⟨⟨⟨⟨h1, rfl⟩, rfl⟩, rfl⟩, rfl⟩, rfl⟩, rfl⟩, rfl⟩ := h
  subst h1
  rfl
 ·cases h
def erB {α : Type} (r : RE α) (w : Nat) (e : Int) : Bool := match r with
 | .error (a, b) => decide (a = w) && decide (b = e)
 | .ok _ => false
theorem zsm {α : Type} {r : RE α} {w : Nat} {e : Int} (h : erB r w e = true) : r = .error (w, e) := by
 unfold erB at h
 split at h
 ·simp only [Bool.and_eq_true, decide_eq_true_eq] at h
  obtain ⟨rfl, rfl⟩ := h
  rfl
 ·cases h
def wA : S := [97, 97, 103, 32, 48, 32, 48, 32, 48, 32, 49, 32, 48, 10, 49, 10]
def wB : S := [97, 97, 103, 32, 51, 32, 49, 32, 49, 32, 49, 32, 49, 10, 50, 10, 52, 32, 55, 32, 52, 10, 54, 10, 54, 32, 50, 32, 52, 10, 105, 48, 32, 97, 10, 99, 10, 120]
def wC : S := [97, 97, 103, 32, 49, 32, 49, 32, 48, 32, 48, 32, 48, 10, 51, 10]
def Gr.same (g k : Gr) : Bool := (g.ins == k.ins) && ((g.next == k.next) && ((g.init == k.init) && ((g.ands == k.ands) && (g.outs == k.outs))))
theorem za3 {g : Gr} {p : List Pr × Cl} : (za6 g p).ins = g.ins ∧ (za6 g p).next.length = g.next.length ∧ (za6 g p).outs.length = g.outs.length := by
 unfold za6
 simp
theorem zlt {g : Gr} : (zas g).ins = g.ins ∧ (zas g).next.length = g.next.length ∧ (zas g).outs.length = g.outs.length := by
 unfold zas
 dsimp only
 exact ⟨za3.1.trans za3.1, za3.2.1.trans za3.2.1, za3.2.2.trans za3.2.2⟩
theorem zsn {m : Mo} (h : m.chk = 0) : m.g.chk = 0 := by
 unfold Mo.chk at h
 split at h
 ·exact h
 ·rename_i hn
  simpa using hn
theorem ziB {g : Gr} {use : Nat → Bool} : ∀ i, ∃ R, (zG g use i).2 = zaJ g.first.toNat ++ R
 | 0 => ⟨[], by simp [zG]⟩
 | i + 1 => by
  obtain ⟨R, h⟩ := ziB (g := g) (use := use) i
  unfold zG zb3
  split
  ·exact ⟨R ++ [_], by rw [← List.append_assoc, ← h]⟩
  ·exact ⟨R ++ [0], by rw [← List.append_assoc, ← h]⟩
theorem zo4 {R : Cl} {n v : Nat} (h : v < n) : zK (zaJ n ++ R) (2 * (v : Int)) = 2 * (v : Int) := by
 unfold zK
 rw [if_neg (by omega), show (2 * (v : Int) / 2).toNat = v by omega, List.getD_eq_getElem?_getD, List.getElem?_append_left (by rw [zaq]; exact h)]
 unfold zaJ
 simp [h]
theorem zkp {g : Gr} {use : Nat → Bool} {k i v : Nat} (hv : (v : Int) < g.first) (ho : g.outs.getD i 0 = 2 * (v : Int)) (hi : i < g.outs.length) : (za6 g (zG g use k)).outs.getD i 0 = 2 * (v : Int) := by
 obtain ⟨R, hR⟩ := ziB (g := g) (use := use) k
 unfold za6
 dsimp only
 rw [hR, List.getD_eq_getElem?_getD, List.getElem?_map]
 rw [List.getD_eq_getElem?_getD] at ho
 rw [List.getElem?_eq_getElem hi] at ho ⊢
 simp only [Option.map_some, Option.getD_some] at ho ⊢
 rw [ho]
 exact zo4 (by omega)
theorem znz {g : Gr} {i v : Nat} (hv : (v : Int) < g.first) (ho : g.outs.getD i 0 = 2 * (v : Int)) (hi : i < g.outs.length) : (zas g).outs.getD i 0 = 2 * (v : Int) := by
 unfold zas
 dsimp only
 refine zkp ?_ (zkp hv ho hi) (by rw [za3.2.2]; exact hi)
 unfold Gr.first
 rw [za3.1, za3.2.1]
 exact hv
theorem zo5 {m : Mo} (h : m.chk = 0) : m.norm.chk = 0 := by
 have hg := zsn h
 have hn : m.norm.g.chk = 0 := zae (zae hg _) _
 obtain ⟨l1, l2, l3⟩ := zlt (g := m.g)
 have hl : m.norm.lens = m.lens := by
  unfold Mo.lens Mo.norm
  dsimp only
  rw [l1, l2, l3]
 have e1 : m.norm.names = m.names := rfl
 have e2 : m.norm.twos = m.twos := rfl
 have e3 : m.other m.out.length = false → m.norm.other m.out.length = false := by
  intro ho
  have hle : m.lens = false := by
   cases hle : m.lens with
   | false => rfl
   | true => unfold Mo.chk at h; rw [hg, hle] at h; simp at h
  unfold Mo.lens at hle
  simp only [Bool.or_eq_false_iff, bne_eq_false_iff_eq] at hle
  obtain ⟨⟨q1, q2⟩, q3⟩ := hle
  unfold Mo.other at ho ⊢
  rw [List.any_eq_false] at ho ⊢
  intro i hi hb
  have hb0 := ho i hi
  have hpl : m.norm.place (m.norm.out.getD i []) = m.place (m.out.getD i []) := rfl
  rw [hpl] at hb
  obtain ⟨p, hp⟩ : ∃ p, p = m.place (m.out.getD i []) := ⟨_, rfl⟩
  have hpb : p ≤ (m.ins ++ m.lat).length := by
   have := zjZ (m.ins ++ m.lat) (· == m.out.getD i [])
   rw [hp]; unfold Mo.place; split <;> omega
  rw [← hp] at hb hb0
  simp only [Bool.and_eq_true, decide_eq_true_eq, bne_iff_ne, ne_eq, not_and, Classical.not_not] at hb hb0
  have hz := hb0 hb.1
  rw [List.length_append] at hpb
  obtain ⟨v, hv⟩ : ∃ v : Nat, p = v := ⟨p.toNat, by omega⟩
  rw [hv] at hz hb
  refine hb.2 (znz ?_ hz ?_)
  ·unfold Gr.first; omega
  ·have : i < m.out.length := by simpa using hi
   omega
 unfold Mo.chk at h ⊢
 rw [hl, e1, e2, hn]
 rw [hg] at h
 simp only [ne_eq, not_true, if_false] at h ⊢
 rw [show m.norm.out = m.out from rfl]
 repeat' split at h
 all_goals first
  | (cases h; done)
  | skip
 simp_all
theorem zqW {m : Mo} (h : m.chk = 0) : m.norm.g.Sm := by
 have hg := zI (zsn (zo5 h))
 have := hg.i0
 have := hg.i2
 exact ⟨by omega, by omega⟩
theorem zkq {use : Nat → Bool} : ∀ k, (∀ i, i < k → use i = true) → zc3 use k = k
 | 0, _ => rfl
 | k + 1, h => by rw [zdV, zkq k (fun i hi => h i (by omega)), h k (by omega)]; rfl
theorem zo6 {f n v : Nat} {use : Nat → Bool} (h : ∀ i, i < n → use i = true) (hv : v < f + n) : zdc f use v = v := by
 unfold zdc
 split
 ·rfl
 ·rw [zkq _ (fun i hi => h i (by omega))]; omega
theorem zjF {f n : Nat} {l : Int} {use : Nat → Bool} (h : ∀ i, i < n → use i = true) (h0 : 0 ≤ l) (hv : l < 2 * ((f : Int) + n)) : reA f use l = l := by
 unfold reA
 rw [zo6 h (by omega)]
 omega
theorem znA {g : Gr} (hg : g.chk = 0) (hga : zf8 g.ands) {use : Nat → Bool} (hu : ∀ i, i < g.ands.length → use i = true) : za6 g (zG g use g.ands.length) = g := by
 obtain ⟨_, i0, i1, i2, i3, i4, i5⟩ := zI hg
 obtain ⟨r1, r2, r3, r4⟩ := zU i4
 have hf := zO i0
 have hfn : (g.first.toNat : Int) = g.first := by omega
 have hle : zqG g use := fun i hi _ => by
  obtain ⟨o1, o2, o3, o4⟩ := zal i5 hi
  refine ⟨?_, ?_⟩
  ·by_cases h : (g.ands[i].1 / 2).toNat < g.first.toNat
   ·exact .inl h
   ·exact .inr (hu _ (by omega))
  ·by_cases h : (g.ands[i].2 / 2).toNat < g.first.toNat
   ·exact .inl h
   ·exact .inr (hu _ (by omega))
 obtain ⟨p1, p2⟩ := zc4 hg hga hle g.ands.length (Nat.le_refl _)
 have hlive : ∀ v, v < g.first.toNat + g.ands.length → znj g.first.toNat use v := fun v hv => by
  by_cases h : v < g.first.toNat
  ·exact .inl h
  ·exact .inr (hu _ (by omega))
 have hkp : zdW g use g.ands.length = g.ands := by
  unfold zdW
  rw [List.filter_eq_self.2 (fun i hi => hu i (List.mem_range.1 hi))]
  refine List.ext_getElem (by simp) (fun i h1 h2 => ?_)
  obtain ⟨o1, o2, o3, o4⟩ := zal i5 h2
  simp only [List.getElem_map, List.getElem_range]
  rw [zw h2, zjF hu o1 (by omega), zjF hu o2 (by omega)]
 have hcm : ∀ a, 0 ≤ a → a < g.all → zK (zG g use g.ands.length).2 a = a := fun a h0 h1 => by
  unfold Gr.all at h1
  have hv : (a / 2).toNat < g.first.toNat + g.ands.length := by omega
  rw [zbV (p2 _ hv (hlive _ hv)), zjF hu h0 (by omega)]
 have hmap : ∀ l : Cl, (∀ a ∈ l, 0 ≤ a ∧ a < g.all) → l.map (zK (zG g use g.ands.length).2) = l := fun l hl => by
  conv => rhs; rw [← List.map_id l]
  exact List.map_congr_left fun a ha => hcm a (hl a ha).1 (hl a ha).2
 unfold za6
 rw [hmap _ r3, hmap _ r4, p1, hkp]
theorem zo7 {g : Gr} (hg : g.chk = 0) : zas (zas g) = zas g := by
 have hst := zeF hg
 have hx : (za6 g (zG g (fun _ => true) g.ands.length)).chk = 0 := zae hg _
 have hy : (zas g).chk = 0 := zae hx _
 have hga : zf8 (zas g).ands := zca (zI hx).i0 _ _
 obtain ⟨y, hyy⟩ : ∃ y, y = zas g := ⟨_, rfl⟩
 rw [← hyy] at hst hy hga ⊢
 have h1 : za6 y (zG y (fun _ => true) y.ands.length) = y := znA hy hga (fun _ _ => rfl)
 unfold zas
 rw [h1]
 refine znA hy hga (fun i hi => ?_)
 unfold zfJ at hst
 simp only [Bool.not_eq_true', List.any_eq_false, List.mem_range] at hst
 have := hst i hi
 unfold zsC at this
 simp only [Bool.or_eq_true, not_or, Bool.not_eq_true', Bool.not_eq_false] at this
 exact this.2.2.2.1
def grp (n : Nat) : By := if h : n < 128 then [UInt8.ofNat n] else UInt8.ofNat (n % 128 + 128) :: grp (n / 128)
termination_by n
decreasing_by omega
theorem zcb {n : Nat} (h : n < 128) : grp n = [UInt8.ofNat n] := by rw [grp, dif_pos h]
theorem zfR {n : Nat} (h : ¬ n < 128) : grp n = UInt8.ofNat (n % 128 + 128) :: grp (n / 128) := by rw [grp, dif_neg h]
theorem zcT : ∀ (k n : Nat), n < 128 ^ (k + 1) → (grp n).length ≤ k + 1
 | 0, n, h => by rw [zcb (by simpa using h)]; simp
 | k + 1, n, h => by
  by_cases hn : n < 128
  ·rw [zcb hn]; simp
  ·rw [zfR hn, List.length_cons]
   have := zcT k (n / 128) (by rw [Nat.pow_succ] at h; omega)
   omega
theorem zso : ∀ m : Fin 256, IntKind.u8.wrap (((BitVec.ofInt 8 (m.val : Int)) ||| (BitVec.ofInt 8 128)).toNat : Int) = ((m.val % 128 + 128 : Nat) : Int) := by decide +kernel
theorem zqX (n : Nat) : IntKind.u8.wrap (((BitVec.ofInt 8 (IntKind.u8.wrap (n : Int))) ||| (BitVec.ofInt 8 128)).toNat : Int) = ((UInt8.ofNat (n % 128 + 128)).toNat : Int) := by
 have h1 : IntKind.u8.wrap (n : Int) = ((n % 256 : Nat) : Int) := by rw [IntKind.wrap_u8]; omega
 rw [h1]
 have := zso ⟨n % 256, by omega⟩
 dsimp only at this
 rw [this, UInt8.toNat_ofNat']
 omega
theorem zo8 (n : Nat) : IntKind.u8.wrap (((BitVec.ofInt IntKind.u8.bits (IntKind.u8.wrap (n : Int))) ||| (BitVec.ofInt IntKind.u8.bits 128)).toNat : Int) = ((UInt8.ofNat (n % 128 + 128)).toNat : Int) := zqX n
theorem zgy (h : H) (n : Int) : za7 P h 3 5 (vi n) = (True, .int .u8 (IntKind.u8.wrap n)) := by simp only [za7, tis]
theorem zsp (h : H) (n : Int) : za7 P h 5 3 (.int .u8 n) = (True, vi (IntKind.i64.wrap n)) := by simp only [za7, tis]
theorem ztn (n : Nat) : (n : Int).fdiv (2 ^ (min 7 IntKind.i64.bits)) = ((n / 128 : Nat) : Int) := by
 show (n : Int).fdiv 128 = _
 rw [Int.fdiv_eq_ediv_of_nonneg _ (by decide)]
 rfl
theorem znB (n : Nat) (h : n < 128) : IntKind.u8.wrap (n : Int) = ((UInt8.ofNat n).toNat : Int) := by
 rw [IntKind.wrap_u8, UInt8.toNat_ofNat']; omega
def HD (L : (Nat → V) → LoopState → Option Code → O) (out : By) (n : Nat) (st : LoopState) (h : H) : Prop :=
 ∃ t, t 4 = .lp 0 0 ∧ ((out = [] ∧ h = [.cells [.nils], .cells [vi n], .misc .dfd, L t st none]) ∨ h = [.cells [.ls 4 1 0 out.length out.length], .cells [vi n], .misc .dfd, L t st none, .cells (out.map vb)])
set_option maxHeartbeats 2000000 in
theorem ziC (L : (Nat → V) → LoopState → Option Code → O) (hL : ∀ p t st c, (L t st c).drop p = L (fun i => (t i).drop p) st c) (n0 : Nat) (hn : n0 ≤ 2147483647) (h : H) (h0 : HD L [] n0 .ready h)
 (step : ∀ out c n h, HD L out n .ready h → out.length ≤ 100 → zq7 TE 3 [vb c] h fun j h'' p => j = none ∧ (∀ i, i < 4 → p i = false) ∧ HD L (out ++ [c]) n .ready h'') :
 zb TE 132 ([] ++ [.yd 3] ++ [.lp 1 0]) h fun ae h' p => (∀ i, i < 4 → p i = false) ∧ match ae with
  | .ret _ => ∃ n', HD L (grp n0) n' .ready h'
  | .pan _ => False := by
 have hM : maxLen = 9223372036854775807 := rfl
 have hgl := zcT 4 n0 (by omega)
 refine zl Tryz.func132 rfl (by simp [nts]) (vm ?_)
 simp only [wq.down, Tryz.results132]
 refine zp (fun m f h => ∃ out n, m = n ∧ f.t 0 = .yd 3 ∧ f.t 1 = .lp 1 0 ∧ f.d = [] ∧ (∀ i, i < 4 → f.k i = false) ∧ HD L out n .ready h ∧ grp n0 = out ++ grp n ∧ n ≤ 2147483647) n0 ⟨[], n0, rfl, rfl, rfl, rfl, fun _ _ => rfl, h0, rfl, hn⟩ ?_
 rintro m f h ⟨out, n, rfl, h0, h1, hd, hk, hHD, hgrp, hnn⟩
 have hol : out.length ≤ 5 := by
  have := congrArg List.length hgrp
  rw [List.length_append] at this
  omega
 have hcell : h[1]? = some (.cells [vi m]) := by
  obtain ⟨t, _, ⟨_, rfl⟩ | rfl⟩ := hHD <;> rfl
 have hk3 := hk 3 (by omega)
 refine vm ?_
 simp only [wq.down, seval, h1, hcell]
 refine vcB.mk (fun hc => ?_) (fun hc => ?_)
 ·have hc : ¬ m < 128 := by have := of_decide_eq_true hc; omega
  obtain ⟨t, n', ps, asg, body, pend, hLp, hsz, hps, hw⟩ := step out (UInt8.ofNat (m % 128 + 128)) m h hHD (by omega)
  simp only [wq.down, seval, h0, h1, hcell, zgy, zo8, hLp]
  refine ⟨⟨by simpa using hsz, hps⟩, zbA hw ?_⟩
  rintro j h' p hp ⟨rfl, hp5, hHD'⟩
  have hcell : h'[1]? = some (.cells [vi m]) := by
   obtain ⟨t, _, ⟨_, rfl⟩ | rfl⟩ := hHD' <;> rfl
  have hp1 := hp5 1 (by omega)
  refine ⟨by simp [zf2, hd], ?_⟩
  simp only [wq.down, seval, h1, hp1, hcell, Option.isNone_none, ztn]
  refine .inl ⟨m / 128, by omega, out ++ [UInt8.ofNat (m % 128 + 128)], m / 128, rfl, by simp only [wq.down, seval, h0, hp], by simp only [wq.down, seval, h1, hp1], by simp only [wq.down, hd], fun i hi => ?_, ?_, ?_, by omega⟩
  ·simp only [zhL, zez, hk i hi, hp5 i hi, Bool.or_self]
  ·obtain ⟨t, ht, ⟨he, rfl⟩ | rfl⟩ := hHD'
   ·exact ⟨t, ht, .inl ⟨he, rfl⟩⟩
   ·exact ⟨t, ht, .inr rfl⟩
  ·rw [hgrp, zfR hc, List.append_assoc]; rfl
 ·have hc : m < 128 := by have := of_decide_eq_false hc; omega
  obtain ⟨t, n', ps, asg, body, pend, hLp, hsz, hps, hw⟩ := step out (UInt8.ofNat m) m h hHD (by omega)
  simp only [wq.down, seval, h0, h1, hcell, zgy, znB m hc, hLp]
  refine ⟨⟨by simpa using hsz, hps⟩, zbA hw ?_⟩
  rintro j h' p hp ⟨rfl, hp5, hHD'⟩
  refine ⟨by simp [zf2, hd], ?_⟩
  simp only [wq.down, hd]
  exact ⟨fun i hi => by rw [hk i hi, hp5 i hi]; rfl, m, by rw [hgrp, zcb hc]; exact hHD'⟩
theorem zjG (n : Int) (o0 : O) (R : AEnd → H → (Nat → Bool) → Prop) (hr : R (.ret (.fn (.func 132) [] [.lp 1 0])) [o0, .cells [vi n]] (fun _ => false)) : zb TE 86 [vi n] [o0] R := by
 refine zl Tryz.func86 rfl (by simp [nts]) (vm ?_)
 simp only [wq.down, seval, Tryz.results86]
 exact hr
theorem ziD : ∀ l : By, zah (l.map vb) = some l
 | [] => rfl
 | c :: l => by
  simp only [List.map_cons, zah, ziD l, Option.map_some]
  congr 2
  exact UInt8.ofNat_toNat
theorem zlu {h : H} {l : By} {k cap : Nat} (hc : h[k]? = some (.cells (l.map vb)))   : (za7 P h 55 9 (.ls k 1 0 l.length cap)).1 = True ∧ (za7 P h 55 9 (.ls k 1 0 l.length cap)).2 = .str l := by
 have h1 : zam h k = l.map vb := by simp only [zam, hc]
 have h2 : zah (((zam h k).drop 0).take l.length) = some l := by
  rw [h1, List.drop_zero, List.take_of_length_le (by simp), ziD]
 have h3 : 0 + l.length ≤ (zam h k).length := by rw [h1]; simp
 unfold za7
 simp only [tis, h2]
 exact ⟨eq_true ⟨trivial, trivial, h3⟩, trivial⟩
def zbj (n : Int) : By × Int := if zbp n = true then (grp n.toNat, 0) else ([], 3)
set_option maxHeartbeats 2000000 in
theorem ze0 (n : Int) : Ev TE 42 [vi n] (.tup [.str (zbj n).1, vi (zbj n).2]) := by
 refine zh Tryz.func42 rfl (by simp [nts]) (vm ?_)
 simp only [wq.down, seval, Tryz.results42]
 refine zb.ev (zmZ n) rfl ?_
 unfold zbj
 cases hf : zbp n with
 | false =>
  simp only [wq.down, seval]
  exact zn.dat rfl
 | true =>
  have hf : 0 ≤ n ∧ n ≤ 2147483647 := by simpa [zbp] using hf
  obtain ⟨m, rfl⟩ : ∃ m : Nat, n = m := ⟨n.toNat, by omega⟩
  rw [if_pos rfl, Int.toNat_natCast]
  simp only [wq.down, seval]
  refine zjG _ _ _ ?_
  simp only [wq.down]
  refine zcY (n := 18) (q := 132) (first := []) (captured := [.lp 1 0]) (by simp only [wq.down, ↓reduceIte]) (by simp only [wq.down, ↓reduceIte]) rfl (by decide) ?_
  intro L hLd gets
  refine zb.mono (ziC L hLd m (by omega) _ ⟨_, ?_, .inl ⟨rfl, rfl⟩⟩ ?_) ?_
  ·rfl
  ·rintro out c n h ⟨t, ht4, ⟨rfl, rfl⟩ | rfl⟩ hol
   ·refine gets _ _ _ t rfl rfl (fun lb => ?_)
    refine vm ?_
    simp only [wq.down, ↓reduceIte, Nat.reduceLT, Nat.reduceAdd, zfg]
    refine ⟨t, rfl, ?_⟩
    refine vm ?_
    simp only [wq.down, ↓reduceIte, Nat.reduceEqDiff, Nat.reduceLT, Nat.reduceLeDiff, Nat.reduceAdd, reduceCtorEq, Nat.reduceMul, ht4, zeA, XE.jump]
    exact ⟨⟨rfl, by decide⟩, by decide, t, _, rfl, t, ht4, .inr rfl⟩
   ·refine gets _ _ _ t rfl rfl (fun lb => ?_)
    refine vm ?_
    simp only [wq.down, ↓reduceIte, Nat.reduceLT, Nat.reduceAdd, zfg]
    refine ⟨t, rfl, ?_⟩
    refine vm ?_
    simp only [wq.down, ↓reduceIte, Nat.reduceEqDiff, Nat.reduceLT, Nat.reduceBEq, reduceCtorEq, Nat.reduceMul, ht4, zeA, XE.jump]
    refine ⟨⟨rfl, by decide⟩, ⟨by omega, by simp only [maxLen]; omega, by omega⟩, fun i => (t i).drop fun x => x == 4, _, by rw [hLd], fun i hi => by simp; omega, fun i => (t i).drop fun x => x == 4, by simp only [ht4, V.drop]; rfl, .inr ?_⟩
    rw [zc0, List.map_append, List.length_append]
    rfl
  ·rintro ae h' p ⟨hp5, hr⟩
   cases ae with
   | pan v => exact hr.elim
   | ret v =>
    obtain ⟨n', t, ht4, hh⟩ := hr
    have hne : grp m ≠ [] := by
     by_cases h : m < 128
     ·rw [zcb h]; simp
     ·rw [zfR h]; simp
    rcases hh with ⟨hh, _⟩ | rfl
    ·exact absurd hh hne
    ·refine ⟨?_, hp5 3 (by omega), t, _, none, (by decide), rfl, ?_⟩
     ·intro i hi
      have hi : i = 2 := by simpa [zf2, zpk] using hi
      subst hi
      exact hp5 2 (by omega)
     ·have k0 := hp5 0 (by omega)
      have k1 := hp5 1 (by omega)
      have k2 := hp5 2 (by omega)
      have k3 := hp5 3 (by omega)
      simp only [wq.down, seval, zkT, k0]
      obtain ⟨e1, e2⟩ := zlu (h := [.cells [.ls 4 1 0 (grp m).length (grp m).length], .cells [vi n'], .misc .dfd, L t .exhausted none, .cells ((grp m).map vb)]) (l := grp m) (k := 4) (cap := (grp m).length) rfl
      rw [e1, e2]
      refine ⟨trivial, ?_⟩
      clear e1 e2 hne
      generalize grp m = g
      exact zn.dat rfl
def vgD : By → Nat
 | [] => 0
 | c :: l => c.toNat % 128 + 128 * vgD l
theorem zkr (c : UInt8) : ∀ x : By, vgD (x ++ [c]) = vgD x + c.toNat % 128 * 128 ^ x.length
 | [] => by simp [vgD]
 | a :: x => by
  rw [List.cons_append, vgD, vgD, zkr c x, List.length_cons, Nat.pow_succ, Nat.mul_add]
  have : 128 * (c.toNat % 128 * 128 ^ x.length) = c.toNat % 128 * (128 ^ x.length * 128) := by
   rw [Nat.mul_comm (128 ^ x.length) 128, ← Nat.mul_assoc, ← Nat.mul_assoc, Nat.mul_comm 128 (c.toNat % 128)]
  omega
theorem zpO : ∀ x : By, vgD x < 128 ^ x.length
 | [] => by simp [vgD]
 | a :: x => by
  have := zpO x
  rw [vgD, List.length_cons, Nat.pow_succ]
  omega
def zgb (l : By) : Prop := vgD l ≤ 2147483647 ∧ grp (vgD l) = l
instance (l : By) : Decidable (zgb l) := by unfold zgb; infer_instance
theorem zsq {a b : Nat} (ha : a < 2 ^ 62) (hb : b < 2 ^ 62) : IntKind.i64.wrap (((BitVec.ofInt IntKind.i64.bits (a : Int)) ||| (BitVec.ofInt IntKind.i64.bits (b : Int))).toNat : Int) = ((a ||| b : Nat) : Int) := by
 show IntKind.i64.wrap (((BitVec.ofInt 64 (a : Int)) ||| (BitVec.ofInt 64 (b : Int))).toNat : Int) = _
 have h1 : (a ||| b) < 2 ^ 62 := Nat.or_lt_two_pow ha hb
 rw [BitVec.ofInt_natCast, BitVec.ofInt_natCast, BitVec.toNat_or, BitVec.toNat_ofNat, BitVec.toNat_ofNat, Nat.mod_eq_of_lt (by omega), Nat.mod_eq_of_lt (by omega), zD (by omega) (by omega)]
theorem zlv : ∀ m : Fin 256, IntKind.u8.wrap (((BitVec.ofInt 8 (m.val : Int)) &&& ~~~ (BitVec.ofInt 8 128)).toNat : Int) = ((m.val % 128 : Nat) : Int) := by decide +kernel
theorem zjH (c : UInt8) : IntKind.u8.wrap (((BitVec.ofInt IntKind.u8.bits (c.toNat : Int)) &&& ~~~ (BitVec.ofInt IntKind.u8.bits 128)).toNat : Int) = ((c.toNat % 128 : Nat) : Int) :=
 zlv ⟨c.toNat, c.toNat_lt⟩
theorem znC {c i : Nat} (hc : c < 128) (hi : i < 5) : IntKind.i64.wrap ((c : Int) * 2 ^ (min ((7 * i : Nat) : Int).toNat IntKind.i64.bits)) = ((c * 128 ^ i : Nat) : Int) := by
 rw [Int.toNat_natCast, show min (7 * i) IntKind.i64.bits = 7 * i from Nat.min_eq_left (by show 7 * i ≤ 64; omega)]
 have h1 : (2 : Int) ^ (7 * i) = ((128 ^ i : Nat) : Int) := by
  rw [Int.natCast_pow, Int.pow_mul]; rfl
 have h2 : 128 ^ i ≤ 128 ^ 4 := Nat.pow_le_pow_right (by omega) (by omega)
 have h3 : c * 128 ^ i ≤ 127 * 128 ^ 4 := Nat.mul_le_mul (by omega) h2
 rw [h1, ← Int.natCast_mul, zD (by omega) (by omega)]
theorem zsr {a c i : Nat} (ha : a < 128 ^ i) : a ||| c * 128 ^ i = a + c * 128 ^ i := by
 have h : (128 : Nat) ^ i = 2 ^ (7 * i) := by rw [Nat.pow_mul]
 rw [h] at ha ⊢
 have := Nat.shiftLeft_add_eq_or_of_lt ha c
 rw [Nat.shiftLeft_eq] at this
 rw [Nat.or_comm, ← this, Nat.add_comm]
theorem zlw {c i : Nat} (hc : c < 128) (hi : i < 5) : IntKind.i64.wrap ((c : Int) * 2 ^ (min (7 * i) IntKind.i64.bits)) = ((c * 128 ^ i : Nat) : Int) := by
 have := znC hc hi
 rwa [Int.toNat_natCast] at this
def znW (l : By) : Int × Int × V :=
 if (l.takeWhile fun c => decide (128 ≤ c.toNat)).length = l.length then (0, 0, zj0 10)
 else if zgb (l.take ((l.takeWhile fun c => decide (128 ≤ c.toNat)).length + 1)) then ((vgD (l.take ((l.takeWhile fun c => decide (128 ≤ c.toNat)).length + 1)) : Nat), (((l.takeWhile fun c => decide (128 ≤ c.toNat)).length + 1 : Nat) : Int), .nili)
 else (0, 0, zj0 3)
theorem twP {p : UInt8 → Bool} {l : By} {i : Nat} (hi : i ≤ l.length) (h1 : (l.take i).all p = true) (h2 : i < l.length → p (l.getD i 0) = false) : (l.takeWhile p).length = i := by
 have h3 : l.takeWhile p = l.take i ++ (l.drop i).takeWhile p := by
  conv => lhs; rw [← List.take_append_drop i l]
  exact List.takeWhile_append_of_pos (List.all_eq_true.1 h1)
 have h4 : (l.drop i).takeWhile p = [] := by
  by_cases hl : i < l.length
  ·rw [List.drop_eq_getElem_cons hl]
   have := h2 hl
   rw [zw hl] at this
   rw [List.takeWhile_cons, this]; rfl
  ·rw [List.drop_eq_nil_of_le (by omega)]; rfl
 rw [h3, h4, List.append_nil, List.length_take]
 omega
theorem ziE {l : By} {i : Nat} (hi : i < l.length) : (zbp ((vgD (l.take (min (i + 1) 5)) : Nat) : Int) = true ∧ grp (vgD (l.take (min (i + 1) 5))) = l.take (i + 1)) ↔ zgb (l.take (i + 1)) := by
 have hf : ∀ n : Nat, zbp (n : Int) = true ↔ n ≤ 2147483647 := by intro n; simp [zbp]; omega
 rw [hf]
 unfold zgb
 by_cases h5 : i + 1 ≤ 5
 ·rw [Nat.min_eq_left h5]
 ·have hl : (l.take (i + 1)).length = i + 1 := by rw [List.length_take]; omega
  constructor
  ·rintro ⟨h1, h2⟩
   have := zcT 4 _ (show vgD (l.take (min (i + 1) 5)) < 128 ^ 5 by omega)
   rw [h2, hl] at this
   omega
  ·rintro ⟨h1, h2⟩
   have := zcT 4 _ (show vgD (l.take (i + 1)) < 128 ^ 5 by omega)
   rw [h2, hl] at this
   omega
theorem zks {l : By} {i : Nat} (hi : i < l.length) (h : zgb (l.take (i + 1))) : vgD (l.take (min (i + 1) 5)) = vgD (l.take (i + 1)) := by
 by_cases h5 : i + 1 ≤ 5
 ·rw [Nat.min_eq_left h5]
 ·have hl : (l.take (i + 1)).length = i + 1 := by rw [List.length_take]; omega
  have := zcT 4 _ (show vgD (l.take (i + 1)) < 128 ^ 5 by have := h.1; omega)
  rw [h.2, hl] at this
  omega
set_option maxHeartbeats 4000000 in
theorem zlx (l : By) (hl : l.length ≤ 100000) : Ev TE 157 [.str l] (.tup [vi (znW l).1, vi (znW l).2.1, (znW l).2.2]) := by
 have hM : maxLen = 9223372036854775807 := rfl
 refine zh Tryz.func157 rfl (by simp [nts]) (vm ?_)
 simp only [wq.down, seval, Tryz.results157]
 refine zp (fun m f h => ∃ i, m + i = l.length ∧ f.t 0 = .str l ∧ f.t 5 = vi (vgD (l.take (min i 5)) : Nat) ∧ f.t 10 = vi l.length ∧ f.t 11 = vi i ∧ f.d = [] ∧ h = [] ∧ (l.take i).all (fun c => decide (128 ≤ c.toNat)) = true) l.length ⟨0, by omega, rfl, by simp [vgD]; rfl, rfl, rfl, rfl, rfl, by simp⟩ ?_
 rintro m f h ⟨i, hm, h0, h5, h10, h11, hd, rfl, hall⟩
 have hpow : (128 : Nat) ^ 5 = 34359738368 := by decide
 refine vm ?_
 simp only [wq.down, seval, h10, h11]
 refine vcB.mk (fun hlt => ?_) (fun hlt => ?_)
 ·simp only [decide_eq_true_eq, Int.ofNat_lt] at hlt
  simp only [wq.down, seval, h11]
  have hmin : ∀ h : i < 5, vgD (l.take (min (i + 1) 5)) = vgD (l.take (min i 5)) + (l.getD i 0).toNat % 128 * 128 ^ i := by
   intro h
   rw [Nat.min_eq_left (by omega), Nat.min_eq_left (by omega), List.take_add_one, List.getElem?_eq_getElem hlt, Option.toList_some, zkr, zw hlt, List.length_take, Nat.min_eq_left (by omega)]
  refine vcB.mk (fun h5' => ?_) (fun h5' => ?_)
  ·have hi5 : i < 5 := by have := of_decide_eq_true h5'; omega
   have hlow : vgD (l.take (min i 5)) < 128 ^ i := by
    have := zpO (l.take i)
    rw [List.length_take, Nat.min_eq_left (show i ≤ l.length by omega)] at this
    rw [Nat.min_eq_left (show i ≤ 5 by omega)]
    exact this
   have hp4 : 128 ^ i ≤ 128 ^ 4 := Nat.pow_le_pow_right (by omega) (by omega)
   have hcm : (l.getD i 0).toNat % 128 < 128 := Nat.mod_lt _ (by omega)
   have hcm2 : (l.getD i 0).toNat % 128 * 128 ^ i ≤ 127 * 128 ^ 4 := Nat.mul_le_mul (by omega) hp4
   have hw1 : IntKind.i64.wrap (((l.getD i 0).toNat % 128 : Nat) : Int) = (((l.getD i 0).toNat % 128 : Nat) : Int) := zD (by omega) (by omega)
   have hw2 : IntKind.i64.wrap (7 * (i : Int)) = ((7 * i : Nat) : Int) := by rw [zD (by omega) (by omega)]; omega
   have hor := zsq (a := vgD (l.take (min i 5))) (b := (l.getD i 0).toNat % 128 * 128 ^ i) (by omega) (by omega)
   rw [zsr hlow, ← hmin hi5] at hor
   simp only [wq.down, seval, h0, h5, zsp, zjH, hw1, hw2, zlw hcm hi5, hor]
   refine ⟨⟨by omega, by omega⟩, by omega, ⟨by omega, by omega⟩, ?_⟩
   cases hD : decide (128 ≤ (l.getD i 0).toNat) with
   | true =>
    have hall2 : (l.take (i + 1)).all (fun c => decide (128 ≤ c.toNat)) = true := by
     have hD2 : decide (128 ≤ (l[i]).toNat) = true := by rw [← zw (d := 0) hlt]; exact hD
     rw [List.take_add_one, List.all_append, hall, List.getElem?_eq_getElem hlt, Option.toList_some, List.all_cons, hD2]
     rfl
    have hD3 : decide ((128 : Int) ≤ ((l.getD i 0).toNat : Int)) = true := by have := of_decide_eq_true hD; rw [decide_eq_true_eq]; omega
    simp only [wq.down, seval, h11, hD3, zi (show i < maxLen by omega)]
    exact .inl ⟨m - 1, by omega, i + 1, by omega, h0, rfl, h10, rfl, hd, rfl, hall2⟩
   | false =>
    have hD3 : decide ((128 : Int) ≤ ((l.getD i 0).toNat : Int)) = false := by have := of_decide_eq_false hD; rw [decide_eq_false_iff_not]; omega
    have hlen := twP (p := fun c => decide (128 ≤ c.toNat)) (l := l) (i := i) (by omega) hall (fun _ => hD)
    have hu : znW l = if zgb (l.take (i + 1)) then (((vgD (l.take (i + 1)) : Nat) : Int), ((i + 1 : Nat) : Int), V.nili) else (0, 0, zj0 3) := by
     unfold znW
     rw [hlen, if_neg (by omega)]
    have hg5 := ziE hlt
    simp only [wq.down, seval, hD3]
    refine zb.ev (ze0 _) rfl ?_
    unfold zbj
    cases hf : zbp ((vgD (l.take (min (i + 1) 5)) : Nat) : Int) with
    | false =>
     rw [if_neg (fun h => by rw [hf] at hg5; have := hg5.2 h; cases this.1)] at hu
     rw [hu]
     simp only [wq.down, seval, h0, hd]
     exact ⟨nofun, nofun, zn.tup (zj.cons (zn.dat rfl) (zj.cons (zn.dat rfl) (zj.cons (zaR 3) zj.nil)))⟩
    | true =>
     rw [if_pos rfl, Int.toNat_natCast]
     by_cases hgr : grp (vgD (l.take (min (i + 1) 5))) = l.take (i + 1)
     ·have hgd := hg5.1 ⟨hf, hgr⟩
      rw [if_pos hgd, ← zks hlt hgd] at hu
      have hbq : (grp (vgD (l.take (min (i + 1) 5))) == l.take (i + 1)) = true := by simp [hgr]
      rw [hu]
      simp only [wq.down, seval, h0, hd, hbq, zi (show i < maxLen by omega)]
      exact ⟨⟨by omega, by omega⟩, zn.dat rfl⟩
     ·rw [if_neg (fun h => hgr (hg5.2 h).2)] at hu
      have hbq : (grp (vgD (l.take (min (i + 1) 5))) == l.take (i + 1)) = false := by simp [hgr]
      rw [hu]
      simp only [wq.down, seval, h0, hd, hbq, zi (show i < maxLen by omega)]
      exact ⟨⟨by omega, by omega⟩, nofun, nofun, zn.tup (zj.cons (zn.dat rfl) (zj.cons (zn.dat rfl) (zj.cons (zaR 3) zj.nil)))⟩
  ·have hi5 : ¬ i < 5 := by have := of_decide_eq_false h5'; omega
   have hmin2 : min i 5 = min (i + 1) 5 := by omega
   rw [hmin2] at h5
   simp only [wq.down, seval, h0]
   refine ⟨⟨by omega, by omega⟩, ?_⟩
   cases hD : decide (128 ≤ (l.getD i 0).toNat) with
   | true =>
    have hall2 : (l.take (i + 1)).all (fun c => decide (128 ≤ c.toNat)) = true := by
     have hD2 : decide (128 ≤ (l[i]).toNat) = true := by rw [← zw (d := 0) hlt]; exact hD
     rw [List.take_add_one, List.all_append, hall, List.getElem?_eq_getElem hlt, Option.toList_some, List.all_cons, hD2]
     rfl
    have hD3 : decide ((128 : Int) ≤ ((l.getD i 0).toNat : Int)) = true := by have := of_decide_eq_true hD; rw [decide_eq_true_eq]; omega
    simp only [wq.down, seval, h11, hD3, zi (show i < maxLen by omega)]
    exact .inl ⟨m - 1, by omega, i + 1, by omega, h0, h5, h10, rfl, hd, rfl, hall2⟩
   | false =>
    have hD3 : decide ((128 : Int) ≤ ((l.getD i 0).toNat : Int)) = false := by have := of_decide_eq_false hD; rw [decide_eq_false_iff_not]; omega
    have hlen := twP (p := fun c => decide (128 ≤ c.toNat)) (l := l) (i := i) (by omega) hall (fun _ => hD)
    have hu : znW l = if zgb (l.take (i + 1)) then (((vgD (l.take (i + 1)) : Nat) : Int), ((i + 1 : Nat) : Int), V.nili) else (0, 0, zj0 3) := by
     unfold znW
     rw [hlen, if_neg (by omega)]
    have hg5 := ziE hlt
    simp only [wq.down, seval, h5, hD3]
    refine zb.ev (ze0 _) rfl ?_
    unfold zbj
    cases hf : zbp ((vgD (l.take (min (i + 1) 5)) : Nat) : Int) with
    | false =>
     rw [if_neg (fun h => by rw [hf] at hg5; have := hg5.2 h; cases this.1)] at hu
     rw [hu]
     simp only [wq.down, seval, h0, hd]
     exact ⟨nofun, nofun, zn.tup (zj.cons (zn.dat rfl) (zj.cons (zn.dat rfl) (zj.cons (zaR 3) zj.nil)))⟩
    | true =>
     rw [if_pos rfl, Int.toNat_natCast]
     by_cases hgr : grp (vgD (l.take (min (i + 1) 5))) = l.take (i + 1)
     ·have hgd := hg5.1 ⟨hf, hgr⟩
      rw [if_pos hgd, ← zks hlt hgd] at hu
      have hbq : (grp (vgD (l.take (min (i + 1) 5))) == l.take (i + 1)) = true := by simp [hgr]
      rw [hu]
      simp only [wq.down, seval, h0, h5, hd, hbq, zi (show i < maxLen by omega)]
      exact ⟨⟨by omega, by omega⟩, zn.dat rfl⟩
     ·rw [if_neg (fun h => hgr (hg5.2 h).2)] at hu
      have hbq : (grp (vgD (l.take (min (i + 1) 5))) == l.take (i + 1)) = false := by simp [hgr]
      rw [hu]
      simp only [wq.down, seval, h0, hd, hbq, zi (show i < maxLen by omega)]
      exact ⟨⟨by omega, by omega⟩, nofun, nofun, zn.tup (zj.cons (zn.dat rfl) (zj.cons (zn.dat rfl) (zj.cons (zaR 3) zj.nil)))⟩
 ·simp only [decide_eq_false_iff_not, Int.ofNat_lt] at hlt
  have hlen := twP (p := fun c => decide (128 ≤ c.toNat)) (l := l) (i := i) (by omega) hall (fun h => absurd h hlt)
  have hu : znW l = (0, 0, zj0 10) := by
   unfold znW
   rw [if_pos (by rw [hlen]; omega)]
  rw [hu]
  simp only [wq.down, seval, hd]
  exact ⟨nofun, nofun, zn.tup (zj.cons (zn.dat rfl) (zj.cons (zn.dat rfl) (zj.cons (zaR 10) zj.nil)))⟩
def ziS (s : By) (a : Int) : Int × Int × Int :=
 if a < 0 ∨ (s.length : Int) < a then (0, a, 10)
 else if ((s.drop a.toNat).takeWhile fun c => decide (128 ≤ c.toNat)).length = (s.drop a.toNat).length then (0, a, 10)
 else if zgb ((s.drop a.toNat).take (((s.drop a.toNat).takeWhile fun c => decide (128 ≤ c.toNat)).length + 1)) then
  ((vgD ((s.drop a.toNat).take (((s.drop a.toNat).takeWhile fun c => decide (128 ≤ c.toNat)).length + 1)) : Nat), a + (((s.drop a.toNat).takeWhile fun c => decide (128 ≤ c.toNat)).length + 1 : Nat), 0)
 else (0, a, 3)
theorem zly (s : By) (a : Int) (hl : s.length ≤ 100000) : Ev TE 126 [.str s, vi a] (.tup [vi (ziS s a).1, vi (ziS s a).2.1, vi (ziS s a).2.2]) := by
 have hM : maxLen = 9223372036854775807 := rfl
 refine zh Tryz.func126 rfl (by simp [nts]) (vm ?_)
 simp only [wq.down, seval, Tryz.results126]
 refine vcB.mk (fun hc => ?_) (fun hc => ?_)
 ·have h0 : ziS s a = (0, a, 10) := by
   unfold ziS
   rw [if_pos (by simpa using hc)]
  rw [h0]
  simp only [wq.down, seval]
  exact zn.dat rfl
 ·simp only [Bool.or_eq_false_iff, decide_eq_false_iff_not] at hc
  obtain ⟨p, rfl⟩ : ∃ p : Nat, a = p := ⟨a.toNat, by omega⟩
  have hp : p ≤ s.length := by omega
  have hlen : (s.drop p).length ≤ 100000 := by rw [List.length_drop]; omega
  unfold ziS
  rw [if_neg (by omega), Int.toNat_natCast]
  have hdl : (s.drop p).length = s.length - p := List.length_drop
  have htl := (List.takeWhile_prefix (l := s.drop p) fun c => decide (128 ≤ c.toNat)).length_le
  have htk : List.take (s.length - p) (List.drop p s) = s.drop p := List.take_of_length_le (by omega)
  have hu := zlx (s.drop p) hlen
  unfold znW at hu
  generalize hl' : s.drop p = l at hu hdl htl htk hlen ⊢
  generalize (l.takeWhile fun c => decide (128 ≤ c.toNat)).length = k at hu htl ⊢
  have hadd : IntKind.i64.wrap ((p : Int) + ((k + 1 : Nat) : Int)) = (p : Int) + ((k + 1 : Nat) : Int) := zD (by omega) (by omega)
  have hadd0 : IntKind.i64.wrap ((p : Int) + 0) = (p : Int) := by rw [zD (by omega) (by omega)]; omega
  simp only [wq.down, seval, hl']
  by_cases h1 : k = l.length
  ·rw [if_pos h1] at hu ⊢
   refine ⟨⟨by omega, by omega⟩, zb.ev hu rfl ?_⟩
   simp only [wq.down, seval, hadd0]
   refine ⟨trivial, zb.ev (zbI _ _ _ 10) rfl ?_⟩
   simp only [wq.down, seval]
   exact zn.dat rfl
  ·rw [if_neg h1] at hu ⊢
   by_cases h2 : zgb (l.take (k + 1))
   ·rw [if_pos h2] at hu ⊢
    refine ⟨⟨by omega, by omega⟩, zb.ev hu rfl ?_⟩
    simp only [wq.down, seval, hadd]
    refine zb.ev (zgo _ _ _) rfl ?_
    simp only [wq.down, seval]
    exact zn.dat rfl
   ·rw [if_neg h2] at hu ⊢
    refine ⟨⟨by omega, by omega⟩, zb.ev hu rfl ?_⟩
    simp only [wq.down, seval, hadd0]
    refine ⟨trivial, zb.ev (zbI _ _ _ 3) rfl ?_⟩
    simp only [wq.down, seval]
    exact zn.dat rfl
theorem znD (n : Nat) : ∃ x c, grp n = x ++ [c] ∧ (∀ b ∈ x, 128 ≤ b.toNat) ∧ c.toNat < 128 := by
 induction n using Nat.strongRecOn with
 | _ n ih =>
  by_cases h : n < 128
  ·refine ⟨[], UInt8.ofNat n, by rw [zcb h]; rfl, by simp, ?_⟩
   rw [UInt8.toNat_ofNat']; omega
  ·obtain ⟨x, c, h1, h2, h3⟩ := ih (n / 128) (by omega)
   refine ⟨UInt8.ofNat (n % 128 + 128) :: x, c, by rw [zfR h, h1]; rfl, ?_, h3⟩
   intro b hb
   rcases List.mem_cons.1 hb with rfl | hb
   ·rw [UInt8.toNat_ofNat']; omega
   ·exact h2 b hb
theorem zqY (n : Nat) : 0 < (grp n).length := by
 obtain ⟨x, c, h, _⟩ := znD n
 rw [h]; simp
end Go.Proofs.YtfcpapokknfeeaaGreatDoor
