/- Lemmas for the statement of this claim, part F17: they hold with no conditions but those that each one names. -/
import Derived.Test.YtfcpapokknfeeaaGreatDoorF16
import Derived.Test.YtfcpapokknfeeaaGreatDoorA12
import Derived.Test.YtfcpapokknfeeaaGreatDoorF10
import Derived.Test.YtfcpapokknfeeaaGreatDoorF03
import Derived.Test.YtfcpapokknfeeaaGreatDoorA8
set_option linter.unusedVariables false
set_option maxRecDepth 20000
set_option linter.unusedSimpArgs false
set_option linter.unnecessarySimpa false
namespace Go.Proofs.YtfcpapokknfeeaaGreatDoor
open Go Go.Proofs Go.Abs Go.RowKit
set_option maxHeartbeats 1000000 in
set_option maxRecDepth 100000 in
theorem FD (b : Nat) (w : World) (c1 : w.drew.cell? ⟨b, 1, none⟩ = some (.slice none 0 0)) :
 Calls Tryz.prog 29 #[.pointer (some ⟨b, 0, none⟩)] w fun e w' => e = .returned (.string ⟨#[]⟩) ∧ w' = w.drew := by
 have hSD : (Builtin.unsafeSliceData_ #[55] 126 #[.slice none 0 0]).run Tryz.prog w.drew = .ok (.pointer none) w.drew :=
  Lib.run_unsafeSliceData_nil w.drew _ _ _ _
 have hUS : (Builtin.unsafeString_ #[126, 3] 9 #[.pointer none, .int .i64 0]).run Tryz.prog w.drew = .ok (.string .empty) w.drew :=
  Lib.run_unsafeString_none w.drew 126 3 9 none
 go_enter Tryz.func29, Tryz.ntmps29
 go_wp2
 go_region
 all_goals (go_wp2; go_ret; exact ⟨rfl, rfl⟩)
theorem UC {T id : Nat} {a : V} {h : H} {R : AEnd → H → (Nat → Bool) → Prop} (hh : h[id]? = some (.typed T [a, .nils])) (hr : R (.ret (.str [])) h (fun _ => false)) : ah TE 29 [.lp id 0] h R := by
 intro ok pl w vs hs hv;simp only [VList, VRel] at hv;obtain ⟨y, ys, rfl, ⟨b, hpb, rfl⟩, rfl⟩ := hv;have hpb : pl id = some b := hpb;obtain ⟨o, ho, hat⟩ := hs.obj id b hpb;rw [hh] at ho; cases ho;obtain ⟨arr, fz, g1, g2, g3, g4⟩ := hat;have g1 : w.heap[b]? = some (.cells arr T fz) := g1;obtain ⟨x1, e1, r1⟩ := VList.get 1 .nils g4 rfl;have e1 : arr[1]? = some x1 := by
  rw [List.getElem?_take_of_lt (by simp)] at e1;simpa using e1
 simp only [VRel] at r1;have hcell : w.drew.cell? ⟨b, 1, none⟩ = some (.slice none 0 0) := by
  rw [Lib.cell_of_heap (w := w.drew) g1, e1, r1]
 refine (FD b w hcell).mono ?_;rintro en w' ⟨rfl, rfl⟩;have x : WExt w w.drew := WExt.drew w;exact ⟨fun _ => false, pl, h, .ret (.str []), hs.wext x, x.keeps hs, by show VRel _ _ _; simp only [VRel]; exact ⟨_, rfl, by simp, by decide⟩, hr⟩
def tH (mb : O) : S → H
 | [] => [mb, .typed 59 [.nilp, .nils]]
 | c :: s => [mb, .typed 59 [.lp 1 0, .ls 2 1 0 (c :: s).length (c :: s).length], .typed 5 ((c :: s).map vb)]
theorem UD {mb : O} (hm : mb.drop (· == 2) = mb) {out s : S} (hs : s ≠ []) (hl : out.length + s.length ≤ 20000000000000) {R : AEnd → H → (Nat → Bool) → Prop} (hr : R (.ret (.tup [vi s.length, .nili])) (tH mb (out ++ s)) (· == 2)) : ah TE 27 [.lp 1 0, .str s] (tH mb out) R := by
 refine ah.kp (· == 2) ?_;cases out with
 | nil =>
  refine BM kT s (.inl rfl) rfl hs (by simpa using hl) ⟨fun j hj => (by cases hj), ?_⟩;cases s with
  | nil => exact absurd rfl hs
  | cons c s => exact hr
 | cons c out =>
  refine Gi kT (c :: out) s (.inr rfl) (by decide) rfl rfl hl ⟨fun j hj => hj, ?_⟩;have e : (((tH mb (c :: out)).map (O.drop (· == 2))).set 2 (O.typed 5 ((c :: out ++ s).map vb))).set 1 (.typed 59 [.lp 1 0, .ls 2 1 0 (c :: out ++ s).length (c :: out ++ s).length]) = tH mb (c :: out ++ s) := by
   simp only [tH, List.map_cons, List.map_nil, hm, List.set_cons_succ, List.set_cons_zero, List.cons_append]
  rw [e];exact hr
theorem YO {mb : O} {out : S} (hl : out.length ≤ 20000000000000) {R : AEnd → H → (Nat → Bool) → Prop} (hr : ∀ h', h'[0]? = some (mb.drop (· == 2)) ∨ h'[0]? = some mb → R (.ret (.str out)) h' (· == 2)) : ah TE 29 [.lp 1 0] (tH mb out) R := by
 refine ah.kp (· == 2) ?_;cases out with
 | nil => exact UC (a := .nilp) (T := 59) rfl ⟨fun j hj => (by cases hj), hr _ (.inr rfl)⟩
 | cons c out => exact NR (c :: out) rfl rfl (by simp) hl ⟨fun j hj => hj, hr _ (.inl rfl)⟩
def nmL (c : UInt8) (i : Nat) (s : S) : S := c :: (Lib.itoa i ++ 32 :: (s ++ [10]))
def nmP (c : UInt8) (l : List S) (i : Nat) : S := (List.range i).flatMap fun j => nmL c j (l.getD j [])
theorem Je {c : UInt8} {l : List S} {i : Nat} (h : i < l.length) : nmP c l (i + 1) = nmP c l i ++ nmL c i l[i] := by unfold nmP;rw [List.range_succ, List.flatMap_append, List.flatMap_singleton, aO h]
theorem YP {c : UInt8} : ∀ (l : List S) (b : Nat), nmT c b l = (List.range l.length).flatMap fun j => nmL c (b + j) (l.getD j [])
 | [], b => rfl
 | s :: l, b => by unfold nmT;rw [YP l (b + 1), List.length_cons, List.range_succ_eq_map, List.flatMap_cons, List.flatMap_map];simp [nmL, Nat.add_assoc, Nat.add_comm 1]
theorem FH {c : UInt8} (l : List S) : nmT c 0 l = nmP c l l.length := by rw [YP]; simp [nmP]
def ltr (k : Nat) : UInt8 := [(105 : UInt8), 108, 111].getD k 0
def o7 (L : List (List S)) (k : Nat) : S := (List.range k).flatMap fun j => nmT (ltr j) 0 (L.getD j [])
theorem KW {L : List (List S)} {k : Nat} (h : k < L.length) : o7 L (k + 1) = o7 L k ++ nmT (ltr k) 0 L[k] := by unfold o7;rw [List.range_succ, List.flatMap_append, List.flatMap_singleton, aO h]
theorem Q8 (m : Mo) : o7 [m.ins, m.lat, m.out] 3 = ng m := by simp [o7, ng, ltr, List.range_succ]
theorem Vp {c : UInt8} {l : List S} {i : Nat} (h : i ≤ l.length) : (nmP c l i).length ≤ (nmT c 0 l).length := by rw [FH];unfold nmP;obtain ⟨n, hn⟩ : ∃ n, l.length = i + n := ⟨l.length - i, by omega⟩;rw [hn, List.range_add, List.flatMap_append, List.length_append];omega
theorem UE {L : List (List S)} {k : Nat} (h : k ≤ L.length) : (o7 L k).length ≤ (o7 L L.length).length := by unfold o7;obtain ⟨n, hn⟩ : ∃ n, L.length = k + n := ⟨L.length - k, by omega⟩;rw [hn, List.range_add, List.flatMap_append, List.length_append];omega
theorem Xb {L : List (List S)} {k : Nat} (h : k < L.length) : ((L.map aV).getD k .any) = aV L[k] := by simp [List.getD_eq_getElem?_getD, h]
theorem Q9 {l : List S} {k : Nat} (h : k < l.length) : ((l.map V.str).getD k .any) = V.str l[k] := by simp [List.getD_eq_getElem?_getD, h]
theorem Rf {k : Nat} (h : k < 3) : (([105, 108, 111, 98, 99] : S).drop k).take (k + 1 - k) = [ltr k] := by
 rcases k with _|_|_|k
 ·rfl
 ·rfl
 ·rfl
 ·omega
def Vq : Plan := .take 0 <| .take 1 <| .take 2 <| .take 3 <| .take 4 <| .take 5 <| .take 6 <| .take 7 <| .take 11 <| .one 8 <| .one 9 <| .one 10 <| .one 12 <| .one 13 <| .one 14 <| .fin
set_option maxHeartbeats 4000000 in
theorem FI (m : Mo) (hb1 : m.ins.length ≤ 100000) (hb2 : m.lat.length ≤ 100000) (hb3 : m.out.length ≤ 100000) (ht : (ng m).length ≤ 10000000000000) : Ev TE 11 [m.v] (.str (ng m)) := by
 have hM : maxLen = 9223372036854775807 := rfl;obtain ⟨L, hL⟩ : ∃ L, L = [m.ins, m.lat, m.out] := ⟨_, rfl⟩;have hL3 : L.length = 3 := by rw [hL]; rfl
 have hLb : ∀ l ∈ L, l.length ≤ 100000 := by rw [hL]; intro l hl; simp at hl; rcases hl with rfl | rfl | rfl <;> assumption
 have hrow : o7 L L.length = ng m := by rw [hL3, hL]; exact Q8 m
 have hLm : [aV m.ins, aV m.lat, aV m.out] = L.map aV := by rw [hL]; rfl
 obtain ⟨mb, hmb⟩ : ∃ mb : O, mb = .cells (vi m.g.ins :: aF m.g.next :: aF m.g.init :: prs m.g.ands :: aF m.g.outs :: L.map aV) := ⟨_, rfl⟩;have hmd : mb.drop (· == 2) = mb := by rw [hmb, hL]; rfl
 rw [← hrow] at ht ⊢;refine ax Tryz.func11 rfl (by simp [nts]) ?_;refine ag (vm ?_);simp only [wq.1, seval, Tryz.results11];refine ag (gK ?_);refine aB rfl rfl ?_;simp only [wq.1];refine dO rfl rfl ?_;refine F8 rfl (by simp only [wq.1, ↓reduceIte]) (by simp only [wq.1, ↓reduceIte]) ?_;simp only [wq.1, ↓reduceIte];refine aB rfl rfl ?_;simp only [wq.1, ↓reduceIte];refine eX ?_;simp only [wq.1];refine ag ?_;refine ag ?_;refine vm ?_;simp only [wq.1, ↓reduceIte, Nat.reduceEqDiff, Nat.reduceLT, Nat.reduceLeDiff, Nat.reduceAdd, reduceCtorEq, Nat.reduceMul];rw [hLm, ← hmb];refine ⟨⟨rfl, by decide⟩, ?_⟩;refine az ?_;refine aA (fun mm f h' => ∃ k, mm + k = L.length ∧ f.t 3 = .lp 1 0 ∧ f.t 16 = .is true 1 (L.map aV) ∧ f.t 17 = vi L.length ∧ f.t 18 = vi k ∧ f.d = [] ∧ h' = tH mb (o7 L k)) L.length ⟨0, by simp, by simp only [wq.1, seval], by simp only [wq.1, seval], by rw [hL3]; rfl, rfl, rfl, rfl⟩ ?_;rintro mm f h' ⟨k, hm, h3, h16, h17, h18, hd, rfl⟩;refine ag (vm ?_);simp only [wq.1, Nat.reduceLT, h17, h18];refine ag (vm ?_);simp only [wq.1, ↓reduceIte];refine vcB.mk (fun hlt => ?_) (fun hlt => ?_)
 ·simp only [decide_eq_true_eq, Int.ofNat_lt] at hlt;have hgk := Xb hlt;have hlk := hLb _ (List.getElem_mem hlt);have hk3 : k < 3 := by omega
  have hrk := UE (L := L) (k := k + 1) (by omega);have hsk := KW hlt;obtain ⟨l, hl⟩ : ∃ l, l = L[k] := ⟨_, rfl⟩;rw [← hl] at hgk hlk hsk;refine ag (az ?_);refine ag (vm ?_);simp only [wq.1, seval, h16, h18, hgk];refine ⟨⟨by omega, by omega⟩, ?_⟩;refine ag ?_;refine vm ?_;simp only [wq.1, seval];refine az ?_;refine aA (fun m2 f h' => ∃ i, m2 + i = l.length ∧ f.t 3 = .lp 1 0 ∧ f.t 4 = vi k ∧ f.t 16 = .is true 1 (L.map aV) ∧ f.t 17 = vi L.length ∧ f.t 18 = vi k ∧ f.t 23 = aV l ∧ f.t 24 = vi l.length ∧ f.t 25 = vi i ∧ f.d = [] ∧ h' = tH mb (o7 L k ++ nmP (ltr k) l i)) l.length ⟨0, by simp, by simp only [wq.1, seval, h3], by simp only [wq.1, seval], by simp only [wq.1, seval, h16], by simp only [wq.1, seval, h17], by simp only [wq.1, seval, h18], by simp only [wq.1, seval], by simp only [wq.1, seval], rfl, by simp only [wq.1, hd], by simp [nmP]⟩ ?_;rintro m2 f h' ⟨i, hm2, h3, h4, h16, h17, h18, h23, h24, h25, hd, rfl⟩;refine ag (vm ?_);simp only [wq.1, Nat.reduceLT, h24, h25];refine ag (vm ?_);simp only [wq.1, ↓reduceIte];refine vcB.mk (fun hlt2 => ?_) (fun hlt2 => ?_)
  ·simp only [decide_eq_true_eq, Int.ofNat_lt] at hlt2;have hgi := Q9 hlt2;have hni := Vp (c := ltr k) (l := l) (i := i + 1) hlt2;have hsi := Je (c := ltr k) hlt2;have hw := ak (show i < maxLen by omega);have hwk := ak (show k < maxLen by omega);have hlen : (o7 L k ++ nmP (ltr k) l i).length + (nmL (ltr k) i l[i]).length ≤ 10000000000000 := by
    have e1 := congrArg List.length hsi;have e2 := congrArg List.length hsk;rw [List.length_append] at e1 e2 ⊢;omega
   refine ag (az ?_);refine ag (vm ?_);simp only [wq.1, seval, h23, h25, hgi];refine ⟨⟨by omega, by omega⟩, ?_⟩;refine bg mixed Vq (fun f' h' => f'.t 3 = .lp 1 0 ∧ f'.t 4 = vi k ∧ f'.t 16 = .is true 1 (L.map aV) ∧ f'.t 17 = vi L.length ∧ f'.t 18 = vi k ∧ f'.t 23 = aV l ∧ f'.t 24 = vi l.length ∧ f'.t 25 = vi i ∧ f'.d = [] ∧ h' = tH mb (o7 L k ++ nmP (ltr k) l (i + 1))) (by decide +kernel) (by decide +kernel) ?_ ?_
   ·simp only [wq.1, seval, Vq, h3, h4, hwk, Rf hk3];refine ⟨⟨by omega, by omega, by omega⟩, ah.ev (yT (i : Int) (by omega) (by omega)) rfl ?_⟩;simp only [wq.1, seval];have hil := jR (i : Int) (by omega) (by omega);have hll : l[i].length ≤ 10000000000000 := by
     rw [List.length_append] at hlen;simp only [nmL, List.length_cons, List.length_append] at hlen;omega
    have en : (ltr k :: (Lib.itoa (i : Int) ++ [32] ++ l[i] ++ [10]) : S) = nmL (ltr k) i l[i] := by simp [nmL]
    rw [en];refine ⟨by omega, by omega, by omega, by omega, UD hmd (by simp [nmL]) (by omega) ?_⟩;rw [show o7 L k ++ nmP (ltr k) l i ++ nmL (ltr k) i l[i] = o7 L k ++ nmP (ltr k) l (i + 1) by rw [hsi, List.append_assoc]];simp only [wq.1, seval, bD, h3, h4, h16, h17, h18, h23, h24, h25, hd]
   ·rintro f h' ⟨h3, h4, h16, h17, h18, h23, h24, h25, hd, rfl⟩;simp only [wq.1];refine vm ?_;simp only [wq.1, seval, h25, hw];exact .inl ⟨m2 - 1, by omega, i + 1, by omega, by simp only [wq.1, seval, h3], by simp only [wq.1, seval, h4], by simp only [wq.1, seval, h16], by simp only [wq.1, seval, h17], by simp only [wq.1, seval, h18], by simp only [wq.1, seval, h23], by simp only [wq.1, seval, h24], rfl, hd, rfl⟩
  ·simp only [decide_eq_false_iff_not, Int.ofNat_lt] at hlt2;have hi : i = l.length := by omega
   subst hi;have hw := ak (show k < maxLen by omega);rw [← FH, ← hsk];simp only [wq.1];refine vm ?_;simp only [wq.1, seval, h18, hw];exact .inl ⟨mm - 1, by omega, k + 1, by omega, by simp only [wq.1, seval, h3], by simp only [wq.1, seval, h16], by simp only [wq.1, seval, h17], rfl, hd, rfl⟩
 ·simp only [decide_eq_false_iff_not, Int.ofNat_lt] at hlt;have hk : k = L.length := by omega
  subst hk;simp only [wq.1];refine ag (vm ?_);simp only [wq.1, seval, h3];refine YO (by omega) (fun h' _ => ?_);simp only [wq.1, seval, bD, hd];refine vm ?_;simp only [wq.1, ↓reduceIte, hd];exact aG.dat rfl
theorem vY {l : Cl} (hl : ∀ n ∈ l, 0 ≤ n ∧ n ≤ 2147483647) : (lnT l).length ≤ 11 * l.length + 1 := by have := vX hl l.length (Nat.le_refl _);rw [Xa, List.length_append, List.length_singleton];omega
theorem qA {f : Nat → S} {n : Nat} : (List.range (n + 1)).flatMap f = (List.range n).flatMap f ++ f n := by rw [List.range_succ, List.flatMap_append, List.flatMap_singleton]
theorem vZ {f : Nat → S} {c n : Nat} (h : ∀ i, i < n → (f i).length ≤ c) : ∀ i, i ≤ n → ((List.range i).flatMap f).length ≤ c * i
 | 0, _ => by simp
 | i + 1, hi => by have := vZ h i (by omega);have := h i (by omega);rw [qA, List.length_append, Nat.mul_succ];omega
def tB1 (g : Gr) : S := [97, 97, 103, 32] ++ lnT (wP g)
def tBI (g : Gr) (i : Nat) : S := tB1 g ++ Xl i
def tBL (g : Gr) (i : Nat) : S := tBI g g.ins.toNat ++ KE g i
def tBO (g : Gr) (i : Nat) : S := tBL g g.next.length ++ KF g.outs i
def tBA (g : Gr) (i : Nat) : S := tBO g g.outs.length ++ KG g i
theorem Vr (g : Gr) : tBA g g.ands.length = WI g := by simp [tBA, tBO, tBL, tBI, tB1, WI]
theorem Jf (g : Gr) (i : Nat) : tBI g (i + 1) = tBI g i ++ lnT [2 * ((i : Int) + 1)] := by unfold tBI Xl; rw [qA, List.append_assoc]
theorem Jg (g : Gr) (i : Nat) : tBL g (i + 1) = tBL g i ++ lnT (Oz g i) := by unfold tBL KE; rw [qA, List.append_assoc]
theorem Jh (g : Gr) (i : Nat) : tBO g (i + 1) = tBO g i ++ lnT [g.outs.getD i 0] := by unfold tBO KF; rw [qA, List.append_assoc]
theorem Ji (g : Gr) (i : Nat) : tBA g (i + 1) = tBA g i ++ lnT [2 * (g.first + (i : Int)), (g.ands.getD i (0, 0)).1, (g.ands.getD i (0, 0)).2] := by unfold tBA KG; rw [qA, List.append_assoc]
structure GSm (g : Gr) : Prop where
 i0 : 0 ≤ g.ins
 i2 : g.ins + g.next.length + g.ands.length ≤ 4000
 i3 : g.outs.length ≤ 4000
 hil : g.init.length = g.next.length
 hin : ∀ a ∈ g.init, 0 ≤ a ∧ a ≤ 2
 nx : ∀ a ∈ g.next, 0 ≤ a ∧ a ≤ 10000
 ou : ∀ a ∈ g.outs, 0 ≤ a ∧ a ≤ 10000
 an : ∀ i (h : i < g.ands.length), 0 ≤ g.ands[i].1 ∧ g.ands[i].1 ≤ 10000 ∧ 0 ≤ g.ands[i].2 ∧ g.ands[i].2 ≤ 10000
theorem GSm.of {g : Gr} (hg : g.chk = 0) : GSm g := by
 obtain ⟨_, i0, i1, i2, i3, i4, i5⟩ := bQ hg;obtain ⟨r1, r2, r3, r4⟩ := cO i4;have wf : g.first = 1 + g.ins + g.next.length := rfl
 have wa : g.all = 2 * (g.first + g.ands.length) := rfl;exact ⟨i0, i2, by omega, r1, r2, fun a ha => by have := r3 a ha; omega, fun a ha => by have := r4 a ha; omega, fun i hi => by
  obtain ⟨o1, o2, o3, o4⟩ := fA i5 hi;omega⟩
theorem GSm.head {g : Gr} (s : GSm g) : ∀ n ∈ wP g, 0 ≤ n ∧ n ≤ 2147483647 := fun n hn => by
 have := s.i0; have := s.i2; have := s.i3;have wf : g.first = 1 + g.ins + g.next.length := rfl
 simp only [wP, List.mem_cons, List.not_mem_nil, or_false] at hn;omega
theorem GSm.in1 {g : Gr} (s : GSm g) {i : Nat} (h : i < g.ins.toNat) : ∀ n ∈ [2 * ((i : Int) + 1)], 0 ≤ n ∧ n ≤ 2147483647 := fun n hn => by have := s.i2;simp only [List.mem_singleton] at hn;omega
theorem GSm.la {g : Gr} (s : GSm g) {i : Nat} (h : i < g.next.length) : (∀ n ∈ Oz g i, 0 ≤ n ∧ n ≤ 2147483647) ∧ (Oz g i).length ≤ 3 := by
 have := s.i0; have := s.i2;have h1 := s.nx _ (List.getElem_mem h);rw [← aO (d := (0 : Int)) h] at h1;unfold Oz;refine ⟨fun n hn => ?_, ?_⟩
 ·rw [List.mem_cons, List.mem_cons] at hn;rcases hn with hn | hn | hn
  ·omega
  ·omega
  ·split at hn
   ·simp at hn
   ·split at hn
    ·simp at hn; omega
    ·simp at hn; omega
 ·split
  ·simp
  ·split <;> simp
theorem GSm.o1 {g : Gr} (s : GSm g) {i : Nat} (h : i < g.outs.length) : ∀ n ∈ [g.outs.getD i 0], 0 ≤ n ∧ n ≤ 2147483647 := fun n hn => by have h1 := s.ou _ (List.getElem_mem h);rw [← aO (d := (0 : Int)) h] at h1;simp only [List.mem_singleton] at hn;omega
theorem GSm.a1 {g : Gr} (s : GSm g) {i : Nat} (h : i < g.ands.length) : ∀ n ∈ [2 * (g.first + (i : Int)), (g.ands.getD i (0, 0)).1, (g.ands.getD i (0, 0)).2], 0 ≤ n ∧ n ≤ 2147483647 := fun n hn => by
 have := s.i0; have := s.i2;have h1 := s.an i h;rw [← aO (d := ((0, 0) : Pr)) h] at h1;have wf : g.first = 1 + g.ins + g.next.length := rfl
 simp only [List.mem_cons, List.not_mem_nil, or_false] at hn;omega
theorem GSm.lens {g : Gr} (s : GSm g) : (tB1 g).length ≤ 100 ∧ (∀ i, i ≤ g.ins.toNat → (tBI g i).length ≤ 200000) ∧ (∀ i, i ≤ g.next.length → (tBL g i).length ≤ 400000) ∧ (∀ i, i ≤ g.outs.length → (tBO g i).length ≤ 600000) ∧ (∀ i, i ≤ g.ands.length → (tBA g i).length ≤ 800000) := by
 have := s.i0; have := s.i2; have := s.i3;have z0 : (tB1 g).length ≤ 100 := by have := vY s.head;unfold tB1;rw [List.length_append];simp only [wP, List.length_cons, List.length_nil] at this ⊢;omega
 have z1 : ∀ i, i ≤ g.ins.toNat → (tBI g i).length ≤ 200000 := fun i hi => by have := vZ (f := fun i : Nat => lnT [2 * ((i : Int) + 1)]) (c := 12) (n := g.ins.toNat) (fun i hi => vY (s.in1 hi)) i hi;unfold tBI Xl;rw [List.length_append];omega
 have z2 : ∀ i, i ≤ g.next.length → (tBL g i).length ≤ 400000 := fun i hi => by have := vZ (f := fun i : Nat => lnT (Oz g i)) (c := 34) (n := g.next.length) (fun i hi => by have := vY (s.la hi).1; have := (s.la hi).2; omega) i hi;have := z1 g.ins.toNat (Nat.le_refl _);unfold tBL KE;rw [List.length_append];omega
 have z3 : ∀ i, i ≤ g.outs.length → (tBO g i).length ≤ 600000 := fun i hi => by
  have := vZ (f := fun i : Nat => lnT [g.outs.getD i 0]) (c := 12) (n := g.outs.length) (fun i hi => vY (s.o1 hi)) i hi;have := z2 g.next.length (Nat.le_refl _)
  unfold tBO KF;rw [List.length_append];omega
 have z4 : ∀ i, i ≤ g.ands.length → (tBA g i).length ≤ 800000 := fun i hi => by have := vZ (f := fun i : Nat => lnT [2 * (g.first + (i : Int)), (g.ands.getD i (0, 0)).1, (g.ands.getD i (0, 0)).2]) (c := 34) (n := g.ands.length) (fun i hi => vY (s.a1 hi)) i hi;have := z3 g.outs.length (Nat.le_refl _);unfold tBA KG;rw [List.length_append];omega
 exact ⟨z0, z1, z2, z3, z4⟩
abbrev mbO (m : Mo) : O := .cells [vi m.g.ins, aF m.g.next, aF m.g.init, prs m.g.ands, aF m.g.outs, aV m.ins, aV m.lat, aV m.out]
abbrev gbO (g : Gr) : O := .cells [vi g.ins, aF g.next, aF g.init, prs g.ands, aF g.outs]
abbrev hP (m : Mo) (out : S) (X : H) : H := mbO m :: gbO m.g :: .typed 59 [.lp 2 0, .ls 3 1 0 out.length out.length] :: .typed 5 (out.map vb) :: X
def Xc (X : H) : Prop := ∀ o ∈ X, ∀ p, o.drop p = o
theorem Zf {m : Mo} {X : H} (hX : Xc X) : WOk 2 3 (mbO m :: gbO m.g :: .dead :: .dead :: X) where
 ne := by decide
 l1 := by simp
 l2 := by simp
 cl := fun j o ho h1 h2 => by
  rcases j with _|_|_|_|j
  ·obtain rfl := Option.some.inj ho; rfl
  ·obtain rfl := Option.some.inj ho; rfl
  ·exact absurd rfl h1
  ·exact absurd rfl h2
  ·exact hX o (List.mem_of_getElem? (show X[j]? = some o from ho)) _
theorem jF {m : Mo} {out : S} {X : H} {l : Cl} {ex : Bool} {R : AEnd → H → (Nat → Bool) → Prop} (hX : Xc X) (hl : ∀ n ∈ l, 0 ≤ n ∧ n ≤ 2147483647) (hlen : out.length + 11 * l.length + 1 ≤ 20000000000000)
 (hr : R (.ret (.tup [])) (hP m (out ++ lnT l) X) (· == 3)) : ah TE 28 [.lp 2 0, .is ex 1 (l.map vi)] (hP m out X) R :=
 KU (Zf hX) hl hlen hr
theorem Jj {c : UInt8} : ∀ (l : List S) (b : Nat), (∀ x ∈ l, x.length ≤ 40) → b + l.length ≤ 100000 → (nmT c b l).length ≤ 60 * l.length
 | [], b, _, _ => by simp [nmT]
 | s :: l, b, h, hb => by rw [List.length_cons] at hb;have h1 := Jj (c := c) l (b + 1) (fun x hx => h x (by simp [hx])) (by omega);have h2 := h s (by simp);have h3 := jR (b : Int) (by omega) (by omega);simp only [nmT, List.length_cons, List.length_append];omega
theorem wo {s : S} (h : jC s = true) : s.length ≤ 40 := by unfold jC at h;simp only [Bool.and_eq_true, decide_eq_true_eq] at h;exact h.2.2
theorem Jk (n : Mo) (h1 : n.ins.length ≤ 10000) (h2 : n.lat.length ≤ 10000) (h3 : n.out.length ≤ 10000) (h : ∀ x, x ∈ n.ins ∨ x ∈ n.lat ∨ x ∈ n.out → jC x = true) : (ng n).length ≤ 2000000 := by have a1 := Jj (c := 105) n.ins 0 (fun x hx => wo (h x (.inl hx))) (by omega);have a2 := Jj (c := 108) n.lat 0 (fun x hx => wo (h x (.inr (.inl hx)))) (by omega);have a3 := Jj (c := 111) n.out 0 (fun x hx => wo (h x (.inr (.inr hx)))) (by omega);simp only [ng, List.length_append];omega
def Vs : Plan := .take 0 <| .take 1 <| .take 2 <| .alt 3 (.one 4 <| .one 5 <| .one 6 <| .take 7 <| .take 8 <| .fin) (.one 4 (.one 3 <| .one 5 <| .one 6 <| .take 7 <| .take 8 <| .fin))
set_option maxHeartbeats 8000000 in
theorem Jl (m : Mo) (hs : m.g.Sm) : Ev TE 8 [m.v] (.tup [.str (qp m).1, vi (qp m).2]) := by
 have hM : maxLen = 9223372036854775807 := rfl;have hn := KC m hs;unfold CE at hn;unfold qp;by_cases hc : m.chk = 0
 ·rw [if_pos hc] at hn ⊢;have hgc := (fK hc).1;have hst := Ot (g := uS m.g) (iE (iE hgc _) _);rw [CU hgc] at hst;have gs : GSm (uS m.g) := GSm.of (iE (iE hgc _) _);obtain ⟨n, hnm⟩ : ∃ n, n = m.norm := ⟨_, rfl⟩;rw [← hnm] at hn ⊢;have hng : uS m.g = n.g := by rw [hnm]; rfl
  rw [hng] at hst gs;have hls : (m.ins.length : Int) = m.g.ins ∧ (m.lat.length : Int) = m.g.next.length ∧ (m.out.length : Int) = m.g.outs.length := by
   simpa [Mo.lens, Bool.or_eq_false_iff, and_assoc] using (fK hc).2.1
  have hnm4 := rH hc;have hok := bQ hgc;have ho1 := hok.i0; have ho2 := hok.i2; have ho3 := hok.i3;have hni : n.ins = m.ins ∧ n.lat = m.lat ∧ n.out = m.out := by rw [hnm]; exact ⟨rfl, rfl, rfl⟩
  have bl1 : n.ins.length ≤ 10000 := by rw [hni.1]; omega
  have bl2 : n.lat.length ≤ 10000 := by rw [hni.2.1]; omega
  have bl3 : n.out.length ≤ 10000 := by rw [hni.2.2]; omega
  have htl := Jk n bl1 bl2 bl3 (by rw [hni.1, hni.2.1, hni.2.2]; exact hnm4);have g0 := gs.i0;have g2 := gs.i2;have g3 := gs.i3;have gl := gs.lens;obtain ⟨L1, L2, L3, L4, L5⟩ := gl;have wf : n.g.first = 1 + n.g.ins + n.g.next.length := rfl
  refine ax Tryz.func8 rfl (by simp [nts]) ?_;refine ag (vm ?_);simp only [wq.1, seval, Tryz.results8];refine ag (vm ?_);simp only [wq.1, seval];refine ah.ev hn rfl ?_;simp only [wq.1, seval];refine ag (vm ?_);simp only [wq.1, seval];refine ah.ev hst rfl ?_;simp only [wq.1, seval];refine ag (vm ?_);simp only [wq.1, seval];refine ag (vm ?_);simp only [wq.1, seval];refine ag (gK ?_);refine aB rfl rfl ?_;simp only [wq.1];refine dO rfl rfl ?_;refine F8 rfl (by simp only [wq.1, ↓reduceIte]) (by simp only [wq.1, ↓reduceIte]) ?_;simp only [wq.1, seval];refine aB rfl rfl ?_;simp only [wq.1, ↓reduceIte];refine eX ?_;simp only [wq.1];refine ag (vm ?_);simp only [wq.1, seval];refine BM kT [97, 97, 103, 32] (.inl rfl) rfl (by simp) (by simp) ?_;simp only [wq.1, Nat.reduceAdd];have w1 : IntKind.i64.wrap (1 + n.g.ins) = 1 + n.g.ins := bu (by omega) (by omega);have w2 : IntKind.i64.wrap (1 + n.g.ins + (n.g.next.length : Int)) = n.g.first := bu (by omega) (by omega)
  have w3 : IntKind.i64.wrap (n.g.first - 1) = n.g.first - 1 := bu (by omega) (by omega)
  have w4 : IntKind.i64.wrap (n.g.first - 1 + (n.g.ands.length : Int)) = n.g.first - 1 + (n.g.ands.length : Int) := bu (by omega) (by omega)
  have hPl0 : Xc [] := fun o ho => by cases ho
  refine ag (vm ?_);simp only [wq.1, ↓reduceIte, Nat.reduceEqDiff, Nat.reduceLT, Nat.reduceLeDiff, Nat.reduceAdd, reduceCtorEq, Nat.reduceMul, w1, w2, w3, w4];refine ⟨⟨rfl, by decide⟩, jF (m := n) (out := [97, 97, 103, 32]) (X := []) (l := wP n.g) hPl0 gs.head (by simp [wP]) ?_⟩;obtain ⟨B1, hB1⟩ : ∃ B1, B1 = tB1 n.g := ⟨_, rfl⟩;rw [show ([97, 97, 103, 32] ++ lnT (wP n.g) : S) = B1 by rw [hB1]; rfl];simp only [wq.1, bD];refine ag ?_;refine ag ?_;refine vm ?_;simp only [wq.1, seval];refine az ?_;refine aA (fun mm f h' => ∃ i, mm + i = n.g.ins.toNat ∧ f.t 1 = .lp 0 0 ∧ f.t 5 = .lp 1 0 ∧ f.t 6 = vi n.g.first ∧ f.t 7 = .lp 2 0 ∧ f.t 66 = vi n.g.ins ∧ f.t 67 = vi i ∧ f.d = [] ∧ h' = hP n (tBI n.g i) []) n.g.ins.toNat ⟨0, by simp, by simp only [wq.1, seval], by simp only [wq.1, seval], by simp only [wq.1, seval], by simp only [wq.1, seval], by simp only [wq.1, seval], rfl, rfl, by rw [hB1]; simp [tBI, Xl]⟩ ?_;rintro mm f h' ⟨i, hm, h1, h5, h6, h7, h66, h67, hd, rfl⟩;refine ag (vm ?_);simp only [wq.1, Nat.reduceLT, h66, h67];refine ag (vm ?_);simp only [wq.1, ↓reduceIte];refine vcB.mk (fun hlt => ?_) (fun hlt => ?_)
  ·simp only [decide_eq_true_eq] at hlt;have hi : i < n.g.ins.toNat := by omega
   have hw := ak (show i < maxLen by omega);have hw2 : IntKind.i64.wrap (2 * ((i + 1 : Nat) : Int)) = 2 * ((i : Int) + 1) := by rw [bu (by omega) (by omega)]; omega
   have hlb := L2 i (by omega);refine ag (az ?_);refine ag (vm ?_);simp only [wq.1, ↓reduceIte, Nat.reduceEqDiff, Nat.reduceLT, h67];refine vm ?_;simp only [wq.1, ↓reduceIte, Nat.reduceEqDiff, Nat.reduceLT, reduceCtorEq, Nat.reduceMul, h7, hw, hw2];refine ⟨⟨rfl, by decide⟩, jF (m := n) (out := tBI n.g i) (X := []) (l := [2 * ((i : Int) + 1)]) hPl0 (gs.in1 hi) (by simp; omega) ?_⟩;rw [← Jf];simp only [wq.1, bD, hd];refine vm ?_;simp only [wq.1, seval, h67, hw];exact .inl ⟨mm - 1, by omega, i + 1, by omega, by simp only [wq.1, seval, h1], by simp only [wq.1, seval, h5], by simp only [wq.1, seval, h6], by simp only [wq.1, seval, h7], by simp only [wq.1, seval, h66], rfl, by simp only [wq.1, hd], rfl⟩
  ·simp only [decide_eq_false_iff_not] at hlt;have hi : i = n.g.ins.toNat := by omega
   subst hi;clear h66 h67 hm;simp only [wq.1];refine ag ?_;refine ag ?_;refine vm ?_;simp only [wq.1, seval, h5];refine az ?_;refine aA (fun mm f h' => ∃ i, mm + i = n.g.next.length ∧ f.t 1 = .lp 0 0 ∧ f.t 5 = .lp 1 0 ∧ f.t 6 = vi n.g.first ∧ f.t 7 = .lp 2 0 ∧ f.t 78 = aF n.g.next ∧ f.t 79 = vi n.g.next.length ∧ f.t 80 = vi i ∧ f.d = [] ∧ h' = hP n (tBL n.g i) []) n.g.next.length ⟨0, by simp, by simp only [wq.1, seval, h1], by simp only [wq.1, seval, h5], by simp only [wq.1, seval, h6], by simp only [wq.1, seval, h7], by simp only [wq.1, seval], by simp only [wq.1, seval], rfl, by simp only [wq.1, hd], by simp [tBL, KE]⟩ ?_
   rintro mm f h' ⟨i, hm, h1, h5, h6, h7, h78, h79, h80, hd, rfl⟩;refine ag (vm ?_);simp only [wq.1, Nat.reduceLT, h79, h80];refine ag (vm ?_);simp only [wq.1, ↓reduceIte];refine vcB.mk (fun hlt => ?_) (fun hlt => ?_)
   ·simp only [decide_eq_true_eq, Int.ofNat_lt] at hlt;have hw := ak (show i < maxLen by omega);have hg1 : (n.g.next.map vi).getD i .any = vi n.g.next[i] := rU hlt _
    have hli : i < n.g.init.length := by rw [gs.hil]; exact hlt
    have hg2 : (n.g.init.map vi).getD i .any = vi n.g.init[i] := rU hli _;have hib := gs.hin _ (List.getElem_mem hli);have hlb := L3 i (by omega);have wA : IntKind.i64.wrap (1 + n.g.ins + (i : Int)) = 1 + n.g.ins + (i : Int) := bu (by omega) (by omega);have wB : IntKind.i64.wrap (2 * (1 + n.g.ins + (i : Int))) = 2 * (1 + n.g.ins + (i : Int)) := bu (by omega) (by omega);obtain ⟨nx, hnx⟩ : ∃ nx, nx = n.g.next[i] := ⟨_, rfl⟩
    obtain ⟨v, hv⟩ : ∃ v, v = n.g.init[i] := ⟨_, rfl⟩;obtain ⟨lit, hlit⟩ : ∃ lit, lit = 2 * (1 + n.g.ins + (i : Int)) := ⟨_, rfl⟩;have hla : Oz n.g i = lit :: nx :: (if v = 0 then [] else if v = 1 then [1] else [lit]) := by unfold Oz;rw [aO hlt, aO hli, hnx, hv, hlit]
    rw [← hnx] at hg1;rw [← hv] at hg2 hib;rw [← hlit] at wB;have hll := gs.la hlt;have hsu := Jg n.g i;rw [hla] at hll hsu;refine ag (az ?_);refine ag (vm ?_);simp only [wq.1, seval, h78, h80, hg1];refine ⟨⟨by omega, by omega⟩, ?_⟩;refine ag (vm ?_);simp only [wq.1, seval, -Int.reduceNatCast, -Int.reduceNatCast', au, Tryz.results8, h1, h5, h6, h7, h78, h79, h80, hd, w1, wA, ← hlit, wB];have hv3 : v = 0 ∨ v = 1 ∨ v = 2 := by omega
    have fin : ∀ (l : Cl), (∀ n ∈ l, 0 ≤ n ∧ n ≤ 2147483647) → l.length ≤ 3 → tBL n.g (i + 1) = tBL n.g i ++ lnT l → ∀ {R : AEnd → H → (Nat → Bool) → Prop}, R (.ret (.tup [])) (hP n (tBL n.g (i + 1)) []) (· == 3) → ah TE 28 [.lp 2 0, .is true 1 (l.map vi)] (hP n (tBL n.g i) []) R := fun l h1 h2 h3 R hr => by rw [h3] at hr;exact jF (m := n) (out := tBL n.g i) (X := []) (l := l) hPl0 h1 (by omega) hr
    rcases hv3 with hv0 | hv0 | hv0
    all_goals
     rw [hv0] at hg2 hll hsu;refine vm ?_;simp only [wq.1, ↓reduceIte, Nat.reduceEqDiff, Nat.reduceLT, Nat.reduceLeDiff, Nat.reduceAdd, Nat.reduceSub, Int.reduceToNat, Nat.reduceDiv, Int.reduceLT, Int.reduceLE, Int.reduceNeg, Int.reduceBEq, Int.reduceBNe, Int.reduceAdd, Int.reduceSub, Nat.reduceBEq, reduceCtorEq, Nat.reduceMul, au, Tryz.results8, h1, h5, h6, h7, h78, h79, h80, hd, hg2]
    ·refine ⟨⟨rfl, by decide⟩, ⟨rfl, by decide⟩, ⟨rfl, by decide⟩, ⟨rfl, by decide⟩, ⟨by omega, by omega⟩, by decide, fin [lit, nx] hll.1 hll.2 hsu ?_⟩;simp only [wq.1, bD, hd];refine vm ?_;simp only [wq.1, seval, h80, hw];exact .inl ⟨mm - 1, by omega, i + 1, by omega, by simp only [wq.1, seval, h1], by simp only [wq.1, seval, h5], by simp only [wq.1, seval, h6], by simp only [wq.1, seval, h7], by simp only [wq.1, seval, h78], by simp only [wq.1, seval, -Int.reduceNatCast, -Int.reduceNatCast', au, Tryz.results8, h79], rfl, by simp only [wq.1, ↓reduceIte, Nat.reduceEqDiff, Nat.reduceLT, Nat.reduceLeDiff, Nat.reduceAdd, Nat.reduceSub, Int.reduceToNat, Nat.reduceDiv, Int.reduceLT, Int.reduceLE, Int.reduceNeg, Int.reduceBEq, Int.reduceBNe, Int.reduceAdd, Int.reduceSub, Nat.reduceBEq, reduceCtorEq, Nat.reduceMul, au, Tryz.results8, hd], rfl⟩
    ·refine ⟨⟨rfl, by decide⟩, ⟨rfl, by decide⟩, ⟨rfl, by decide⟩, ⟨rfl, by decide⟩, ⟨by omega, by omega⟩, by decide, fin [lit, nx, 1] hll.1 hll.2 hsu ?_⟩;simp only [wq.1, bD, hd];refine vm ?_;simp only [wq.1, seval, h80, hw];exact .inl ⟨mm - 1, by omega, i + 1, by omega, by simp only [wq.1, seval, h1], by simp only [wq.1, seval, h5], by simp only [wq.1, seval, h6], by simp only [wq.1, seval, h7], by simp only [wq.1, seval, h78], by simp only [wq.1, seval, -Int.reduceNatCast, -Int.reduceNatCast', au, Tryz.results8, h79], rfl, by simp only [wq.1, ↓reduceIte, Nat.reduceEqDiff, Nat.reduceLT, Nat.reduceLeDiff, Nat.reduceAdd, Nat.reduceSub, Int.reduceToNat, Nat.reduceDiv, Int.reduceLT, Int.reduceLE, Int.reduceNeg, Int.reduceBEq, Int.reduceBNe, Int.reduceAdd, Int.reduceSub, Nat.reduceBEq, reduceCtorEq, Nat.reduceMul, au, Tryz.results8, hd], rfl⟩
    ·refine ⟨⟨rfl, by decide⟩, ⟨rfl, by decide⟩, ⟨rfl, by decide⟩, ⟨rfl, by decide⟩, ⟨by omega, by omega⟩, by decide, fin [lit, nx, lit] hll.1 hll.2 hsu ?_⟩;simp only [wq.1, bD, hd];refine vm ?_;simp only [wq.1, seval, h80, hw];exact .inl ⟨mm - 1, by omega, i + 1, by omega, by simp only [wq.1, seval, h1], by simp only [wq.1, seval, h5], by simp only [wq.1, seval, h6], by simp only [wq.1, seval, h7], by simp only [wq.1, seval, h78], by simp only [wq.1, seval, h79], rfl, by simp only [wq.1, hd], rfl⟩
   ·simp only [decide_eq_false_iff_not, Int.ofNat_lt] at hlt;have hi : i = n.g.next.length := by omega
    subst hi;clear h78 h79 h80 hm;simp only [wq.1];refine ag ?_;refine ag ?_;refine vm ?_;simp only [wq.1, seval, h5];refine az ?_;refine aA (fun mm f h' => ∃ i, mm + i = n.g.outs.length ∧ f.t 1 = .lp 0 0 ∧ f.t 5 = .lp 1 0 ∧ f.t 6 = vi n.g.first ∧ f.t 7 = .lp 2 0 ∧ f.t 113 = aF n.g.outs ∧ f.t 114 = vi n.g.outs.length ∧ f.t 115 = vi i ∧ f.d = [] ∧ h' = hP n (tBO n.g i) []) n.g.outs.length ⟨0, by simp, by simp only [wq.1, seval, h1], by simp only [wq.1, seval, h5], by simp only [wq.1, seval, h6], by simp only [wq.1, seval, h7], by simp only [wq.1, seval], by simp only [wq.1, seval], rfl, by simp only [wq.1, hd], by simp [tBO, KF]⟩ ?_;rintro mm f h' ⟨i, hm, h1, h5, h6, h7, h78, h79, h80, hd, rfl⟩;refine ag (vm ?_);simp only [wq.1, Nat.reduceLT, h79, h80];refine ag (vm ?_);simp only [wq.1, ↓reduceIte];refine vcB.mk (fun hlt => ?_) (fun hlt => ?_)
    ·simp only [decide_eq_true_eq, Int.ofNat_lt] at hlt;have hw := ak (show i < maxLen by omega);have hg1 : (n.g.outs.map vi).getD i .any = vi (n.g.outs.getD i 0) := by rw [aO hlt]; exact rU hlt _
     have hlb := L4 i (by omega);refine ag (az ?_);refine ag (vm ?_);simp only [wq.1, ↓reduceIte, Nat.reduceEqDiff, Nat.reduceLT, h78, h80, hg1];refine ⟨⟨by omega, by omega⟩, ?_⟩;refine vm ?_;simp only [wq.1, ↓reduceIte, Nat.reduceEqDiff, Nat.reduceLT, reduceCtorEq, Nat.reduceMul, h7];refine ⟨⟨rfl, by decide⟩, jF (m := n) (out := tBO n.g i) (X := []) (l := [n.g.outs.getD i 0]) hPl0 (gs.o1 hlt) (by simp; omega) ?_⟩;rw [← Jh];simp only [wq.1, bD, hd];refine vm ?_;simp only [wq.1, seval, h80, hw];exact .inl ⟨mm - 1, by omega, i + 1, by omega, by simp only [wq.1, seval, h1], by simp only [wq.1, seval, h5], by simp only [wq.1, seval, h6], by simp only [wq.1, seval, h7], by simp only [wq.1, seval, h78], by simp only [wq.1, seval, h79], rfl, by simp only [wq.1, hd], rfl⟩
    ·simp only [decide_eq_false_iff_not, Int.ofNat_lt] at hlt;have hi : i = n.g.outs.length := by omega
     subst hi;clear h78 h79 h80 hm;simp only [wq.1];refine ag ?_;refine ag ?_;refine vm ?_;simp only [wq.1, seval, h5];refine az ?_;refine aA (fun mm f h' => ∃ i X, mm + i = n.g.ands.length ∧ f.t 1 = .lp 0 0 ∧ f.t 5 = .lp 1 0 ∧ f.t 6 = vi n.g.first ∧ f.t 7 = .lp 2 0 ∧ f.t 125 = prs n.g.ands ∧ f.t 126 = vi n.g.ands.length ∧ f.t 127 = vi i ∧ f.d = [] ∧ h' = hP n (tBA n.g i) [] ++ X) n.g.ands.length ⟨0, [], by simp, by simp only [wq.1, seval, h1], by simp only [wq.1, seval, h5], by simp only [wq.1, seval, h6], by simp only [wq.1, seval, h7], by simp only [wq.1, seval], by simp only [wq.1, seval], rfl, by simp only [wq.1, hd], by simp [tBA, KG]⟩ ?_;rintro mm f h' ⟨i, X, hm, h1, h5, h6, h7, h78, h79, h80, hd, rfl⟩;have hcl : dE (hP n (tBA n.g i) []) := fun p hp => by
      have q2 := hp 2 (by show 2 < 4; decide);have q3 := hp 3 (by show 3 < 4; decide);have d2 := pX (p := p) (tBA n.g i);simp only [wq.1, ↓reduceIte, O.drop, V.drops, V.drop, q2, q3, d2]
     refine dh (by rw [hd]; simp) ?_;rw [hcl.from_];obtain ⟨f', hf'⟩ : ∃ f', f' = f.drop (Abs.bf (hP n (tBA n.g i) []).length) := ⟨_, rfl⟩;have u1 : f'.t 1 = .lp 0 0 := by rw [hf']; show (f.t 1).drop _ = _; rw [h1]; rfl
     have u5 : f'.t 5 = .lp 1 0 := by rw [hf']; show (f.t 5).drop _ = _; rw [h5]; rfl
     have u6 : f'.t 6 = vi n.g.first := by rw [hf']; show (f.t 6).drop _ = _; rw [h6]; rfl
     have u7 : f'.t 7 = .lp 2 0 := by rw [hf']; show (f.t 7).drop _ = _; rw [h7]; rfl
     have u78 : f'.t 125 = prs n.g.ands := by rw [hf']; show (f.t 125).drop _ = _; rw [h78]; rfl
     have u79 : f'.t 126 = vi n.g.ands.length := by rw [hf']; show (f.t 126).drop _ = _; rw [h79]; rfl
     have u80 : f'.t 127 = vi i := by rw [hf']; show (f.t 127).drop _ = _; rw [h80]; rfl
     have ud : f'.d = [] := by rw [hf']; exact hd
     rw [← hf'];clear hf' h1 h5 h6 h7 h78 h79 h80 hd X;refine ag (vm ?_);simp only [wq.1, Nat.reduceLT, u79, u80];refine ag (vm ?_);simp only [wq.1, ↓reduceIte];refine vcB.mk (fun hlt => ?_) (fun hlt => ?_)
     ·simp only [decide_eq_true_eq, Int.ofNat_lt] at hlt;have hw := ak (show i < maxLen by omega);have hg1 := mZ hlt V.any;have hlb := L5 i (by omega);have wA : IntKind.i64.wrap (n.g.first + (i : Int)) = n.g.first + (i : Int) := bu (by omega) (by omega)
      have wB : IntKind.i64.wrap (2 * (n.g.first + (i : Int))) = 2 * (n.g.first + (i : Int)) := bu (by omega) (by omega);have hal := gs.a1 hlt;have hsu := Ji n.g i;rw [aO hlt] at hal hsu;refine ag (az ?_);refine ag (vm ?_);simp only [wq.1, seval, -Int.reduceNatCast, -Int.reduceNatCast', au, Tryz.results8, u1, u5, u6, u7, u78, u79, u80, ud, hg1];refine ⟨⟨by omega, by omega⟩, ?_⟩;refine vm ?_;simp only [wq.1, ↓reduceIte, Nat.reduceEqDiff, Nat.reduceLT, Nat.reduceLeDiff, Nat.reduceAdd, Nat.reduceSub, Int.reduceToNat, Nat.reduceDiv, Int.reduceLT, Int.reduceLE, Int.reduceNeg, Int.reduceBEq, Int.reduceBNe, Int.reduceAdd, Int.reduceSub, Nat.reduceBEq, reduceCtorEq, Nat.reduceMul, au, Tryz.results8, u1, u5, u6, u7, u78, u79, u80, ud, wA, wB];refine ⟨by omega, by omega, ⟨rfl, by decide⟩, jF (m := n) (out := tBA n.g i) (X := [.cells [vi n.g.ands[i].1, vi n.g.ands[i].2]]) (l := [2 * (n.g.first + (i : Int)), n.g.ands[i].1, n.g.ands[i].2]) (fun o ho p => by rw [List.mem_singleton] at ho; subst ho; rfl) hal (by simp; omega) ?_⟩;rw [← hsu];simp only [wq.1, bD, ud];refine vm ?_;simp only [wq.1, seval, u80, hw];exact .inl ⟨mm - 1, by omega, i + 1, [.cells [vi n.g.ands[i].1, vi n.g.ands[i].2]], by omega, by simp only [wq.1, seval, u1], by simp only [wq.1, seval, u5], by simp only [wq.1, seval, u6], by simp only [wq.1, seval, u7], by simp only [wq.1, seval, u78], by simp only [wq.1, seval, u79], rfl, by simp only [wq.1, ud], rfl⟩
     ·simp only [decide_eq_false_iff_not, Int.ofNat_lt] at hlt;have hi : i = n.g.ands.length := by omega
      subst hi;have hte := FI n (by omega) (by omega) (by omega) (by omega);have htt : tBA n.g n.g.ands.length ++ ng n = TT n := by rw [Vr]; rfl
      have hlb := L5 n.g.ands.length (Nat.le_refl _);have hBne : tBA n.g n.g.ands.length ≠ [] := by simp [tBA, tBO, tBL, tBI, tB1]
      obtain ⟨B, hB⟩ : ∃ B, B = tBA n.g n.g.ands.length := ⟨_, rfl⟩;simp only [wq.1];rw [← hB] at htt hlb hBne ⊢;refine ag ?_;refine bg mixed Vs (fun f' h' => f'.t 2 = .str (TT n) ∧ f'.t 3 = vi 0 ∧ f'.d = []) (by decide +kernel) (by decide +kernel) ?_ ?_
      ·simp only [wq.1, seval, Vs, u1, u7]
       repeat' apply And.intro
       all_goals
        refine NR B rfl rfl hBne (by omega) ?_;simp only [wq.1, seval, bD, u1, ud];refine ah.ev hte rfl ?_;simp only [wq.1, seval, ud, htt];omega
      ·rintro f h' ⟨h2, h3, hd⟩;simp only [wq.1];refine vm ?_;simp only [wq.1, h2, h3, hd];exact aG.dat rfl
 ·rw [if_neg hc] at hn ⊢;refine ax Tryz.func8 rfl (by simp [nts]) ?_;refine ag (vm ?_);simp only [wq.1, seval, Tryz.results8];refine ag (vm ?_);simp only [wq.1, seval];refine ah.ev hn rfl ?_;simp only [wq.1, seval];have hc' : (m.chk != 0) = true := by simpa using hc
  refine ag (vm ?_);simp only [wq.1, seval, hc'];refine ⟨.bool true, ?_⟩;simp only [wq.1, seval];exact aG.dat rfl
def Zp (r : RE Mo) (g1 : Int) (g2 g3 : Cl) (g4 : List (Int × Int)) (g5 : Cl) (n1 n2 n3 : List S) : Bool := match r with
 | .ok ⟨⟨a, b, c, d, e⟩, f, g, h⟩ => decide ((a : Int) = g1) && decide (b = g2) && decide (c = g3) && decide (d = g4) && decide (e = g5) && decide (f = n1) && decide (g = n2) && decide (h = n3)
 | .error _ => false
theorem Rh {r : RE Mo} {g1 : Int} {g2 g3 : Cl} {g4 : List (Int × Int)} {g5 : Cl} {n1 n2 n3 : List S} (h : Zp r g1 g2 g3 g4 g5 n1 n2 n3 = true) : r = .ok ⟨⟨g1, g2, g3, g4, g5⟩, n1, n2, n3⟩ := by
 unfold Zp at h;split at h
 ·simp only [Bool.and_eq_true, decide_eq_true_eq] at h;obtain ⟨⟨⟨⟨⟨⟨⟨h1, rfl⟩, rfl⟩, rfl⟩, rfl⟩, rfl⟩, rfl⟩, rfl⟩ := h;subst h1;rfl
 ·cases h
def erB {α : Type} (r : RE α) (w : Nat) (e : Int) : Bool := match r with
 | .error (a, b) => decide (a = w) && decide (b = e)
 | .ok _ => false
theorem YQ {α : Type} {r : RE α} {w : Nat} {e : Int} (h : erB r w e = true) : r = .error (w, e) := by
 unfold erB at h;split at h
 ·simp only [Bool.and_eq_true, decide_eq_true_eq] at h;obtain ⟨rfl, rfl⟩ := h;rfl
 ·cases h
def okB {α : Type} [DecidableEq α] (r : RE α) (x : α) : Bool := match r with
 | .ok y => decide (y = x)
 | .error _ => false
theorem Vt {α : Type} [DecidableEq α] {r : RE α} {x : α} (h : okB r x = true) : r = .ok x := by
 unfold okB at h;split at h
 ·rw [of_decide_eq_true h]
 ·cases h
def wA : S := [97, 97, 103, 32, 48, 32, 48, 32, 48, 32, 49, 32, 48, 10, 49, 10]
def wB : S := [97, 97, 103, 32, 51, 32, 49, 32, 49, 32, 49, 32, 49, 10, 50, 10, 52, 32, 55, 32, 52, 10, 54, 10, 54, 32, 50, 32, 52, 10, 105, 48, 32, 97, 10, 99, 10, 120]
def wC : S := [97, 97, 103, 32, 49, 32, 49, 32, 48, 32, 48, 32, 48, 10, 51, 10]
def wD : S := [97, 105, 103, 32, 49, 32, 49, 32, 48, 32, 48, 32, 48, 10]
def wE : S := [111, 48, 32, 122, 10]
theorem Zg : jT wA = .ok ⟨⟨0, [], [], [], [1]⟩, [], [], [[111, 48]]⟩ := Rh (by decide +kernel)
theorem Zh : jT wB = .ok ⟨⟨1, [7], [2], [(2, 4)], [6]⟩, [[97]], [[108, 48]], [[111, 48]]⟩ := Rh (by decide +kernel)
theorem Zi : jT wC = .error (14, 1) := YQ (by decide +kernel)
theorem Zj : wQ wD [97, 105, 103] = .ok ([1, 1, 0, 0, 0, 0, 0, 0, 0], 14) := Vt (by decide +kernel)
theorem Zk : Ej wE [0, 0, 2, 0, 0] 0 = .ok [[], [], [[122], [111, 49]], [], []] := Vt (by decide +kernel)
theorem Xd : AO P 41 [.i64, .i64, .i64, .i64, .i64, .i64, .i64, .i64, .i64] := by
 refine ⟨by kernel_rfl, fun w xs ys hx hy => ?_⟩
 match xs, hx with
 | [a0, a1, a2, a3, a4, a5, a6, a7, a8], _ =>
 match ys, hy with
 | [b0, b1, b2, b3, b4, b5, b6, b7, b8], _ =>
 have hs : (sizeOf 3).run P w = .ok 1 w := by
  have hi : ∃ i, P.info? 3 = some i := info_of_underlying Tryz.underlying3;obtain ⟨i, hi⟩ := hi;rw [run_sizeOf w hi];have : P.cellsOf 3 = 1 := by kernel_rfl
  rw [this]
 have p0 : ∀ (x0 x1 x2 x3 x4 x5 x6 x7 x8 : Int), (part 3 #[.int .i64 x0, .int .i64 x1, .int .i64 x2, .int .i64 x3, .int .i64 x4, .int .i64 x5, .int .i64 x6, .int .i64 x7, .int .i64 x8] (0)).run P w = .ok (.int .i64 x0) w := fun x0 x1 x2 x3 x4 x5 x6 x7 x8 => dw Tryz.underlying3 (by simp);have p1 : ∀ (x0 x1 x2 x3 x4 x5 x6 x7 x8 : Int), (part 3 #[.int .i64 x0, .int .i64 x1, .int .i64 x2, .int .i64 x3, .int .i64 x4, .int .i64 x5, .int .i64 x6, .int .i64 x7, .int .i64 x8] (1)).run P w = .ok (.int .i64 x1) w := fun x0 x1 x2 x3 x4 x5 x6 x7 x8 => dw Tryz.underlying3 (by simp);have p2 : ∀ (x0 x1 x2 x3 x4 x5 x6 x7 x8 : Int), (part 3 #[.int .i64 x0, .int .i64 x1, .int .i64 x2, .int .i64 x3, .int .i64 x4, .int .i64 x5, .int .i64 x6, .int .i64 x7, .int .i64 x8] (2)).run P w = .ok (.int .i64 x2) w := fun x0 x1 x2 x3 x4 x5 x6 x7 x8 => dw Tryz.underlying3 (by simp);have p3 : ∀ (x0 x1 x2 x3 x4 x5 x6 x7 x8 : Int), (part 3 #[.int .i64 x0, .int .i64 x1, .int .i64 x2, .int .i64 x3, .int .i64 x4, .int .i64 x5, .int .i64 x6, .int .i64 x7, .int .i64 x8] (3)).run P w = .ok (.int .i64 x3) w := fun x0 x1 x2 x3 x4 x5 x6 x7 x8 => dw Tryz.underlying3 (by simp);have p4 : ∀ (x0 x1 x2 x3 x4 x5 x6 x7 x8 : Int), (part 3 #[.int .i64 x0, .int .i64 x1, .int .i64 x2, .int .i64 x3, .int .i64 x4, .int .i64 x5, .int .i64 x6, .int .i64 x7, .int .i64 x8] (4)).run P w = .ok (.int .i64 x4) w := fun x0 x1 x2 x3 x4 x5 x6 x7 x8 => dw Tryz.underlying3 (by simp);have p5 : ∀ (x0 x1 x2 x3 x4 x5 x6 x7 x8 : Int), (part 3 #[.int .i64 x0, .int .i64 x1, .int .i64 x2, .int .i64 x3, .int .i64 x4, .int .i64 x5, .int .i64 x6, .int .i64 x7, .int .i64 x8] (5)).run P w = .ok (.int .i64 x5) w := fun x0 x1 x2 x3 x4 x5 x6 x7 x8 => dw Tryz.underlying3 (by simp);have p6 : ∀ (x0 x1 x2 x3 x4 x5 x6 x7 x8 : Int), (part 3 #[.int .i64 x0, .int .i64 x1, .int .i64 x2, .int .i64 x3, .int .i64 x4, .int .i64 x5, .int .i64 x6, .int .i64 x7, .int .i64 x8] (6)).run P w = .ok (.int .i64 x6) w := fun x0 x1 x2 x3 x4 x5 x6 x7 x8 => dw Tryz.underlying3 (by simp);have p7 : ∀ (x0 x1 x2 x3 x4 x5 x6 x7 x8 : Int), (part 3 #[.int .i64 x0, .int .i64 x1, .int .i64 x2, .int .i64 x3, .int .i64 x4, .int .i64 x5, .int .i64 x6, .int .i64 x7, .int .i64 x8] (7)).run P w = .ok (.int .i64 x7) w := fun x0 x1 x2 x3 x4 x5 x6 x7 x8 => dw Tryz.underlying3 (by simp);have p8 : ∀ (x0 x1 x2 x3 x4 x5 x6 x7 x8 : Int), (part 3 #[.int .i64 x0, .int .i64 x1, .int .i64 x2, .int .i64 x3, .int .i64 x4, .int .i64 x5, .int .i64 x6, .int .i64 x7, .int .i64 x8] (8)).run P w = .ok (.int .i64 x8) w := fun x0 x1 x2 x3 x4 x5 x6 x7 x8 => dw Tryz.underlying3 (by simp);show (Op.equalIn 10000 41 (.agg #[.int .i64 a0, .int .i64 a1, .int .i64 a2, .int .i64 a3, .int .i64 a4, .int .i64 a5, .int .i64 a6, .int .i64 a7, .int .i64 a8]) (.agg #[.int .i64 b0, .int .i64 b1, .int .i64 b2, .int .i64 b3, .int .i64 b4, .int .i64 b5, .int .i64 b6, .int .i64 b7, .int .i64 b8])).run P w = .ok ([a0, a1, a2, a3, a4, a5, a6, a7, a8] == [b0, b1, b2, b3, b4, b5, b6, b7, b8]) w;have e3 := kH (P := P) (w := w) Tryz.underlying3 9998;rw [Op.equalIn];by_cases h0 : a0 = b0
 ·subst h0;by_cases h1 : a1 = b1
  ·subst h1;by_cases h2 : a2 = b2
   ·subst h2;by_cases h3 : a3 = b3
    ·subst h3;by_cases h4 : a4 = b4
     ·subst h4;by_cases h5 : a5 = b5
      ·subst h5;by_cases h6 : a6 = b6
       ·subst h6;by_cases h7 : a7 = b7
        ·subst h7;by_cases h8 : a8 = b8
         ·subst h8;simp [run_underlying Tryz.underlying41, Std.Legacy.Range.forIn_eq_forIn_range', List.range', hs, e3, p0, p1, p2, p3, p4, p5, p6, p7, p8, Sem.run_bind, Result.andThen]
         ·have g8 : (a8 == b8) = false := by simpa using h8
          simp [run_underlying Tryz.underlying41, Std.Legacy.Range.forIn_eq_forIn_range', List.range', hs, e3, p0, p1, p2, p3, p4, p5, p6, p7, p8, Sem.run_bind, Result.andThen, g8, h8]
        ·have g7 : (a7 == b7) = false := by simpa using h7
         simp [run_underlying Tryz.underlying41, Std.Legacy.Range.forIn_eq_forIn_range', List.range', hs, e3, p0, p1, p2, p3, p4, p5, p6, p7, p8, Sem.run_bind, Result.andThen, g7, h7]
       ·have g6 : (a6 == b6) = false := by simpa using h6
        simp [run_underlying Tryz.underlying41, Std.Legacy.Range.forIn_eq_forIn_range', List.range', hs, e3, p0, p1, p2, p3, p4, p5, p6, p7, p8, Sem.run_bind, Result.andThen, g6, h6]
      ·have g5 : (a5 == b5) = false := by simpa using h5
       simp [run_underlying Tryz.underlying41, Std.Legacy.Range.forIn_eq_forIn_range', List.range', hs, e3, p0, p1, p2, p3, p4, p5, p6, p7, p8, Sem.run_bind, Result.andThen, g5, h5]
     ·have g4 : (a4 == b4) = false := by simpa using h4
      simp [run_underlying Tryz.underlying41, Std.Legacy.Range.forIn_eq_forIn_range', List.range', hs, e3, p0, p1, p2, p3, p4, p5, p6, p7, p8, Sem.run_bind, Result.andThen, g4, h4]
    ·have g3 : (a3 == b3) = false := by simpa using h3
     simp [run_underlying Tryz.underlying41, Std.Legacy.Range.forIn_eq_forIn_range', List.range', hs, e3, p0, p1, p2, p3, p4, p5, p6, p7, p8, Sem.run_bind, Result.andThen, g3, h3]
   ·have g2 : (a2 == b2) = false := by simpa using h2
    simp [run_underlying Tryz.underlying41, Std.Legacy.Range.forIn_eq_forIn_range', List.range', hs, e3, p0, p1, p2, p3, p4, p5, p6, p7, p8, Sem.run_bind, Result.andThen, g2, h2]
  ·have g1 : (a1 == b1) = false := by simpa using h1
   simp [run_underlying Tryz.underlying41, Std.Legacy.Range.forIn_eq_forIn_range', List.range', hs, e3, p0, p1, p2, p3, p4, p5, p6, p7, p8, Sem.run_bind, Result.andThen, g1, h1]
 ·have g0 : (a0 == b0) = false := by simpa using h0
  simp [run_underlying Tryz.underlying41, Std.Legacy.Range.forIn_eq_forIn_range', List.range', hs, e3, p0, p1, p2, p3, p4, p5, p6, p7, p8, Sem.run_bind, Result.andThen, g0, h0]
def wBm : Mo := ⟨⟨1, [7], [2], [(2, 4)], [6]⟩, [[97]], [[108, 48]], [[111, 48]]⟩
def wBt : S := [97, 97, 103, 32, 51, 32, 49, 32, 49, 32, 49, 32, 49, 10, 50, 10, 52, 32, 55, 32, 52, 10, 54, 10, 54, 32, 52, 32, 50, 10, 105, 48, 32, 97, 10, 108, 48, 32, 108, 48, 10, 111, 48, 32, 111, 48, 10]
def wBl : S := [105, 48, 32, 97, 10, 108, 48, 32, 108, 48, 10, 111, 48, 32, 111, 48, 10]
theorem UF : qp wBm = (wBt, 0) := by
 have : (decide ((qp wBm).1 = wBt) && decide ((qp wBm).2 = 0)) = true := by decide +kernel
 simp only [Bool.and_eq_true, decide_eq_true_eq] at this;exact Prod.ext this.1 this.2
theorem Ri : ng wBm = wBl := of_decide_eq_true (by decide +kernel)
theorem UG : bZ wC 14 1 = .agg [vi 1, vi 2, vi 1] := by
 have : (decide ((eQ wC 14).1 = 2) && decide ((eQ wC 14).2 = 1)) = true := by decide +kernel
 simp only [Bool.and_eq_true, decide_eq_true_eq] at this;unfold bZ;rw [if_neg (by decide), this.1, this.2]
set_option maxHeartbeats 4000000 in
theorem KX : Ev TE 6 [] (.bool true) := by have hsB : wBm.g.Sm := ⟨by decide, by decide⟩;have e1 := Aq wA (by decide);unfold gV at e1;rw [Zg] at e1;have e2 := Aq wB (by decide);unfold gV at e2;rw [Zh] at e2;have e3 := Jl wBm hsB;rw [UF] at e3;have e4 := Aq wC (by decide);unfold gV at e4;rw [Zi] at e4;have e5 := Q7 wD [97, 105, 103] (by decide);unfold FC at e5;rw [Zj] at e5;dsimp only at e5;rw [show (((14 : Nat) : Nat) : Int) = 14 from rfl] at e5;have e6 := xX wE [0, 0, 2, 0, 0] 0 rfl (by decide);unfold KR at e6;rw [Zk] at e6;have e7 := FI wBm (by decide) (by decide) (by decide) (by rw [Ri]; decide);rw [Ri] at e7;dsimp only at e4;rw [show bZ wC ((14 : Nat) : Int) 1 = .agg [vi 1, vi 2, vi 1] from UG] at e4;simp only [Mo.v, wA, wB, wC, wD, wE, wBm, FB] at e1 e2 e3 e4 e5 e6 e7;refine ax Tryz.func6 rfl (by simp [nts]) ?_;refine ag (vm ?_);simp only [wq.1, Nat.reduceLT, Tryz.results6];refine ag (vm ?_);simp only [wq.1, seval];refine ah.ev e1 rfl ?_;simp only [wq.1, seval];refine ag (vm ?_);simp only [wq.1, seval];refine ah.ev e2 rfl ?_;simp only [wq.1, seval];refine ag (vm ?_);simp only [wq.1, seval];refine ah.ev e3 rfl ?_;simp only [wq.1, seval];refine ag (vm ?_);simp only [wq.1, seval];refine ah.ev e4 rfl ?_;simp only [wq.1, seval];refine ag (vm ?_);simp only [wq.1, seval];refine ah.ev e5 rfl ?_;simp only [wq.1, seval];refine ag (vm ?_);simp only [wq.1, seval];refine ah.ev e6 rfl ?_;simp only [wq.1, ↓reduceIte, Nat.reduceEqDiff, Nat.reduceLT, Nat.reduceLeDiff, Nat.reduceAdd, Nat.reduceSub, Int.reduceToNat, Nat.reduceDiv, Int.reduceLT, Int.reduceLE, Int.reduceNeg, Int.reduceBEq, Int.reduceBNe, Int.reduceAdd, Int.reduceSub, Nat.reduceBEq, reduceCtorEq, Nat.reduceMul, au, Tryz.results6, bD];refine ag (vm ?_);simp only [wq.1, ↓reduceIte, Nat.reduceEqDiff, Nat.reduceLT, Nat.reduceLeDiff, Nat.reduceAdd, Nat.reduceSub, Int.reduceToNat, Nat.reduceDiv, Int.reduceLT, Int.reduceLE, Int.reduceNeg, Int.reduceBEq, Int.reduceBNe, Int.reduceAdd, Int.reduceSub, Nat.reduceBEq, reduceCtorEq, Nat.reduceMul, au, Tryz.results6];refine vcB.mk (fun h => absurd h (by decide)) (fun _ => ?_);simp only [wq.1, ↓reduceIte, Nat.reduceEqDiff, Nat.reduceLT, Nat.reduceLeDiff, Nat.reduceAdd, Nat.reduceSub, Int.reduceToNat, Nat.reduceDiv, Int.reduceLT, Int.reduceLE, Int.reduceNeg, Int.reduceBEq, Int.reduceBNe, Int.reduceAdd, Int.reduceSub, Nat.reduceBEq, reduceCtorEq, Nat.reduceMul, au, Tryz.results6];refine ag (vm ?_);simp only [wq.1, ↓reduceIte, Nat.reduceEqDiff, Nat.reduceLT, Nat.reduceLeDiff, Nat.reduceAdd, Nat.reduceSub, Int.reduceToNat, Nat.reduceDiv, Int.reduceLT, Int.reduceLE, Int.reduceNeg, Int.reduceBEq, Int.reduceBNe, Int.reduceAdd, Int.reduceSub, Nat.reduceBEq, reduceCtorEq, Nat.reduceMul, au, Tryz.results6, wBt];refine ⟨uM, by decide, by decide, uM, uM, Xd, uM, by decide, ⟨by decide, by decide⟩, ?_⟩;refine ah.ev (Ev.le (iY.cons (dB _) (iY.cons oN iY.nil)) (NC [[122], [111, 49]] [[122], [111, 49]])) rfl ?_;simp only [wq.1, seval];refine ⟨uM, ?_⟩;refine ah.ev e7 rfl ?_;simp only [wq.1, seval, wBl];refine vm ?_;simp only [wq.1, ↓reduceIte];exact aG.dat rfl
def grp (n : Nat) : By := if h : n < 128 then [UInt8.ofNat n] else UInt8.ofNat (n % 128 + 128) :: grp (n / 128)
termination_by n
decreasing_by omega
theorem Vu (h : H) (n : Int) : o9 P h 3 5 (vi n) = (True, .int .u8 (IntKind.u8.wrap n)) := by simp only [o9, tis]
def vgD : By → Nat
 | [] => 0
 | c :: l => c.toNat % 128 + 128 * vgD l
def YR (l : By) : Prop := vgD l ≤ 2147483647 ∧ grp (vgD l) = l
instance (l : By) : Decidable (YR l) := by unfold YR; infer_instance
end Go.Proofs.YtfcpapokknfeeaaGreatDoor
