/- Lemmas for the statement of this claim, part F17: they hold with no conditions but those that each one names. -/
import Derived.Test.YtfcpapokknfeeaaGreatDoorF16
import Derived.Test.YtfcpapokknfeeaaGreatDoorF12
import Derived.Test.YtfcpapokknfeeaaGreatDoorF04
set_option linter.unusedVariables false
set_option maxRecDepth 20000
set_option linter.unusedSimpArgs false
set_option linter.unnecessarySimpa false
namespace Go.Proofs.YtfcpapokknfeeaaGreatDoor
open Go Go.Proofs Go.Abs
theorem zkG {c : UInt8} : ∀ (l : List S) (b : Nat), (∀ x ∈ l, x.length ≤ 60) → b + l.length ≤ 100000 → (nmT c b l).length ≤ 80 * l.length
 | [], b, _, _ => by simp [nmT]
 | s :: l, b, h, hb => by
  rw [List.length_cons] at hb
  have h1 := zkG (c := c) l (b + 1) (fun x hx => h x (by simp [hx])) (by omega)
  have h2 := h s (by simp)
  have h3 := zcu (b : Int) (by omega) (by omega)
  simp only [nmT, List.length_cons, List.length_append]
  omega
theorem znU {m : Mo} (hf : m.few = true) : m.Sz ∧ (zcA m).length ≤ 100000 := by
 unfold Mo.few at hf
 simp only [Bool.and_eq_true] at hf
 obtain ⟨f0, f1, f2, f3⟩ := hf
 unfold zk7 at f1 f2 f3
 unfold Gr.few at f0
 simp only [Bool.and_eq_true, decide_eq_true_eq, List.all_eq_true] at f0 f1 f2 f3
 have a1 := zkG (c := 105) m.ins 0 (fun x hx => f1.2 x hx) (by omega)
 have a2 := zkG (c := 108) m.lat 0 (fun x hx => f2.2 x hx) (by omega)
 have a3 := zkG (c := 111) m.out 0 (fun x hx => f3.2 x hx) (by omega)
 refine ⟨⟨by omega, by omega, by omega, by omega, by omega, by omega, by omega⟩, ?_⟩
 unfold zcA
 rw [List.length_append, List.length_append]
 omega
theorem zgB {n : Int} (h0 : 0 ≤ n) (h1 : n ≤ 2147483647) : Ev TE 79 [vi n] (.tup [.str (grp n.toNat), vi 0]) := by
 have e1 := znS n
 have hp : zbj n = (grp n.toNat, 0) := by unfold zbj; rw [if_pos (by simp [zbp]; omega)]
 rw [hp] at e1
 exact e1
theorem ziO {g : Gr} (hg : GP g) (hi0 : 0 ≤ g.ins) (hn : g.next.length ≤ 4000) : Ev TE 39 [g.v] (.str (zbk g g.ands.length)) := by
 have hM : maxLen = 9223372036854775807 := rfl
 have hf0 := hg.f0
 have hf1 := hg.f1
 have wf : g.first = 1 + g.ins + g.next.length := rfl
 have hal := zcV hg
 have dg : V.dats [.agg [vi g.ins, zo g.next, zo g.init, prs g.ands, zo g.outs]] = true := by simp only [V.dats, V.dat, Bool.and_self]
 have hfst := zb8 g (by omega) (by omega) (by omega)
 unfold Gr.v at hfst ⊢
 refine zh Tryz.func39 rfl (by simp [nts]) (vm ?_)
 simp only [wq.down, seval, Tryz.results39]
 refine zb.ev hfst dg ?_
 simp only [wq.down, seval]
 refine zp (fun m f h => ∃ i, m + i = g.ands.length ∧ f.t 1 = .lp 0 0 ∧ f.t 3 = .str (zbk g i) ∧ f.t 4 = vi g.first ∧ f.t 5 = vi i ∧ f.d = [] ∧ h = [.cells [vi g.ins, zo g.next, zo g.init, prs g.ands, zo g.outs]]) g.ands.length ⟨0, by omega, by simp only [wq.down, seval], by simp only [wq.down, seval]; rfl, by simp only [wq.down, seval], rfl, rfl, rfl⟩ ?_
 rintro m f h ⟨i, hm, t1, t3, t4, t5, hd, rfl⟩
 refine vm ?_
 simp only [wq.down, ↓reduceIte, Nat.reduceEqDiff, Nat.reduceLT, Nat.reduceLeDiff, Nat.reduceAdd, Nat.reduceSub, Int.reduceToNat, Nat.reduceDiv, Int.reduceLT, Int.reduceLE, Int.reduceNeg, Int.reduceBEq, Int.reduceBNe, Int.reduceAdd, Int.reduceSub, Nat.reduceBEq, reduceCtorEq, Nat.reduceMul, zg, Tryz.results39, t1, t3, t4, t5, hd]
 refine vcB.mk (fun hlt => ?_) (fun hlt => ?_)
 ·simp only [decide_eq_true_eq, Int.ofNat_lt] at hlt
  have hw := zi (show i < maxLen by omega)
  have hgp := zcS hlt V.any
  have hga : g.ands.getD i (0, 0) = g.ands[i] := zw hlt
  obtain ⟨q1, q2, q3⟩ := hg.at_ i hlt
  have v1 : IntKind.i64.wrap (g.first + (i : Int)) = g.first + i := zD (by omega) (by omega)
  have v2 : IntKind.i64.wrap (2 * (g.first + (i : Int))) = 2 * (g.first + i) := zD (by omega) (by omega)
  have v3 : IntKind.i64.wrap (2 * (g.first + (i : Int)) - g.ands[i].1) = 2 * (g.first + i) - g.ands[i].1 := zD (by omega) (by omega)
  have v4 : IntKind.i64.wrap (g.ands[i].1 - g.ands[i].2) = g.ands[i].1 - g.ands[i].2 := zD (by omega) (by omega)
  have e1 := zgB (n := 2 * (g.first + (i : Int)) - g.ands[i].1) (by omega) (by omega)
  have e2 := zgB (n := g.ands[i].1 - g.ands[i].2) (by omega) (by omega)
  have hsu := zc9 (g := g) (i := i)
  have hap : znX g i = grp (2 * (g.first + (i : Int)) - g.ands[i].1).toNat ++ grp (g.ands[i].1 - g.ands[i].2).toNat := by unfold znX; rw [hga]
  have hle := hal (i + 1) (by omega)
  rw [hsu, hap, List.length_append, List.length_append] at hle
  rw [hap, ← List.append_assoc] at hsu
  simp only [wq.down, ↓reduceIte, Nat.reduceEqDiff, Nat.reduceLT, Nat.reduceLeDiff, Nat.reduceAdd, Nat.reduceSub, Int.reduceToNat, Nat.reduceDiv, Int.reduceLT, Int.reduceLE, Int.reduceNeg, Int.reduceBEq, Int.reduceBNe, Int.reduceAdd, Int.reduceSub, Nat.reduceBEq, reduceCtorEq, Nat.reduceMul, zg, Tryz.results39, t1, t3, t4, t5, hd, hgp, v1, v2, v3]
  refine ⟨⟨by omega, by omega⟩, by decide, ?_⟩
  refine zb.ev e1 rfl ?_
  simp only [wq.down, ↓reduceIte, Nat.reduceEqDiff, Nat.reduceLT, Nat.reduceLeDiff, Nat.reduceAdd, Nat.reduceSub, Int.reduceToNat, Nat.reduceDiv, Int.reduceLT, Int.reduceLE, Int.reduceNeg, Int.reduceBEq, Int.reduceBNe, Int.reduceAdd, Int.reduceSub, Nat.reduceBEq, reduceCtorEq, Nat.reduceMul, zg, Tryz.results39, zX, t1, t3, t4, t5, hd, hgp, v4]
  refine ⟨by decide +kernel, ⟨by omega, by omega⟩, by decide, ⟨by omega, by omega⟩, by decide, zeb.mk e2 (by decide +kernel) rfl ?_⟩
  simp only [wq.down, ↓reduceIte, Nat.reduceEqDiff, Nat.reduceLT, Nat.reduceAdd, t3, t5, hw]
  exact ⟨by omega, by omega, .inl ⟨m - 1, by omega, i + 1, by omega, by simp only [wq.down, seval, t1], by simp only [wq.down, seval, hsu], by simp only [wq.down, seval, t4], by simp only [wq.down, ↓reduceIte], by simp only [wq.down, hd], rfl⟩⟩
 ·simp only [decide_eq_false_iff_not, Int.ofNat_lt] at hlt
  have : i = g.ands.length := by omega
  subst this
  simp only [wq.down, seval, t3, hd]
  exact zn.dat rfl
theorem znV {g : Gr} (hg : g.chk ≠ 0) (bn : g.next.length ≤ 4000) (bi : g.init.length ≤ 4000) (ba : g.ands.length ≤ 4000) (bo : g.outs.length ≤ 4000) : Ev TE 43 [g.v] (.tup [(⟨0, [], [], [], []⟩ : Gr).v, vi g.chk]) := by
 have hck := zeo g bn bi ba bo
 have dg : V.dats [g.v] = true := by simp only [Gr.v, V.dats, V.dat, Bool.and_self]
 unfold Gr.v at hck dg ⊢
 refine zh Tryz.func43 rfl (by simp [nts]) (vm ?_)
 simp only [wq.down, seval, Tryz.results43]
 refine zb.ev hck dg ?_
 simp only [wq.down, seval, show (g.chk != 0) = true by simpa using hg]
 exact zn.tup (zj.cons (zn.agg (zj.cons (zn.dat rfl) (zj.cons zn.nils (zj.cons zn.nils (zj.cons zn.nils (zj.cons zn.nils zj.nil)))))) (zj.dat rfl))
theorem zlE (g : Gr) (bn : g.next.length ≤ 4000) (bi : g.init.length ≤ 4000) (ba : g.ands.length ≤ 4000) (bo : g.outs.length ≤ 4000) : Ev TE 16 [g.v] (.tup [.str (ziF g).1, vi (ziF g).2]) := by
 have dg : ∀ g : Gr, V.dats [g.v] = true := fun g => by simp only [Gr.v, V.dats, V.dat, Bool.and_self]
 unfold ziF
 by_cases hc : g.chk = 0
 ·rw [if_pos hc]
  have hN := ziJ hc
  have hx : (zas g).chk = 0 := zae (zae hc _) _
  have gs : GSm (zas g) := GSm.of hx
  have hA := ziO (GP.of hx (zd3 hc)) gs.i0 (by have := gs.i2; have := gs.i0; omega)
  obtain ⟨x, hxe⟩ : ∃ x, x = zas g := ⟨_, rfl⟩
  rw [← hxe] at hN hA ⊢
  have dx := dg x
  have dg' := dg g
  unfold Gr.v at hN hA dx dg' ⊢
  refine zh Tryz.func16 rfl (by simp [nts]) (vm ?_)
  simp only [wq.down, seval, Tryz.results16]
  refine zb.ev hN dg' ?_
  simp only [wq.down, seval]
  refine zb.ev hA dx ?_
  simp only [wq.down, seval]
  exact zn.dat rfl
 ·rw [if_neg hc]
  have hN := znV hc bn bi ba bo
  have dg' := dg g
  unfold Gr.v at hN dg' ⊢
  refine zh Tryz.func16 rfl (by simp [nts]) (vm ?_)
  simp only [wq.down, seval, Tryz.results16]
  refine zb.ev hN dg' ?_
  simp only [wq.down, seval, show (g.chk != 0) = true by simpa using hc]
  exact zn.dat rfl
set_option maxHeartbeats 8000000 in
theorem zlF (m : Mo) (hs : m.Sz) : Ev TE 14 [m.v] (.tup [.str (zfS m).1, vi (zfS m).2]) := by
 have hM : maxLen = 9223372036854775807 := rfl
 have hn := zlD m hs
 unfold zin at hn
 unfold zfS
 have dm : ∀ m : Mo, V.dats [m.v] = true := fun m => by simp only [Mo.v, V.dats, V.dat, Bool.and_self]
 by_cases hc : m.chk = 0
 ·rw [if_pos hc] at hn ⊢
  have hgc := (zaX hc).1
  have hx : (zas m.g).chk = 0 := zae (zae hgc _) _
  have gs : GSm (zas m.g) := GSm.of hx
  have gp := GP.of hx (zd3 hgc)
  have hal := zcV gp (zas m.g).ands.length (Nat.le_refl _)
  obtain ⟨n, hnm⟩ : ∃ n, n = m.norm := ⟨_, rfl⟩
  rw [← hnm] at hn ⊢
  have hng : zas m.g = n.g := by rw [hnm]; rfl
  rw [hng] at gs gp hal
  have hnm4 := zeG hc
  have hni : n.ins = m.ins ∧ n.lat = m.lat ∧ n.out = m.out := by rw [hnm]; exact ⟨rfl, rfl, rfl⟩
  have bl1 : n.ins.length ≤ 10000 := by rw [hni.1]; have := hs.b5; omega
  have bl2 : n.lat.length ≤ 10000 := by rw [hni.2.1]; have := hs.b6; omega
  have bl3 : n.out.length ≤ 10000 := by rw [hni.2.2]; have := hs.b7; omega
  have htl := zko n bl1 bl2 bl3 (by rw [hni.1, hni.2.1, hni.2.2]; exact hnm4)
  have hta := zpg n (by omega) (by omega) (by omega) (by omega)
  have g0 := gs.i0
  have g2 := gs.i2
  have g3 := gs.i3
  have hA := ziO gp g0 (by omega)
  obtain ⟨L1, L2, L3⟩ := zpS gs
  have wf : n.g.first = 1 + n.g.ins + n.g.next.length := rfl
  have hfst := zb8 n.g (by omega) (by omega) (by omega)
  have w3 : IntKind.i64.wrap (n.g.first - 1) = n.g.first - 1 := zD (by omega) (by omega)
  have w4 : IntKind.i64.wrap (n.g.first - 1 + (n.g.ands.length : Int)) = n.g.first - 1 + (n.g.ands.length : Int) := zD (by omega) (by omega)
  have dG : V.dats [.agg [vi n.g.ins, zo n.g.next, zo n.g.init, prs n.g.ands, zo n.g.outs]] = true := by simp only [V.dats, V.dat, Bool.and_self]
  have dG' : ∀ i : Nat, V.dats [.agg [vi n.g.ins, zo n.g.next, zo n.g.init, prs n.g.ands, zo n.g.outs], vi i] = true := fun i => by simp only [V.dats, V.dat, Bool.and_self]
  have hall : tPO n.g n.g.outs.length ++ zbk n.g n.g.ands.length ++ zcA n = znE n := by simp [tPO, tPL, tP1, znE, zss]
  unfold Gr.v at hfst hA
  refine zh Tryz.func14 rfl (by simp [nts]) ?_
  refine za (vm ?_)
  simp only [wq.down, seval, Tryz.results14]
  refine za (vm ?_)
  simp only [wq.down, seval]
  refine zb.ev hn (dm _) ?_
  simp only [wq.down, seval]
  refine za (vm ?_)
  simp only [wq.down, seval]
  refine za (vm ?_)
  simp only [wq.down, seval]
  refine za (vm ?_)
  simp only [wq.down, ↓reduceIte, Nat.reduceEqDiff, Nat.reduceLT, Nat.reduceAdd, reduceCtorEq]
  refine ⟨by decide +kernel, zeb.mk hfst (by decide +kernel) dG ?_⟩
  simp only [wq.down, ↓reduceIte, Nat.reduceEqDiff, Nat.reduceLT, Nat.reduceLeDiff, Nat.reduceAdd, reduceCtorEq, Nat.reduceMul, w3, w4]
  refine ⟨⟨rfl, by decide⟩, zeb.mk (zkF (zdd n.g) gs.head (by simp [zdd])) (by decide +kernel) rfl ?_⟩
  simp only [wq.down, seval]
  refine ⟨by unfold tP1 at L1; rw [List.length_append] at L1; simp at L1; omega, ?_⟩
  refine za (vm ?_)
  simp only [wq.down, Nat.reduceLT]
  refine zp (fun k f h => ∃ i, k + i = n.g.next.length ∧ f.t 4 = .lp 1 0 ∧ f.t 6 = .lp 2 0 ∧ f.t 7 = .str (tPL n.g i) ∧ f.t 8 = vi i ∧ f.d = [] ∧ h = hRP m n) n.g.next.length ⟨0, by omega, by simp only [wq.down, seval], by simp only [wq.down, seval], by simp only [wq.down, seval]; simp [tPL, tP1, zjI], rfl, rfl, rfl⟩ ?_
  rintro k f h ⟨i, hk, t4, t6, t7, t8, hd, rfl⟩
  refine za (vm ?_)
  simp only [wq.down, seval, t6, t8]
  refine vcB.mk (fun hlt => ?_) (fun hlt => ?_)
  ·simp only [decide_eq_true_eq, Int.ofNat_lt] at hlt
   have hw := zi (show i < maxLen by omega)
   obtain ⟨la1, la2, _⟩ := zjJ gs hlt
   have e0 : Ev TE _ _ (zo (zlG n.g i)) := znT n.g i g0 (by omega) hlt (by omega) gs.hil
   unfold Gr.v at e0
   have e1 := zkE (zlG n.g i) la1 (by omega)
   have hsu := zkA n.g i
   have hle := L2 (i + 1) (by omega)
   have hle2 := congrArg List.length hsu
   rw [List.length_append] at hle2
   simp only [wq.down]
   refine vm ?_
   simp only [wq.down, seval, t6, t7, t8]
   refine zb.ev e0 (dG' i) ?_
   simp only [wq.down, seval]
   refine zb.ev e1 (by simp only [V.dats, V.dat, Bool.and_self]) ?_
   simp only [wq.down, seval, t8, hw]
   exact ⟨by omega, .inl ⟨k - 1, by omega, i + 1, by omega, by simp only [wq.down, seval, t4], by simp only [wq.down, seval, t6], by simp only [wq.down, seval, hsu], by simp only [wq.down, ↓reduceIte], by simp only [wq.down, hd], rfl⟩⟩
  simp only [decide_eq_false_iff_not, Int.ofNat_lt] at hlt
  have : i = n.g.next.length := by omega
  subst this
  simp only [wq.down]
  refine za ?_
  refine vm ?_
  simp only [wq.down, Nat.reduceLT]
  refine zp (fun k f h => ∃ i, k + i = n.g.outs.length ∧ f.t 4 = .lp 1 0 ∧ f.t 6 = .lp 2 0 ∧ f.t 7 = .str (tPO n.g i) ∧ f.t 9 = vi i ∧ f.d = [] ∧ h = hRP m n) n.g.outs.length ⟨0, by omega, by simp only [wq.down, seval, t4], by simp only [wq.down, seval, t6], by simp only [wq.down, seval, t7]; simp [tPO, zhh], rfl, by simp only [wq.down, hd], rfl⟩ ?_
  clear t4 t6 t7 t8 hd hlt hk f
  rintro k f h ⟨i, hk, t4, t6, t7, t9, hd, rfl⟩
  refine za (vm ?_)
  simp only [wq.down, seval, t6, t9]
  refine vcB.mk (fun hlt => ?_) (fun hlt => ?_)
  ·simp only [decide_eq_true_eq, Int.ofNat_lt] at hlt
   have hw := zi (show i < maxLen by omega)
   have hg : (n.g.outs.map vi).getD i .any = vi (n.g.outs.getD i 0) := by rw [zeL hlt, zw hlt]
   have e1 := zkF [n.g.outs.getD i 0] (gs.o1 hlt) (by simp)
   have hsu := zkB n.g i
   have hle := L3 (i + 1) (by omega)
   have hle2 := congrArg List.length hsu
   rw [List.length_append] at hle2
   simp only [wq.down]
   refine vm ?_
   simp only [wq.down, ↓reduceIte, Nat.reduceEqDiff, Nat.reduceLT, Nat.reduceAdd, reduceCtorEq, Nat.reduceMul, t6, t7, t9, hg]
   refine ⟨⟨by omega, by omega⟩, ⟨rfl, by decide⟩, ?_⟩
   refine zb.ev e1 rfl ?_
   simp only [wq.down, seval, t9, hw]
   exact ⟨by omega, .inl ⟨k - 1, by omega, i + 1, by omega, by simp only [wq.down, seval, t4], by simp only [wq.down, seval, t6], by simp only [wq.down, seval, hsu], by simp only [wq.down, ↓reduceIte], by simp only [wq.down, hd], rfl⟩⟩
  simp only [decide_eq_false_iff_not, Int.ofNat_lt] at hlt
  have : i = n.g.outs.length := by omega
  subst this
  have hle := L3 n.g.outs.length (by omega)
  unfold Mo.v at hta
  simp only [wq.down]
  refine vm ?_
  simp only [wq.down, seval, t6, t7]
  refine ⟨by decide +kernel, zeb.mk hA (by decide +kernel) dG ?_⟩
  simp only [wq.down, seval, t4]
  refine ⟨by omega, zeb.mk hta (by decide +kernel) (by simp only [V.dats, V.dat, Bool.and_self]) ?_⟩
  simp only [wq.down, seval, hd]
  exact ⟨by omega, by rw [hall]; exact zn.dat rfl⟩
 ·rw [if_neg hc] at hn ⊢
  refine zh Tryz.func14 rfl (by simp [nts]) (vm ?_)
  simp only [wq.down, seval, Tryz.results14]
  refine zb.ev hn (dm _) ?_
  simp only [wq.down, seval, show (m.chk != 0) = true by simpa using hc]
  exact zn.dat rfl
set_option maxHeartbeats 4000000 in
theorem ev_packedPrints (m : Mo) (hs : m.g.Sm) : Ev TE 4 [m.v] (.bool true) := by
 have hM : maxLen = 9223372036854775807 := rfl
 have e1 := zoP m
 have e2 := ziN m hs
 have e4 := zhr m.g hs
 have dm : V.dats [m.v] = true := by simp only [Mo.v, V.dats, V.dat, Bool.and_self]
 have dg : V.dats [m.g.v] = true := by simp only [Gr.v, V.dats, V.dat, Bool.and_self]
 unfold Mo.v at e1 e2 dm
 unfold Gr.v at e4 dg
 refine zh Tryz.func4 rfl (by simp [nts]) ?_
 unfold Mo.v
 refine za (vm ?_)
 simp only [wq.down, Nat.reduceLT, Tryz.results4]
 refine za (vm ?_)
 simp only [wq.down, Nat.reduceLT]
 refine zb.ev zlC rfl ?_
 simp only [wq.down, seval]
 refine za (vm ?_)
 simp only [wq.down, seval]
 refine za (vm ?_)
 simp only [wq.down, seval]
 refine zb.ev e1 dm ?_
 simp only [wq.down, seval]
 cases hf : m.few with
 | false =>
  refine za (vm ?_)
  simp only [wq.down, seval]
  exact zn.dat rfl
 | true =>
  obtain ⟨hz, ht⟩ := znU hf
  have e3 := zlF m hz
  have e5 := zlE m.g hz.b1 hz.b2 hz.b3 hz.b4
  unfold Mo.v at e3
  unfold Gr.v at e5
  refine za (vm ?_)
  simp only [wq.down, seval]
  refine za (vm ?_)
  simp only [wq.down, seval]
  refine zb.ev e2 dm ?_
  simp only [wq.down, seval]
  refine za (vm ?_)
  simp only [wq.down, seval]
  refine zb.ev e3 dm ?_
  simp only [wq.down, seval]
  refine za (vm ?_)
  simp only [wq.down, seval]
  refine zb.ev e4 dg ?_
  simp only [wq.down, seval]
  refine za (vm ?_)
  simp only [wq.down, seval]
  refine zb.ev e5 dg ?_
  simp only [wq.down, seval]
  refine vm ?_
  simp only [wq.down, seval]
  exact zr rfl (by simp)
end Go.Proofs.YtfcpapokknfeeaaGreatDoor
