/- Lemmas for the statement of this claim, part F16: they hold with no conditions but those that each one names. -/
import Derived.Test.YtfcpapokknfeeaaGreatDoorF15
import Derived.Test.YtfcpapokknfeeaaGreatDoorF09
import Derived.Test.YtfcpapokknfeeaaGreatDoorF12
import Derived.Test.YtfcpapokknfeeaaGreatDoorA12
import Derived.Test.YtfcpapokknfeeaaGreatDoorF14
set_option linter.unusedVariables false
set_option maxRecDepth 20000
set_option linter.unusedSimpArgs false
set_option linter.unnecessarySimpa false
namespace Go.Proofs.YtfcpapokknfeeaaGreatDoor
open Go Go.Proofs Go.Abs
theorem zpe {g : Gr} (hg : g.chk ≠ 0) (hs : g.Sm) : Ev TE 40 [g.v] (.tup [(⟨0, [], [], [], []⟩ : Gr).v, vi g.chk]) := by
 have hck := zek g hs
 have dg : V.dats [g.v] = true := by simp only [Gr.v, V.dats, V.dat, Bool.and_self]
 unfold Gr.v at hck dg ⊢
 refine zh Tryz.func40 rfl (by simp [nts]) (vm ?_)
 simp only [wq.down, seval, Tryz.results40]
 refine zb.ev hck dg ?_
 simp only [wq.down, seval, show (g.chk != 0) = true by simpa using hg]
 exact zn.tup (zj.cons (zn.agg (zj.cons (zn.dat rfl) (zj.cons zn.nils (zj.cons zn.nils (zj.cons zn.nils (zj.cons zn.nils zj.nil)))))) (zj.dat rfl))
theorem zc9 {g : Gr} {i : Nat} : zbk g (i + 1) = zbk g i ++ znX g i := by unfold zbk; rw [zeZ]
theorem zkx {g : Gr} {i : Nat} : znX g i ≠ [] := by
 intro h
 have := congrArg List.length h
 unfold znX at this
 rw [List.length_append, List.length_nil] at this
 have := zqY (2 * (g.first + (i : Int)) - (g.ands.getD i (0, 0)).1).toNat
 omega
theorem zcV {g : Gr} (hg : GP g) : ∀ i, i ≤ g.ands.length → (zbk g i).length ≤ 4 * i
 | 0, _ => by simp [zbk]
 | i + 1, h => by
  rw [zc9, List.length_append]
  have := zcV hg i (by omega)
  have := zhm hg (i := i) (by omega)
  omega
def InD (g : Gr) (L : (Nat → V) → LoopState → Option Code → O) (i : Nat) (h : H) (k : Nat → Bool) : Prop :=
 (∀ j, j < 4 → k j = false) ∧ ∃ t Y, t 5 = .lp 1 0 ∧ (∀ o ∈ Y, ∀ p, O.drop p o = o) ∧
  ((i = 0 ∧ h = [.cells [vi g.ins, zo g.next, zo g.init, prs g.ands, zo g.outs], .typed 57 [.nilp, .nils], .misc .dfd, L t .ready none] ++ Y) ∨
   (0 < i ∧ ∃ b, Y[b]? = some (.typed 5 ((zbk g i).map vb)) ∧ h = [.cells [vi g.ins, zo g.next, zo g.init, prs g.ands, zo g.outs], .typed 57 [.lp 1 0, .ls (b + 4) 1 0 (zbk g i).length (zbk g i).length], .misc .dfd, L t .ready none] ++ Y))
set_option maxHeartbeats 8000000 in
theorem zhr (g : Gr) (hs : g.Sm) : Ev TE 15 [g.v] (.tup [.str (ziF g).1, vi (ziF g).2]) := by
 have hM : maxLen = 9223372036854775807 := rfl
 unfold ziF
 have dg : V.dats [g.v] = true := by simp only [Gr.v, V.dats, V.dat, Bool.and_self]
 by_cases hc : g.chk = 0
 ·rw [if_pos hc]
  have hN := zim hc
  have hx : (zas g).chk = 0 := zae (zae hc _) _
  have hgp := GP.of hx (zd3 hc)
  have hd1 := znO (zas g)
  obtain ⟨x, hxe⟩ : ∃ x, x = zas g := ⟨_, rfl⟩
  rw [← hxe] at hN hx hgp hd1 ⊢
  have dx : V.dats [x.v] = true := by simp only [Gr.v, V.dats, V.dat, Bool.and_self]
  have hal := zcV hgp
  have hf1 := hgp.f1
  have hf0 := hgp.f0
  have i0 := (zI hx).i0
  unfold Gr.v at hN hd1 dg dx ⊢
  refine zh Tryz.func15 rfl (by simp [nts]) ?_
  refine za (vm ?_)
  simp only [wq.down, seval, Tryz.results15]
  refine za (vm ?_)
  simp only [wq.down, seval]
  refine zb.ev hN dg ?_
  simp only [wq.down, seval]
  refine za (vm ?_)
  simp only [wq.down, seval]
  refine za (zbc ?_)
  refine zap rfl rfl ?_
  refine zgk (t := 57) (q := ⟨.struct [(0, 54), (1, 55)], 2, 32, .agg [.nilp, .nils]⟩) rfl (by simp only [wq.down]) rfl ?_
  refine zak ?_
  simp only [wq.down]
  refine za ?_
  refine za (vm ?_)
  simp only [wq.down, seval]
  refine zb.ev hd1 dx ?_
  simp only [wq.down]
  refine zy ?_
  refine zcY (n := 39) (q := 84) (first := []) (captured := [.ip (.agg [vi x.ins, zo x.next, zo x.init, prs x.ands, zo x.outs])]) (by simp only [wq.down, ↓reduceIte]) (by simp only [wq.down, ↓reduceIte]) rfl (by decide) ?_
  intro L hLd gets
  refine zb.mono (zhp hgp i0 (id := 3) (I := InD x L) ⟨fun _ _ => rfl, _, [], ?_, fun o ho => (by cases ho), .inl ⟨rfl, rfl⟩⟩ ?_) ?_
  ·simp only [wq.down, seval]
  ·rintro i h' k hi hk3 ⟨hk, t, Y, ht, hY, hcase⟩
   obtain ⟨q1, q2, q3⟩ := hgp.at_ i hi
   have ei : x.ands.getD i (0, 0) = x.ands[i] := zw hi
   have hli := hal i (by omega)
   have hli1 := hal (i + 1) (by omega)
   obtain ⟨d1, hd1'⟩ : ∃ d : Nat, 2 * (x.first + (i : Int)) - x.ands[i].1 = d := ⟨_, (Int.toNat_of_nonneg (a := 2 * (x.first + (i : Int)) - x.ands[i].1) (by omega)).symm⟩
   obtain ⟨d2, hd2'⟩ : ∃ d : Nat, x.ands[i].1 - x.ands[i].2 = d := ⟨_, (Int.toNat_of_nonneg (a := x.ands[i].1 - x.ands[i].2) (by omega)).symm⟩
   have hap : znX x i = grp d1 ++ grp d2 := by unfold znX; rw [ei, hd1', hd2', Int.toNat_natCast, Int.toNat_natCast]
   have hne : grp d1 ++ grp d2 ≠ [] := by rw [← hap]; exact zkx
   have hD1 := ze0 (d1 : Int)
   have hD2 := ze0 (d2 : Int)
   rw [show zbj (d1 : Int) = (grp d1, 0) by unfold zbj zbp; rw [if_pos (by simp; omega), Int.toNat_natCast]] at hD1
   rw [show zbj (d2 : Int) = (grp d2, 0) by unfold zbj zbp; rw [if_pos (by simp; omega), Int.toNat_natCast]] at hD2
   have hs2 := zc9 (g := x) (i := i)
   rw [hap] at hs2
   rw [hd1', hd2']
   obtain ⟨pr, hpr, hprd⟩ : ∃ pr : O, pr = .cells [vi x.ands[i].1, vi x.ands[i].2] ∧ ∀ p, O.drop p pr = pr := ⟨_, rfl, fun p => rfl⟩
   rw [← hpr]
   have hY' : ∀ o ∈ Y ++ [pr], ∀ p, O.drop p o = o := fun o ho p => by
    rcases List.mem_append.1 ho with h | h
    ·exact hY o h p
    ·rw [List.mem_singleton] at h; rw [h]; exact hprd p
   rcases hcase with ⟨rfl, rfl⟩ | ⟨hpos, b, hb, rfl⟩
   ·rw [List.append_assoc]
    refine gets _ _ _ t rfl rfl (fun lb => ?_)
    refine vm ?_
    simp only [wq.down, seval, zfg]
    refine ⟨t, rfl, ?_⟩
    refine zy ?_
    refine za (vm ?_)
    simp only [wq.down, seval]
    refine zb.ev hD1 rfl ?_
    simp only [wq.down, seval]
    refine za (vm ?_)
    simp only [wq.down, seval]
    refine zb.ev hD2 rfl ?_
    simp only [wq.down, seval]
    refine vm ?_
    simp only [wq.down, seval, ht]
    have hlen : (grp d1 ++ grp d2).length ≤ 20000 := by
     have := zhm hgp hi
     rw [← hap]; omega
    refine ⟨by rw [List.length_append] at hlen; omega, zfx zcZ (id := 1) (a := .nilp) (grp d1 ++ grp d2) (.inl rfl) rfl hne (by omega) ?_⟩
    simp only [wq.down, ↓reduceIte, zeA, XE.block, XE.jump, Option.isNone_none]
    refine ⟨t, _, rfl, hk, t, Y ++ [pr] ++ [.typed 5 ((zbk x 1).map vb)], ht, fun o ho p => ?_, .inr ⟨by decide, Y.length + 1, ?_, ?_⟩⟩
    ·rcases List.mem_append.1 ho with h | h
     ·exact hY' o h p
     ·rw [List.mem_singleton] at h; rw [h]; simp only [O.drop, zc0]
    ·rw [show Y.length + 1 = (Y ++ [pr]).length by simp, List.getElem?_append_right (Nat.le_refl _), Nat.sub_self]; try rfl
    ·have e0 : zbk x 1 = grp d1 ++ grp d2 := hs2
     rw [e0]
     simp only [List.length_append, List.map_append, List.cons_append, List.nil_append]
   ·rw [List.append_assoc]
    refine gets _ _ _ t rfl rfl (fun lb => ?_)
    refine vm ?_
    simp only [wq.down, seval, zfg]
    refine ⟨t, rfl, ?_⟩
    refine zy ?_
    refine za (vm ?_)
    simp only [wq.down, seval]
    refine zb.ev hD1 rfl ?_
    simp only [wq.down, seval]
    refine za (vm ?_)
    simp only [wq.down, seval]
    refine zb.ev hD2 rfl ?_
    simp only [wq.down, seval]
    refine vm ?_
    simp only [wq.down, seval, ht]
    have hlen : (grp d1 ++ grp d2).length ≤ 20000 := by
     have := zhm hgp hi
     rw [← hap]; omega
    have hbl : b < Y.length := (List.getElem?_eq_some_iff.1 hb).1
    have hbq : (O.cells [vi x.ins, zo x.next, zo x.init, prs x.ands, zo x.outs] :: O.typed 57 [V.lp 1 0, V.ls (b + 4) 1 0 (zbk x i).length (zbk x i).length] :: O.misc Misc.dfd :: L t LoopState.busy none :: (Y ++ [pr]) : H)[b + 4]? = some (.typed 5 ((zbk x i).map vb)) := by
     show (Y ++ [pr])[b]? = _
     rw [List.getElem?_append_left hbl]; exact hb
    refine ⟨by rw [List.length_append] at hlen; omega, zg8 zcZ (id := 1) (bid := b + 4) (a := .lp 1 0) (zbk x i) (grp d1 ++ grp d2) (.inr rfl) (by omega) rfl hbq (by omega) ?_⟩
    simp only [wq.down, ↓reduceIte, zX, zeA, XE.block, XE.jump, Option.isNone_none]
    have h3b : (3 == b + 4) = false := by simp
    have hmY : Y.map (O.drop fun j => j == b + 4) = Y := by
     conv => rhs; rw [← List.map_id Y]
     exact List.map_congr_left fun o ho => hY o ho _
    refine ⟨h3b, fun j => (t j).drop (fun j => j == b + 4), _, by rw [hLd], fun j hj => ?_, fun j => (t j).drop (fun j => j == b + 4), (Y ++ [pr]).set b (.typed 5 ((zbk x (i + 1)).map vb)), ?_, fun o ho p => ?_, .inr ⟨by omega, b, ?_, ?_⟩⟩
    ·show (k j || j == b + 4) = false
     rw [hk j hj]; simp; omega
    ·show V.drop (fun j => j == b + 4) (t 5) = _
     rw [ht]; simp [V.drop]
    ·rcases List.mem_or_eq_of_mem_set ho with h | h
     ·exact hY' o h p
     ·rw [h]; simp only [O.drop, zc0]
    ·rw [List.getElem?_set_self (by simp; omega)]
    ·rw [hmY, hprd, hs2]
     simp only [List.length_append, List.map_append, List.cons_append, List.nil_append]
  ·rintro ae h' p ⟨hp3, ⟨w, rfl⟩, hk, t, Y, ht, hY, hcase⟩
   have k0 := hk 0 (by decide)
   have k1 := hk 1 (by decide)
   have k2 := hk 2 (by decide)
   have k3 := hk 3 (by decide)
   have hfin : h'[3]? = some (L t .ready none) := by
    rcases hcase with ⟨_, rfl⟩ | ⟨_, b, _, rfl⟩ <;> rfl
   refine ⟨?_, k3, t, _, none, (by decide), hfin, ?_⟩
   ·intro i hi
    have hi : i = 2 := by
     rcases List.mem_cons.1 hi with h | h
     ·exact h
     ·cases h
    subst hi
    exact k2
   ·simp only [wq.down, Nat.reduceAdd, zkT]
    generalize hFF : Fr.drop _ _ = FF
    have u5 : FF.t 5 = .lp 1 0 := by rw [← hFF]; show V.drop p (.lp 1 0) = _; simp [V.drop, k1]
    have ud : FF.d = [2] := by rw [← hFF]; rfl
    clear hFF
    rcases hcase with ⟨h0, rfl⟩ | ⟨hpos, b, hb, rfl⟩
    ·refine za (vm ?_)
     simp only [wq.down, Nat.reduceLT, u5]
     refine zkl (T := 57) (a := .nilp) rfl ?_
     simp only [wq.down, seval]
     refine vm ?_
     simp only [wq.down, seval, ud, zbz]
     rw [show zbk x x.ands.length = [] by rw [h0]; rfl]
     exact zn.dat rfl
    ·refine za (vm ?_)
     simp only [wq.down, ↓reduceIte, Nat.reduceEqDiff, Nat.reduceLT, Nat.reduceLeDiff, Nat.reduceAdd, Nat.reduceSub, Int.reduceToNat, Nat.reduceDiv, Int.reduceLT, Int.reduceLE, Int.reduceNeg, Int.reduceBEq, Int.reduceBNe, Int.reduceAdd, Int.reduceSub, Nat.reduceBEq, reduceCtorEq, Nat.reduceMul, zg, Tryz.results15, u5, ud]
     have hbl : b < Y.length := (List.getElem?_eq_some_iff.1 hb).1
     refine zji (id := 1) (bid := b + 4) (a := .lp 1 0) (zbk x x.ands.length) rfl (by show Y[b]? = _; exact hb) (fun h => ?_) (by have := hal x.ands.length (Nat.le_refl _); omega) ?_
     ·obtain ⟨n, hn⟩ : ∃ n, x.ands.length = n + 1 := ⟨x.ands.length - 1, by omega⟩
      rw [hn, zc9, List.append_eq_nil_iff] at h
      exact zkx h.2
     ·simp only [wq.down, ↓reduceIte, Nat.reduceEqDiff, Nat.reduceLT, Nat.reduceLeDiff, Nat.reduceAdd, Nat.reduceSub, Int.reduceToNat, Nat.reduceDiv, Int.reduceLT, Int.reduceLE, Int.reduceNeg, Int.reduceBEq, Int.reduceBNe, Int.reduceAdd, Int.reduceSub, Nat.reduceBEq, reduceCtorEq, Nat.reduceMul, zg, Tryz.results15, zX, u5, ud]
      refine ⟨by simp, ?_⟩
      refine vm ?_
      simp only [wq.down, seval, ud, zbz]
      exact zn.dat rfl
 ·rw [if_neg hc]
  have hN := zpe hc hs
  have hne : (g.chk != 0) = true := by simpa using hc
  unfold Gr.v at hN dg ⊢
  refine zh Tryz.func15 rfl (by simp [nts]) ?_
  refine za (vm ?_)
  simp only [wq.down, seval, Tryz.results15]
  refine za (vm ?_)
  simp only [wq.down, seval]
  refine zb.ev hN dg ?_
  simp only [wq.down, seval]
  refine za (vm ?_)
  simp only [wq.down, seval, hne]
  exact zn.dat rfl
abbrev hB (m : Mo) (out : S) (X : H) : H := mbO m :: gbO m.g :: .typed 57 [.lp 2 0, .ls 3 1 0 out.length out.length] :: .typed 5 (out.map vb) :: X
theorem zky {m : Mo} {out s : S} {X : H} (hX : zqU X) (hs : s ≠ []) (hl : out.length + s.length ≤ 20000000000000) {R : AEnd → H → (Nat → Bool) → Prop} (hr : R (.ret (.tup [vi s.length, .nili])) (hB m (out ++ s) X) (· == 3)) : zb TE 27 [.lp 2 0, .str s] (hB m out X) R := by
 refine zg8 zcZ out s (.inr rfl) (by decide) rfl rfl hl ?_
 have hm : X.map (O.drop fun j => j == 3) = X := by
  conv => rhs; rw [← List.map_id X]
  exact List.map_congr_left fun o ho => hX o ho _
 have e : (((hB m out X).map (O.drop (· == 3))).set 3 (O.typed 5 ((out ++ s).map vb))).set 2 (.typed 57 [.lp 2 0, .ls 3 1 0 (out ++ s).length (out ++ s).length]) = hB m (out ++ s) X := by
  show mbO m :: gbO m.g :: _ :: _ :: X.map (O.drop fun j => j == 3) = _
  rw [hm]
 rw [e]
 exact hr
theorem znQ {h : H} {id : Nat} {cs ex : List V} {L : Cl} (hc : h[id]? = some (.cells cs)) (hx : cs = L.map vi ++ ex) {len cap : Nat} (hl : len = L.length := by rfl) : zn TE h (.ls id 1 0 len cap) (zo L) :=
 zg5 (cs := L.map vi) (ex := ex) (by rw [hc, hx]) (zj.dat (zej L)) (zmO L) (zjd L) (by simpa using hl)
def zkz : Plan := .take 1 <| .alt 0 (.alt 2 (.one 3 <| .one 4 <| .one 5 <| .take 6 <| .take 7 <| .fin) (.one 3 (.alt 2 (.one 4 <| .one 5 <| .take 6 <| .take 7 <| .fin) (.one 4 (.one 2 <| .one 5 <| .take 6 <| .take 7 <| .fin))))) (.one 3 (.one 0 <| .alt 2 (.one 4 <| .one 5 <| .take 6 <| .take 7 <| .fin) (.one 4 (.one 2 <| .one 5 <| .take 6 <| .take 7 <| .fin))))
def tP1 (g : Gr) : S := [97, 105, 103, 32] ++ lnT (zdd g)
def tPL (g : Gr) (i : Nat) : S := tP1 g ++ zjI g i
def tPO (g : Gr) (i : Nat) : S := tPL g g.next.length ++ zhh g.outs i
theorem zkA (g : Gr) (i : Nat) : tPL g (i + 1) = tPL g i ++ lnT (zlG g i) := by unfold tPL zjI; rw [zeZ, List.append_assoc]
theorem zkB (g : Gr) (i : Nat) : tPO g (i + 1) = tPO g i ++ lnT [g.outs.getD i 0] := by unfold tPO zhh; rw [zeZ, List.append_assoc]
theorem zpR (l : Cl) : lnT l ≠ [] := by
 cases l with
 | nil => simp [lnT]
 | cons n l =>
  intro h
  obtain ⟨c, r, hc, _⟩ := zsd l
  have : Lib.itoa n ++ lnG l = [] := h
  rw [hc] at this
  simp at this
theorem zjJ {g : Gr} (s : GSm g) {i : Nat} (h : i < g.next.length) : (∀ n ∈ zlG g i, 0 ≤ n ∧ n ≤ 2147483647) ∧ (zlG g i).length ≤ 2 ∧ zlG g i ≠ [] := by
 obtain ⟨h1, h2⟩ := s.la h
 have e : zqH g i = 2 * (1 + g.ins + (i : Int)) :: zlG g i := rfl
 rw [e] at h1 h2
 rw [List.length_cons] at h2
 exact ⟨fun n hn => h1 n (List.mem_cons_of_mem _ hn), by omega, by unfold zlG; simp⟩
theorem zpS {g : Gr} (s : GSm g) : (tP1 g).length ≤ 100 ∧ (∀ i, i ≤ g.next.length → (tPL g i).length ≤ 100000 + 23 * i) ∧ ∀ i, i ≤ g.outs.length → (tPO g i).length ≤ 300000 + 12 * i := by
 have i2 := s.i2
 have i3 := s.i3
 have i0 := s.i0
 have h1 : (tP1 g).length ≤ 100 := by
  have := zbK s.head
  have h5 : (zdd g).length = 5 := rfl
  unfold tP1
  rw [List.length_append]
  show 4 + _ ≤ _
  omega
 have h2 : ∀ i, i ≤ g.next.length → (tPL g i).length ≤ 100000 + 23 * i := fun i hi => by
  have := zdA (f := fun i : Nat => lnT (zlG g i)) (c := 23) (n := g.next.length) (fun i hi => by
   obtain ⟨a1, a2, _⟩ := zjJ s hi
   have := zbK a1
   omega) i hi
  unfold tPL zjI
  rw [List.length_append]
  omega
 refine ⟨h1, h2, fun i hi => ?_⟩
 have h3 := zdA (f := fun i : Nat => lnT [g.outs.getD i 0]) (c := 12) (n := g.outs.length) (fun i hi => zbK (s.o1 hi)) i hi
 have h4 := h2 g.next.length (Nat.le_refl _)
 unfold tPO zhh
 rw [List.length_append]
 omega
set_option maxHeartbeats 8000000 in
theorem ziN (m : Mo) (hs : m.g.Sm) : Ev TE 13 [m.v] (.tup [.str (zfS m).1, vi (zfS m).2]) := by
 have hM : maxLen = 9223372036854775807 := rfl
 have hn := zlm m hs
 have dm : V.dats [m.v] = true := by simp only [Mo.v, V.dats, V.dat, Bool.and_self]
 unfold zin at hn
 unfold zfS
 by_cases hc : m.chk = 0
 ·rw [if_pos hc] at hn ⊢
  have hgc := (zaX hc).1
  have hNc : (zas m.g).chk = 0 := zae (zae hgc _) _
  have gs : GSm (zas m.g) := GSm.of hNc
  have eA := zhr (zas m.g) (zqW hc)
  unfold ziF at eA
  rw [if_pos hNc, zo7 hgc] at eA
  obtain ⟨n, hnm⟩ : ∃ n, n = m.norm := ⟨_, rfl⟩
  rw [← hnm] at hn ⊢
  have hng : zas m.g = n.g := by rw [hnm]; rfl
  rw [hng] at eA gs
  have hls : (m.ins.length : Int) = m.g.ins ∧ (m.lat.length : Int) = m.g.next.length ∧ (m.out.length : Int) = m.g.outs.length := by
   simpa [Mo.lens, Bool.or_eq_false_iff, and_assoc] using (zaX hc).2.1
  have hnm4 := zeG hc
  have hok := zI hgc
  have ho1 := hok.i0; have ho2 := hok.i2; have ho3 := hok.i3
  have hni : n.ins = m.ins ∧ n.lat = m.lat ∧ n.out = m.out := by rw [hnm]; exact ⟨rfl, rfl, rfl⟩
  have bl1 : n.ins.length ≤ 10000 := by rw [hni.1]; omega
  have bl2 : n.lat.length ≤ 10000 := by rw [hni.2.1]; omega
  have bl3 : n.out.length ≤ 10000 := by rw [hni.2.2]; omega
  have htl := zko n bl1 bl2 bl3 (by rw [hni.1, hni.2.1, hni.2.2]; exact hnm4)
  have eT := zqT n (by omega) (by omega) (by omega) (by omega)
  have g0 := gs.i0
  have g2 := gs.i2
  have g3 := gs.i3
  obtain ⟨L1, L2, L3⟩ := zpS gs
  have wf : n.g.first = 1 + n.g.ins + n.g.next.length := rfl
  have eH := zhq (zdd n.g) (by simp [zdd]) (by simp [zdd]) gs.head
  have dn : V.dats [n.v] = true := by simp only [Mo.v, V.dats, V.dat, Bool.and_self]
  have dng : V.dats [n.g.v] = true := by simp only [Gr.v, V.dats, V.dat, Bool.and_self]
  unfold Mo.v at hn dm eT dn ⊢
  unfold Gr.v at eA dng
  refine zh Tryz.func13 rfl (by simp [nts]) ?_
  refine za (vm ?_)
  simp only [wq.down, seval, Tryz.results13]
  refine za (vm ?_)
  simp only [wq.down, seval]
  refine zb.ev hn dm ?_
  simp only [wq.down, seval]
  refine za (vm ?_)
  simp only [wq.down, seval]
  refine za (vm ?_)
  simp only [wq.down, seval]
  refine za (zbc ?_)
  refine zap rfl rfl ?_
  refine zgk (t := 57) (q := ⟨.struct [(0, 54), (1, 55)], 2, 32, .agg [.nilp, .nils]⟩) rfl (by simp only [wq.down]) rfl ?_
  refine zak ?_
  simp only [wq.down, Nat.reduceAdd]
  have w1 : IntKind.i64.wrap (n.g.ins + (n.g.next.length : Int)) = n.g.first - 1 := by rw [zD (by omega) (by omega)]; omega
  have w2 : IntKind.i64.wrap (n.g.first - 1 + (n.g.ands.length : Int)) = n.g.first - 1 + (n.g.ands.length : Int) := zD (by omega) (by omega)
  refine za (vm ?_)
  simp only [wq.down, ↓reduceIte, Nat.reduceEqDiff, Nat.reduceLT, Nat.reduceLeDiff, Nat.reduceAdd, reduceCtorEq, Nat.reduceMul, w1, w2]
  refine ⟨⟨rfl, by decide⟩, zb.ev (eH.les (zar.cons zaF zar.nil)) rfl ?_⟩
  simp only [wq.down, seval]
  have hP1 : ([97, 105, 103, 32] ++ lnT (zdd n.g) : S) = tP1 n.g := rfl
  have hP1l : (tP1 n.g).length = 4 + (lnT (zdd n.g)).length := by rw [← hP1, List.length_append]; rfl
  rw [show (97 :: 105 :: 103 :: 32 :: lnT (zdd n.g) : S) = tP1 n.g from rfl]
  obtain ⟨B1, hB1⟩ : ∃ B1, B1 = tP1 n.g := ⟨_, rfl⟩
  rw [← hB1] at hP1l L1 ⊢
  refine ⟨by omega, zfx zcZ (id := 2) (a := .nilp) B1 (.inl rfl) rfl (by rw [hB1, ← hP1]; simp) (by omega) ?_⟩
  show z8 _ _ _ _ (.ret _) (hB n B1 []) _
  simp only [wq.down]
  generalize hFF : Fr.put _ _ _ = FF
  have t1 : FF.t 1 = .lp 0 0 := by rw [← hFF]; rfl
  have t5 : FF.t 5 = .lp 1 0 := by rw [← hFF]; rfl
  have t6 : FF.t 6 = .lp 2 0 := by rw [← hFF]; rfl
  have fd : FF.d = [] := by rw [← hFF]; rfl
  clear hFF
  refine za ?_
  refine za ?_
  refine vm ?_
  simp only [wq.down, seval, t5]
  refine zy ?_
  refine zp (fun mm f h' => ∃ (i : Nat) (X : H), mm + i = n.g.next.length ∧ zqU X ∧ f.t 1 = .lp 0 0 ∧ f.t 5 = .lp 1 0 ∧ f.t 6 = .lp 2 0 ∧ f.t 50 = zo n.g.next ∧ f.t 51 = vi n.g.next.length ∧ f.t 52 = vi i ∧ f.d = [] ∧ h' = hB n (tPL n.g i) X) n.g.next.length ⟨0, [], by simp, (fun o ho => by cases ho), by simp only [wq.down, seval, t1], by simp only [wq.down, seval, t5], by simp only [wq.down, seval, t6], by simp only [wq.down, seval], by simp only [wq.down, seval], rfl, by simp only [wq.down, fd], by rw [hB1]; simp [tPL, zjI]⟩ ?_
  clear t1 t5 t6 fd
  rintro mm f h' ⟨i, X, hm, hX, t1, t5, t6, t50, t51, t52, fd, rfl⟩
  refine za (vm ?_)
  simp only [wq.down, Nat.reduceLT, t51, t52]
  refine za (vm ?_)
  simp only [wq.down, ↓reduceIte]
  refine vcB.mk (fun hlt => ?_) (fun hlt => ?_)
  ·simp only [decide_eq_true_eq, Int.ofNat_lt] at hlt
   have hw := zi (show i < maxLen by omega)
   have hg1 : (n.g.next.map vi).getD i .any = vi n.g.next[i] := zeL hlt _
   have hli : i < n.g.init.length := by rw [gs.hil]; exact hlt
   have hg2 : (n.g.init.map vi).getD i .any = vi n.g.init[i] := zeL hli _
   have hib := gs.hin _ (List.getElem_mem hli)
   have hlb := L2 i (by omega)
   have wA : IntKind.i64.wrap (1 + n.g.ins) = 1 + n.g.ins := zD (by omega) (by omega)
   have wB : IntKind.i64.wrap (1 + n.g.ins + (i : Int)) = 1 + n.g.ins + (i : Int) := zD (by omega) (by omega)
   obtain ⟨nx, hnx⟩ : ∃ nx, nx = n.g.next[i] := ⟨_, rfl⟩
   obtain ⟨v, hv⟩ : ∃ v, v = n.g.init[i] := ⟨_, rfl⟩
   obtain ⟨lit, hlit⟩ : ∃ lit, lit = 2 * (1 + n.g.ins + (i : Int)) := ⟨_, rfl⟩
   have hla : zlG n.g i = nx :: (if v = 0 then [] else if v = 1 then [1] else [lit]) := by
    unfold zlG
    rw [zw hlt, zw hli, hnx, hv, hlit]
   rw [← hnx] at hg1
   rw [← hv] at hg2 hib
   have wC : IntKind.i64.wrap (2 * (1 + n.g.ins + (i : Int))) = lit := by rw [hlit]; exact zD (by omega) (by omega)
   obtain ⟨b1, b2, b3⟩ := zjJ gs hlt
   have hsu := zkA n.g i
   rw [hla] at b1 hsu
   have gX : ∀ a : O, (X ++ [a])[X.length]? = some a := fun a => by simp
   have sX : ∀ a b : O, (X ++ [a]).set X.length b = X ++ [b] := fun a b => by simp
   refine za (zy ?_)
   refine za (vm ?_)
   simp only [wq.down, seval, t50, t52, hg1]
   refine ⟨⟨by omega, by omega⟩, ?_⟩
   refine za (vm ?_)
   simp only [wq.down, seval, t5, wA, wB, wC, gX, sX]
   refine za (zN (Q := fun xe f h => xe = .normal ∧ f.t 1 = .lp 0 0 ∧ f.t 5 = .lp 1 0 ∧ f.t 6 = .lp 2 0 ∧ f.t 7 = vi i ∧ f.t 9 = .lp (X.length + 4) 0 ∧ f.t 50 = zo n.g.next ∧ f.t 51 = vi n.g.next.length ∧ f.t 52 = vi i ∧ f.d = [] ∧ ∃ (c : Int) (L : Cl) (ex : List V), [vi nx, vi c, vi lit] = L.map vi ++ ex ∧ (L.length : Int) = 1 + min v 1 ∧ L = nx :: (if v = 0 then [] else if v = 1 then [1] else [lit]) ∧ h = hB n (tPL n.g i) (X ++ [.cells [vi nx, vi c, vi lit]])) ?_ ?_)
   rotate_left
   ·refine za (vm ?_)
    simp only [wq.down, seval, t5, hg2]
    refine ⟨⟨by omega, by omega⟩, ?_⟩
    by_cases hv2 : v = 2
    ·refine zS (b := true) (by simp only [wq.down, ↓reduceIte]) (by simp only [wq.down, ↓reduceIte, Nat.reduceEqDiff, Nat.reduceLT, Nat.reduceLeDiff, Nat.reduceAdd, Nat.reduceSub, Int.reduceToNat, Nat.reduceDiv, Int.reduceLT, Int.reduceLE, Int.reduceNeg, Int.reduceBEq, Int.reduceBNe, Int.reduceAdd, Int.reduceSub, Nat.reduceBEq, reduceCtorEq, Nat.reduceMul, zg, Tryz.results13, hv2]) (fun _ => ?_) (fun h => by cases h)
     refine vm ?_
     simp only [wq.down, ↓reduceIte, Nat.reduceEqDiff, Nat.reduceLT, Nat.reduceLeDiff, Nat.reduceAdd, Nat.reduceSub, Int.reduceToNat, Nat.reduceDiv, Int.reduceLT, Int.reduceLE, Int.reduceNeg, Int.reduceBEq, Int.reduceBNe, Int.reduceAdd, Int.reduceSub, Nat.reduceBEq, reduceCtorEq, Nat.reduceMul, zg, Tryz.results13, t1, t5, t6, t50, t51, t52, fd, gX, sX]
     exact ⟨by decide, by decide, lit, [nx, lit], [vi lit], rfl, by rw [hv2]; rfl, by rw [hv2]; rfl, rfl⟩
    ·have hv2' : (v == 2) = false := by simpa using hv2
     refine zS (b := false) (by simp only [wq.down, ↓reduceIte]) (by simp only [wq.down, ↓reduceIte, hv2']) (fun h => by cases h) (fun _ => ?_)
     refine vm ?_
     simp only [wq.down, seval]
     refine ⟨t1, t5, t6, t50, t51, t52, fd, ?_⟩
     by_cases hv0 : v = 0
     ·exact ⟨1, [nx], [vi 1, vi lit], rfl, by rw [hv0]; rfl, by rw [hv0]; rfl, rfl⟩
     ·have hv1 : v = 1 := by omega
      exact ⟨1, [nx, 1], [vi lit], rfl, by rw [hv1]; rfl, by rw [hv1]; rfl, rfl⟩
   ·rintro xe f h ⟨rfl, t1, t5, t6, t7, t9, t50, t51, t52, fd, c, L, ex, hex, hLl, hLe, rfl⟩
    show awp _ _ _ _ _ _ _
    rw [← hLe] at hla b1 hsu
    have hm1 : 0 ≤ min v 1 ∧ min v 1 ≤ 1 := by omega
    have wM : IntKind.i64.wrap (1 + min v 1) = (L.length : Int) := by rw [hLl]; exact zD (by omega) (by omega)
    have hLne : L ≠ [] := by rw [hLe]; simp
    have hL2 : L.length ≤ 2 := by omega
    have hLn := zbK b1
    have eL := zhq L hLne (by omega) b1
    have hXa : zqU (X ++ [O.cells [vi nx, vi c, vi lit]]) := fun o ho p => by
     rcases List.mem_append.1 ho with h | h
     ·exact hX o h p
     ·rw [List.mem_singleton] at h; rw [h]; rfl
    have hq : ti TE.P 77 = some ⟨.arr 3 3 (some .i64), 3, 24, .agg [vi 0, vi 0, vi 0]⟩ := by simp only [wq.down]
    refine zbc ?_
    refine zm rfl rfl ?_
    simp only [wq.down, Nat.reduceLT, t5]
    refine zm rfl rfl ?_
    simp only [wq.down, seval]
    refine zm rfl rfl ?_
    simp only [wq.down, seval, t7]
    refine zm rfl rfl ?_
    simp only [wq.down, seval]
    refine ⟨⟨by omega, by omega⟩, ?_⟩
    refine zm rfl rfl ?_
    simp only [wq.down, ↓reduceIte, hg2]
    refine zm rfl rfl ?_
    simp only [wq.down, ↓reduceIte, mn]
    refine zm rfl rfl ?_
    simp only [wq.down, ↓reduceIte, wM]
    have hre : ti TE.P 3 = some ⟨.int .i64, 1, 8, vi 0⟩ := by simp only [wq.down]
    have hget : (hB n (tPL n.g i) (X ++ [O.cells [vi nx, vi c, vi lit]]))[X.length + 4]? = some (.cells [vi nx, vi c, vi lit]) := gX _
    refine zap rfl rfl ?_
    refine zf6 (t := 77) rfl hq rfl hre (by simp only [wq.down, seval, t9]) (id := X.length + 4) (off := 0) (by simp only [wq.down, seval, t9]) hget (by show 0 + 3 * 1 ≤ 3; decide) (by decide) (a := L.length) (b := 2) (by simp only [wq.down, ↓reduceIte]) (by simp only [wq.down, ↓reduceIte]) (by simp only [wq.down]) (by simp only [wq.down]; rfl) hL2 (by decide) ?_
    refine zm rfl rfl ?_
    simp only [wq.down, ↓reduceIte]
    refine zb.lend eL (zj.cons (znQ hget hex) zj.nil) rfl ?_
    simp only [wq.down]
    refine zm rfl rfl ?_
    simp only [wq.down, seval, t6]
    refine zky (m := n) (out := tPL n.g i) hXa (zpR L) (by omega) ?_
    rw [← hsu]
    simp only [wq.down, zX, fd]
    refine zak ?_
    simp only [XE.block, XE.seq]
    refine vm ?_
    simp only [wq.down, seval, t52, hw]
    exact .inl ⟨mm - 1, by omega, i + 1, _, by omega, hXa, by simp only [wq.down, seval, t1], by simp only [wq.down, seval, t5], by simp only [wq.down, seval, t6], by simp only [wq.down, seval, t50], by simp only [wq.down, seval, t51], rfl, by simp only [wq.down, fd], rfl⟩
  ·simp only [decide_eq_false_iff_not, Int.ofNat_lt] at hlt
   have hi : i = n.g.next.length := by omega
   subst hi
   simp only [wq.down]
   refine za ?_
   refine za ?_
   refine vm ?_
   simp only [wq.down, seval, t5]
   refine zy ?_
   refine zp (fun mm f h' => ∃ (i : Nat), mm + i = n.g.outs.length ∧ f.t 1 = .lp 0 0 ∧ f.t 5 = .lp 1 0 ∧ f.t 6 = .lp 2 0 ∧ f.t 86 = zo n.g.outs ∧ f.t 87 = vi n.g.outs.length ∧ f.t 88 = vi i ∧ f.d = [] ∧ h' = hB n (tPO n.g i) X) n.g.outs.length ⟨0, by simp, by simp only [wq.down, seval, t1], by simp only [wq.down, seval, t5], by simp only [wq.down, seval, t6], by simp only [wq.down, seval], by simp only [wq.down, seval], rfl, by simp only [wq.down, fd], by simp [tPO, zhh]⟩ ?_
   clear t1 t5 t6 t50 t51 t52 fd hm hlt
   rintro mm f h' ⟨i, hm, t1, t5, t6, t86, t87, t88, fd, rfl⟩
   refine za (vm ?_)
   simp only [wq.down, Nat.reduceLT, t87, t88]
   refine za (vm ?_)
   simp only [wq.down, ↓reduceIte]
   refine vcB.mk (fun hlt => ?_) (fun hlt => ?_)
   ·simp only [decide_eq_true_eq, Int.ofNat_lt] at hlt
    have hw := zi (show i < maxLen by omega)
    have hg1 : (n.g.outs.map vi).getD i .any = vi n.g.outs[i] := zeL hlt _
    have b1 := gs.o1 hlt
    have hsu := zkB n.g i
    rw [zw hlt] at b1 hsu
    have eL := zhq [n.g.outs[i]] (by simp) (by simp) b1
    have hLn := zbK b1
    have hlb := L3 i (by omega)
    refine za (zy ?_)
    refine za (vm ?_)
    simp only [wq.down, ↓reduceIte, Nat.reduceEqDiff, Nat.reduceLT, t86, t88, hg1]
    refine ⟨⟨by omega, by omega⟩, ?_⟩
    refine vm ?_
    simp only [wq.down, ↓reduceIte, Nat.reduceLT, reduceCtorEq, Nat.reduceMul]
    refine ⟨⟨rfl, by decide⟩, zb.ev (eL.les (zar.cons zaF zar.nil)) rfl ?_⟩
    simp only [wq.down, seval, t6]
    refine zky (m := n) (out := tPO n.g i) hX (zpR _) (by simp only [List.length_singleton] at hLn; omega) ?_
    rw [← hsu]
    simp only [wq.down, zX, fd]
    refine vm ?_
    simp only [wq.down, seval, t88, hw]
    exact .inl ⟨mm - 1, by omega, i + 1, by omega, by simp only [wq.down, seval, t1], by simp only [wq.down, seval, t5], by simp only [wq.down, seval, t6], by simp only [wq.down, seval, t86], by simp only [wq.down, seval, t87], rfl, by simp only [wq.down, fd], rfl⟩
   ·simp only [decide_eq_false_iff_not, Int.ofNat_lt] at hlt
    have hi : i = n.g.outs.length := by omega
    subst hi
    have hlb := L3 n.g.outs.length (Nat.le_refl _)
    simp only [wq.down]
    refine za (vm ?_)
    simp only [wq.down, seval, t5]
    refine zb.ev eA dng ?_
    simp only [wq.down, seval]
    refine za ?_
    have hal := zcV (GP.of (by rw [← hng]; exact hNc) (by rw [← hng]; exact zd3 hgc)) n.g.ands.length (Nat.le_refl _)
    have hTt : ([97, 105, 103, 32] ++ (lnT (zdd n.g) ++ (zjI n.g n.g.next.length ++ (zhh n.g.outs n.g.outs.length ++ zbk n.g n.g.ands.length))) ++ zcA n : S) = tPO n.g n.g.outs.length ++ zbk n.g n.g.ands.length ++ zcA n := by simp only [tPO, tPL, tP1, List.append_assoc]
    have hpk : znE n = tPO n.g n.g.outs.length ++ zbk n.g n.g.ands.length ++ zcA n := hTt
    have hXm : X.map (O.drop fun j => j == 3) = X := by
     conv => rhs; rw [← List.map_id X]
     exact List.map_congr_left fun o ho => hX o ho _
    refine zM mixed zkz (fun f' h' => f'.t 2 = .str (znE n) ∧ f'.t 3 = vi 0 ∧ f'.d = []) (by decide +kernel) (by decide +kernel) ?_ ?_
    ·have hPn : tPO n.g n.g.outs.length ≠ [] := by simp [tPO, tPL, tP1]
     simp only [wq.down, seval, zkz, t1, t6]
     repeat' apply And.intro
     all_goals repeat' first
      | (refine zji (id := 2) (bid := 3) (a := .lp 2 0) (tPO n.g n.g.outs.length) rfl rfl hPn (by omega) ?_
         simp only [wq.down, seval, zX, hXm, t1, fd])
      | (refine zb.ev eT dn ?_
         simp only [wq.down, seval, fd])
      | refine And.intro ?_ ?_
      | omega
     all_goals rw [hpk]
    ·rintro f' h' ⟨u2, u3, ud⟩
     show awp _ _ _ _ _ _ _
     refine vm ?_
     simp only [wq.down, u2, u3, ud]
     exact zn.dat rfl
 ·rw [if_neg hc] at hn ⊢
  have hne : (m.chk != 0) = true := by simpa using hc
  unfold Mo.v at hn dm ⊢
  refine zh Tryz.func13 rfl (by simp [nts]) ?_
  refine za (vm ?_)
  simp only [wq.down, seval, Tryz.results13]
  refine za (vm ?_)
  simp only [wq.down, seval]
  refine zb.ev hn dm ?_
  simp only [wq.down, seval]
  refine za (vm ?_)
  simp only [wq.down, seval, hne]
  exact zn.dat rfl
open Go.RowKit
abbrev kG : Gr := ⟨2, [], [], [(4, 2)], [6]⟩
abbrev kM : Mo := ⟨⟨2, [], [], [(4, 2)], [7]⟩, [[97], [105, 49]], [], [[111, 48]]⟩
abbrev kA : S := [97, 105, 103, 32, 51, 32, 50, 32, 48, 32, 49, 32, 49, 10, 55, 10, 2, 2, 105, 48, 32, 97, 10]
abbrev kP : S := [97, 105, 103, 32, 51, 32, 50, 32, 48, 32, 49, 32, 49, 10, 55, 10, 2, 2, 105, 48, 32, 97, 10, 105, 49, 32, 105, 49, 10, 111, 48, 32, 111, 48, 10]
abbrev kB : S := [97, 105, 103, 32, 52, 32, 50, 32, 48, 32, 49, 32, 49, 10, 55, 10, 2, 2]
theorem zsU : zb5 kA = .ok kM := zqV (by decide +kernel)
theorem zsV : zb5 kB = .error (0, 1) := zsm (by decide +kernel)
theorem zq2 : ziF kG = ([2, 2], 0) := of_decide_eq_true (by decide +kernel)
theorem zsW : zcx [120, 2, 2] 1 3 1 = ([(4, 2)], 3, 0) := of_decide_eq_true (by decide +kernel)
theorem zsX : zcx [0, 0] 0 3 1 = ([], 0, 1) := of_decide_eq_true (by decide +kernel)
theorem zsY : zfS kM = (kP, 0) := of_decide_eq_true (by decide +kernel)
theorem zpf : zP kB 0 1 = .agg [vi 1, vi 1, vi 1] := by
 have : (decide ((zY kB 0).1 = 1) && decide ((zY kB 0).2 = 1)) = true := by decide +kernel
 simp only [Bool.and_eq_true, decide_eq_true_eq] at this
 unfold zP
 rw [if_neg (by decide), this.1, this.2]
theorem zsx (h : H) : za7 P h 55 9 (.is true 1 [.int .u8 0, .int .u8 0]) = (True, .str [0, 0]) := by
 simp only [za7, tis, zah, Option.map_some, and_self]
 rfl
theorem zsy (h : H) : za7 P h 55 9 (.is true 1 [.int .u8 2, .int .u8 2]) = (True, .str [2, 2]) := by
 simp only [za7, tis, zah, Option.map_some, and_self]
 rfl
set_option maxHeartbeats 4000000 in
theorem zlC : Ev TE 12 [] (.bool true) := by
 have e1 := zhr kG ⟨by decide, by decide⟩
 rw [zq2] at e1
 have e2 := zfV [120, 2, 2] 1 3 1 (by decide)
 rw [zsW] at e2
 have e3 := ziM kA (by decide)
 unfold za5 at e3
 rw [zsU] at e3
 have e4 := ziN kM ⟨by decide, by decide⟩
 rw [zsY] at e4
 have e5 := ziM kB (by decide)
 unfold za5 at e5
 rw [zsV] at e5
 dsimp only at e5
 rw [show zP kB ((0 : Nat) : Int) 1 = .agg [vi 1, vi 1, vi 1] from zpf] at e5
 have e6 := zfV [0, 0] 0 3 1 (by decide)
 rw [zsX] at e6
 have e7 := zpd [(4, 2)] [(4, 2)] (by decide)
 simp only [Mo.v, Gr.v, ziz] at e1 e2 e3 e4 e5 e6 e7
 refine zh Tryz.func12 rfl (by simp [nts]) ?_
 refine za (vm ?_)
 simp only [wq.down, ↓reduceIte, Nat.reduceEqDiff, Nat.reduceLT, Nat.reduceLeDiff, Nat.reduceAdd, Nat.reduceSub, Int.reduceToNat, Nat.reduceDiv, Int.reduceLT, Int.reduceLE, Int.reduceNeg, Int.reduceBEq, Int.reduceBNe, Int.reduceAdd, Int.reduceSub, Nat.reduceBEq, reduceCtorEq, Nat.reduceMul, zg, Tryz.results12]
 refine za (vm ?_)
 simp only [wq.down, ↓reduceIte, Nat.reduceEqDiff, Nat.reduceLT, Nat.reduceLeDiff, Nat.reduceAdd, Nat.reduceSub, Int.reduceToNat, Nat.reduceDiv, Int.reduceLT, Int.reduceLE, Int.reduceNeg, Int.reduceBEq, Int.reduceBNe, Int.reduceAdd, Int.reduceSub, Nat.reduceBEq, reduceCtorEq, Nat.reduceMul, zg, Tryz.results12]
 refine ⟨⟨by decide, by decide⟩, ⟨by decide, by decide⟩, ?_⟩
 refine za (vm ?_)
 simp only [wq.down, seval]
 refine zb.ev (e1.les (zar.cons (zjp (zar.cons (VLe.refl _) (zar.cons zag (zar.cons zag (zar.cons zaF (zar.cons zaF zar.nil)))))) zar.nil)) rfl ?_
 simp only [wq.down, seval]
 refine za (vm ?_)
 simp only [wq.down, seval]
 refine ⟨by decide, ?_⟩
 refine zb.ev e2 rfl ?_
 simp only [wq.down, seval]
 refine za (vm ?_)
 simp only [wq.down, seval]
 refine ⟨by decide, by decide, ?_⟩
 refine zb.ev e3 rfl ?_
 simp only [wq.down, seval]
 refine za (vm ?_)
 simp only [wq.down, seval]
 refine zb.ev e4 rfl ?_
 simp only [wq.down, seval]
 refine za (vm ?_)
 simp only [wq.down, seval]
 refine ⟨by decide, ?_⟩
 refine zb.ev e5 rfl ?_
 simp only [wq.down, ↓reduceIte, Nat.reduceEqDiff, Nat.reduceLT, Nat.reduceAdd]
 refine za (vm ?_)
 simp only [wq.down, ↓reduceIte, Nat.reduceLT, reduceCtorEq, Nat.reduceMul, zsx]
 refine ⟨⟨by decide, by decide⟩, ?_⟩
 refine zb.ev e6 rfl ?_
 simp only [wq.down, ↓reduceIte, Nat.reduceEqDiff, Nat.reduceLT, Nat.reduceAdd]
 refine za (vm ?_)
 simp only [wq.down, ↓reduceIte, Nat.reduceEqDiff, Nat.reduceLT, Nat.reduceLeDiff, Nat.reduceAdd, Nat.reduceSub, Int.reduceToNat, Nat.reduceDiv, Int.reduceLT, Int.reduceLE, Int.reduceNeg, Int.reduceBEq, Int.reduceBNe, Int.reduceAdd, Int.reduceSub, Nat.reduceBEq, reduceCtorEq, Nat.reduceMul, zg, Tryz.results12, zsy]
 refine ⟨⟨by decide, by decide⟩, ?_⟩
 refine zb.ev (e7.les (zar.cons (VLe.refl _) (zar.cons zaF zar.nil))) rfl ?_
 simp only [wq.down, ↓reduceIte, Nat.reduceEqDiff, Nat.reduceLT, Nat.reduceLeDiff, Nat.reduceAdd, Nat.reduceSub, Int.reduceToNat, Nat.reduceDiv, Int.reduceLT, Int.reduceLE, Int.reduceNeg, Int.reduceBEq, Int.reduceBNe, Int.reduceAdd, Int.reduceSub, Nat.reduceBEq, reduceCtorEq, Nat.reduceMul, zg, Tryz.results12, zX]
 refine ⟨zm9, by decide, by decide, by decide, by decide, zm9, ?_⟩
 refine vm ?_
 simp only [wq.down, ↓reduceIte]
 exact zn.dat rfl
def zpT (n : Nat) (t : By) : By := if n = 0 then t else Lib.decDigits n ++ t
theorem znR {n : Nat} (h : n ≠ 0) (t : By) : zpT n t = zpT (n / 10) (UInt8.ofNat (48 + n % 10) :: t) := by
 unfold zpT
 rw [if_neg h]
 by_cases h10 : n < 10
 ·rw [if_pos (by omega), Lib.decDigits_one h10, Nat.mod_eq_of_lt h10]; rfl
 ·rw [if_neg (by omega), zm1 h10, List.append_assoc]; rfl
theorem zkC (n : Nat) : Lib.decDigits n = zpT (n / 10) [UInt8.ofNat (48 + n % 10)] := by
 unfold zpT
 by_cases h10 : n < 10
 ·rw [if_pos (by omega), Lib.decDigits_one h10, Nat.mod_eq_of_lt h10]
 ·rw [if_neg (by omega), zm1 h10]
theorem ze1 (h : H) (c : UInt8) : za7 P h 55 9 (.is true 1 [.int .u8 (c.toNat : Int)]) = (True, .str [c]) := by
 simp only [za7, tis, zah, Option.map_some, Int.toNat_natCast, UInt8.ofNat_toNat, and_self]
theorem zpU (m : Nat) : IntKind.u8.wrap (IntKind.i64.wrap (48 + (m : Int).tmod 10)) = ((UInt8.ofNat (48 + m % 10)).toNat : Int) := by
 rw [show (m : Int).tmod 10 = ((m % 10 : Nat) : Int) from rfl, zD (by omega) (by omega), IntKind.wrap_u8, zjn (Nat.mod_lt _ (by omega))]
 omega
theorem zpV (m : Nat) (h : m ≤ 2147483647) : IntKind.i64.wrap ((m : Int).tdiv 10) = ((m / 10 : Nat) : Int) := by
 rw [show (m : Int).tdiv 10 = ((m / 10 : Nat) : Int) from rfl, zD (by omega) (by omega)]
theorem zq3 (m : Nat) : IntKind.u8.wrap (IntKind.i64.wrap (128 + (m : Int).tmod 128)) = ((UInt8.ofNat (m % 128 + 128)).toNat : Int) := by
 rw [show (m : Int).tmod 128 = ((m % 128 : Nat) : Int) from rfl, zD (by omega) (by omega), IntKind.wrap_u8, UInt8.toNat_ofNat']
 omega
theorem zq4 (m : Nat) (h : m ≤ 2147483647) : IntKind.i64.wrap ((m : Int).tdiv 128) = ((m / 128 : Nat) : Int) := by
 rw [show (m : Int).tdiv 128 = ((m / 128 : Nat) : Int) from rfl, zD (by omega) (by omega)]
set_option maxHeartbeats 2000000 in
theorem zq5 (n : Int) : Ev TE 73 [vi n] (.tup [.str (zjl n).1, vi (zjl n).2]) := by
 have hM : maxLen = 9223372036854775807 := rfl
 refine zh Tryz.func73 rfl (by simp [nts]) (vm ?_)
 simp only [wq.down, seval, Tryz.results73]
 refine vcB.mk (fun hc => ?_) (fun hc => ?_)
 ·have hf : zbp n = false := by
   have : n < 0 ∨ 2147483647 < n := by simpa using hc
   simp [zbp]; omega
  have h0 : zjl n = ([], 3) := by unfold zjl; rw [hf]; rfl
  rw [h0]
  simp only [wq.down, ↓reduceIte, Nat.reduceEqDiff, Nat.reduceLT, Nat.reduceLeDiff, Nat.reduceAdd, Nat.reduceSub, Int.reduceToNat, Nat.reduceDiv, Int.reduceLT, Int.reduceLE, Int.reduceNeg, Int.reduceBEq, Int.reduceBNe, Int.reduceAdd, Int.reduceSub, Nat.reduceBEq, reduceCtorEq, Nat.reduceMul, zg, Tryz.results73]
  exact zn.dat rfl
 ·simp only [Bool.or_eq_false_iff, decide_eq_false_iff_not] at hc
  obtain ⟨m, rfl⟩ : ∃ m : Nat, n = m := ⟨n.toNat, by omega⟩
  have h0 : zjl m = (Lib.decDigits m, 0) := by
   unfold zjl
   rw [if_pos (by simp [zbp]; omega), zj1]
  rw [h0]
  rw [zkC]
  have hlen0 := zqw (k := 9) (show m < 10 ^ 10 by omega)
  rw [zkC] at hlen0
  generalize hT : zpT (m / 10) [UInt8.ofNat (48 + m % 10)] = T at hlen0
  simp only [wq.down, ↓reduceIte, Nat.reduceEqDiff, Nat.reduceLT, Nat.reduceLeDiff, Nat.reduceAdd, Nat.reduceSub, Int.reduceToNat, Nat.reduceDiv, Int.reduceLT, Int.reduceLE, Int.reduceNeg, Int.reduceBEq, Int.reduceBNe, Int.reduceAdd, Int.reduceSub, Nat.reduceBEq, reduceCtorEq, Nat.reduceMul, zg, Tryz.results73, zgy, zpU, ze1, zpV m (by omega)]
  refine ⟨by decide, ⟨rfl, by decide⟩, by decide, ?_⟩
  refine zp (fun k f h => ∃ n t, k = n ∧ f.t 0 = vi n ∧ f.t 4 = .str t ∧ f.d = [] ∧ h = [] ∧ zpT n t = T ∧ n ≤ 2147483647) (m / 10) ⟨m / 10, _, rfl, rfl, rfl, rfl, rfl, hT, by omega⟩ ?_
  rintro k f h ⟨n, t, rfl, h0, h4, hd, rfl, hT, hn⟩
  refine vm ?_
  simp only [wq.down, seval, h0]
  refine vcB.mk (fun hc => ?_) (fun hc => ?_)
  ·have hc : k ≠ 0 := by have := of_decide_eq_true hc; omega
   have hT2 := hT
   rw [znR hc] at hT2
   have htl : t.length ≤ 10 := by
    have := congrArg List.length hT
    unfold zpT at this
    rw [if_neg hc, List.length_append] at this
    omega
   simp only [wq.down, ↓reduceIte, Nat.reduceEqDiff, Nat.reduceLT, Nat.reduceLeDiff, Nat.reduceAdd, Nat.reduceSub, Int.reduceToNat, Nat.reduceDiv, Int.reduceLT, Int.reduceLE, Int.reduceNeg, Int.reduceBEq, Int.reduceBNe, Int.reduceAdd, Int.reduceSub, Nat.reduceBEq, reduceCtorEq, Nat.reduceMul, zg, Tryz.results73, h0, h4, hd, zgy, zpU, ze1, zpV k hn, List.singleton_append]
   refine ⟨by decide, ⟨rfl, by decide⟩, by simp only [maxLen]; omega, by decide, .inl ⟨k / 10, by omega, k / 10, _, rfl, by simp only [wq.down, ↓reduceIte, Nat.reduceEqDiff, Nat.reduceLT, Nat.reduceLeDiff, Nat.reduceAdd, Nat.reduceSub, Int.reduceToNat, Nat.reduceDiv, Int.reduceLT, Int.reduceLE, Int.reduceNeg, Int.reduceBEq, Int.reduceBNe, Int.reduceAdd, Int.reduceSub, Nat.reduceBEq, reduceCtorEq, Nat.reduceMul, zg, Tryz.results73], by simp only [wq.down, ↓reduceIte, Nat.reduceEqDiff, Nat.reduceLT, Nat.reduceLeDiff, Nat.reduceAdd, Nat.reduceSub, Int.reduceToNat, Nat.reduceDiv, Int.reduceLT, Int.reduceLE, Int.reduceNeg, Int.reduceBEq, Int.reduceBNe, Int.reduceAdd, Int.reduceSub, Nat.reduceBEq, reduceCtorEq, Nat.reduceMul, zg, Tryz.results73], by simp only [wq.down, ↓reduceIte, Nat.reduceEqDiff, Nat.reduceLT, Nat.reduceLeDiff, Nat.reduceAdd, Nat.reduceSub, Int.reduceToNat, Nat.reduceDiv, Int.reduceLT, Int.reduceLE, Int.reduceNeg, Int.reduceBEq, Int.reduceBNe, Int.reduceAdd, Int.reduceSub, Nat.reduceBEq, reduceCtorEq, Nat.reduceMul, zg, Tryz.results73, hd], rfl, hT2, by omega⟩⟩
  ·have hc : k = 0 := by have := of_decide_eq_false hc; omega
   subst hc
   have hT2 : t = T := hT
   simp only [wq.down, seval, h4, hd]
   rw [hT2]
   exact zn.dat rfl
set_option maxHeartbeats 2000000 in
theorem znS (n : Int) : Ev TE 79 [vi n] (.tup [.str (zbj n).1, vi (zbj n).2]) := by
 have hM : maxLen = 9223372036854775807 := rfl
 refine zh Tryz.func79 rfl (by simp [nts]) (vm ?_)
 simp only [wq.down, seval, Tryz.results79]
 refine vcB.mk (fun hc => ?_) (fun hc => ?_)
 ·have hf : zbp n = false := by
   have : n < 0 ∨ 2147483647 < n := by simpa using hc
   simp [zbp]; omega
  have h0 : zbj n = ([], 3) := by unfold zbj; rw [hf]; rfl
  rw [h0]
  simp only [wq.down, seval]
  exact zn.dat rfl
 ·simp only [Bool.or_eq_false_iff, decide_eq_false_iff_not] at hc
  obtain ⟨m, rfl⟩ : ∃ m : Nat, n = m := ⟨n.toNat, by omega⟩
  have h0 : zbj m = (grp m, 0) := by
   unfold zbj
   rw [if_pos (by simp [zbp]; omega), Int.toNat_natCast]
  rw [h0]
  have hlen0 := zcT 4 m (by omega)
  generalize hT : grp m = T at hlen0
  simp only [wq.down, seval]
  refine zp (fun k f h => ∃ n t, k = n ∧ f.t 0 = vi n ∧ f.t 4 = .str t ∧ f.d = [] ∧ h = [] ∧ t ++ grp n = T ∧ n ≤ 2147483647) m ⟨m, [], rfl, rfl, rfl, rfl, rfl, hT, by omega⟩ ?_
  rintro k f h ⟨n, t, rfl, h0, h4, hd, rfl, hT, hn⟩
  have htl : t.length ≤ 5 := by
   have := congrArg List.length hT
   rw [List.length_append] at this
   omega
  refine vm ?_
  simp only [wq.down, seval, h0]
  refine vcB.mk (fun hc => ?_) (fun hc => ?_)
  ·have hc : ¬ k < 128 := by have := of_decide_eq_true hc; omega
   rw [zfR hc] at hT
   simp only [wq.down, ↓reduceIte, Nat.reduceEqDiff, Nat.reduceLT, Nat.reduceLeDiff, Nat.reduceAdd, Nat.reduceSub, Int.reduceToNat, Nat.reduceDiv, Int.reduceLT, Int.reduceLE, Int.reduceNeg, Int.reduceBEq, Int.reduceBNe, Int.reduceAdd, Int.reduceSub, Nat.reduceBEq, reduceCtorEq, Nat.reduceMul, zg, Tryz.results79, h0, h4, hd, zgy, zq3, ze1, zq4 k hn]
   refine ⟨by decide, ⟨rfl, by decide⟩, by simp only [maxLen]; omega, by decide, .inl ⟨k / 128, by omega, k / 128, t ++ [UInt8.ofNat (k % 128 + 128)], rfl, by simp only [wq.down, ↓reduceIte, Nat.reduceEqDiff, Nat.reduceLT, Nat.reduceLeDiff, Nat.reduceAdd, Nat.reduceSub, Int.reduceToNat, Nat.reduceDiv, Int.reduceLT, Int.reduceLE, Int.reduceNeg, Int.reduceBEq, Int.reduceBNe, Int.reduceAdd, Int.reduceSub, Nat.reduceBEq, reduceCtorEq, Nat.reduceMul, zg, Tryz.results79], by simp only [wq.down, ↓reduceIte, Nat.reduceEqDiff, Nat.reduceLT, Nat.reduceLeDiff, Nat.reduceAdd, Nat.reduceSub, Int.reduceToNat, Nat.reduceDiv, Int.reduceLT, Int.reduceLE, Int.reduceNeg, Int.reduceBEq, Int.reduceBNe, Int.reduceAdd, Int.reduceSub, Nat.reduceBEq, reduceCtorEq, Nat.reduceMul, zg, Tryz.results79], by simp only [wq.down, ↓reduceIte, Nat.reduceEqDiff, Nat.reduceLT, Nat.reduceLeDiff, Nat.reduceAdd, Nat.reduceSub, Int.reduceToNat, Nat.reduceDiv, Int.reduceLT, Int.reduceLE, Int.reduceNeg, Int.reduceBEq, Int.reduceBNe, Int.reduceAdd, Int.reduceSub, Nat.reduceBEq, reduceCtorEq, Nat.reduceMul, zg, Tryz.results79, hd], rfl, by rw [List.append_assoc]; exact hT, by omega⟩⟩
  ·have hc : k < 128 := by have := of_decide_eq_false hc; omega
   rw [zcb hc] at hT
   simp only [wq.down, ↓reduceIte, Nat.reduceEqDiff, Nat.reduceLT, reduceCtorEq, Nat.reduceMul, h0, h4, hd, zgy, znB k hc, ze1]
   rw [hT]
   exact ⟨⟨rfl, by decide⟩, by simp only [maxLen]; omega, zn.dat rfl⟩
theorem zkD {n : Int} (h0 : 0 ≤ n) (h1 : n ≤ 2147483647) : Ev TE 73 [vi n] (.tup [.str (Lib.itoa n), vi 0]) := by
 have e1 := zq5 n
 have hp : zjl n = (Lib.itoa n, 0) := by unfold zjl; rw [if_pos (by simp [zbp]; omega)]
 rw [hp] at e1
 exact e1
theorem zpW (h : H) : za7 P h 55 9 (.is true 1 [.int .u8 10]) = (True, .str [10]) := by
 simp only [za7, tis, zah, Option.map_some, and_self]
 rfl
theorem zkE (l : Cl) (hl : ∀ n ∈ l, 0 ≤ n ∧ n ≤ 2147483647) (hlen : l.length ≤ 10) : Ev TE 31 [zo l] (.str (lnT l)) := by
 have hM : maxLen = 9223372036854775807 := rfl
 refine zh Tryz.func31 rfl (by simp [nts]) (vm ?_)
 simp only [wq.down, seval, Tryz.results31]
 refine zp (fun m f h => ∃ i, m + i = l.length ∧ f.t 0 = zo l ∧ f.t 3 = .str (lnP l i) ∧ f.t 4 = vi i ∧ f.d = [] ∧ h = []) l.length ⟨0, by omega, rfl, rfl, rfl, rfl, rfl⟩ ?_
 rintro m f h ⟨i, hm, t0, t3, t4, hd, rfl⟩
 have hq := zhl hl i (by omega)
 refine vm ?_
 simp only [wq.down, ↓reduceIte, Nat.reduceEqDiff, Nat.reduceLT, reduceCtorEq, t0, t4]
 refine vcB.mk (fun hlt => ?_) (fun hlt => ?_)
 ·simp only [decide_eq_true_eq, Int.ofNat_lt] at hlt
  have hg : (l.map vi).getD i .any = vi l[i] := zeL hlt _
  obtain ⟨n0, n1⟩ := hl _ (List.getElem_mem hlt)
  have e1 := zkD n0 n1
  have hil := zcu l[i] n0 n1
  have hw := zi (show i < maxLen by omega)
  have hs := zkk hlt
  have hsl : (lnP l (i + 1)).length = (lnP l i).length + (zpL i l[i]).length := by rw [hs, List.length_append]
  have hq2 := zhl hl (i + 1) (by omega)
  by_cases hi : i = 0
  ·subst hi
   have hc : decide ((0 : Int) < ((0 : Nat) : Int)) = false := rfl
   simp only [wq.down, ↓reduceIte, Nat.reduceEqDiff, Nat.reduceLT, reduceCtorEq, t0, t4, hg, hc]
   refine ⟨⟨by omega, by omega⟩, ?_⟩
   refine zb.ev e1 rfl ?_
   simp only [wq.down, ↓reduceIte, Nat.reduceEqDiff, Nat.reduceLT, Nat.reduceAdd, t3, t4, hw]
   refine ⟨by omega, .inl ⟨m - 1, by omega, 1, by omega, by simp only [wq.down, ↓reduceIte, Nat.reduceEqDiff, Nat.reduceLT, Nat.reduceLeDiff, Nat.reduceAdd, Nat.reduceSub, Int.reduceToNat, Nat.reduceDiv, Int.reduceLT, Int.reduceLE, Int.reduceNeg, Int.reduceBEq, Int.reduceBNe, Int.reduceAdd, Int.reduceSub, Nat.reduceBEq, reduceCtorEq, Nat.reduceMul, zg, Tryz.results31, t0], by simp only [wq.down, ↓reduceIte, Nat.reduceEqDiff, Nat.reduceLT, Nat.reduceLeDiff, Nat.reduceAdd, Nat.reduceSub, Int.reduceToNat, Nat.reduceDiv, Int.reduceLT, Int.reduceLE, Int.reduceNeg, Int.reduceBEq, Int.reduceBNe, Int.reduceAdd, Int.reduceSub, Nat.reduceBEq, reduceCtorEq, Nat.reduceMul, zg, Tryz.results31, hs]; rfl, by simp only [wq.down, ↓reduceIte, Nat.reduceEqDiff, Nat.reduceLT, Nat.reduceLeDiff, Nat.reduceAdd, Nat.reduceSub, Int.reduceToNat, Nat.reduceDiv, Int.reduceLT, Int.reduceLE, Int.reduceNeg, Int.reduceBEq, Int.reduceBNe, Int.reduceAdd, Int.reduceSub, Nat.reduceBEq, reduceCtorEq, Nat.reduceMul, zg, Tryz.results31], by simp only [wq.down, ↓reduceIte, Nat.reduceEqDiff, Nat.reduceLT, Nat.reduceLeDiff, Nat.reduceAdd, Nat.reduceSub, Int.reduceToNat, Nat.reduceDiv, Int.reduceLT, Int.reduceLE, Int.reduceNeg, Int.reduceBEq, Int.reduceBNe, Int.reduceAdd, Int.reduceSub, Nat.reduceBEq, reduceCtorEq, Nat.reduceMul, zg, Tryz.results31, hd], rfl⟩⟩
  ·have hc : decide (0 < (i : Int)) = true := by simp; omega
   simp only [wq.down, seval, t0, t3, t4, hg, hc]
   refine ⟨by omega, ⟨by omega, by omega⟩, ?_⟩
   refine zb.ev e1 rfl ?_
   simp only [wq.down, seval, t4, hw]
   have e3 : zpL i l[i] = 32 :: Lib.itoa l[i] := by unfold zpL; rw [if_neg hi]; rfl
   rw [e3, List.length_cons] at hsl
   refine ⟨by omega, .inl ⟨m - 1, by omega, i + 1, by omega, by simp only [wq.down, seval, t0], by simp only [wq.down, seval, hs, e3]; simp, by simp only [wq.down, ↓reduceIte], by simp only [wq.down, hd], rfl⟩⟩
 ·simp only [decide_eq_false_iff_not, Int.ofNat_lt] at hlt
  have : i = l.length := by omega
  subst this
  have hT := zsj l
  simp only [wq.down, ↓reduceIte, Nat.reduceEqDiff, Nat.reduceLT, reduceCtorEq, Nat.reduceMul, t3, hd, zpW]
  refine ⟨⟨rfl, by decide⟩, by omega, ?_⟩
  rw [← hT]
  exact zn.dat rfl
theorem zfZ (c : UInt8) (l : List S) (hl : l.length ≤ 100000) (ht : (nmT c 0 l).length ≤ 10000000000000) : Ev TE 33 [.str [c], zT l] (.str (nmT c 0 l)) := by
 have hM : maxLen = 9223372036854775807 := rfl
 refine zh Tryz.func33 rfl (by simp [nts]) (vm ?_)
 simp only [wq.down, seval, Tryz.results33]
 refine zp (fun m f h => ∃ i, m + i = l.length ∧ f.t 0 = .str [c] ∧ f.t 1 = zT l ∧ f.t 5 = .str (nmP c l i) ∧ f.t 6 = vi i ∧ f.d = [] ∧ h = []) l.length ⟨0, by omega, rfl, rfl, rfl, rfl, rfl, rfl⟩ ?_
 rintro m f h ⟨i, hm, t0, t1, t5, t6, hd, rfl⟩
 refine vm ?_
 simp only [wq.down, seval, t1, t6]
 refine vcB.mk (fun hlt => ?_) (fun hlt => ?_)
 ·simp only [decide_eq_true_eq, Int.ofNat_lt] at hlt
  have hgi := znx hlt
  have hni := zpM (c := c) (l := l) (i := i + 1) hlt
  have hsi := zkm (c := c) hlt
  have hw := zi (show i < maxLen by omega)
  have e1 := zkD (n := (i : Int)) (by omega) (by omega)
  have hsl : (nmP c l (i + 1)).length = (nmP c l i).length + ((Lib.itoa i).length + l[i].length + 3) := by
   rw [hsi, List.length_append]; simp only [nmL, List.length_cons, List.length_append, List.length_nil]; omega
  have hx : nmP c l i ++ [c] ++ Lib.itoa (i : Int) ++ [32] ++ l[i] ++ [10] = nmP c l (i + 1) := by rw [hsi]; simp [nmL]
  simp only [wq.down, seval, t6]
  refine zb.ev e1 rfl ?_
  simp only [wq.down, ↓reduceIte, Nat.reduceEqDiff, Nat.reduceLT, Nat.reduceLeDiff, Nat.reduceAdd, reduceCtorEq, Nat.reduceMul, t0, t1, t5, t6, hw, hgi, zpW]
  refine ⟨by decide +kernel, by omega, by omega, by omega, ⟨by omega, by omega⟩, by omega, ⟨rfl, by decide⟩, by omega, .inl ⟨m - 1, by omega, i + 1, by omega, by simp only [wq.down, ↓reduceIte, Nat.reduceEqDiff, Nat.reduceLT, Nat.reduceLeDiff, Nat.reduceAdd, Nat.reduceSub, Int.reduceToNat, Nat.reduceDiv, Int.reduceLT, Int.reduceLE, Int.reduceNeg, Int.reduceBEq, Int.reduceBNe, Int.reduceAdd, Int.reduceSub, Nat.reduceBEq, reduceCtorEq, Nat.reduceMul, zg, Tryz.results33, t0], by simp only [wq.down, ↓reduceIte, Nat.reduceEqDiff, Nat.reduceLT, Nat.reduceLeDiff, Nat.reduceAdd, Nat.reduceSub, Int.reduceToNat, Nat.reduceDiv, Int.reduceLT, Int.reduceLE, Int.reduceNeg, Int.reduceBEq, Int.reduceBNe, Int.reduceAdd, Int.reduceSub, Nat.reduceBEq, reduceCtorEq, Nat.reduceMul, zg, Tryz.results33, t1], by simp only [wq.down, ↓reduceIte, Nat.reduceEqDiff, Nat.reduceLT, Nat.reduceLeDiff, Nat.reduceAdd, Nat.reduceSub, Int.reduceToNat, Nat.reduceDiv, Int.reduceLT, Int.reduceLE, Int.reduceNeg, Int.reduceBEq, Int.reduceBNe, Int.reduceAdd, Int.reduceSub, Nat.reduceBEq, reduceCtorEq, Nat.reduceMul, zg, Tryz.results33, hx], by simp only [wq.down, ↓reduceIte, Nat.reduceEqDiff, Nat.reduceLT, Nat.reduceLeDiff, Nat.reduceAdd, Nat.reduceSub, Int.reduceToNat, Nat.reduceDiv, Int.reduceLT, Int.reduceLE, Int.reduceNeg, Int.reduceBEq, Int.reduceBNe, Int.reduceAdd, Int.reduceSub, Nat.reduceBEq, reduceCtorEq, Nat.reduceMul, zg, Tryz.results33], by simp only [wq.down, ↓reduceIte, Nat.reduceEqDiff, Nat.reduceLT, Nat.reduceLeDiff, Nat.reduceAdd, Nat.reduceSub, Int.reduceToNat, Nat.reduceDiv, Int.reduceLT, Int.reduceLE, Int.reduceNeg, Int.reduceBEq, Int.reduceBNe, Int.reduceAdd, Int.reduceSub, Nat.reduceBEq, reduceCtorEq, Nat.reduceMul, zg, Tryz.results33, hd], rfl⟩⟩
 ·simp only [decide_eq_false_iff_not, Int.ofNat_lt] at hlt
  have : i = l.length := by omega
  subst this
  have hT := zjE (c := c) l
  simp only [wq.down, ↓reduceIte, Nat.reduceEqDiff, Nat.reduceLT, t5, hd]
  rw [← hT]
  exact zn.dat rfl
theorem zjK {h : H} (l : Cl) : zn TE h (.is true 1 (l.map vi)) (zo l) := fun ok pl w x hs hv => zaF _ _ (zn.dat (by simp only [V.dat]) ok pl w x hs hv)
def zs7 (g : Gr) (i : Nat) : Cl := g.next.getD i 0 :: (if g.init.getD i 0 = 0 then [] else if g.init.getD i 0 = 1 then [1] else [2 * (1 + g.ins + (i : Int))])
theorem znT (g : Gr) (i : Nat) (h0 : 0 ≤ g.ins) (h1 : g.ins ≤ 4000) (hi : i < g.next.length) (hl : g.next.length ≤ 4000) (hii : g.init.length = g.next.length) : Ev TE 32 [g.v, vi i] (zo (zs7 g i)) := by
 have hM : maxLen = 9223372036854775807 := rfl
 have hii' : i < g.init.length := by omega
 have hg1 : (g.next.map vi).getD i .any = vi g.next[i] := zeL hi _
 have hg2 : (g.init.map vi).getD i .any = vi g.init[i] := zeL hii' _
 have hn : g.next.getD i 0 = g.next[i] := zw hi
 have hq : g.init.getD i 0 = g.init[i] := zw hii'
 have w1 : IntKind.i64.wrap (1 + g.ins) = 1 + g.ins := zD (by omega) (by omega)
 have w2 : IntKind.i64.wrap (1 + g.ins + (i : Int)) = 1 + g.ins + i := zD (by omega) (by omega)
 have w3 : IntKind.i64.wrap (2 * (1 + g.ins + (i : Int))) = 2 * (1 + g.ins + i) := zD (by omega) (by omega)
 unfold zs7
 rw [hn, hq]
 unfold Gr.v
 refine zh Tryz.func32 rfl (by simp [nts]) (vm ?_)
 by_cases c0 : g.init[i] = 0
 ·have x0 : (g.init[i] == 0) = true := by simpa using c0
  rw [if_pos c0]
  simp only [wq.down, ↓reduceIte, Nat.reduceEqDiff, Nat.reduceLT, Nat.reduceLeDiff, Nat.reduceAdd, Nat.reduceSub, Int.reduceToNat, Nat.reduceDiv, Int.reduceLT, Int.reduceLE, Int.reduceNeg, Int.reduceBEq, Int.reduceBNe, Int.reduceAdd, Int.reduceSub, Nat.reduceBEq, reduceCtorEq, Nat.reduceMul, zg, Tryz.results32, w1, w2, w3, hg1, hg2, x0]
  exact ⟨⟨by omega, by omega⟩, ⟨by omega, by omega⟩, ⟨rfl, by decide⟩, zjK [g.next[i]]⟩
 ·have x0 : (g.init[i] == 0) = false := by simpa using c0
  rw [if_neg c0]
  by_cases c1 : g.init[i] = 1
  ·have x1 : (g.init[i] == 1) = true := by simpa using c1
   rw [if_pos c1]
   simp only [wq.down, ↓reduceIte, Nat.reduceEqDiff, Nat.reduceLT, Nat.reduceLeDiff, Nat.reduceAdd, Nat.reduceSub, Int.reduceToNat, Nat.reduceDiv, Int.reduceLT, Int.reduceLE, Int.reduceNeg, Int.reduceBEq, Int.reduceBNe, Int.reduceAdd, Int.reduceSub, Nat.reduceBEq, reduceCtorEq, Nat.reduceMul, zg, Tryz.results32, w1, w2, w3, hg1, hg2, x0, x1]
   exact ⟨⟨by omega, by omega⟩, ⟨by omega, by omega⟩, ⟨by omega, by omega⟩, ⟨rfl, by decide⟩, zjK [g.next[i], 1]⟩
  ·have x1 : (g.init[i] == 1) = false := by simpa using c1
   rw [if_neg c1]
   simp only [wq.down, ↓reduceIte, Nat.reduceEqDiff, Nat.reduceLT, Nat.reduceLeDiff, Nat.reduceAdd, reduceCtorEq, Nat.reduceMul, Tryz.results32, w1, w2, w3, hg1, hg2, x0, x1]
   exact ⟨⟨by omega, by omega⟩, ⟨by omega, by omega⟩, ⟨by omega, by omega⟩, ⟨rfl, by decide⟩, zjK [g.next[i], 2 * (1 + g.ins + (i : Int))]⟩
theorem zpg (m : Mo) (hb1 : m.ins.length ≤ 100000) (hb2 : m.lat.length ≤ 100000) (hb3 : m.out.length ≤ 100000) (ht : (zcA m).length ≤ 10000000000000) : Ev TE 10 [m.v] (.str (zcA m)) := by
 have hM : maxLen = 9223372036854775807 := rfl
 have hlen : (nmT 105 0 m.ins).length + (nmT 108 0 m.lat).length + (nmT 111 0 m.out).length ≤ 10000000000000 := by
  unfold zcA at ht
  rw [List.length_append, List.length_append] at ht
  omega
 have e1 := zfZ 105 m.ins hb1 (by omega)
 have e2 := zfZ 108 m.lat hb2 (by omega)
 have e3 := zfZ 111 m.out hb3 (by omega)
 have dS : ∀ (c : UInt8) (l : List S), V.dats [.str [c], zT l] = true := fun c l => by simp only [V.dats, V.dat, Bool.and_self]
 unfold Mo.v
 refine zh Tryz.func10 rfl (by simp [nts]) ?_
 refine za (vm ?_)
 simp only [wq.down, seval, Tryz.results10]
 refine vm ?_
 simp only [wq.down, seval]
 refine ⟨by decide +kernel, ?_⟩
 refine zeb.mk e1 (by decide +kernel) (dS _ _) ?_
 simp only [wq.down, seval]
 refine zeb.mk e2 (by decide +kernel) (dS _ _) ?_
 simp only [wq.down, seval]
 refine ⟨by omega, ?_⟩
 refine zeb.mk e3 (by decide +kernel) (dS _ _) ?_
 simp only [wq.down, seval]
 have ht2 := ht
 unfold zcA at ht2 ⊢
 rw [List.length_append, List.length_append] at ht2
 refine ⟨by omega, ?_⟩
 rw [List.append_assoc]
 exact zn.dat rfl
structure Mo.Sz (m : Mo) : Prop where
 b1 : m.g.next.length ≤ 4000
 b2 : m.g.init.length ≤ 4000
 b3 : m.g.ands.length ≤ 4000
 b4 : m.g.outs.length ≤ 4000
 b5 : m.ins.length ≤ 4000
 b6 : m.lat.length ≤ 4000
 b7 : m.out.length ≤ 4000
theorem zlD (m : Mo) (hs : m.Sz) : Ev TE 30 [m.v] (.tup [(zin m).1.v, vi (zin m).2]) := by
 have hck := zjt m hs.b1 hs.b2 hs.b3 hs.b4 hs.b5 hs.b6 hs.b7
 have dm : ∀ m : Mo, V.dats [m.v] = true := fun m => by simp only [Mo.v, V.dats, V.dat, Bool.and_self]
 unfold zin
 by_cases hc : m.chk = 0
 ·rw [if_pos hc]
  have hn := ziJ (zaX hc).1
  rw [hc] at hck
  unfold Gr.v at hn
  unfold Mo.norm Mo.v
  unfold Mo.v at hck
  refine zh Tryz.func30 rfl (by simp [nts]) (vm ?_)
  simp only [wq.down, seval, Tryz.results30]
  refine zb.ev hck (by simp only [V.dats, V.dat, Bool.and_self]) ?_
  simp only [wq.down, seval]
  refine zb.ev hn (by simp only [V.dats, V.dat, Bool.and_self]) ?_
  simp only [wq.down, seval]
  exact zn.dat (by simp only [V.dats, V.dat, Bool.and_self])
 ·rw [if_neg hc]
  unfold Mo.v at hck ⊢
  refine zh Tryz.func30 rfl (by simp [nts]) (vm ?_)
  simp only [wq.down, seval, Tryz.results30]
  refine zb.ev hck (by simp only [V.dats, V.dat, Bool.and_self]) ?_
  simp only [wq.down, seval, show (m.chk != 0) = true by simpa using hc]
  show zn TE _ _ (V.tup [.agg [vi 0, zo [], zo [], prs [], zo [], zT [], zT [], zT []], vi m.chk])
  exact zn.tup (zj.cons (zn.agg (zj.cons (zn.dat rfl) (zj.cons zn.nils (zj.cons zn.nils (zj.cons zn.nils (zj.cons zn.nils (zj.cons zn.nils (zj.cons zn.nils (zj.cons zn.nils zj.nil))))))))) (zj.dat rfl))
abbrev hRP (m n : Mo) : H := [mbO m, mbO n, gbO n.g]
theorem zkF (l : Cl) (hl : ∀ n ∈ l, 0 ≤ n ∧ n ≤ 2147483647) (hlen : l.length ≤ 10) : Ev TE 31 [.is true 1 (l.map vi)] (.str (lnT l)) := Ev.le (zar.cons zaF zar.nil) (zkE l hl hlen)
end Go.Proofs.YtfcpapokknfeeaaGreatDoor
