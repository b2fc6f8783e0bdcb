/- Lemmas for the statement of this claim, part F12: they hold with no conditions but those that each one names. -/
import Derived.Test.YtboolnpmlmgpkaaGreatDoorF11
import Derived.Test.YtboolnpmlmgpkaaGreatDoorA11
set_option linter.unusedVariables false
set_option maxRecDepth 20000
set_option linter.unusedSimpArgs false
set_option linter.unnecessarySimpa false
namespace Go.Proofs.YtboolnpmlmgpkaaGreatDoor
open Go Go.Proofs Go.Abs
def ztZ : Plan := .take 0 <| .take 1 <| .take 2 <| .take 3 <| .alt 4 (.one 5 <| .one 6 <| .one 7 <| .take 8 <| .take 9 <| .one 10 <| .fin) (.one 5 (.alt 4 (.one 6 <| .one 7 <| .take 8 <| .take 9 <| .one 10 <| .fin) (.one 6 (.one 4 <| .one 7 <| .take 8 <| .take 9 <| .one 10 <| .fin))))
set_option maxHeartbeats 4000000 in
theorem znH {b0 b1 : O} {s : S} {mo : Int} {x : Fi} {Y : H} (hq : Qt b0 b1 Y) (hs : s.length ≤ 100000) (hl : x.ands.length ≤ 4000) {R : AEnd → H → (Nat → Bool) → Prop}
 (h1 : ∀ y, zcO s mo x = .ok y → ∀ X, R (.ret (.tup [])) (hF b0 b1 s mo y (zB y) (Y ++ X)) zcP)
 (h2 : ∀ (w : Nat) (e : Int) (y : Fi), zcO s mo x = .error (w, e) → ∀ W X, R (.pan (zaR w e)) (hF b0 b1 s mo y W (Y ++ X)) zcP) :
 zb TE 72 [.lp 3 0] (hF b0 b1 s mo x (zB x) Y) R := by
 have hM : maxLen = 9223372036854775807 := rfl
 have dI : ∀ (p : Nat → Bool) (l : Cl), V.drops p (l.map vi) = l.map vi := fun p l => zD _
 have dU : ∀ (p : Nat → Bool) (l : List Us), V.drops p (usV l) = usV l := fun p l => zbu
 have dA : ∀ (p : Nat → Bool) (l : List An), V.drops p (anV l) = anV l := fun p l => zbX
 have hal := zgS x.ands
 obtain ⟨W0, hW0⟩ : ∃ W, W = zB x := ⟨_, rfl⟩
 obtain ⟨at0, hat0⟩ : ∃ a, a = x.a := ⟨_, rfl⟩
 unfold zcO at h1 h2
 refine zb.kp zcP ?_
 refine zh Tryz.func72 rfl (by simp [nts]) ?_
 refine za (vm ?_)
 simp only [wq.down, seval, Tryz.results72]
 rw [gE0]
 simp only [wq.down, Nat.reduceAdd, gS0]
 refine za (vm ?_)
 simp only [wq.down, seval]
 refine zbW (Y := Y ++ [.cells [vi 0, vi x.a, vi 0, vi 0, vi 0, vi 0]]) hs (fun lit y hdef => ?_) (fun w e y hdef => ?_)
 ·rw [hdef] at h1 h2
  dsimp only at h1 h2
  obtain ⟨⟨b, rfl⟩, n0, n1, n2, n3, n4, n5⟩ := zeH hdef
  clear hdef
  obtain ⟨x1, hx1⟩ : ∃ x1 : Fi, x1 = { x with a := b, D := x.D ++ [lit / 2] } := ⟨_, rfl⟩
  have hA1 : x1.ands = x.ands := by rw [hx1]
  rw [← hx1] at h1 h2 ⊢
  clear hx1
  obtain ⟨W, hW⟩ : ∃ W, W = zB x1 := ⟨_, rfl⟩
  rw [← hW]
  have hWy : ∀ y : Fi, y.D = x1.D → zB y = W := fun y hy => by rw [hW]; unfold zB; rw [hy]
  simp only [wq.down, seval, gE0, gS0]
  refine za (vm ?_)
  simp only [wq.down, seval]
  have hAx1 := hA1
  have hDx1 : x1.D = x1.D := rfl
  refine zbV (k := 3) (s := s) (a := x1.a) (T := fiT x1 mo) (by omega) rfl (fun hb => ?_) (fun hb => ?_)
  ·rw [show zaK s 32 x1 = .ok { x1 with a := x1.a + 1 } by unfold zaK; rw [if_pos hb]] at h1 h2
   dsimp only at h1 h2
   obtain ⟨x2, hxx⟩ : ∃ z : Fi, z = { x1 with a := x1.a + 1 } := ⟨_, rfl⟩
   have hAx2 : x2.ands = x.ands := by cases hxx; exact hAx1
   have hDx2 : x2.D = x1.D := by cases hxx; exact hDx1
   rw [show ({ x1 with a := x1.a + 1 } : Fi) = x2 from hxx.symm] at h1 h2
   simp only [wq.down]
   rw [show rdT s (x1.a + 1) (fiT x1 mo) = rdT s x2.a (fiT x2 mo) by rw [hxx], show x1.D = x2.D by rw [hxx], show x1.ins = x2.ins by rw [hxx], show x1.lats = x2.lats by rw [hxx], show x1.next = x2.next by rw [hxx], show x1.init = x2.init by rw [hxx], show x1.outs = x2.outs by rw [hxx], show x1.ands = x2.ands by rw [hxx]]
   clear hxx
   refine za (vm ?_)
   simp only [wq.down, ↓reduceIte, Nat.reduceEqDiff, Nat.reduceLT, Nat.reduceLeDiff, Nat.reduceAdd, Nat.reduceSub, Int.reduceToNat, Nat.reduceDiv, Int.reduceLT, Int.reduceLE, Int.reduceNeg, Int.reduceBEq, Int.reduceBNe, Int.reduceAdd, Int.reduceSub, Nat.reduceBEq, reduceCtorEq, Nat.reduceMul, zn, Tryz.results72, gE0, gS0]
   refine zcj (x := x2) (W := W) (Y := Y ++ [.cells [vi lit, vi x.a, vi 0, vi 0, vi 0, vi 0]]) hs (fun p y hdef Xx3 => ?_) (fun w e y hdef X => ?_)
   ·rw [hdef] at h1 h2
    dsimp only at h1 h2
    obtain ⟨⟨b, hyy⟩, u0, u1, u2, u3⟩ := zcF hdef
    have hAx3 : y.ands = x.ands := by cases hyy; exact hAx2
    have hDx3 : y.D = x1.D := by cases hyy; exact hDx2
    clear hdef hyy
    obtain ⟨x3, hxx⟩ : ∃ z : Fi, z = y := ⟨_, rfl⟩
    rw [← hxx] at h1 h2 hAx3 hDx3 ⊢
    clear hxx
    rw [List.append_assoc]
    simp only [wq.down, ↓reduceIte, Nat.reduceEqDiff, Nat.reduceLT, Nat.reduceLeDiff, Nat.reduceAdd, Nat.reduceSub, Int.reduceToNat, Nat.reduceDiv, Int.reduceLT, Int.reduceLE, Int.reduceNeg, Int.reduceBEq, Int.reduceBNe, Int.reduceAdd, Int.reduceSub, Nat.reduceBEq, reduceCtorEq, Nat.reduceMul, zn, Tryz.results72, zS, gE0, gS0, List.singleton_append]
    refine ⟨by decide, ?_⟩
    refine za (vm ?_)
    simp only [wq.down, seval]
    refine zbV (k := 3) (s := s) (a := x3.a) (T := fiT x3 mo) (by omega) rfl (fun hb => ?_) (fun hb => ?_)
    ·rw [show zaK s 32 x3 = .ok { x3 with a := x3.a + 1 } by unfold zaK; rw [if_pos hb]] at h1 h2
     dsimp only at h1 h2
     obtain ⟨x4, hxx⟩ : ∃ z : Fi, z = { x3 with a := x3.a + 1 } := ⟨_, rfl⟩
     have hAx4 : x4.ands = x.ands := by cases hxx; exact hAx3
     have hDx4 : x4.D = x1.D := by cases hxx; exact hDx3
     rw [show ({ x3 with a := x3.a + 1 } : Fi) = x4 from hxx.symm] at h1 h2
     simp only [wq.down, ↓reduceIte, Nat.reduceEqDiff, Nat.reduceLT, Nat.reduceLeDiff, Nat.reduceAdd, Nat.reduceSub, Int.reduceToNat, Nat.reduceDiv, Int.reduceLT, Int.reduceLE, Int.reduceNeg, Int.reduceBEq, Int.reduceBNe, Int.reduceAdd, Int.reduceSub, Nat.reduceBEq, reduceCtorEq, Nat.reduceMul, zn, Tryz.results72, zS, gE0, gS0]
     rw [show rdT s (x3.a + 1) (fiT x3 mo) = rdT s x4.a (fiT x4 mo) by rw [hxx], show x3.D = x4.D by rw [hxx], show x3.ins = x4.ins by rw [hxx], show x3.lats = x4.lats by rw [hxx], show x3.next = x4.next by rw [hxx], show x3.init = x4.init by rw [hxx], show x3.outs = x4.outs by rw [hxx], show x3.ands = x4.ands by rw [hxx]]
     clear hxx
     refine za (vm ?_)
     simp only [wq.down, ↓reduceIte, Nat.reduceEqDiff, Nat.reduceLT, Nat.reduceLeDiff, Nat.reduceAdd, Nat.reduceSub, Int.reduceToNat, Nat.reduceDiv, Int.reduceLT, Int.reduceLE, Int.reduceNeg, Int.reduceBEq, Int.reduceBNe, Int.reduceAdd, Int.reduceSub, Nat.reduceBEq, reduceCtorEq, Nat.reduceMul, zn, Tryz.results72, gE0, gS0]
     refine zcj (x := x4) (W := W) (Y := Y ++ (O.cells [vi lit, vi x.a, vi p.1, vi p.2, vi 0, vi 0] :: Xx3)) hs (fun q y hdef Xx5 => ?_) (fun w e y hdef X => ?_)
     ·rw [hdef] at h1 h2
      dsimp only at h1 h2
      obtain ⟨⟨b, hyy⟩, u0, u1, u2, u3⟩ := zcF hdef
      have hAx5 : y.ands = x.ands := by cases hyy; exact hAx4
      have hDx5 : y.D = x1.D := by cases hyy; exact hDx4
      clear hdef hyy
      obtain ⟨x5, hxx⟩ : ∃ z : Fi, z = y := ⟨_, rfl⟩
      rw [← hxx] at h1 h2 hAx5 hDx5 ⊢
      clear hxx
      rw [List.append_assoc]
      simp only [wq.down, ↓reduceIte, Nat.reduceEqDiff, Nat.reduceLT, Nat.reduceLeDiff, Nat.reduceAdd, Nat.reduceSub, Int.reduceToNat, Nat.reduceDiv, Int.reduceLT, Int.reduceLE, Int.reduceNeg, Int.reduceBEq, Int.reduceBNe, Int.reduceAdd, Int.reduceSub, Nat.reduceBEq, reduceCtorEq, Nat.reduceMul, zn, Tryz.results72, zS, gE0, gS0, List.cons_append]
      refine ⟨by decide, ?_⟩
      refine za (vm ?_)
      simp only [wq.down, seval]
      refine zci (k := 3) (s := s) (a := x5.a) (T := fiT x5 mo) (by omega) rfl (fun hb => ?_) (fun hb => ?_)
      ·rw [show zaK s 10 x5 = .ok { x5 with a := x5.a + 1 } by unfold zaK; rw [if_pos hb]] at h1 h2
       dsimp only at h1 h2
       have hfin := fun X => h1 _ rfl X
       have hz : zB { x5 with a := x5.a + 1, ands := x5.ands ++ [⟨lit, x.a, p, q⟩] } = W := hWy _ hDx5
       rw [hz] at hfin
       have p9 := hq.q0 9 (by decide) (by decide)
       have p9' := hq.q1 9 (by decide) (by decide)
       have p9y := hq.q2 9 (by decide) (by decide)
       have hxl : x5.ands.length ≤ 4000 := by rw [hAx5]; exact hl
       have hal6 := zgS x5.ands
       have eA : anV (x5.ands ++ [⟨lit, x.a, p, q⟩]) = anV x5.ands ++ [vi lit, vi x.a, vi p.1, vi p.2, vi q.1, vi q.2] := by simp [anV]
       simp only [wq.down]
       refine zN mixed ztZ (fun f' h' => f'.d = [] ∧ (∀ j, f'.k j = true → zcP j = true) ∧ ∃ X, h' = hF b0 b1 s mo { x5 with a := x5.a + 1, ands := x5.ands ++ [⟨lit, x.a, p, q⟩] } W (Y ++ X)) (by decide +kernel) (by decide +kernel) ?_ ?_
       ·simp only [wq.down, seval, ztZ, gE0, dI, dU, dA, p9, p9', p9y]
        repeat' apply And.intro
        all_goals first
         | rfl
         | decide
         | omega
         | exact fun j hj => (by have := eq_of_beq hj; subst this; rfl)
         | skip
        refine ⟨O.cells [vi lit, vi x.a, vi p.1, vi p.2, vi q.1, vi q.2] :: (Xx3.map (O.drop fun x => x == 9) ++ Xx5.map (O.drop fun x => x == 9)), ?_⟩
        simp only [hF, rdT, fiT, eA, List.length_append, List.length_singleton]
        rfl
       ·rintro f' h' ⟨hd, hk, X, rfl⟩
        simp only [wq.down, hd]
        exact ⟨hk, hfin X⟩
      ·rw [show zaK s 10 x5 = .error (x5.a, 2) by unfold zaK; rw [if_neg (by rw [hb]; decide)]] at h2
       dsimp only at h2
       simp only [wq.down, zR]
       simp only [XE.seq, zO]
       simp only [wq.down]
       exact h2 _ _ x5 rfl _ _
     ·rw [hdef] at h2
      dsimp only at h2
      simp only [wq.down, zR]
      simp only [XE.seq, zO]
      simp only [wq.down]
      rw [List.append_assoc]
      exact h2 _ _ y rfl _ _
    ·rw [show zaK s 32 x3 = .error (x3.a, 2) by unfold zaK; rw [if_neg (by rw [hb]; decide)]] at h2
     dsimp only at h2
     simp only [wq.down, zR]
     simp only [XE.seq, zO]
     simp only [wq.down]
     exact h2 _ _ x3 rfl _ _
   ·rw [hdef] at h2
    dsimp only at h2
    simp only [wq.down, zR]
    simp only [XE.seq, zO]
    simp only [wq.down]
    rw [List.append_assoc]
    exact h2 _ _ y rfl _ _
  ·rw [show zaK s 32 x1 = .error (x1.a, 2) by unfold zaK; rw [if_neg (by rw [hb]; decide)]] at h2
   dsimp only at h2
   simp only [wq.down, zR]
   simp only [XE.seq, zO]
   simp only [wq.down]
   exact h2 _ _ x1 rfl _ _
 ·rw [hdef] at h2
  dsimp only at h2
  simp only [wq.down, zR]
  simp only [XE.seq, zO]
  simp only [wq.down]
  exact h2 _ _ y rfl _ _
abbrev fiG (x : Fi) (mo : Int) : List V := [vi mo, .lm 2, zy x.ins, zy x.lats, .ls 6 2 0 x.next.length x.next.length, zy x.init, .ls 8 2 0 x.outs.length x.outs.length, .ls 9 6 0 x.ands.length x.ands.length]
abbrev hG (b0 b1 : O) (s : S) (mo : Int) (x : Fi) (W : Cl) (Y : H) : H :=
 b0 :: b1 :: .map (x.D.map vi) (W.map vi) :: rdT s x.a (fiG x mo) :: .dead :: .dead :: .cells (usV x.next) :: .dead :: .cells (usV x.outs) :: .cells (anV x.ands) :: Y
theorem zxb {D V : Cl} {a : Int} (h : V.length = D.length) : zgl (.int .i64) (vi a) (D.map vi) (V.map vi) (vi 0) false = (True, vi (toI D V a)) := by
 unfold zgl
 rw [zeT]
 unfold toI
 cases hf : D.findIdx? (· == a) with
 | none =>
  have hn : a ∉ D := fun hm => by
   have := List.findIdx?_eq_none_iff.1 hf a hm
   simp at this
  rw [List.idxOf_eq_length hn, List.getD_eq_getElem?_getD, List.getElem?_eq_none (by omega)]
  rfl
 | some i =>
  obtain ⟨h1, h2, h3⟩ := List.findIdx?_eq_some_iff_getElem.1 hf
  have e : D.idxOf a = i := by
   rw [List.idxOf, List.findIdx_eq h1]
   exact ⟨h2, fun j hj => by simpa using h3 j hj⟩
  rw [e, zA (by omega)]
  show (True, (V.map vi).getD i .any) = _
  rw [List.getD_eq_getElem?_getD, List.getElem?_map, List.getElem?_eq_getElem (by omega)]
  rfl
theorem zqk {D V : Cl} {a B : Int} (hV : ∀ v ∈ V, 0 ≤ v ∧ v ≤ B) (hB : 0 ≤ B) : 0 ≤ toI D V a ∧ toI D V a ≤ B := by
 unfold toI
 rw [List.getD_eq_getElem?_getD]
 cases h : V[D.idxOf a]? with
 | none => exact ⟨Int.le_refl _, hB⟩
 | some v => exact hV v (List.mem_of_getElem? h)
theorem zc9 {b0 b1 : O} {s : S} {mo : Int} {x : Fi} {W : Cl} {Y : H} (hWl : W.length = x.D.length) (hW : ∀ v ∈ W, 0 ≤ v ∧ v ≤ 100000) {u : Us} (h0 : 0 ≤ u.1) (h1 : u.1 ≤ 2147483647) {R : AEnd → H → (Nat → Bool) → Prop}
 (hr : ∀ X, R (.ret (vi (zbS x.D W u))) (hG b0 b1 s mo x W (Y ++ X)) (fun _ => false)) : zb TE 149 [.lp 3 0, .agg [vi u.1, vi u.2]] (hG b0 b1 s mo x W Y) R := by
 have hM : maxLen = 9223372036854775807 := rfl
 have hg := zxb (a := u.1 / 2) hWl
 have hv := zqk (D := x.D) (a := u.1 / 2) hW (by decide)
 have hsh := znV u.1
 have ha := zwv h0 (show u.1 ≤ 1000000000000 by omega)
 refine zh Tryz.func149 rfl (by simp [nts]) ?_
 refine za (vm ?_)
 simp only [wq.down, Nat.reduceLT, Tryz.results149]
 refine vm ?_
 have w1 : IntKind.i64.wrap (2 * toI x.D W (u.1 / 2)) = 2 * toI x.D W (u.1 / 2) := z6 (by omega) (by omega)
 have w2 : IntKind.i64.wrap (2 * toI x.D W (u.1 / 2) + u.1 % 2) = zbS x.D W u := by rw [z6 (by omega) (by omega)]; rfl
 simp only [wq.down, seval, gE0, hsh, ha, K.keyOk, hg, w1, w2]
 refine ⟨by decide +kernel, ?_⟩
 exact hr _
theorem zs4 {D W : Cl} (hW : ∀ v ∈ W, 0 ≤ v ∧ v ≤ 100000) (u : Us) : 0 ≤ zbS D W u ∧ zbS D W u ≤ 1000000 := by
 have hv := zqk (D := D) (a := u.1 / 2) hW (by decide)
 unfold zbS
 omega
theorem zwx {l : List Us} {i : Nat} (h : i < l.length) : ((l.map fun u : Us => V.agg [vi u.1, vi u.2]).getD i .any) = V.agg [vi l[i].1, vi l[i].2] := by simp [List.getD_eq_getElem?_getD, h]
theorem zs5 {l : List Us} {i : Nat} (h : i < l.length) : ((usV l).drop (i * 2)).take 2 = [vi l[i].1, vi l[i].2] := by
 induction l generalizing i with
 | nil => exact absurd h (by simp)
 | cons u l ih =>
  cases i with
  | zero => rfl
  | succ i =>
   rw [show (i + 1) * 2 = i * 2 + 2 by omega]
   exact ih (by simpa using h)
theorem zgV {b0 b1 : O} {s : S} {mo : Int} {x : Fi} {W : Cl} {Y : H} {id : Nat} {l : List Us} (hWl : W.length = x.D.length) (hW : ∀ v ∈ W, 0 ≤ v ∧ v ≤ 100000) (hid : (hG b0 b1 s mo x W Y)[id]? = some (.cells (usV l))) (hl : l.length ≤ 4000) (hu : ∀ u ∈ l, 0 ≤ u.1 ∧ u.1 ≤ 2147483647) (hcl : zae (hG b0 b1 s mo x W Y)) {R : AEnd → H → (Nat → Bool) → Prop}
 (hr : R (.ret (zy (l.map (zbS x.D W)))) (hG b0 b1 s mo x W Y) (fun _ => false)) : zb TE 150 [.lp 3 0, .ls id 2 0 l.length l.length] (hG b0 b1 s mo x W Y) R := by
 have hM : maxLen = 9223372036854775807 := rfl
 refine zb.fresh ?_
 obtain ⟨B, hB⟩ : ∃ B, B = hG b0 b1 s mo x W Y := ⟨_, rfl⟩
 have hBX : ∀ X, B ++ X = hG b0 b1 s mo x W (Y ++ X) := fun X => by rw [hB]; rfl
 rw [← hB] at hid hcl ⊢
 have hBl : B.length = Y.length + 10 := by rw [hB]; rfl
 have hidl : id < B.length := (List.getElem?_eq_some_iff.1 hid).1
 have hidX : ∀ Z, (B ++ Z)[id]? = some (.cells (usV l)) := fun Z => by rw [List.getElem?_append_left hidl]; exact hid
 obtain ⟨v, hv⟩ : ∃ v : Nat → Int, ∀ i, v i = (l.map (zbS x.D W)).getD i 0 := ⟨_, fun _ => rfl⟩
 refine zh Tryz.func150 rfl (by simp [nts]) ?_
 refine za (vm ?_)
 simp only [wq.down, Nat.reduceLT, Tryz.results150]
 refine za (vm ?_)
 simp only [wq.down, Nat.reduceLT]
 refine za ?_
 refine za ?_
 refine vm ?_
 simp only [wq.down, seval]
 refine zj ?_
 refine zt (fun mm f h' => ∃ i X, mm + i = l.length ∧ f.t 0 = .lp 3 0 ∧ f.t 8 = .ls id 2 0 l.length l.length ∧ f.t 9 = vi l.length ∧ f.t 10 = vi i ∧ f.d = [] ∧ (∀ j, f.k j = true → B.length ≤ j) ∧ h' = B ++ X ∧ ((i = 0 ∧ X = [] ∧ f.t 5 = .nils) ∨ (0 < i ∧ ∃ j, f.t 5 = .ls (B.length + j) 1 0 i i ∧ X[j]? = some (.cells (((l.take i).map (zbS x.D W)).map vi))))) l.length ⟨0, [], by simp, by simp only [wq.down, seval], by simp only [wq.down, seval], by simp only [wq.down, seval], rfl, rfl, fun j hj => (by cases hj), by simp, .inl ⟨rfl, rfl, by simp only [wq.down, seval]⟩⟩ ?_
 rintro mm f h' ⟨i, X, hm, t0, t8, t9, t10, hd, hk, rfl, hrow⟩
 refine za (vm ?_)
 simp only [wq.down, Nat.reduceLT, t9, t10]
 refine za (vm ?_)
 simp only [wq.down, ↓reduceIte]
 refine vcB.mk (fun hlt => ?_) (fun hlt => ?_)
 ·simp only [decide_eq_true_eq, Int.ofNat_lt] at hlt
  have hul := zgR l
  have huc := zs5 hlt
  have hw := zi (show i < maxLen by omega)
  refine za (zj ?_)
  refine za (vm ?_)
  simp only [wq.down, seval, t8, t10, hidX, gE, gE0, gS, gS0, huc, List.append_assoc]
  refine ⟨⟨by omega, by omega⟩, by omega, ?_⟩
  obtain ⟨o, ho⟩ : ∃ o : O, o = .cells [vi l[i].1, vi l[i].2] := ⟨_, rfl⟩
  have hui := hu _ (List.getElem_mem hlt)
  have hlr := zs4 (D := x.D) hW l[i]
  have htk : (l.take (i + 1)).map (zbS x.D W) = (l.take i).map (zbS x.D W) ++ [zbS x.D W l[i]] := by
   rw [List.take_add_one, List.map_append]; simp [hlt]
  refine vm ?_
  simp only [wq.down, ↓reduceIte, Nat.reduceEqDiff, Nat.reduceLT, Nat.reduceAdd, reduceCtorEq, t0, gE, gE0]
  rw [hBX]
  refine zc9 hWl hW hui.1 hui.2 (fun X2 => ?_)
  rw [List.append_assoc, ← hBX, List.append_assoc]
  obtain ⟨Z, hZ⟩ : ∃ Z, Z = X ++ ([O.cells [vi l[i].1, vi l[i].2]] ++ X2) := ⟨_, rfl⟩
  rw [← hZ]
  rcases hrow with ⟨rfl, hX0, t5⟩ | ⟨hip, j, t5, hrj⟩
  ·simp only [wq.down, ↓reduceIte, Nat.reduceEqDiff, Nat.reduceLT, Nat.reduceLeDiff, reduceCtorEq, Nat.reduceMul, t5]
   refine ⟨⟨rfl, by decide⟩, by decide, ?_⟩
   refine vm ?_
   simp only [wq.down, seval, t10]
   refine .inl ⟨mm - 1, by omega, 1, Z ++ [.cells [vi (zbS x.D W l[0])]], by omega, by simp only [wq.down, seval, t0], by simp only [wq.down, seval, t8], by simp only [wq.down, seval, t9], rfl, by simp only [wq.down, hd], ?_, by rw [List.append_assoc], .inr ⟨by decide, Z.length, rfl, ?_⟩⟩
   ·exact fun j hj => hk j hj
   ·rw [htk, gE0]
    rfl
  ·have hzj : Z[j]? = some (.cells (((l.take i).map (zbS x.D W)).map vi)) := by
    rw [hZ, List.getElem?_append_left (List.getElem?_eq_some_iff.1 hrj).1]; exact hrj
   have d1 : V.drops (fun x => x == B.length + j) (((l.take i).map (zbS x.D W)).map vi) = ((l.take i).map (zbS x.D W)).map vi := zD _
   have d2 : B.map (O.drop fun x => x == B.length + j) = B := hcl.one (Nat.le_add_right _ _)
   simp only [wq.down, ↓reduceIte, Nat.reduceEqDiff, Nat.reduceLT, reduceCtorEq, Nat.reduceMul, t5, hd, gE, gS, hzj, d1, d2]
   refine ⟨⟨rfl, by decide⟩, ⟨by simp; omega, by omega, by omega⟩, ?_⟩
   refine vm ?_
   simp only [wq.down, seval, t10, hw]
   have e3 : (3 == B.length + j) = false := by simp; omega
   have ei : (id == B.length + j) = false := by simp; omega
   refine .inl ⟨mm - 1, by omega, i + 1, _, by omega, by simp only [wq.down, seval, t0, e3], by simp only [wq.down, seval, t8, ei], by simp only [wq.down, seval, t9], rfl, by simp only [wq.down, hd], ?_, rfl, .inr ⟨by omega, j, rfl, ?_⟩⟩
   ·intro j' hj
    have hj' : (f.k j' || (j' == B.length + j)) = true := hj
    rcases (by simpa using hj' : f.k j' = true ∨ j' = B.length + j) with h | h
    ·exact hk _ h
    ·omega
   ·rw [htk, List.map_append, List.getElem?_set_self (by rw [List.length_map]; exact (List.getElem?_eq_some_iff.1 hzj).1)]
    rfl
 ·simp only [decide_eq_false_iff_not, Int.ofNat_lt] at hlt
  have hi : i = l.length := by omega
  subst hi
  simp only [wq.down]
  rcases hrow with ⟨h0, hX0, t5⟩ | ⟨hip, j, t5, hrj⟩
  ·have hl0 : l = [] := List.eq_nil_of_length_eq_zero h0
   refine zix (FLe.one 5 (v := zy []) (by rw [show ((f.put (some 11) (V.bool (decide ((l.length : Int) < (l.length : Int))))).t 5) = f.t 5 from rfl, t5]; exact zcz)) (zd3 _) ?_
   refine vm ?_
   simp only [wq.down, seval, hd]
   refine ⟨fun i hi => ?_, ?_⟩
   ·cases h : f.k i with
    | false => rfl
    | true => have := hk i h; omega
   ·subst hl0
    subst hX0
    rw [List.append_nil, hB]
    exact hr
  ·rw [List.take_length] at hrj
   refine ziz (h0 := B) (Y := X) 5 (zy (l.map (zbS x.D W))) (by simp only [wq.down, hd]) (by simp only [wq.down, seval, t5, zK, show decide (B.length ≤ B.length + j) = true by simp]) ?_ ?_
   ·simp only [wq.down, seval, t5]
    refine zao ((zk5 j hrj).trans ?_) (by simp)
    rw [zD]
   ·rw [hcl.from_, hcl.from_]
    refine vm ?_
    simp only [wq.down, seval, hd]
    refine ⟨fun i hi => ?_, ?_⟩
    ·have hf : zK B.length i = false := by simp [zK]; omega
     rw [hf]
     cases h : f.k i with
     | false => rfl
     | true => have := hk i h; omega
    ·rw [hB]
     exact hr
theorem zxc {D V : Cl} {a : Int} (h : V.length = D.length) : ∃ n, zgl (.int .i64) (vi a) (D.map vi) (V.map vi) (vi 0) true = (True, .tup [vi n, .bool (decide (a ∈ D))]) := by
 unfold zgl
 rw [zeT, ← zf5]
 cases hf : D.findIdx? (· == a) with
 | none => exact ⟨0, rfl⟩
 | some i =>
  obtain ⟨h1, h2, h3⟩ := List.findIdx?_eq_some_iff_getElem.1 hf
  refine ⟨V[i]'(by omega), ?_⟩
  show (True, Abs.V.tup [(V.map vi).getD i .any, .bool true]) = _
  rw [zkn (by omega) _]
  rfl
theorem zgd {b0 b1 : O} {s : S} {mo : Int} {x : Fi} {W : Cl} {Y : H} {id off cap : Nat} {cs : List V} {l : List Us} (hWl : W.length = x.D.length) (hid : (hG b0 b1 s mo x W Y)[id]? = some (.cells cs)) (hc : ∀ i (h : i < l.length), (cs.drop (off + i * 2)).take 2 = [vi l[i].1, vi l[i].2]) (hcl : off + l.length * 2 ≤ cs.length) (hl : l.length ≤ 4000) (hu : ∀ u ∈ l, 0 ≤ u.1 ∧ u.1 ≤ 2147483647) {R : AEnd → H → (Nat → Bool) → Prop}
 (h1 : zau x.D l = none → ∀ X, R (.ret (.tup [])) (hG b0 b1 s mo x W (Y ++ X)) (fun _ => false))
 (h2 : ∀ (w : Nat) (e : Int), zau x.D l = some (w, e) → ∀ X, R (.pan (zaR w e)) (hG b0 b1 s mo x W (Y ++ X)) (fun _ => false)) : zb TE 73 [.lp 3 0, .ls id 2 off l.length cap] (hG b0 b1 s mo x W Y) R := by
 have hM : maxLen = 9223372036854775807 := rfl
 obtain ⟨B, hB⟩ : ∃ B, B = hG b0 b1 s mo x W Y := ⟨_, rfl⟩
 have hBX : ∀ X, B ++ X = hG b0 b1 s mo x W (Y ++ X) := fun X => by rw [hB]; rfl
 have hBl : B.length = Y.length + 10 := by rw [hB]; rfl
 have hB3 : ∀ Z, (B ++ Z)[3]? = some (rdT s x.a (fiG x mo)) := fun Z => by rw [hB]; rfl
 have hB2 : ∀ Z, (B ++ Z)[2]? = some (.map (x.D.map vi) (W.map vi)) := fun Z => by rw [hB]; rfl
 rw [← hB] at hid ⊢
 have hidl : id < B.length := (List.getElem?_eq_some_iff.1 hid).1
 have hidX : ∀ Z, (B ++ Z)[id]? = some (.cells cs) := fun Z => by rw [List.getElem?_append_left hidl]; exact hid
 refine zb.kp (fun _ => false) ?_
 refine zh Tryz.func73 rfl (by simp [nts]) ?_
 refine za ?_
 refine vm ?_
 simp only [wq.down, seval, Tryz.results73]
 refine zj ?_
 refine zt (fun mm f h' => ∃ i X, mm + i = l.length ∧ f.t 0 = .lp 3 0 ∧ f.t 8 = .ls id 2 off l.length cap ∧ f.t 9 = vi l.length ∧ f.t 10 = vi i ∧ f.d = [] ∧ (∀ j, f.k j = true → False) ∧ h' = B ++ X ∧ zau x.D l = zau x.D (l.drop i)) l.length ⟨0, [], by simp, by simp only [wq.down, seval], by simp only [wq.down, seval], by simp only [wq.down, seval], rfl, rfl, fun j hj => (by cases hj), by simp, by simp⟩ ?_
 rintro mm f h' ⟨i, X, hm, t0, t8, t9, t10, hd, hk, rfl, hkn⟩
 refine za (vm ?_)
 simp only [wq.down, Nat.reduceLT, t9, t10]
 refine za (vm ?_)
 simp only [wq.down, ↓reduceIte]
 refine vcB.mk (fun hlt => ?_) (fun hlt => ?_)
 ·simp only [decide_eq_true_eq, Int.ofNat_lt] at hlt
  have huc := hc i hlt
  have hw := zi (show i < maxLen by omega)
  have hui := hu _ (List.getElem_mem hlt)
  have hsh := znV l[i].1
  obtain ⟨n, hmg⟩ := zxc (a := l[i].1 / 2) hWl
  have hsp : l.drop i = l[i] :: l.drop (i + 1) := (List.drop_eq_getElem_cons hlt)
  rw [hsp, show zau x.D (l[i] :: l.drop (i + 1)) = (if l[i].1 / 2 ∈ x.D then zau x.D (l.drop (i + 1)) else some (l[i].2, 6)) from rfl] at hkn
  refine za (zj ?_)
  refine za (vm ?_)
  simp only [wq.down, seval, t8, t10, hidX, gE, gE0, gS, gS0, huc, List.append_assoc]
  refine ⟨⟨by omega, by omega⟩, by omega, ?_⟩
  refine za ?_
  refine vm ?_
  simp only [wq.down, seval, t0, hB3, hB2, gE, gE0, hsh, K.keyOk, hmg]
  refine ⟨by decide +kernel, ?_⟩
  refine vm ?_
  simp only [wq.down, seval, gE, gE0]
  refine zz _ _ 6 (fun hb => ?_) (fun hb => ?_)
  ·have hb' := of_decide_eq_true hb
   rw [if_pos hb'] at hkn
   simp only [wq.down]
   refine vm ?_
   simp only [wq.down, seval, t10, hw]
   exact .inl ⟨mm - 1, by omega, i + 1, _, by omega, by simp only [wq.down, seval, t0], by simp only [wq.down, seval, t8], by simp only [wq.down, seval, t9], rfl, by simp only [wq.down, hd], fun j hj => hk j hj, rfl, hkn⟩
  ·have hb' := of_decide_eq_false hb
   rw [if_neg hb'] at hkn
   simp only [wq.down, zR, hd]
   simp only [XE.block, XE.seq, zO]
   simp only [wq.down, hd]
   have := h2 _ _ hkn (X ++ [.cells [vi l[i].1, vi l[i].2]])
   rw [← hBX] at this
   exact ⟨hk, this⟩
 ·simp only [decide_eq_false_iff_not, Int.ofNat_lt] at hlt
  have hi : i = l.length := by omega
  subst hi
  rw [List.drop_length] at hkn
  simp only [wq.down, hd]
  have := h1 hkn X
  rw [← hBX] at this
  exact ⟨hk, this⟩
def zbK (L : Cl) : List V := L.map fun _ => V.bool true
theorem zs6 {L : Cl} {a : Int} : zgl (.int .i64) (vi a) (L.map vi) (zbK L) (.bool false) false = (True, .bool (decide (a ∈ L))) := by
 unfold zgl
 rw [zeT, ← zf5]
 cases hf : L.findIdx? (· == a) with
 | none => rfl
 | some i =>
  obtain ⟨h1, h2, h3⟩ := List.findIdx?_eq_some_iff_getElem.1 hf
  show (True, (zbK L).getD i .any) = _
  unfold zbK
  rw [List.getD_eq_getElem?_getD, List.getElem?_map, List.getElem?_eq_getElem h1]
  rfl
theorem zxd {L : Cl} {a : Int} (h : a ∉ L) : znU (.int .i64) (vi a) (.bool true) (L.map vi) (zbK L) = some ((L ++ [a]).map vi, zbK (L ++ [a])) := by
 unfold znU
 have : L.findIdx? (· == a) = none := by
  have := zf5 (D := L) (a := a)
  rw [decide_eq_false h] at this
  cases hf : L.findIdx? (· == a) with
  | none => rfl
  | some i => rw [hf] at this; cases this
 rw [zeT, this]
 simp [zbK]
theorem zxe {L : Cl} {a : Int} (h : a ∈ L) : zwV (.int .i64) (vi a) (L.map vi) (zbK L) = some ((L.erase a).map vi, zbK (L.erase a)) := by
 unfold zwV
 rw [zeT]
 have h0 := zf5 (D := L) (a := a)
 rw [decide_eq_true h] at h0
 obtain ⟨i, hi⟩ := Option.isSome_iff_exists.1 h0
 obtain ⟨h1, h2, h3⟩ := List.findIdx?_eq_some_iff_getElem.1 hi
 have e : L.idxOf a = i := by
  rw [List.idxOf, List.findIdx_eq h1]
  exact ⟨h2, fun j hj => by simpa using h3 j hj⟩
 rw [hi, List.erase_eq_eraseIdx_of_idxOf e]
 simp only [Option.some.injEq, Prod.mk.injEq, zbK]
 exact ⟨(zaH _ _ _).symm, (zaH _ _ _).symm⟩
theorem zge {p : Nat → Bool} : ∀ {L : Cl}, V.drops p (zbK L) = zbK L
 | [] => rfl
 | a :: L => by unfold zbK; rw [List.map_cons, V.drops]; congr 1; exact zge
theorem zdl {l : List An} {i : Nat} (h : i < l.length) : ((anV l).drop (i * 6)).take 6 = [vi l[i].lit, vi l[i].pos, vi l[i].p.1, vi l[i].p.2, vi l[i].q.1, vi l[i].q.2] := by
 induction l generalizing i with
 | nil => exact absurd h (by simp)
 | cons u l ih =>
  cases i with
  | zero => rfl
  | succ i =>
   rw [show (i + 1) * 6 = i * 6 + 6 by omega]
   exact ih (by simpa using h)
theorem znI {b0 b1 : O} {s : S} {mo : Int} {x : Fi} {W : Cl} {Y : H} (hl : x.ands.length ≤ 4000) (hnd : x.left.Nodup) (ha : ∀ a ∈ x.ands, 0 ≤ a.lit ∧ a.lit ≤ 2147483647 ∧ 0 ≤ a.p.1 ∧ a.p.1 ≤ 2147483647 ∧ 0 ≤ a.q.1 ∧ a.q.1 ≤ 2147483647) (hcl : zae (hG b0 b1 s mo x W Y)) {R : AEnd → H → (Nat → Bool) → Prop}
 (h1 : ∀ o left, zaZ x.ands ((x.ands.length + 1) * (x.ands.length + 1)) 0 x.left [] = (o, left) → x.ands.find? (fun a => decide (a.lit / 2 ∈ left)) = none → ∀ X, R (.ret (zy (o.map fun i : Nat => (i : Int)))) (hG b0 b1 s mo x W (Y ++ X)) (fun _ => false))
 (h2 : ∀ o left a, zaZ x.ands ((x.ands.length + 1) * (x.ands.length + 1)) 0 x.left [] = (o, left) → x.ands.find? (fun a => decide (a.lit / 2 ∈ left)) = some a → ∀ X, R (.pan (zaR a.pos 7)) (hG b0 b1 s mo x W (Y ++ X)) (fun _ => false)) :
 zb TE 148 [.lp 3 0] (hG b0 b1 s mo x W Y) R := by
 have hM : maxLen = 9223372036854775807 := rfl
 refine zb.fresh ?_
 obtain ⟨B, hB⟩ : ∃ B, B = hG b0 b1 s mo x W Y := ⟨_, rfl⟩
 have hBX : ∀ X, B ++ X = hG b0 b1 s mo x W (Y ++ X) := fun X => by rw [hB]; rfl
 have hBl : B.length = Y.length + 10 := by rw [hB]; rfl
 have hB3 : ∀ Z, (B ++ Z)[3]? = some (rdT s x.a (fiG x mo)) := fun Z => by rw [hB]; rfl
 have hB9 : ∀ Z, (B ++ Z)[9]? = some (.cells (anV x.ands)) := fun Z => by rw [hB]; rfl
 have hal := zgS x.ands
 obtain ⟨n, hn⟩ : ∃ n, n = x.ands.length := ⟨_, rfl⟩
 rw [← hB] at hcl ⊢
 refine zh Tryz.func148 rfl (by simp [nts]) ?_
 refine za (vm ?_)
 simp only [wq.down, Nat.reduceLT, Tryz.results148]
 refine za (vm ?_)
 simp only [wq.down, Nat.reduceLT]
 refine za (vm ?_)
 simp only [wq.down, seval]
 refine za ?_
 refine za ?_
 refine vm ?_
 simp only [wq.down, seval, hB3]
 refine zj ?_
 refine zt (fun mm f h' => ∃ i X, mm + i = n ∧ f.t 0 = .lp 3 0 ∧ f.t 3 = .nils ∧ f.t 4 = .lm B.length ∧ f.t 15 = .ls 9 6 0 x.ands.length x.ands.length ∧ f.t 16 = vi n ∧ f.t 17 = vi i ∧ f.d = [] ∧ (∀ j, f.k j = true → B.length ≤ j) ∧ h' = B ++ (.map ((x.left.take i).map vi) (zbK (x.left.take i)) :: X)) n ⟨0, [], by simp, by simp only [wq.down, seval], by simp only [wq.down, seval], by simp only [wq.down, seval], by simp only [wq.down, seval], by rw [hn]; rfl, rfl, rfl, fun j hj => (by cases hj), by simp [zbK]⟩ ?_
 rintro mm f h' ⟨i, X, hm, t0, t3, t4, t15, t16, t17, hd, hk, rfl⟩
 refine za (vm ?_)
 simp only [wq.down, Nat.reduceLT, t16, t17]
 refine za (vm ?_)
 simp only [wq.down, ↓reduceIte]
 refine vcB.mk (fun hlt => ?_) (fun hlt => ?_)
 ·simp only [decide_eq_true_eq, Int.ofNat_lt] at hlt
  rw [hn] at hlt
  have hac := zdl hlt
  have hw := zi (show i < maxLen by omega)
  have hai := ha _ (List.getElem_mem hlt)
  have hsh := znV x.ands[i].lit
  have hll : i < x.left.length := by unfold Fi.left; rw [List.length_map]; exact hlt
  have hlv : x.left[i] = x.ands[i].lit / 2 := by simp [Fi.left]
  have htk : x.left.take (i + 1) = x.left.take i ++ [x.ands[i].lit / 2] := by rw [List.take_add_one, List.getElem?_eq_getElem hll, hlv]; rfl
  have hnm : x.ands[i].lit / 2 ∉ x.left.take i := fun hm => by
   have h2 := (List.take_sublist (i + 1) x.left).nodup hnd
   rw [htk, List.nodup_append] at h2
   exact h2.2.2 _ hm _ (by simp) rfl
  have hput := zxd hnm
  refine za (zj ?_)
  refine za (vm ?_)
  simp only [wq.down, seval, t15, t17, hB9, gE, gE0, gS, gS0, hac, List.append_assoc]
  refine ⟨⟨by omega, by omega⟩, by omega, ?_⟩
  refine vm ?_
  simp only [wq.down, seval, t4, gE, gE0, gS0, hsh, K.keyOk, hput]
  refine vm ?_
  simp only [wq.down, seval, t17, hw]
  exact .inl ⟨mm - 1, by omega, i + 1, X ++ [O.cells [vi x.ands[i].lit, vi x.ands[i].pos, vi x.ands[i].p.1, vi x.ands[i].p.2, vi x.ands[i].q.1, vi x.ands[i].q.2]], by omega, by simp only [wq.down, seval, t0], by simp only [wq.down, seval, t3], by simp only [wq.down, seval, t4], by simp only [wq.down, seval, t15], by simp only [wq.down, seval, t16], rfl, by simp only [wq.down, hd], fun j hj => hk j hj, by rw [htk, List.map_append]; rfl⟩
 ·simp only [decide_eq_false_iff_not, Int.ofNat_lt] at hlt
  have hi : i = n := by omega
  have hll : x.left.length = n := by unfold Fi.left; rw [List.length_map, hn]
  rw [List.take_of_length_le (by omega)]
  clear hm hlt
  simp only [wq.down]
  refine za (za ?_)
  refine vm ?_
  simp only [wq.down, Nat.reduceLT]
  obtain ⟨R0, hR0⟩ : ∃ R0, R0 = zaZ x.ands ((n + 1) * (n + 1)) 0 x.left [] := ⟨_, rfl⟩
  rw [← hn, ← hR0] at h1 h2
  refine zj ?_
  refine zt (fun mm f h' => ∃ (i : Nat) (left : Cl) (o : List Nat) (X : H), zaZ x.ands mm i left o = R0 ∧ left.length * (n + 1) + (n + 1 - i) ≤ mm ∧ i ≤ n ∧ left.length + o.length = n ∧ f.t 0 = .lp 3 0 ∧ f.t 4 = .lm B.length ∧ f.t 7 = vi i ∧ f.d = [] ∧ (∀ j, f.k j = true → B.length ≤ j) ∧ h' = B ++ (.map (left.map vi) (zbK left) :: X) ∧ ((o = [] ∧ f.t 3 = .nils) ∨ (o ≠ [] ∧ ∃ j, f.t 3 = .ls (B.length + (j + 1)) 1 0 o.length o.length ∧ X[j]? = some (.cells ((o.map fun i : Nat => (i : Int)).map vi))))) ((n + 1) * (n + 1)) ⟨0, x.left, [], X, hR0.symm, by rw [hll, Nat.add_mul n 1, Nat.one_mul, Nat.sub_zero]; exact Nat.le_refl _, Nat.zero_le _, by simp [hll], by simp only [wq.down, seval, t0], by simp only [wq.down, seval, t4], rfl, by simp only [wq.down, hd], fun j hj => hk j hj, rfl, .inl ⟨rfl, by simp only [wq.down, seval, t3]⟩⟩ ?_
  clear t0 t3 t4 t15 t16 t17 hd hk X i hi
  rintro mm f h' ⟨i, left, o, X, hsr, hms, hin, hlo, t0, t4, t7, hd, hk, rfl, hrow⟩
  by_cases hlt : i < n
  ·have e1 : decide ((i : Int) < (x.ands.length : Int)) = true := by simp; omega
   rw [hn] at hlt
   obtain ⟨k, rfl⟩ : ∃ k, mm = k + 1 := ⟨mm - 1, by omega⟩
   have hac := zdl hlt
   have hw := zi (show i < maxLen by omega)
   have hai := ha _ (List.getElem_mem hlt)
   obtain ⟨a, hae⟩ : ∃ a, a = x.ands[i] := ⟨_, rfl⟩
   rw [← hae] at hac hai
   have s1 := znV a.lit
   have s2 := znV a.p.1
   have s3 := znV a.q.1
   have m1 := zs6 (L := left) (a := a.lit / 2)
   have m2 := zs6 (L := left) (a := a.p.1 / 2)
   have m3 := zs6 (L := left) (a := a.q.1 / 2)
   have hst : zaZ x.ands (k + 1) i left o = (if a.lit / 2 ∈ left ∧ a.p.1 / 2 ∉ left ∧ a.q.1 / 2 ∉ left then zaZ x.ands k 0 (left.erase (a.lit / 2)) (o ++ [i]) else zaZ x.ands k (i + 1) left o) := by
    rw [show zaZ x.ands (k + 1) i left o = (if i < x.ands.length then (if (x.ands.getD i .nil).lit / 2 ∈ left ∧ (x.ands.getD i .nil).p.1 / 2 ∉ left ∧ (x.ands.getD i .nil).q.1 / 2 ∉ left then zaZ x.ands k 0 (left.erase ((x.ands.getD i .nil).lit / 2)) (o ++ [i]) else zaZ x.ands k (i + 1) left o) else (o, left)) from rfl, if_pos hlt, zA hlt, ← hae]
   rw [hst] at hsr
   refine za (vm ?_)
   simp only [wq.down, seval, t0, t7, hB3, e1]
   refine zj ?_
   refine za (vm ?_)
   simp only [wq.down, seval, t0, t7, hB3, hB9, hac, gE, gE0, gS, gS0, List.append_assoc]
   refine ⟨⟨by omega, by omega⟩, by omega, ?_⟩
   have hrow' : ∀ {f' : Fr}, f'.t 3 = f.t 3 → (o = [] ∧ f'.t 3 = .nils) ∨ (o ≠ [] ∧ ∃ j, f'.t 3 = .ls (B.length + (j + 1)) 1 0 o.length o.length ∧ (X ++ [O.cells [vi a.lit, vi a.pos, vi a.p.1, vi a.p.2, vi a.q.1, vi a.q.2]])[j]? = some (.cells ((o.map fun i : Nat => (i : Int)).map vi))) := fun {f'} h3 => by
    rw [h3]
    rcases hrow with ⟨h, h'⟩ | ⟨h, j, h', hj⟩
    ·exact .inl ⟨h, h'⟩
    ·exact .inr ⟨h, j, h', by rw [List.getElem?_append_left (List.getElem?_eq_some_iff.1 hj).1]; exact hj⟩
   cases c0 : decide (a.lit / 2 ∈ left) with
   | false =>
    rw [c0] at m1
    refine za (vm ?_)
    simp only [wq.down, seval, t4, t7, gE, gE0, s1, s2, s3, K.keyOk, m1, m2, m3, hw]
    skip
    rw [if_neg (fun h => of_decide_eq_false c0 h.1)] at hsr
    exact .inl ⟨k, by omega, i + 1, left, o, X ++ [O.cells [vi a.lit, vi a.pos, vi a.p.1, vi a.p.2, vi a.q.1, vi a.q.2]], hsr, by omega, by omega, hlo, by simp only [wq.down, seval, t0], by simp only [wq.down, seval, t4], rfl, by simp only [wq.down, ↓reduceIte, Nat.reduceEqDiff, Nat.reduceLT, Nat.reduceLeDiff, Nat.reduceAdd, Nat.reduceSub, Int.reduceToNat, Nat.reduceDiv, Int.reduceLT, Int.reduceLE, Int.reduceNeg, Int.reduceBEq, Int.reduceBNe, Int.reduceAdd, Int.reduceSub, Nat.reduceBEq, reduceCtorEq, Nat.reduceMul, zn, Tryz.results148, hd], fun j hj => hk j hj, rfl, hrow' rfl⟩
   | true =>
    rw [c0] at m1
    cases c1 : decide (a.p.1 / 2 ∈ left) with
    | true =>
     rw [c1] at m2
     refine za (vm ?_)
     simp only [wq.down, ↓reduceIte, Nat.reduceEqDiff, Nat.reduceLT, Nat.reduceLeDiff, Nat.reduceAdd, Nat.reduceSub, Int.reduceToNat, Nat.reduceDiv, Int.reduceLT, Int.reduceLE, Int.reduceNeg, Int.reduceBEq, Int.reduceBNe, Int.reduceAdd, Int.reduceSub, Nat.reduceBEq, reduceCtorEq, Nat.reduceMul, zn, Tryz.results148, t0, t4, t7, hd, gE, gE0, s1, s2, s3, K.keyOk, m1, m2, m3, List.append_assoc, List.cons_append, List.nil_append, hw]
     refine ⟨by decide, ?_⟩
     rw [if_neg (fun h => h.2.1 (of_decide_eq_true c1))] at hsr
     exact .inl ⟨k, by omega, i + 1, left, o, X ++ [O.cells [vi a.lit, vi a.pos, vi a.p.1, vi a.p.2, vi a.q.1, vi a.q.2]], hsr, by omega, by omega, hlo, by simp only [wq.down, seval, t0], by simp only [wq.down, seval, t4], rfl, by simp only [wq.down, ↓reduceIte, Nat.reduceEqDiff, Nat.reduceLT, Nat.reduceLeDiff, Nat.reduceAdd, Nat.reduceSub, Int.reduceToNat, Nat.reduceDiv, Int.reduceLT, Int.reduceLE, Int.reduceNeg, Int.reduceBEq, Int.reduceBNe, Int.reduceAdd, Int.reduceSub, Nat.reduceBEq, reduceCtorEq, Nat.reduceMul, zn, Tryz.results148, hd], fun j hj => hk j hj, rfl, hrow' rfl⟩
    | false =>
     rw [c1] at m2
     cases c2 : decide (a.q.1 / 2 ∈ left) with
     | true =>
      rw [c2] at m3
      refine za (vm ?_)
      simp only [wq.down, ↓reduceIte, Nat.reduceEqDiff, Nat.reduceLT, Nat.reduceLeDiff, Nat.reduceAdd, Nat.reduceSub, Int.reduceToNat, Nat.reduceDiv, Int.reduceLT, Int.reduceLE, Int.reduceNeg, Int.reduceBEq, Int.reduceBNe, Int.reduceAdd, Int.reduceSub, Nat.reduceBEq, reduceCtorEq, Nat.reduceMul, zn, Tryz.results148, t0, t4, t7, hd, gE, gE0, s1, s2, s3, K.keyOk, m1, m2, m3, List.append_assoc, List.cons_append, List.nil_append, hw]
      refine ⟨by decide, by decide, ?_⟩
      rw [if_neg (fun h => h.2.2 (of_decide_eq_true c2))] at hsr
      exact .inl ⟨k, by omega, i + 1, left, o, X ++ [O.cells [vi a.lit, vi a.pos, vi a.p.1, vi a.p.2, vi a.q.1, vi a.q.2]], hsr, by omega, by omega, hlo, by simp only [wq.down, seval, t0], by simp only [wq.down, seval, t4], rfl, by simp only [wq.down, ↓reduceIte, Nat.reduceEqDiff, Nat.reduceLT, Nat.reduceLeDiff, Nat.reduceAdd, Nat.reduceSub, Int.reduceToNat, Nat.reduceDiv, Int.reduceLT, Int.reduceLE, Int.reduceNeg, Int.reduceBEq, Int.reduceBNe, Int.reduceAdd, Int.reduceSub, Nat.reduceBEq, reduceCtorEq, Nat.reduceMul, zn, Tryz.results148, hd], fun j hj => hk j hj, rfl, hrow' rfl⟩
     | false =>
      rw [c2] at m3
      rw [if_pos ⟨of_decide_eq_true c0, of_decide_eq_false c1, of_decide_eq_false c2⟩] at hsr
      have hdl := zxe (of_decide_eq_true c0)
      have hel : (left.erase (a.lit / 2)).length + 1 = left.length := by
       have := List.length_erase_of_mem (of_decide_eq_true c0)
       have := List.length_pos_of_mem (of_decide_eq_true c0)
       omega
      refine za (vm ?_)
      simp only [wq.down, ↓reduceIte, Nat.reduceEqDiff, Nat.reduceLT, Nat.reduceLeDiff, Nat.reduceAdd, Nat.reduceSub, Int.reduceToNat, Nat.reduceDiv, Int.reduceLT, Int.reduceLE, Int.reduceNeg, Int.reduceBEq, Int.reduceBNe, Int.reduceAdd, Int.reduceSub, Nat.reduceBEq, reduceCtorEq, Nat.reduceMul, zn, Tryz.results148, t0, t4, t7, hd, gE, gE0, s1, s2, s3, K.keyOk, m1, m2, m3, List.append_assoc, List.cons_append, List.nil_append]
      refine ⟨by decide, by decide, ?_⟩
      refine za (zaO ?_)
      refine zm rfl rfl ?_
      simp only [wq.down, seval, t4]
      refine zm rfl rfl ?_
      simp only [wq.down, seval]
      refine zm rfl rfl ?_
      simp only [wq.down, seval, gE, gE0]
      refine zm rfl rfl ?_
      simp only [wq.down, seval, s1]
      have hq : ti TE.P 249 = some ⟨.map 3 4, 1, 8, .nilm⟩ := by simp only [wq.down]
      have hqi : ti TE.P 3 = some ⟨.int .i64, 1, 8, .int .i64 0⟩ := by simp only [wq.down]
      refine zah rfl rfl ?_
      refine zno (kt' := 0) (t := 249) rfl rfl (id := B.length) (by simp only [wq.down, seval]) (by simp only [wq.down, seval]) (by simp only [wq.down, ↓reduceIte]) hq rfl hqi (by simp only [wq.down, ↓reduceIte, K.keyOk]) (ks := left.map vi) (vs := zbK left) (by rw [gE0]; rfl) (by simp only [wq.down, ↓reduceIte]; exact hdl) ?_
      refine zax ?_
      simp only [wq.down, gS0]
      obtain ⟨L2, hL2⟩ : ∃ L2, L2 = left.erase (a.lit / 2) := ⟨_, rfl⟩
      rw [← hL2] at hel hsr ⊢
      obtain ⟨Z, hZ⟩ : ∃ Z, Z = X ++ [O.cells [vi a.lit, vi a.pos, vi a.p.1, vi a.p.2, vi a.q.1, vi a.q.2]] := ⟨_, rfl⟩
      rw [← hZ]
      have hms2 : L2.length * (n + 1) + (n + 1 - 0) ≤ k := by
       rw [← hel, Nat.add_mul, Nat.one_mul] at hms
       omega
      rcases hrow with ⟨ho, t3⟩ | ⟨ho, j, t3, hj⟩
      ·subst ho
       refine za (vm ?_)
       simp only [wq.down, ↓reduceIte, Nat.reduceEqDiff, Nat.reduceLT, Nat.reduceLeDiff, reduceCtorEq, Nat.reduceMul, t3, t7]
       refine ⟨⟨rfl, by decide⟩, by decide, ?_⟩
       refine vm ?_
       simp only [wq.down, Nat.reduceLT]
       refine .inl ⟨k, by omega, 0, L2, [] ++ [i], Z ++ [O.cells [vi i]], hsr, hms2, Nat.zero_le _, by simp at hlo ⊢; omega, by simp only [wq.down, seval, t0], by simp only [wq.down, seval, t4], rfl, by simp only [wq.down, hd], fun j hj => hk j hj, ?_, .inr ⟨by simp, Z.length, ?_, ?_⟩⟩
       ·simp only [wq.down, List.append_assoc]
       ·first
         | rfl
         | (simp only [wq.down, ↓reduceIte, Nat.reduceEqDiff, Nat.reduceLT, Nat.reduceLeDiff, Nat.reduceAdd, Nat.reduceSub, Int.reduceToNat, Nat.reduceDiv, Int.reduceLT, Int.reduceLE, Int.reduceNeg, Int.reduceBEq, Int.reduceBNe, Int.reduceAdd, Int.reduceSub, Nat.reduceBEq, reduceCtorEq, Nat.reduceMul, zn, Tryz.results148])
       ·rw [gE0]; rfl
      ·have hzj : Z[j]? = some (.cells ((o.map fun i : Nat => (i : Int)).map vi)) := by
        rw [hZ, List.getElem?_append_left (List.getElem?_eq_some_iff.1 hj).1]; exact hj
       have d1 : V.drops (fun x => x == B.length + (j + 1)) ((o.map fun i : Nat => (i : Int)).map vi) = (o.map fun i : Nat => (i : Int)).map vi := zD _
       have d2 : B.map (O.drop fun x => x == B.length + (j + 1)) = B := hcl.one (Nat.le_add_right _ _)
       have d3 : V.drops (fun x => x == B.length + (j + 1)) (L2.map vi) = L2.map vi := zD _
       have d4 : V.drops (fun x => x == B.length + (j + 1)) (zbK L2) = zbK L2 := zge
       refine za (vm ?_)
       simp only [wq.down, ↓reduceIte, Nat.reduceEqDiff, Nat.reduceLT, reduceCtorEq, Nat.reduceMul, t3, t7, hd, gE, gS, hzj, d1, d2, d3, d4]
       refine ⟨⟨rfl, by decide⟩, ⟨by omega, by omega, by omega⟩, ?_⟩
       refine vm ?_
       simp only [wq.down, Nat.reduceLT]
       have e3 : (3 == B.length + (j + 1)) = false := by simp; omega
       have e4 : (B.length == B.length + (j + 1)) = false := by simp
       refine .inl ⟨k, by omega, 0, L2, o ++ [i], _, hsr, hms2, Nat.zero_le _, by simp at hlo ⊢; omega, by simp only [wq.down, seval, t0, e3], by simp only [wq.down, seval, t4, e4], rfl, by simp only [wq.down, hd], ?_, rfl, .inr ⟨by simp, j, ?_, ?_⟩⟩
       ·intro j' hj
        have hj' : (f.k j' || (j' == B.length + (j + 1))) = true := hj
        rcases (by simpa using hj' : f.k j' = true ∨ j' = B.length + (j + 1)) with h | h
        ·exact hk _ h
        ·omega
       ·simp only [wq.down, seval]
       ·rw [List.map_append, List.map_append, List.getElem?_set_self (by rw [List.length_map]; exact (List.getElem?_eq_some_iff.1 hzj).1)]
        rfl
  ·have e1 : decide ((i : Int) < (x.ands.length : Int)) = false := by simp; omega
   refine za (vm ?_)
   simp only [wq.down, seval, t0, t7, hB3, e1]
   have hi : i = x.ands.length := by omega
   obtain ⟨k, rfl⟩ : ∃ k, mm = k + 1 := ⟨mm - 1, by omega⟩
   have hst : zaZ x.ands (k + 1) i left o = (o, left) := by
    rw [show zaZ x.ands (k + 1) i left o = (if i < x.ands.length then _ else (o, left)) from rfl, if_neg (by omega)]
   rw [hst] at hsr
   rw [← hsr] at h1 h2
   have h1 := h1 o left rfl
   have h2 := fun a => h2 o left a rfl
   clear hst e1 hms hsr hR0 hi hin
   refine za ?_
   refine za ?_
   refine vm ?_
   simp only [wq.down, seval, t0, hB3]
   refine zj ?_
   refine zt (fun mm f h' => ∃ (i : Nat) (X : H), mm + i = x.ands.length ∧ x.ands.find? (fun a => decide (a.lit / 2 ∈ left)) = (x.ands.drop i).find? (fun a => decide (a.lit / 2 ∈ left)) ∧ f.t 4 = .lm B.length ∧ f.t 77 = .ls 9 6 0 x.ands.length x.ands.length ∧ f.t 78 = vi x.ands.length ∧ f.t 79 = vi i ∧ f.d = [] ∧ (∀ j, f.k j = true → B.length ≤ j) ∧ h' = B ++ (.map (left.map vi) (zbK left) :: X) ∧ ((o = [] ∧ f.t 3 = .nils) ∨ (o ≠ [] ∧ ∃ j, f.t 3 = .ls (B.length + (j + 1)) 1 0 o.length o.length ∧ X[j]? = some (.cells ((o.map fun i : Nat => (i : Int)).map vi))))) x.ands.length ⟨0, X, by simp, by simp, by simp only [wq.down, seval, t4], by simp only [wq.down, seval], by simp only [wq.down, seval], rfl, by simp only [wq.down, hd], fun j hj => hk j hj, rfl, hrow⟩ ?_
   clear t0 t4 t7 hd hk hrow X hlt i
   rintro mm f h' ⟨i, X, hm, hfi, t4, t77, t78, t79, hd, hk, rfl, hrow⟩
   refine za (vm ?_)
   simp only [wq.down, Nat.reduceLT, t78, t79]
   refine za (vm ?_)
   simp only [wq.down, ↓reduceIte]
   refine vcB.mk (fun hlt => ?_) (fun hlt => ?_)
   ·simp only [decide_eq_true_eq, Int.ofNat_lt] at hlt
    have hac := zdl hlt
    have hw := zi (show i < maxLen by omega)
    have hai := ha _ (List.getElem_mem hlt)
    have s1 := znV x.ands[i].lit
    have m1 := zs6 (L := left) (a := x.ands[i].lit / 2)
    have hsp : x.ands.drop i = x.ands[i] :: x.ands.drop (i + 1) := List.drop_eq_getElem_cons hlt
    rw [hsp, List.find?_cons] at hfi
    refine za (zj ?_)
    refine za (vm ?_)
    simp only [wq.down, seval, t77, t79, hB9, hac, gE, gE0, gS, gS0, List.append_assoc]
    refine ⟨⟨by omega, by omega⟩, by omega, ?_⟩
    refine vm ?_
    simp only [wq.down, seval, t4, gE, gE0, s1, K.keyOk, m1]
    refine zz _ _ 7 (fun hb => ?_) (fun hb => ?_)
    ·have hb' : decide (x.ands[i].lit / 2 ∈ left) = false := by simpa using hb
     rw [hb'] at hfi
     simp only [wq.down]
     refine vm ?_
     simp only [wq.down, seval, t79, hw]
     refine .inl ⟨mm - 1, by omega, i + 1, _, by omega, hfi, by simp only [wq.down, seval, t4], by simp only [wq.down, seval, t77], by simp only [wq.down, seval, t78], rfl, by simp only [wq.down, hd], fun j hj => hk j hj, rfl, ?_⟩
     rcases hrow with ⟨h, h'⟩ | ⟨h, j, h', hj⟩
     ·exact .inl ⟨h, h'⟩
     ·exact .inr ⟨h, j, h', by rw [List.getElem?_append_left (List.getElem?_eq_some_iff.1 hj).1]; exact hj⟩
    ·have hb' : decide (x.ands[i].lit / 2 ∈ left) = true := by simpa using hb
     rw [hb'] at hfi
     simp only [wq.down, zR, hd]
     simp only [XE.block, XE.seq, zO]
     simp only [wq.down, hd]
     refine ⟨fun j hj => ?_, ?_⟩
     ·cases h : f.k j with
      | false => rfl
      | true => have := hk j h; omega
     ·have := h2 x.ands[i] hfi (.map (left.map vi) (zbK left) :: (X ++ [.cells [vi x.ands[i].lit, vi x.ands[i].pos, vi x.ands[i].p.1, vi x.ands[i].p.2, vi x.ands[i].q.1, vi x.ands[i].q.2]]))
      rw [← hBX] at this
      exact this
   ·simp only [decide_eq_false_iff_not, Int.ofNat_lt] at hlt
    have hi : i = x.ands.length := by omega
    subst hi
    rw [List.drop_length] at hfi
    have h1 := h1 hfi
    simp only [wq.down]
    rcases hrow with ⟨ho, t3⟩ | ⟨ho, j, t3, hj⟩
    ·refine zix (FLe.one 3 (v := zy []) (by rw [show ((f.put (some 80) (V.bool (decide ((x.ands.length : Int) < (x.ands.length : Int))))).t 3) = f.t 3 from rfl, t3]; exact zcz)) (zd3 _) ?_
     refine vm ?_
     simp only [wq.down, seval, hd]
     refine ⟨fun i hi => ?_, ?_⟩
     ·cases h : f.k i with
      | false => rfl
      | true => have := hk i h; omega
     ·subst ho
      have := h1 (.map (left.map vi) (zbK left) :: X)
      rw [← hBX] at this
      exact this
    ·refine ziz (h0 := B) (Y := .map (left.map vi) (zbK left) :: X) 3 (zy (o.map fun i : Nat => (i : Int))) (by simp only [wq.down, hd]) (by simp only [wq.down, seval, t3, zK, show decide (B.length ≤ B.length + (j + 1)) = true by simp]) ?_ ?_
     ·simp only [wq.down, seval, t3]
      refine zao ((zk5 (j + 1) hj).trans ?_) (by simp)
      rw [zD]
     ·rw [hcl.from_, hcl.from_]
      refine vm ?_
      simp only [wq.down, seval, hd]
      refine ⟨fun i hi => ?_, ?_⟩
      ·have hf : zK B.length i = false := by simp [zK]; omega
       rw [hf]
       cases h : f.k i with
       | false => rfl
       | true => have := hk i h; omega
      ·have := h1 []
       rw [← hBX, List.append_nil] at this
       exact this
end Go.Proofs.YtboolnpmlmgpkaaGreatDoor
