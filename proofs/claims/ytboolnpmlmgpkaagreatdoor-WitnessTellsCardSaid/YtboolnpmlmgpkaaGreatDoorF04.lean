/- Functions of the program, part 04. -/
import Derived.Test.YtboolnpmlmgpkaaGreatDoorF03
import Derived.Lib.Builder
import Derived.Lib.UnsafeStr
import Derived.Test.YtboolnpmlmgpkaaGreatDoorA9
import Derived.Laws.Externs
import Derived.WalkKit
import Derived.LaidEql
import Derived.Stop.Asserts
import Derived.RowKitTokens
import Derived.Shelf.Strconv.AtoiAll
import Derived.Shelf.Strconv.Itoa3
import Derived.Shelf.LaysM
import Derived.Shelf.LaysC
import Derived.Lib.AtoiAll
set_option linter.unusedVariables false
set_option maxRecDepth 20000
set_option linter.unusedSimpArgs false
set_option linter.unnecessarySimpa false
namespace Go.Proofs.YtboolnpmlmgpkaaGreatDoor
open Go Go.Proofs Go.Abs Go.RowKit

/-! ### strings.Builder -/
set_option maxRecDepth 100000 in
theorem copyCheck_used (b : Nat) (w : World) (h0 : w.cell? ⟨b, 0, none⟩ = some (.pointer (some ⟨b, 0, none⟩))) :
    Calls Tryz.prog 134 #[.pointer (some ⟨b, 0, none⟩)] w fun e w' => e = .returned (.tuple #[]) ∧ w' = w := by
  obtain ⟨j, hj, _⟩ : ∃ j, Tryz.prog.info? 98 = some j ∧ True := ⟨_, rfl, trivial⟩
  go_enter Tryz.func134, Tryz.ntmps134
  go_wp2
  rw [Lib.run_neq_ptr_same w _ Tryz.underlying95 hj]
  go_wp2
  go_end0
  exact ⟨rfl, rfl⟩

set_option maxRecDepth 100000 in
theorem copyCheck_fresh (b : Nat) (w : World) (T cells : Nat) (h0 : w.cell? ⟨b, 0, none⟩ = some (.pointer none)) (hsh : w.shape? b = some (T, cells)) (hc : 0 < cells) (hl : liesAt Tryz.prog Tryz.prog.depth T (cells / Tryz.prog.cellsOf T) 0 98 1 = true) (hfz : w.frozen? ⟨b, 0, none⟩ = false) :
    Calls Tryz.prog 134 #[.pointer (some ⟨b, 0, none⟩)] w fun e w' => e = .returned (.tuple #[]) ∧ w' = w.setCell ⟨b, 0, none⟩ (.pointer (some ⟨b, 0, none⟩)) := by
  obtain ⟨j, hj, hjs⟩ : ∃ j, Tryz.prog.info? 98 = some j ∧ j.size ≠ 0 := ⟨_, rfl, by decide⟩
  go_enter Tryz.func134, Tryz.ntmps134
  go_wp2
  rw [Lib.run_to_unsafe w ⟨b, 0, none⟩ Tryz.underlying95 Tryz.underlying242 hj hjs hsh hc]
  simp only [Result.andThen]
  rw [Oper.upon_value]
  go_wp2
  rw [run_callFunc_extern Tryz.func192 (by kernel_rfl) (by kernel_rfl) (by kernel_rfl) (e := Extern.AbiNoEscape.same) (by kernel_rfl)]
  rw [Lib.run_noEscape]
  simp only [Result.andThen]
  rw [Oper.upon_value]
  go_wp2
  rw [Lib.run_from_unsafe w ⟨b, 0, none⟩ Tryz.underlying242 Tryz.underlying95 hj hsh hl]
  simp only [Result.andThen]
  rw [Oper.upon_value]
  go_wp2
  go_end0
  exact ⟨rfl, rfl⟩

/-- A type whose variables begin with a builder. -/
def BT (T : Nat) : Prop := Tryz.prog.cellsOf T = 2 ∧ ∀ k, liesAt Tryz.prog Tryz.prog.depth T (k + 1) 0 98 1 = true
theorem bt_builder : BT 98 := ⟨by kernel_rfl, fun k => by kernel_rfl⟩

theorem set_same {h : H} {i : Nat} {o : O} (hi : h[i]? = some o) : h.set i o = h := by
  obtain ⟨h1, h2⟩ := List.getElem?_eq_some_iff.1 hi
  rw [← h2, List.set_getElem_self]

theorem copyCheck_calls {T : Nat} (hT : BT T) {id : Nat} {a buf : V} {h : H} {R : AEnd → H → (Nat → Bool) → Prop} (ha : a = .nilp ∨ a = .lp id 0) (hh : h[id]? = some (.typed T [a, buf]))
    (hr : R (.ret (.tup [])) (h.set id (.typed T [.lp id 0, buf])) (fun _ => false)) : ACalls TE 134 [.lp id 0] h R := by
  intro ok pl w vs hs hl
  simp only [VList, VRel] at hl
  obtain ⟨y, ys, rfl, ⟨b, hb, rfl⟩, rfl⟩ := hl
  have hb : pl id = some b := hb
  obtain ⟨o, ho, hat⟩ := hs.obj id b hb
  rw [hh] at ho; cases ho
  obtain ⟨arr, fz, g1, g2, g3, g4⟩ := hat
  have g1 : w.heap[b]? = some (.cells arr T fz) := g1
  have hsz : 2 ≤ arr.size := g3
  have hx0 : ∃ x0, arr[0]? = some x0 ∧ VRel (cx ok pl w) a x0 := by
    obtain ⟨x, h1, h2⟩ := VList.get 0 a g4 rfl
    refine ⟨x, ?_, h2⟩
    rw [List.getElem?_take_of_lt (by simp)] at h1
    simpa using h1
  obtain ⟨x0, h0, hr0⟩ := hx0
  have hcell : w.cell? ⟨b, 0, none⟩ = some x0 := by rw [Lib.cell_of_heap g1]; exact h0
  rcases ha with rfl | rfl
  · simp only [VRel] at hr0
    subst hr0
    have hsh : w.shape? b = some (T, arr.size) := by unfold World.shape?; rw [g1]
    obtain ⟨k, hk⟩ : ∃ k, arr.size / 2 = k + 1 := ⟨arr.size / 2 - 1, by omega⟩
    have hfz : w.frozen? ⟨b, 0, none⟩ = false := by
      have := g2 0 (by omega)
      unfold World.frozen?
      rw [g1]
      simp
      omega
    refine (copyCheck_fresh b w T arr.size hcell hsh (by omega) (by rw [hT.1, hk]; exact hT.2 k) hfz).mono ?_
    rintro e w' ⟨rfl, rfl⟩
    obtain ⟨w'', h1, h2, h3⟩ := cells_writeT hs hb (off := 0) (vs := [.lp id 0]) (xs := [.pointer (some ⟨b, 0, none⟩)]) (by simp only [VList, VRel]; exact ⟨_, _, rfl, ⟨b, hb, rfl⟩, rfl⟩) rfl hh (by simp)
    have h4 := run_store_cells (P := TE.P) (vs := [.pointer (some ⟨b, 0, none⟩)]) (o := 0) g1 g2 (by simp; omega) (fun v hv => by simp at hv; subst hv; rfl)
    rw [h4] at h1
    cases h1
    exact ⟨fun _ => false, pl, _, .ret (.tup []), h2, h3, by show VRel _ _ _; simp only [VRel, VList]; exact ⟨#[], rfl, rfl⟩, hr⟩
  · simp only [VRel] at hr0
    obtain ⟨b', hb', rfl⟩ := hr0
    have hb' : pl id = some b' := hb'
    rw [hb] at hb'; cases hb'
    refine (copyCheck_used b w hcell).mono ?_
    rintro e w' ⟨rfl, rfl⟩
    rw [set_same hh] at hr
    exact ⟨fun _ => false, pl, h, .ret (.tup []), hs, Keeps.refl pl _, by show VRel _ _ _; simp only [VRel, VList]; exact ⟨#[], rfl, rfl⟩, hr⟩

abbrev vb (c : UInt8) : V := .int .u8 c.toNat
theorem srcEls_str {h : H} {l : S} : srcEls h 1 (.str l) = some (l.length, l.map vb) := rfl
theorem allOne_vb : ∀ l : S, allOne (l.map vb) = true
  | [] => rfl
  | a :: l => by simp only [List.map_cons, allOne, allOne_vb l, V.one]; rfl
theorem drops_vb {p : Nat → Bool} : ∀ c : S, V.drops p (c.map vb) = c.map vb
  | [] => rfl
  | a :: l => by simp only [List.map_cons, V.drops, V.drop, drops_vb l]

/-- The first text that is written. -/
theorem bld_first {T : Nat} (hT : BT T) {id : Nat} {a : V} {h : H} {R : AEnd → H → (Nat → Bool) → Prop} (s : S) (ha : a = .nilp ∨ a = .lp id 0) (hh : h[id]? = some (.typed T [a, .nils])) (hs : s ≠ []) (hl : s.length ≤ 20000000000000)
    (hr : R (.ret (.tup [vi s.length, .nili])) ((h ++ [O.typed 5 (s.map vb)]).set id (.typed T [.lp id 0, .ls h.length 1 0 s.length s.length])) (fun _ => false)) : ACalls TE 58 [.lp id 0, .str s] h R := by
  have hM : maxLen = 9223372036854775807 := rfl
  have hlt : id < h.length := (List.getElem?_eq_some_iff.1 hh).1
  have hpos : 0 < s.length := List.length_pos_iff.2 hs
  refine ACalls.of_awp Tryz.func58 rfl (by simp [nts]) ?_
  
  refine awp_seq (vc_ok mixed _ _ _ _ ?_)
  simp only [sz.down, Nat.reduceLT, TEP, nts, Tryz.results58]
  refine awp_seq (vc_ok mixed _ _ _ _ ?_)
  simp only [sz.down, ↓reduceIte, Nat.reduceLT, reduceCtorEq, TEP, ens]
  refine copyCheck_calls hT ha hh ?_
  simp only [sz.down]
  have h1 : (h.set id (.typed T [.lp id 0, .nils]))[id]? = some (.typed T [.lp id 0, .nils]) := by simp [hlt]
  refine awp_seq (awp_list ?_)
  refine awpL_vc rfl rfl ?_
  simp only [sz.down, ↓reduceIte, reduceCtorEq, TEP]
  refine awpL_vc rfl rfl ?_
  simp only [sz.down, ↓reduceIte, reduceCtorEq, TEP]
  refine awpL_vc rfl rfl ?_
  simp only [sz.down, ↓reduceIte, TEP]
  refine awpL_vc rfl rfl ?_
  simp only [sz.down, ↓reduceIte, Nat.reduceLT, TEP, tis]
  refine awpL_vc rfl rfl ?_
  simp only [sz.down, ↓reduceIte, Nat.reduceAdd, TEP, tis, h1]
  refine awpL_vc rfl rfl ?_
  simp only [sz.down, ↓reduceIte, Nat.reduceEqDiff, TEP]
  have hq : ti TE.P 96 = some ⟨.slice 5, 1, 24, .nils⟩ := by simp only [sz.down, TEP, tis]
  have hqe : ti TE.P 5 = some ⟨.int .u8, 1, 1, .int .u8 0⟩ := by simp only [sz.down, TEP, tis]
  refine awpL_op rfl rfl ?_
  refine eff_append_freshT (x := .tmp 12) (y := .tmp 13) (t := 96) (xt := 9) (el := 5) (m := s.length) (cs := s.map vb) ⟨⟨_, rfl, rfl, rfl⟩, hq, rfl, hqe, rfl, rfl, Nat.zero_lt_one⟩ (by simp only [sz.down, ↓reduceIte, Nat.reduceEqDiff]) (by simp only [sz.down, ↓reduceIte]) (by simp only [sz.down, ↓reduceIte, Nat.reduceEqDiff]) (by simp only [sz.down, ↓reduceIte, TEP, tis]) (by simp only [sz.down, ↓reduceIte]) (by simp only [sz.down, ↓reduceIte]) hpos (by omega) (by show (0 + s.length) * 1 ≤ _; omega) ?_
  have h2 : (h.set id (O.typed T [.lp id 0, .nils]) ++ [O.typed 5 (s.map vb)])[id]? = some (.typed T [.lp id 0, .nils]) := by rw [List.getElem?_append_left (by simpa using hlt)]; exact h1
  simp only [sz.down, List.length_set]
  refine awpL_vc rfl rfl ?_
  simp only [sz.down, ↓reduceIte, Nat.reduceEqDiff, TEP]
  refine awpL_vc rfl rfl ?_
  simp only [sz.down, ↓reduceIte, Nat.reduceLT, TEP, tis]
  refine awpL_op rfl rfl ?_
  refine eff_storeT (t := 96) (x := .tmp 16) (y := .tmp 14) rfl (id := id) (off := 1) (by simp only [sz.down, ↓reduceIte]) (by simp only [sz.down, ↓reduceIte]) (by simp only [sz.down, ↓reduceIte, Nat.reduceEqDiff]) hq (by simp only [sz.down, ↓reduceIte, Nat.reduceEqDiff]) (by simp only [sz.down, ↓reduceIte, Nat.reduceEqDiff]) (by simp only [sz.down, ↓reduceIte, Nat.reduceEqDiff]) h2 (by simp only [sz.down, ↓reduceIte, Nat.reduceEqDiff, Nat.reduceAdd]) ?_
  refine awpL_nil ?_
  simp only [sz.down, ↓reduceIte, Nat.reduceEqDiff, Nat.reduceAdd]
  refine vc_ok mixed _ _ _ _ ?_
  simp only [sz.down, ↓reduceIte, Nat.reduceEqDiff, Nat.reduceLT, TEP, tis]
  rw [List.set_append_left _ _ (by simpa using hlt), List.set_set, ← List.set_append_left _ _ hlt]
  exact hr

theorem map_set_drop (p : Nat → Bool) (h : H) (i : Nat) (o : O) : (h.set i o).map (O.drop p) = (h.map (O.drop p)).set i (o.drop p) := by rw [List.map_set]
/-- A further text. -/
theorem bld_next {T : Nat} (hT : BT T) {id bid : Nat} {a : V} {h : H} {R : AEnd → H → (Nat → Bool) → Prop} (out s : S) (ha : a = .nilp ∨ a = .lp id 0) (hne : id ≠ bid) (hh : h[id]? = some (.typed T [a, .ls bid 1 0 out.length out.length])) (hb : h[bid]? = some (.typed 5 (out.map vb))) (hl : out.length + s.length ≤ 20000000000000)
    (hr : R (.ret (.tup [vi s.length, .nili])) (((h.map (O.drop (· == bid))).set bid (O.typed 5 ((out ++ s).map vb))).set id (.typed T [.lp id 0, .ls bid 1 0 (out ++ s).length (out ++ s).length])) (· == bid)) : ACalls TE 58 [.lp id 0, .str s] h R := by
  have hM : maxLen = 9223372036854775807 := rfl
  have hlt : id < h.length := (List.getElem?_eq_some_iff.1 hh).1
  have hltb : bid < h.length := (List.getElem?_eq_some_iff.1 hb).1
  have hidb : (id == bid) = false := by simpa using hne
  refine ACalls.of_awp Tryz.func58 rfl (by simp [nts]) ?_
  
  refine awp_seq (vc_ok mixed _ _ _ _ ?_)
  simp only [sz.down, Nat.reduceLT, TEP, nts, Tryz.results58]
  refine awp_seq (vc_ok mixed _ _ _ _ ?_)
  simp only [sz.down, ↓reduceIte, Nat.reduceLT, reduceCtorEq, TEP, ens]
  refine copyCheck_calls hT ha hh ?_
  simp only [sz.down]
  have h1 : (h.set id (.typed T [.lp id 0, .ls bid 1 0 out.length out.length]))[id]? = some (.typed T [.lp id 0, .ls bid 1 0 out.length out.length]) := by simp [hlt]
  have h1b : (h.set id (.typed T [.lp id 0, .ls bid 1 0 out.length out.length]))[bid]? = some (.typed 5 (out.map vb)) := by rw [List.getElem?_set_ne hne]; exact hb
  refine awp_seq (awp_list ?_)
  refine awpL_vc rfl rfl ?_
  simp only [sz.down, ↓reduceIte, reduceCtorEq, TEP]
  refine awpL_vc rfl rfl ?_
  simp only [sz.down, ↓reduceIte, reduceCtorEq, TEP]
  refine awpL_vc rfl rfl ?_
  simp only [sz.down, ↓reduceIte, TEP]
  refine awpL_vc rfl rfl ?_
  simp only [sz.down, ↓reduceIte, Nat.reduceLT, TEP, tis]
  refine awpL_vc rfl rfl ?_
  simp only [sz.down, ↓reduceIte, Nat.reduceAdd, TEP, tis, h1]
  refine awpL_vc rfl rfl ?_
  simp only [sz.down, ↓reduceIte, Nat.reduceEqDiff, TEP]
  have hq : ti TE.P 96 = some ⟨.slice 5, 1, 24, .nils⟩ := by simp only [sz.down, TEP, tis]
  have hqe : ti TE.P 5 = some ⟨.int .u8, 1, 1, .int .u8 0⟩ := by simp only [sz.down, TEP, tis]
  refine awpL_op rfl rfl ?_
  refine eff_append_growT (x := .tmp 12) (y := .tmp 13) (t := 96) (xt := 9) (el := 5) (m := s.length) (cs := s.map vb) (len := out.length) (cap := out.length) ⟨⟨_, rfl, rfl, rfl⟩, hq, rfl, hqe, rfl, rfl, Nat.zero_lt_one⟩ (by simp only [sz.down, ↓reduceIte, Nat.reduceEqDiff]) (by simp only [sz.down, ↓reduceIte]) (id := bid) (by simp only [sz.down, ↓reduceIte, Nat.reduceEqDiff]) h1b (by rw [List.length_map]; show _ = out.length * 1; omega) (by simp only [sz.down, ↓reduceIte, TEP, tis]) (by simp only [sz.down, ↓reduceIte]) (by simp only [sz.down, ↓reduceIte]) (allOne_vb s) (by omega) (by show (out.length + s.length) * 1 ≤ _; omega) (by simp only [sz.down]) ?_
  rw [V.drops_append, drops_vb, drops_vb, map_set_drop]
  have e1 : (O.typed T [.lp id 0, .ls bid 1 0 out.length out.length]).drop (· == bid) = .typed T [.lp id 0, .any] := by
    simp only [O.drop, V.drops, V.drop, hidb, beq_self_eq_true, Bool.false_eq_true, if_false, if_true]
  rw [e1]
  generalize hG : h.map (O.drop (· == bid)) = G at hr ⊢
  have hGl : id < G.length := by rw [← hG, List.length_map]; exact hlt
  have h2 : ((G.set id (O.typed T [.lp id 0, .any])).set bid (O.typed 5 (out.map vb ++ s.map vb)))[id]? = some (.typed T [.lp id 0, .any]) := by rw [List.getElem?_set_ne (Ne.symm hne)]; simp [hGl]
  simp only [sz.down]
  refine awpL_vc rfl rfl ?_
  simp only [sz.down, ↓reduceIte, Nat.reduceEqDiff, TEP, hidb]
  refine awpL_vc rfl rfl ?_
  simp only [sz.down, ↓reduceIte, Nat.reduceLT, TEP, tis]
  refine awpL_op rfl rfl ?_
  refine eff_storeT (t := 96) (x := .tmp 16) (y := .tmp 14) rfl (id := id) (off := 1) (by simp only [sz.down, ↓reduceIte]) (by simp only [sz.down, ↓reduceIte]) (by simp only [sz.down, ↓reduceIte, Nat.reduceEqDiff]) hq (by simp only [sz.down, ↓reduceIte, Nat.reduceEqDiff]) (by simp only [sz.down, ↓reduceIte, Nat.reduceEqDiff]) (by simp only [sz.down, ↓reduceIte, Nat.reduceEqDiff]) h2 (by simp only [sz.down, ↓reduceIte, Nat.reduceEqDiff, Nat.reduceAdd]) ?_
  refine awpL_nil ?_
  simp only [sz.down, ↓reduceIte, Nat.reduceEqDiff, Nat.reduceAdd]
  refine vc_ok mixed _ _ _ _ ?_
  simp only [sz.down, ↓reduceIte, Nat.reduceEqDiff, Nat.reduceLT, TEP, tis]
  rw [List.map_append, List.length_append] at hr
  rw [List.set_comm _ _ hne, List.set_set]
  exact hr

/-- A further byte. -/
theorem bld_byte {T : Nat} (hT : BT T) {id bid : Nat} {a : V} {h : H} {R : AEnd → H → (Nat → Bool) → Prop} (out : S) (c : UInt8) (ha : a = .nilp ∨ a = .lp id 0) (hne : id ≠ bid) (hh : h[id]? = some (.typed T [a, .ls bid 1 0 out.length out.length])) (hb : h[bid]? = some (.typed 5 (out.map vb))) (hl : out.length + 1 ≤ 20000000000000)
    (hr : R (.ret .nili) (((h.map (O.drop (· == bid))).set bid (O.typed 5 ((out ++ [c]).map vb))).set id (.typed T [.lp id 0, .ls bid 1 0 (out ++ [c]).length (out ++ [c]).length])) (· == bid)) : ACalls TE 117 [.lp id 0, vb c] h R := by
  have hM : maxLen = 9223372036854775807 := rfl
  have hlt : id < h.length := (List.getElem?_eq_some_iff.1 hh).1
  have hltb : bid < h.length := (List.getElem?_eq_some_iff.1 hb).1
  have hidb : (id == bid) = false := by simpa using hne
  refine ACalls.of_awp Tryz.func117 rfl (by simp [nts]) ?_
  
  refine awp_seq (vc_ok mixed _ _ _ _ ?_)
  simp only [sz.down, Nat.reduceLT, TEP, nts, Tryz.results117]
  refine awp_seq (vc_ok mixed _ _ _ _ ?_)
  simp only [sz.down, ↓reduceIte, Nat.reduceLT, reduceCtorEq, TEP, ens]
  refine copyCheck_calls hT ha hh ?_
  simp only [sz.down]
  have h1 : (h.set id (.typed T [.lp id 0, .ls bid 1 0 out.length out.length]))[id]? = some (.typed T [.lp id 0, .ls bid 1 0 out.length out.length]) := by simp [hlt]
  have h1b : (h.set id (.typed T [.lp id 0, .ls bid 1 0 out.length out.length]))[bid]? = some (.typed 5 (out.map vb)) := by rw [List.getElem?_set_ne hne]; exact hb
  refine awp_seq (awp_list ?_)
  refine awpL_vc rfl rfl ?_
  simp only [sz.down, ↓reduceIte, reduceCtorEq, TEP]
  refine awpL_vc rfl rfl ?_
  simp only [sz.down, ↓reduceIte, reduceCtorEq, TEP]
  refine awpL_vc rfl rfl ?_
  simp only [sz.down, ↓reduceIte, TEP]
  refine awpL_vc rfl rfl ?_
  simp only [sz.down, ↓reduceIte, Nat.reduceLT, TEP, tis]
  refine awpL_vc rfl rfl ?_
  simp only [sz.down, ↓reduceIte, Nat.reduceAdd, TEP, tis, h1]
  refine awpL_vc rfl rfl ?_
  simp only [sz.down, ↓reduceIte, Nat.reduceEqDiff, TEP]
  refine awpL_vc rfl rfl ?_
  simp only [sz.down, ↓reduceIte, Nat.reduceLT, reduceCtorEq, Nat.reduceMul, TEP, tis]
  refine ⟨⟨rfl, by decide⟩, ?_⟩
  have hq : ti TE.P 96 = some ⟨.slice 5, 1, 24, .nils⟩ := by simp only [sz.down, TEP, tis]
  have hqe : ti TE.P 5 = some ⟨.int .u8, 1, 1, .int .u8 0⟩ := by simp only [sz.down, TEP, tis]
  refine awpL_op rfl rfl ?_
  refine eff_append_growT (x := .tmp 11) (y := .tmp 13) (t := 96) (xt := 96) (el := 5) (m := 1) (cs := [vb c]) (len := out.length) (cap := out.length) ⟨⟨_, rfl, rfl, rfl⟩, hq, rfl, hqe, rfl, rfl, Nat.zero_lt_one⟩ (by simp only [sz.down, ↓reduceIte, Nat.reduceEqDiff]) (by simp only [sz.down, ↓reduceIte]) (id := bid) (by simp only [sz.down, ↓reduceIte, Nat.reduceEqDiff]) h1b (by rw [List.length_map]; show _ = out.length * 1; omega) (by simp only [sz.down, ↓reduceIte, TEP, tis]) (by simp only [sz.down, ↓reduceIte]) (by simp only [sz.down, ↓reduceIte]) rfl (by omega) (by show (out.length + 1) * 1 ≤ _; omega) (by simp only [sz.down]) ?_
  rw [V.drops_append, drops_vb, show V.drops (· == bid) [vb c] = [vb c] from rfl, map_set_drop]
  have e1 : (O.typed T [.lp id 0, .ls bid 1 0 out.length out.length]).drop (· == bid) = .typed T [.lp id 0, .any] := by
    simp only [O.drop, V.drops, V.drop, hidb, beq_self_eq_true, Bool.false_eq_true, if_false, if_true]
  rw [e1]
  generalize hG : h.map (O.drop (· == bid)) = G at hr ⊢
  have hGl : id < G.length := by rw [← hG, List.length_map]; exact hlt
  have h2 : ((G.set id (O.typed T [.lp id 0, .any])).set bid (O.typed 5 (out.map vb ++ [vb c])))[id]? = some (.typed T [.lp id 0, .any]) := by rw [List.getElem?_set_ne (Ne.symm hne)]; simp [hGl]
  simp only [sz.down]
  refine awpL_vc rfl rfl ?_
  simp only [sz.down, ↓reduceIte, Nat.reduceEqDiff, TEP, hidb]
  refine awpL_vc rfl rfl ?_
  simp only [sz.down, ↓reduceIte, Nat.reduceLT, TEP, tis]
  refine awpL_op rfl rfl ?_
  refine eff_storeT (t := 96) (x := .tmp 16) (y := .tmp 14) rfl (id := id) (off := 1) (by simp only [sz.down, ↓reduceIte]) (by simp only [sz.down, ↓reduceIte]) (by simp only [sz.down, ↓reduceIte, Nat.reduceEqDiff]) hq (by simp only [sz.down, ↓reduceIte, Nat.reduceEqDiff]) (by simp only [sz.down, ↓reduceIte, Nat.reduceEqDiff]) (by simp only [sz.down, ↓reduceIte, Nat.reduceEqDiff]) h2 (by simp only [sz.down, ↓reduceIte, Nat.reduceEqDiff, Nat.reduceAdd]) ?_
  refine awpL_nil ?_
  simp only [sz.down, ↓reduceIte, Nat.reduceEqDiff, Nat.reduceAdd]
  refine vc_ok mixed _ _ _ _ ?_
  simp only [sz.down, ↓reduceIte, Nat.reduceLT, TEP]
  rw [List.map_append, List.length_append] at hr
  rw [List.set_comm _ _ hne, List.set_set]
  exact hr


set_option maxHeartbeats 1000000 in
set_option maxRecDepth 100000 in
theorem String_row (b g len cap cells : Nat) (l : List UInt8) (w : World) (c1 : w.drew.cell? ⟨b, 1, none⟩ = some (.slice (some ⟨g, 0, none⟩) l.length cap)) (hcap : cap ≠ 0) (hsh : w.drew.shape? g = some (5, cells)) (hn : l.length ≤ cells) (h63 : l.length ≤ 9223372036854775807) (h0 : l ≠ []) (hcell : ∀ j x, l[j]? = some x → w.drew.cell? ((⟨g, 0, none⟩ : Addr).add j) = some (.int .u8 x.toNat)) :
    Calls Tryz.prog 60 #[.pointer (some ⟨b, 0, none⟩)] w fun e w' => e = .returned (.string ⟨l.toArray⟩) ∧ w' = w.drew.freeze ⟨g, 0, none⟩ l.length := by
  have hSD : (Builtin.unsafeSliceData_ #[96] 194 #[.slice (some ⟨g, 0, none⟩) l.length cap]).run Tryz.prog w.drew = .ok (.pointer (some ⟨g, 0, none⟩)) w.drew :=
    Lib.run_unsafeSliceData_row w.drew _ _ _ _ _ hcap
  have hUS : (Builtin.unsafeString_ #[194, 3] 9 #[.pointer (some ⟨g, 0, none⟩), .int .i64 l.length]).run Tryz.prog w.drew = .ok (.string ⟨l.toArray⟩) (w.drew.freeze ⟨g, 0, none⟩ l.length) :=
    Lib.run_unsafeString_row w.drew 194 3 9 5 Tryz.underlying194 (by kernel_rfl) g cells hsh l h0 hn h63 hcell
  go_enter Tryz.func60, Tryz.ntmps60
  go_wp2
  go_region
  all_goals (go_wp2; go_ret; exact ⟨rfl, rfl⟩)

/-- What has been written: the bytes are frozen from there on. -/
theorem bld_str {T id bid : Nat} {a : V} {h : H} {R : AEnd → H → (Nat → Bool) → Prop} (out : S) (hh : h[id]? = some (.typed T [a, .ls bid 1 0 out.length out.length])) (hb : h[bid]? = some (.typed 5 (out.map vb))) (h0 : out ≠ []) (hl : out.length ≤ 20000000000000)
    (hr : R (.ret (.str out)) ((h.map (O.drop (· == bid))).set bid .dead) (· == bid)) : ACalls TE 60 [.lp id 0] h R := by
  intro ok pl w vs hs hv
  simp only [VList, VRel] at hv
  obtain ⟨y, ys, rfl, ⟨b, hpb, rfl⟩, rfl⟩ := hv
  have hpb : pl id = some b := hpb
  have hpos : 0 < out.length := List.length_pos_iff.2 h0
  obtain ⟨o, ho, hat⟩ := hs.obj id b hpb
  rw [hh] at ho; cases ho
  obtain ⟨arr, fz, g1, g2, g3, g4⟩ := hat
  have g1 : w.heap[b]? = some (.cells arr T fz) := g1
  obtain ⟨x1, e1, r1⟩ := VList.get 1 (.ls bid 1 0 out.length out.length) g4 rfl
  have e1 : arr[1]? = some x1 := by
    rw [List.getElem?_take_of_lt (by simp)] at e1
    simpa using e1
  simp only [VRel] at r1
  obtain ⟨ad, cp, rfl, q2, q3, q4, q5⟩ := r1
  rcases q5 with q5 | ⟨g, arr2, el2, fz2, q6, rfl, q8, q9⟩
  · omega
  have q6 : pl bid = some g := q6
  obtain ⟨o, ho, hat⟩ := hs.obj bid g q6
  rw [hb] at ho; cases ho
  obtain ⟨arr3, fz3, k1, k2, k3, k4⟩ := hat
  have k1 : w.heap[g]? = some (.cells arr3 5 fz3) := k1
  have k3 : out.length ≤ arr3.size := by simpa using k3
  have hcell : w.drew.cell? ⟨b, 1, none⟩ = some (.slice (some ⟨g, 0, none⟩) out.length cp) := by
    rw [Lib.cell_of_heap (w := w.drew) g1]; exact e1
  have hsh : w.drew.shape? g = some (5, arr3.size) := by
    unfold World.shape?
    show (match w.heap[g]? with | some (.cells c e _) => some (e, c.size) | _ => none) = _
    rw [k1]
  refine (String_row b g out.length cp arr3.size out w hcell (by omega) hsh k3 (by omega) h0 fun j x hx => ?_).mono ?_
  · have hj : j < out.length := (List.getElem?_eq_some_iff.1 hx).1
    obtain ⟨x2, hx2, r2⟩ := VList.get j (vb x) k4 (by rw [List.getElem?_map, hx]; rfl)
    simp only [VRel] at r2
    subst r2
    rw [List.length_map, List.getElem?_take_of_lt hj] at hx2
    rw [add_plain, Lib.cell_of_heap (w := w.drew) k1, Nat.zero_add]
    simpa using hx2
  · rintro en w' ⟨rfl, rfl⟩
    have hsz : (w.drew.freeze ⟨g, 0, none⟩ out.length).heap.size = w.heap.size := by
      unfold World.freeze
      rw [if_neg (by omega)]
      exact Array.size_modify
    have hsame : ∀ i, i ≠ g → (w.drew.freeze ⟨g, 0, none⟩ out.length).heap[i]? = w.heap[i]? := fun i hi => by
      unfold World.freeze
      rw [if_neg (by omega)]
      show (w.heap.modify g _)[i]? = _
      rw [Array.getElem?_modify, if_neg (Ne.symm hi)]
    have hrow : ∀ arr el fz, w.heap[g]? = some (.cells arr el fz) → ∃ arr' fz', (w.drew.freeze ⟨g, 0, none⟩ out.length).heap[g]? = some (.cells arr' el fz') ∧ arr'.size = arr.size := fun a3 el fz4 ha => by
      unfold World.freeze
      rw [if_neg (by omega)]
      refine ⟨a3, (if fz4.1 == fz4.2 then (0, 0 + out.length) else (min fz4.1 0, max fz4.2 (0 + out.length))), ?_, rfl⟩
      show (w.heap.modify g _)[g]? = _
      rw [Array.getElem?_modify, if_pos rfl, ha]
      rfl
    have hos : (w.drew.freeze ⟨g, 0, none⟩ out.length).os = w.os ∧ (w.drew.freeze ⟨g, 0, none⟩ out.length).tape = w.tape ∧ (w.drew.freeze ⟨g, 0, none⟩ out.length).output = w.output := by
      unfold World.freeze
      rw [if_neg (by omega)]
      exact ⟨rfl, rfl, rfl⟩
    obtain ⟨s1, s2⟩ := hs.burn q6 hos.1 hos.2.1 hos.2.2 hsz hsame hrow
    exact ⟨_, _, _, .ret (.str out), s1, s2, by show VRel _ _ _; simp only [VRel]; exact ⟨_, rfl, by simp, by have : maxLen = 9223372036854775807 := rfl; omega⟩, hr⟩

end Go.Proofs.YtboolnpmlmgpkaaGreatDoor

set_option linter.unusedVariables false
set_option maxRecDepth 20000
namespace Go.Proofs.YtboolnpmlmgpkaaGreatDoor
open Go.RowKit Go.Extern.Stop Go.Stop Go.Extern

theorem valueOf52 (t : Addr) (w : World) : (ReflectliteValue.unpack (.iface 263 (.pointer (some t)))).run Tryz.prog w
    = .ok (.agg #[.pointer (some ⟨8, 263, none⟩), .pointer (some ⟨w.heap.size, 0, none⟩), .int .u64 150]) (w.alloc (.cells #[.pointer (some t)] 263)) := by kernel_rfl
theorem type52 (a : Addr) (w : World) : (ReflectliteValue.methodAny (ReflectliteValue.valueError "reflectlite.Value.Type" 0) (fun t _ _ _ => ReflectliteType.toType t) #[.agg #[.pointer (some ⟨8, 263, none⟩), .pointer (some a), .int .u64 150]]).run Tryz.prog w
    = .ok (.iface 307 (.agg #[.pointer (some ⟨8, 263, none⟩)])) w := by kernel_rfl
theorem methodKind (h : Value) (w : World) : (Go.method 475 307 (.agg #[h]) "Kind").run Tryz.prog w = .ok (307, h) w := by kernel_rfl
theorem kind52 (w : World) : ((ReflectliteType.abiMethod fun t => (fun a : Nat => Value.int IntKind.u8 (a : Int)) <$> Rtype.kind t) #[.pointer (some ⟨8, 263, none⟩)]).run Tryz.prog w = .ok (.int .u8 22) w := by kernel_rfl
theorem kind23 (w : World) : ((ReflectliteType.abiMethod fun t => (fun a : Nat => Value.int IntKind.u8 (a : Int)) <$> Rtype.kind t) #[.pointer (some ⟨8, 31, none⟩)]).run Tryz.prog w = .ok (.int .u8 2) w := by kernel_rfl
theorem rlm (z : Sem Value) (f : TypeId → Addr → Nat → Nat → Sem Value) (v : Value) :
    ReflectliteValue.method z f #[v] = (do match ← ReflectliteValue.parts v with | none => z | some (t, a, fl) => f t a fl (fl % 32)) := rfl
theorem parts52 (a : Addr) (w : World) : (ReflectliteValue.parts (.agg #[.pointer (some ⟨8, 263, none⟩), .pointer (some a), .int .u64 150])).run Tryz.prog w = .ok (some (263, a, 150)) w := by kernel_rfl
theorem isNil52 (a p : Addr) (W : World) (ha : W.cell? a = some (.pointer (some p))) :
    (ReflectliteValue.method (ReflectliteValue.valueError "reflectlite.Value.IsNil" 0) ReflectliteValue.isNil #[.agg #[.pointer (some ⟨8, 263, none⟩), .pointer (some a), .int .u64 150]]).run Tryz.prog W = .ok (.bool false) W := by
  rw [rlm]
  simp only [Sem.run_bind, parts52, Result.andThen]
  simp [ReflectliteValue.isNil, loadVar, isAgg, underlying, Tryz.underlying263, ha, Result.andThen]
theorem methodElem (h : Value) (w : World) : (Go.method 475 307 (.agg #[h]) "Elem").run Tryz.prog w = .ok (321, .agg #[h]) w := by kernel_rfl
theorem methodImplements (h : Value) (w : World) : (Go.method 475 307 (.agg #[h]) "Implements").run Tryz.prog w = .ok (322, .agg #[h]) w := by kernel_rfl
theorem methodAssignableTo (h : Value) (w : World) : (Go.method 475 307 (.agg #[h]) "AssignableTo").run Tryz.prog w = .ok (319, .agg #[h]) w := by kernel_rfl
theorem elem52 (w : World) : (ReflectliteType.method ReflectliteType.elem #[.agg #[.pointer (some ⟨8, 263, none⟩)]]).run Tryz.prog w = .ok (.iface 307 (.agg #[.pointer (some ⟨8, 31, none⟩)])) w := by kernel_rfl
theorem implements23 (w : World) : (ReflectliteType.relation "Implements" ReflectliteType.implements_ #[.agg #[.pointer (some ⟨8, 31, none⟩)], .iface 307 (.agg #[.pointer (some ⟨8, 102, none⟩)])]).run Tryz.prog w = .ok (.bool true) w := by kernel_rfl
theorem typeOf23 (v : Value) (w : World) : (ReflectliteType.typeOf #[.iface 31 v]).run Tryz.prog w = .ok (.iface 307 (.agg #[.pointer (some ⟨8, 31, none⟩)])) w := by kernel_rfl
theorem typeOf40 (v : Value) (w : World) : (ReflectliteType.typeOf #[.iface 233 v]).run Tryz.prog w = .ok (.iface 307 (.agg #[.pointer (some ⟨8, 233, none⟩)])) w := by kernel_rfl
theorem assignable23 (w : World) : (ReflectliteType.relation "AssignableTo" ReflectliteType.assignableTo #[.agg #[.pointer (some ⟨8, 31, none⟩)], .iface 307 (.agg #[.pointer (some ⟨8, 31, none⟩)])]).run Tryz.prog w = .ok (.bool true) w := by kernel_rfl
theorem assignable40 (w : World) : (ReflectliteType.relation "AssignableTo" ReflectliteType.assignableTo #[.agg #[.pointer (some ⟨8, 233, none⟩)], .iface 307 (.agg #[.pointer (some ⟨8, 31, none⟩)])]).run Tryz.prog w = .ok (.bool false) w := by kernel_rfl
theorem elemOf52 (w : World) : (Rtype.elem? 263).run Tryz.prog w = .ok (some 31) w := by kernel_rfl
theorem noAs (v : Value) (xT : TypeId) (w : World) : (Instr.typeAssert (.iface 233 v) xT 312 true).run Tryz.prog w = .ok (.tuple #[.nilIface, .bool false]) w := run_typeAssert_lacksB Tryz.underlying312 (by kernel_rfl) (by kernel_rfl) v xT w
theorem hasUnwrap (v : Value) (xT : TypeId) (w : World) : (Instr.typeAssert (.iface 233 v) xT 315 true).run Tryz.prog w = .ok (.tuple #[.iface 233 v, .bool true]) w := run_typeAssert_hasB Tryz.underlying315 (by kernel_rfl) v xT w
theorem methodUnwrap (v : Value) (w : World) : (Go.method 475 233 v "Unwrap").run Tryz.prog w = .ok (313, v) w := by kernel_rfl
theorem direct23 (w : World) : (Rtype.directlyAssignable 31 31).run Tryz.prog w = .ok true w := by kernel_rfl
theorem size23 (w : World) : (sizeOf 31).run Tryz.prog w = .ok 1 w := by kernel_rfl
theorem valueOf23 (k : Int) (w : World) : (ReflectliteValue.unpack (.iface 31 (.int .i64 k))).run Tryz.prog w
    = .ok (.agg #[.pointer (some ⟨8, 31, none⟩), .pointer (some ⟨w.heap.size, 0, none⟩), .int .u64 130]) (w.alloc (.cells #[.int .i64 k] 31)) := by kernel_rfl
theorem mk23 (p : Addr) (w : World) : (ReflectliteValue.mk 31 p ReflectliteValue.flagAddr).run Tryz.prog w = .ok (.agg #[.pointer (some ⟨8, 31, none⟩), .pointer (some p), .int .u64 386]) w := by kernel_rfl
theorem elemV52 (a p : Addr) (W : World) (ha : W.cell? a = some (.pointer (some p))) :
    (ReflectliteValue.method (ReflectliteValue.valueError "reflectlite.Value.Elem" 0) ReflectliteValue.elem #[.agg #[.pointer (some ⟨8, 263, none⟩), .pointer (some a), .int .u64 150]]).run Tryz.prog W
      = .ok (.agg #[.pointer (some ⟨8, 31, none⟩), .pointer (some p), .int .u64 386]) W := by
  rw [rlm]
  simp only [Sem.run_bind, parts52, Result.andThen]
  simp [ReflectliteValue.elem, loadVar, isAgg, underlying, Tryz.underlying263, ha, Result.andThen, elemOf52, mk23]
theorem rls (v x : Value) : ReflectliteValue.set #[v, x] = (do
    let (some (dst, a, fl), some (src, b, _)) := (← ReflectliteValue.parts v, ← ReflectliteValue.parts x)
      | unsupported (.noEntry "extern/(internal/reflectlite.Value).Set.zeroValue")
    if fl / ReflectliteValue.flagAddr % 2 == 0 then unsupported (.noEntry "extern/(internal/reflectlite.Value).Set.unaddressable")
    let val ← loadVar src b
    if ← Rtype.directlyAssignable dst src then storeVar dst a val
    else if ← Rtype.implements dst src then
      if (← Rtype.kind src) == 20 then
        match val with
        | .nilIface => unsupported (.noEntry "extern/reflectlite: a nil value of one interface type handed on as a value of another")
        | _ => storeVar dst a val
      else storeVar dst a (.iface src val)
    else panicString ("reflectlite.Set: value of type " ++ (← Rtype.spelt src) ++ " is not assignable to type " ++ (← Rtype.spelt dst))
    pure (.tuple #[])) := rfl
theorem parts23a (a : Addr) (w : World) : (ReflectliteValue.parts (.agg #[.pointer (some ⟨8, 31, none⟩), .pointer (some a), .int .u64 386])).run Tryz.prog w = .ok (some (31, a, 386)) w := by kernel_rfl
theorem parts23 (a : Addr) (w : World) : (ReflectliteValue.parts (.agg #[.pointer (some ⟨8, 31, none⟩), .pointer (some a), .int .u64 130])).run Tryz.prog w = .ok (some (31, a, 130)) w := by kernel_rfl
theorem set23 (ta b : Addr) (k : Int) (old : Value) (W : World) (hb : W.cell? b = some (.int .i64 k)) (ht : W.cell? ta = some old) (hf : W.frozen? ta = false) :
    (ReflectliteValue.set #[.agg #[.pointer (some ⟨8, 31, none⟩), .pointer (some ta), .int .u64 386], .agg #[.pointer (some ⟨8, 31, none⟩), .pointer (some b), .int .u64 130]]).run Tryz.prog W
      = .ok (.tuple #[]) (W.setCell ta (.int .i64 k)) := by
  rw [rls]
  simp only [Sem.run_bind, parts23a, parts23, Result.andThen]
  simp [ReflectliteValue.flagAddr, loadVar, isAgg, underlying, Tryz.underlying31, hb, Result.andThen, direct23, storeVar, Value.cells, storeCells, Addr.add]
  rw [run_store Tryz.prog W ta _ _ (by rfl)]
  simp [ht, hf]

/-- What errors.As lays ahead of its end. -/
def asWorld (t : Addr) (k : Int) (w : World) : World :=
  (((w.alloc (.cells #[.pointer (some t)] 263)).alloc (.cells #[.pointer (some ⟨8, 263, none⟩), .pointer (some ⟨w.heap.size, 0, none⟩), .int .u64 150] 280)).alloc (.cells #[.pointer (some ⟨8, 263, none⟩), .pointer (some ⟨w.heap.size, 0, none⟩), .int .u64 150] 280)).alloc (.cells #[.int .i64 k] 31)

theorem as_nil (t : Value) (w : World) : Calls Tryz.prog 216 #[.nilIface, t] w fun e w' => e = .returned (.bool false) ∧ w' = w := by
  go_enter Tryz.func216, Tryz.ntmps216
  go_wp2
  go_ret
  exact ⟨rfl, rfl⟩

set_option maxHeartbeats 8000000 in
theorem as_hit (p : Nat) (po : Nat) (t : Addr) (k : Int) (old : Value) (w : World) (hp : w.cell? ⟨p, po, none⟩ = some (.iface 31 (.int .i64 k))) (hg : w.cell? ⟨1, 0, none⟩ = some (.iface 307 (.agg #[.pointer (some ⟨8, 102, none⟩)]))) (ht0 : w.cell? t = some old) (hf0 : w.frozen? t = false) :
    Calls Tryz.prog 216 #[.iface 233 (.pointer (some ⟨p, po, none⟩)), .iface 263 (.pointer (some t))] w fun ev w' => ev = .returned (.bool true) ∧ w' = (asWorld t k w).setCell t (.int .i64 k) := by
  have h32 := @run_callFunc_extern Tryz.prog 234 _ (fun args => ReflectliteValue.unpack (args.getD 0 (.tuple #[]))) Tryz.func234 (by kernel_rfl) (by kernel_rfl) (by kernel_rfl) (by kernel_rfl)
  have h33 := @run_callFunc_extern Tryz.prog 235 _ (ReflectliteValue.methodAny (ReflectliteValue.valueError "reflectlite.Value.Type" 0) (fun t _ _ _ => ReflectliteType.toType t)) Tryz.func235 (by kernel_rfl) (by kernel_rfl) (by kernel_rfl) (by kernel_rfl)
  have h34 := @run_callFunc_extern Tryz.prog 236 _ (ReflectliteValue.method (ReflectliteValue.valueError "reflectlite.Value.IsNil" 0) ReflectliteValue.isNil) Tryz.func236 (by kernel_rfl) (by kernel_rfl) (by kernel_rfl) (by kernel_rfl)
  have h76 := @run_callFunc_extern Tryz.prog 307 _ (ReflectliteType.abiMethod fun t => do pure (.int .u8 (← Rtype.kind t))) Tryz.func307 (by kernel_rfl) (by kernel_rfl) (by kernel_rfl) (by kernel_rfl)
  have h88 := @run_callFunc_extern Tryz.prog 321 _ (ReflectliteType.method ReflectliteType.elem) Tryz.func321 (by kernel_rfl) (by kernel_rfl) (by kernel_rfl) (by kernel_rfl)
  have h89 := @run_callFunc_extern Tryz.prog 322 _ (ReflectliteType.relation "Implements" ReflectliteType.implements_) Tryz.func322 (by kernel_rfl) (by kernel_rfl) (by kernel_rfl) (by kernel_rfl)
  have h42 := @run_callFunc_extern Tryz.prog 265 _ ReflectliteType.typeOf Tryz.func265 (by kernel_rfl) (by kernel_rfl) (by kernel_rfl) (by kernel_rfl)
  have h86 := @run_callFunc_extern Tryz.prog 319 _ (ReflectliteType.relation "AssignableTo" ReflectliteType.assignableTo) Tryz.func319 (by kernel_rfl) (by kernel_rfl) (by kernel_rfl) (by kernel_rfl)
  have h43 := @run_callFunc_extern Tryz.prog 266 _ (ReflectliteValue.method (ReflectliteValue.valueError "reflectlite.Value.Elem" 0) ReflectliteValue.elem) Tryz.func266 (by kernel_rfl) (by kernel_rfl) (by kernel_rfl) (by kernel_rfl)
  have h44 := @run_callFunc_extern Tryz.prog 267 _ ReflectliteValue.set Tryz.func267 (by kernel_rfl) (by kernel_rfl) (by kernel_rfl) (by kernel_rfl)
  have tO := typeOf23
  have tP := typeOf40
  have mA := methodAssignableTo
  have a23 := assignable23
  have a40 := assignable40
  have v23 := valueOf23
  have f6 := valueOf52
  have f7 := type52
  have mK := methodKind
  have mE := methodElem
  have mI := methodImplements
  have k52 := kind52
  have k23 := kind23
  have e52 := elem52
  have i23 := implements23
  have nA := noAs
  have hU := hasUnwrap
  have mU := methodUnwrap
  have n8 := isNil52 ⟨w.heap.size, 0, none⟩ t ((w.alloc (.cells #[.pointer (some t)] 263)).alloc (.cells #[.pointer (some ⟨8, 263, none⟩), .pointer (some ⟨w.heap.size, 0, none⟩), .int .u64 150] 280)) (by simp)
  have hlt : 1 < w.heap.size := by
    rcases Nat.lt_or_ge 1 w.heap.size with h | h
    · exact h
    · simp [World.cell?, Array.getElem?_eq_none h] at hg
  have hg2 : ((w.alloc (.cells #[.pointer (some t)] 263)).alloc (.cells #[.pointer (some ⟨8, 263, none⟩), .pointer (some ⟨w.heap.size, 0, none⟩), .int .u64 150] 280)).cell? ⟨1, 0, none⟩ = some (.iface 307 (.agg #[.pointer (some ⟨8, 102, none⟩)])) := by
    rw [World.cell?_alloc_lt _ _ ⟨1, 0, none⟩ (by simp; omega), World.cell?_alloc_lt _ _ ⟨1, 0, none⟩ hlt]; exact hg
  have htl : t.block < w.heap.size := by
    rcases Nat.lt_or_ge t.block w.heap.size with h | h
    · exact h
    · simp [World.cell?, Array.getElem?_eq_none h] at ht0
  have hpl : p < w.heap.size := by
    rcases Nat.lt_or_ge p w.heap.size with h | h
    · exact h
    · simp [World.cell?, Array.getElem?_eq_none h] at hp
  have hp2 : (((w.alloc (.cells #[.pointer (some t)] 263)).alloc (.cells #[.pointer (some ⟨8, 263, none⟩), .pointer (some ⟨w.heap.size, 0, none⟩), .int .u64 150] 280)).alloc (.cells #[.pointer (some ⟨8, 263, none⟩), .pointer (some ⟨w.heap.size, 0, none⟩), .int .u64 150] 280)).cell? ⟨p, po, none⟩ = some (.iface 31 (.int .i64 k)) := by
    rw [World.cell?_alloc_lt _ _ ⟨p, po, none⟩ (by simp; omega), World.cell?_alloc_lt _ _ ⟨p, po, none⟩ (by simp; omega), World.cell?_alloc_lt _ _ ⟨p, po, none⟩ hpl]; exact hp
  have el := elemV52 ⟨w.heap.size, 0, none⟩ t (((w.alloc (.cells #[.pointer (some t)] 263)).alloc (.cells #[.pointer (some ⟨8, 263, none⟩), .pointer (some ⟨w.heap.size, 0, none⟩), .int .u64 150] 280)).alloc (.cells #[.pointer (some ⟨8, 263, none⟩), .pointer (some ⟨w.heap.size, 0, none⟩), .int .u64 150] 280)) (by rw [World.cell?_alloc_lt _ _ ⟨w.heap.size, 0, none⟩ (by simp; omega)]; simp)
  have st := set23 t ⟨w.heap.size + 1 + 1 + 1, 0, none⟩ k old ((((w.alloc (.cells #[.pointer (some t)] 263)).alloc (.cells #[.pointer (some ⟨8, 263, none⟩), .pointer (some ⟨w.heap.size, 0, none⟩), .int .u64 150] 280)).alloc (.cells #[.pointer (some ⟨8, 263, none⟩), .pointer (some ⟨w.heap.size, 0, none⟩), .int .u64 150] 280)).alloc (.cells #[.int .i64 k] 31))
    (by rw [World.cell?_alloc_at _ _ _ _ (by simp)]; rfl)
    (by rw [World.cell?_alloc_lt _ _ t (by simp; omega), World.cell?_alloc_lt _ _ t (by simp; omega), World.cell?_alloc_lt _ _ t (by simp; omega), World.cell?_alloc_lt _ _ t htl]; exact ht0)
    (by rw [World.frozen?_alloc_old _ _ t (by simp; omega), World.frozen?_alloc_old _ _ t (by simp; omega), World.frozen?_alloc_old _ _ t (by simp; omega), World.frozen?_alloc_old _ _ t (Nat.ne_of_lt htl)]; exact hf0)
  go_enter Tryz.func216, Tryz.ntmps216
  go_wp2
  refine wp_loop_rounds 2 ?_
  rw [rounds_succ]
  go_wp2
  rw [rounds_succ]
  go_wp2
  go_ret
  exact ⟨rfl, rfl⟩
end Go.Proofs.YtboolnpmlmgpkaaGreatDoor

set_option linter.unusedVariables false
set_option maxRecDepth 20000
namespace Go.Proofs.YtboolnpmlmgpkaaGreatDoor
open Go Go.Proofs Go.Shelf Go.Lib Go.RowKit Go.Sort

/-! What the library's functions are called by here. -/
def itoaRen : Go.Shelf.Ren := ⟨fun | 171 => 65 | 243 => 136 | 246 => 193 | 283 => 222 | 284 => 223 | 285 => 224 | 286 => 225 | 129 => 245 | 317 => 244 | 318 => 246 | 319 => 247 | 320 => 248 | 337 => 277 | 338 => 278 | n => n, fun | 3 => 3 | 9 => 9 | 2 => 2 | 4 => 4 | 171 => 266 | 0 => 0 | 53 => 267 | 37 => 96 | 5 => 5 | 173 => 270 | 212 => 293 | 51 => 294 | 20 => 20 | 213 => 295 | 46 => 192 | 232 => 341 | 233 => 342 | n => n, fun | 17 => 2 | 18 => 6 | 19 => 7 | n => n⟩
theorem itoaL : Go.Proofs.LaysM.n171 Tryz.prog itoaRen where
  mixed := by kernel_rfl
  f129 := Tryz.func245.trans (congrArg some (by kernel_rfl))
  f171 := Tryz.func65.trans (congrArg some (by kernel_rfl))
  f243 := Tryz.func136.trans (congrArg some (by kernel_rfl))
  f246 := Tryz.func193.trans (congrArg some (by kernel_rfl))
  f283 := Tryz.func222.trans (congrArg some (by kernel_rfl))
  f284 := Tryz.func223.trans (congrArg some (by kernel_rfl))
  f285 := Tryz.func224.trans (congrArg some (by kernel_rfl))
  f286 := Tryz.func225.trans (congrArg some (by kernel_rfl))
  f317 := Tryz.func244.trans (congrArg some (by kernel_rfl))
  f318 := Tryz.func246.trans (congrArg some (by kernel_rfl))
  f319 := Tryz.func247.trans (congrArg some (by kernel_rfl))
  f320 := Tryz.func248.trans (congrArg some (by kernel_rfl))
  f337 := Tryz.func277.trans (congrArg some (by kernel_rfl))
  f338 := Tryz.func278.trans (congrArg some (by kernel_rfl))
  t0 := Tryz.underlying0
  a0 := Tryz.isAgg0
  z0 := Tryz.sizeOf0
  v0 := Tryz.zeroValue0
  t2 := Tryz.underlying2
  a2 := Tryz.isAgg2
  z2 := Tryz.sizeOf2
  v2 := Tryz.zeroValue2
  t3 := Tryz.underlying3
  a3 := Tryz.isAgg3
  z3 := Tryz.sizeOf3
  v3 := Tryz.zeroValue3
  t4 := Tryz.underlying4
  a4 := Tryz.isAgg4
  z4 := Tryz.sizeOf4
  v4 := Tryz.zeroValue4
  t5 := Tryz.underlying5
  a5 := Tryz.isAgg5
  z5 := Tryz.sizeOf5
  v5 := Tryz.zeroValue5
  t9 := Tryz.underlying9
  a9 := Tryz.isAgg9
  z9 := Tryz.sizeOf9
  v9 := Tryz.zeroValue9
  t20 := Tryz.underlying20
  a20 := Tryz.isAgg20
  z20 := Tryz.sizeOf20
  v20 := Tryz.zeroValue20
  t37 := Tryz.underlying96
  a37 := Tryz.isAgg96
  z37 := Tryz.sizeOf96
  v37 := Tryz.zeroValue96
  t46 := Tryz.underlying192
  a46 := Tryz.isAgg192
  z46 := Tryz.sizeOf192
  v46 := Tryz.zeroValue192
  t51 := Tryz.underlying294
  a51 := Tryz.isAgg294
  z51 := Tryz.sizeOf294
  v51 := Tryz.zeroValue294
  t53 := Tryz.underlying267
  a53 := Tryz.isAgg267
  z53 := Tryz.sizeOf267
  v53 := Tryz.zeroValue267
  t171 := Tryz.underlying266
  a171 := Tryz.isAgg266
  z171 := Tryz.sizeOf266
  v171 := Tryz.zeroValue266
  t173 := Tryz.underlying270
  a173 := Tryz.isAgg270
  z173 := Tryz.sizeOf270
  v173 := Tryz.zeroValue270
  t212 := Tryz.underlying293
  a212 := Tryz.isAgg293
  z212 := Tryz.sizeOf293
  v212 := Tryz.zeroValue293
  t213 := Tryz.underlying295
  a213 := Tryz.isAgg295
  z213 := Tryz.sizeOf295
  t232 := Tryz.underlying341
  a232 := Tryz.isAgg341
  z232 := Tryz.sizeOf341
  v232 := Tryz.zeroValue341
  t233 := Tryz.underlying342
  a233 := Tryz.isAgg342
  z233 := Tryz.sizeOf342
  v233 := Tryz.zeroValue342
  g17 := by kernel_rfl
  g18 := by kernel_rfl
  g19 := by kernel_rfl
  i0 := by kernel_rfl
  i2 := by kernel_rfl
  i3 := by kernel_rfl
  i4 := by kernel_rfl
  i5 := by kernel_rfl
  i9 := by kernel_rfl
  i20 := by kernel_rfl
  i37 := by kernel_rfl
  i46 := by kernel_rfl
  i51 := by kernel_rfl
  i53 := by kernel_rfl
  i171 := by kernel_rfl
  i173 := by kernel_rfl
  i212 := by kernel_rfl
  i232 := by kernel_rfl
  i233 := by kernel_rfl
  m17 := by kernel_rfl
  m18 := by kernel_rfl
  m19 := by kernel_rfl
def atoiRen : Go.Shelf.Ren := ⟨fun | 172 => 217 | 244 => 238 | 245 => 239 | 247 => 268 | 279 => 269 | 280 => 270 | 281 => 271 | 282 => 272 | 287 => 286 | 316 => 287 | 171 => 65 | 205 => 288 | 321 => 291 | 322 => 292 | 243 => 136 | 246 => 193 | 283 => 222 | 284 => 223 | 285 => 224 | 286 => 225 | 129 => 245 | 317 => 244 | 318 => 246 | 319 => 247 | 320 => 248 | 337 => 277 | 338 => 278 | n => n, fun | 9 => 9 | 3 => 3 | 75 => 102 | 76 => 103 | 4 => 4 | 5 => 5 | 167 => 320 | 37 => 96 | 0 => 0 | 85 => 321 | 2 => 2 | 168 => 323 | 53 => 267 | 175 => 335 | 46 => 192 | 210 => 339 | 127 => 194 | 145 => 348 | 143 => 346 | 21 => 21 | 171 => 266 | 173 => 270 | 212 => 293 | 51 => 294 | 20 => 20 | 213 => 295 | 232 => 341 | 233 => 342 | 80 => 107 | n => n, fun | 15 => 4 | 16 => 5 | 17 => 2 | 18 => 6 | 19 => 7 | n => n⟩
theorem atoiL : Go.Proofs.LaysC.n172 Tryz.prog atoiRen where
  mixed := by kernel_rfl
  f129 := Tryz.func245.trans (congrArg some (by kernel_rfl))
  f171 := Tryz.func65.trans (congrArg some (by kernel_rfl))
  f172 := Tryz.func217.trans (congrArg some (by kernel_rfl))
  f205 := Tryz.func288.trans (congrArg some (by kernel_rfl))
  f243 := Tryz.func136.trans (congrArg some (by kernel_rfl))
  f244 := Tryz.func238.trans (congrArg some (by kernel_rfl))
  f245 := Tryz.func239.trans (congrArg some (by kernel_rfl))
  f246 := Tryz.func193.trans (congrArg some (by kernel_rfl))
  f247 := Tryz.func268.trans (congrArg some (by kernel_rfl))
  f279 := Tryz.func269.trans (congrArg some (by kernel_rfl))
  f280 := Tryz.func270.trans (congrArg some (by kernel_rfl))
  f281 := Tryz.func271.trans (congrArg some (by kernel_rfl))
  f282 := Tryz.func272.trans (congrArg some (by kernel_rfl))
  f283 := Tryz.func222.trans (congrArg some (by kernel_rfl))
  f284 := Tryz.func223.trans (congrArg some (by kernel_rfl))
  f285 := Tryz.func224.trans (congrArg some (by kernel_rfl))
  f286 := Tryz.func225.trans (congrArg some (by kernel_rfl))
  f287 := Tryz.func286.trans (congrArg some (by kernel_rfl))
  f316 := Tryz.func287.trans (congrArg some (by kernel_rfl))
  f317 := Tryz.func244.trans (congrArg some (by kernel_rfl))
  f318 := Tryz.func246.trans (congrArg some (by kernel_rfl))
  f319 := Tryz.func247.trans (congrArg some (by kernel_rfl))
  f320 := Tryz.func248.trans (congrArg some (by kernel_rfl))
  f321 := Tryz.func291.trans (congrArg some (by kernel_rfl))
  f322 := Tryz.func292.trans (congrArg some (by kernel_rfl))
  f337 := Tryz.func277.trans (congrArg some (by kernel_rfl))
  f338 := Tryz.func278.trans (congrArg some (by kernel_rfl))
  t0 := Tryz.underlying0
  a0 := Tryz.isAgg0
  z0 := Tryz.sizeOf0
  v0 := Tryz.zeroValue0
  t2 := Tryz.underlying2
  a2 := Tryz.isAgg2
  z2 := Tryz.sizeOf2
  v2 := Tryz.zeroValue2
  t3 := Tryz.underlying3
  a3 := Tryz.isAgg3
  z3 := Tryz.sizeOf3
  v3 := Tryz.zeroValue3
  t4 := Tryz.underlying4
  a4 := Tryz.isAgg4
  z4 := Tryz.sizeOf4
  v4 := Tryz.zeroValue4
  t5 := Tryz.underlying5
  a5 := Tryz.isAgg5
  z5 := Tryz.sizeOf5
  v5 := Tryz.zeroValue5
  t9 := Tryz.underlying9
  a9 := Tryz.isAgg9
  z9 := Tryz.sizeOf9
  v9 := Tryz.zeroValue9
  t20 := Tryz.underlying20
  a20 := Tryz.isAgg20
  z20 := Tryz.sizeOf20
  v20 := Tryz.zeroValue20
  t21 := Tryz.underlying21
  a21 := Tryz.isAgg21
  z21 := Tryz.sizeOf21
  v21 := Tryz.zeroValue21
  t37 := Tryz.underlying96
  a37 := Tryz.isAgg96
  z37 := Tryz.sizeOf96
  v37 := Tryz.zeroValue96
  t46 := Tryz.underlying192
  a46 := Tryz.isAgg192
  z46 := Tryz.sizeOf192
  v46 := Tryz.zeroValue192
  t51 := Tryz.underlying294
  a51 := Tryz.isAgg294
  z51 := Tryz.sizeOf294
  v51 := Tryz.zeroValue294
  t53 := Tryz.underlying267
  a53 := Tryz.isAgg267
  z53 := Tryz.sizeOf267
  v53 := Tryz.zeroValue267
  t75 := Tryz.underlying102
  a75 := Tryz.isAgg102
  z75 := Tryz.sizeOf102
  v75 := Tryz.zeroValue102
  t76 := Tryz.underlying103
  a76 := Tryz.isAgg103
  z76 := Tryz.sizeOf103
  v76 := Tryz.zeroValue103
  t85 := Tryz.underlying321
  a85 := Tryz.isAgg321
  z85 := Tryz.sizeOf321
  v85 := Tryz.zeroValue321
  t127 := Tryz.underlying194
  a127 := Tryz.isAgg194
  z127 := Tryz.sizeOf194
  v127 := Tryz.zeroValue194
  t143 := Tryz.underlying346
  a143 := Tryz.isAgg346
  z143 := Tryz.sizeOf346
  v143 := Tryz.zeroValue346
  t145 := Tryz.underlying348
  a145 := Tryz.isAgg348
  z145 := Tryz.sizeOf348
  v145 := Tryz.zeroValue348
  t167 := Tryz.underlying320
  a167 := Tryz.isAgg320
  z167 := Tryz.sizeOf320
  v167 := Tryz.zeroValue320
  t168 := Tryz.underlying323
  a168 := Tryz.isAgg323
  z168 := Tryz.sizeOf323
  v168 := Tryz.zeroValue323
  t171 := Tryz.underlying266
  a171 := Tryz.isAgg266
  z171 := Tryz.sizeOf266
  v171 := Tryz.zeroValue266
  t173 := Tryz.underlying270
  a173 := Tryz.isAgg270
  z173 := Tryz.sizeOf270
  v173 := Tryz.zeroValue270
  t175 := Tryz.underlying335
  a175 := Tryz.isAgg335
  z175 := Tryz.sizeOf335
  v175 := Tryz.zeroValue335
  t210 := Tryz.underlying339
  a210 := Tryz.isAgg339
  z210 := Tryz.sizeOf339
  v210 := Tryz.zeroValue339
  t212 := Tryz.underlying293
  a212 := Tryz.isAgg293
  z212 := Tryz.sizeOf293
  v212 := Tryz.zeroValue293
  t213 := Tryz.underlying295
  a213 := Tryz.isAgg295
  z213 := Tryz.sizeOf295
  t232 := Tryz.underlying341
  a232 := Tryz.isAgg341
  z232 := Tryz.sizeOf341
  v232 := Tryz.zeroValue341
  t233 := Tryz.underlying342
  a233 := Tryz.isAgg342
  z233 := Tryz.sizeOf342
  v233 := Tryz.zeroValue342
  g15 := by kernel_rfl
  g16 := by kernel_rfl
  g17 := by kernel_rfl
  g18 := by kernel_rfl
  g19 := by kernel_rfl
  t80 := Tryz.underlying107
  a80 := Tryz.isAgg107
  z80 := Tryz.sizeOf107
  v80 := Tryz.zeroValue107
  i0 := by kernel_rfl
  i2 := by kernel_rfl
  i3 := by kernel_rfl
  i4 := by kernel_rfl
  i5 := by kernel_rfl
  i9 := by kernel_rfl
  i20 := by kernel_rfl
  i21 := by kernel_rfl
  i37 := by kernel_rfl
  i46 := by kernel_rfl
  i51 := by kernel_rfl
  i53 := by kernel_rfl
  i75 := by kernel_rfl
  i76 := by kernel_rfl
  i80 := by kernel_rfl
  i85 := by kernel_rfl
  i127 := by kernel_rfl
  i143 := by kernel_rfl
  i145 := by kernel_rfl
  i167 := by kernel_rfl
  i168 := by kernel_rfl
  i171 := by kernel_rfl
  i173 := by kernel_rfl
  i175 := by kernel_rfl
  i210 := by kernel_rfl
  i212 := by kernel_rfl
  i232 := by kernel_rfl
  i233 := by kernel_rfl
  m15 := by kernel_rfl
  m16 := by kernel_rfl
  m17 := by kernel_rfl
  m18 := by kernel_rfl
  m19 := by kernel_rfl
  c0 := by kernel_rfl
  c2 := by kernel_rfl
  c3 := by kernel_rfl
  c4 := by kernel_rfl
  c5 := by kernel_rfl
  c9 := by kernel_rfl
  c20 := by kernel_rfl
  c21 := by kernel_rfl
  c37 := by kernel_rfl
  c46 := by kernel_rfl
  c51 := by kernel_rfl
  c53 := by kernel_rfl
  c75 := by kernel_rfl
  c76 := by kernel_rfl
  c80 := by kernel_rfl
  c85 := by kernel_rfl
  c127 := by kernel_rfl
  c143 := by kernel_rfl
  c145 := by kernel_rfl
  c167 := by kernel_rfl
  c168 := by kernel_rfl
  c171 := by kernel_rfl
  c173 := by kernel_rfl
  c175 := by kernel_rfl
  c210 := by kernel_rfl
  c212 := by kernel_rfl
  c213 := by kernel_rfl
  c232 := by kernel_rfl
  c233 := by kernel_rfl

theorem itoa_at (n : Int) (h0 : -9223372036854775808 ≤ n) (h1 : n ≤ 9223372036854775807) (w : World) (htab : Lib.TabIs Tryz.prog w "internal/strconv.uint64pow10" .u64 Lib.pow10Tab) :
    Calls Tryz.prog 65 #[.int .i64 n] w fun e w' => e = .returned (.string ⟨(Lib.itoa n).toArray⟩) ∧ ∃ k os, w' = grow (w.drewN k) os := Any.strconv_Itoa itoaL n h0 h1 w htab
theorem atoi_ok (s : ByteArray) (hmax : s.size ≤ 9223372036854775806) (v : Int) (h : Lib.atoiAll s.data.toList = .ok v) (w : World) :
    Calls Tryz.prog 217 #[.string s] w fun e w' => e = .returned (.tuple #[.int .i64 v, .nilIface]) ∧ (w' = w ∨ ∃ t, w' = Lib.bytesWorld w 5 t) := Any.strconv_Atoi_ok atoiL s hmax v h w
theorem atoi_range (s : ByteArray) (hlim : s.size ≤ 281474976710656) (h : Lib.atoiAll s.data.toList = .range) (ev : Value) (w : World) (hv : w.cell? ⟨5, 0, none⟩ = some ev) (hev : ev = .nilIface ∨ ∃ te pe, ev = .iface te pe) :
    Calls Tryz.prog 217 #[.string s] w fun e w' => ∃ N, e = .returned (.tuple #[.int .i64 (Lib.atoiSat s.data.toList), .iface 323 (.pointer (some ⟨N, 0, none⟩))]) ∧ w.heap.size ≤ N ∧ w'.heap[N]? = some (.cells #[.string ⟨#[65, 116, 111, 105]⟩, .string s, ev] 339 (0, 0)) ∧ RowKit.Below w.heap.size w w' := Any.strconv_Atoi_range atoiL s hlim h ev w hv hev
end Go.Proofs.YtboolnpmlmgpkaaGreatDoor

set_option linter.unusedVariables false
set_option maxRecDepth 20000
set_option linter.unusedSimpArgs false
set_option linter.unnecessarySimpa false
namespace Go.Proofs.YtboolnpmlmgpkaaGreatDoor
open Go Go.Proofs Go.Abs Go.RowKit

/-- An error of the package's own. -/
def werr (k : Int) : V := .iface 233 (.ip (.iface 31 (.int .i64 k)))

theorem as_nili (t : V) (h : H) (R : AEnd → H → (Nat → Bool) → Prop) (hr : R (.ret (.bool false)) h (fun _ => false)) : ACalls TE 216 [.nili, t] h R := by
  intro ok pl w vs hs hl
  simp only [VList, VRel] at hl
  obtain ⟨y, ys, rfl, rfl, y2, ys2, rfl, hv2, rfl⟩ := hl
  refine Calls.mono (as_nil y2 w) ?_
  rintro en w' ⟨rfl, rfl⟩
  exact ⟨_, pl, h, .ret (.bool false), hs, Keeps.refl pl w', by simp only [EndRel, VRel], hr⟩

theorem asWorld_ext (t : Addr) (k : Int) (w : World) : WExt w (asWorld t k w) :=
  (((WExt.alloc w _).trans (WExt.alloc _ _)).trans (WExt.alloc _ _)).trans (WExt.alloc _ _)

theorem as_werr (k : Int) (j : Nat) (old : V) (h : H) (hh : h[j]? = some (.cells [old])) (R : AEnd → H → (Nat → Bool) → Prop)
    (hr : R (.ret (.bool true)) (h.set j (.cells [.int .i64 k])) (fun _ => false)) : ACalls TE 216 [werr k, .iface 263 (.lp j 0)] h R := by
  intro ok pl w vs hs hl
  simp only [werr, VList, VRel] at hl
  obtain ⟨y, ys, rfl, ⟨ev1, rfl, p, po, ev2, rfl, hrd, hpos, ev3, rfl, rfl⟩, y2, ys2, rfl, ⟨ev4, rfl, b, hb, rfl⟩, rfl⟩ := hl
  have hp : w.cell? ⟨p, po, none⟩ = some (.iface 31 (.int .i64 k)) := by
    have h1 : w.cell? ⟨p, po + 0, none⟩ = (Value.iface 31 (.int .i64 k)).cells[0]? := (hrd 0 hpos).2
    simpa [Value.cells] using h1
  obtain ⟨_, cs, ty, fz, hg0, hg1⟩ := hs.exa 1 _ rfl
  have hg : w.cell? ⟨1, 0, none⟩ = some (.iface 307 (.agg #[.pointer (some ⟨8, 102, none⟩)])) := by
    have hg0 : w.heap[1]? = some (.cells cs ty fz) := hg0
    simp only [World.cell?, hg0]
    have hg1 : cs = _ := hg1
    subst hg1
    rfl
  obtain ⟨o, ho, hat⟩ := hs.obj j b hb
  rw [hh] at ho; cases ho
  obtain ⟨arr, el, fz2, a1, a2, a3, a4⟩ := hat
  have a1 : w.heap[b]? = some (.cells arr el fz2) := a1
  have a3 : 1 ≤ arr.size := a3
  have ht : w.cell? ⟨b, 0, none⟩ = some arr[0] := by
    simp only [World.cell?, a1]
    simp [show 0 < arr.size by omega]
  have hf : w.frozen? ⟨b, 0, none⟩ = false := by
    simp only [World.frozen?, a1]
    have := a2 0 (by omega)
    simpa using this
  refine Calls.mono (as_hit p po ⟨b, 0, none⟩ k arr[0] w hp hg ht hf) ?_
  rintro en w' ⟨rfl, rfl⟩
  have x := asWorld_ext ⟨b, 0, none⟩ k w
  have hs1 := hs.wext x
  obtain ⟨w2, hrun, hs2, k2⟩ := cells_write (xs := [.int .i64 k]) hs1 hb (off := 0) (vs := [.int .i64 k]) (by simp [VList, VRel]) rfl hh (by simp)
  obtain ⟨o3, ho3, hat3⟩ := hs1.obj j b hb
  rw [hh] at ho3; cases ho3
  obtain ⟨arr3, el3, fz3, c1, c2, c3, c4⟩ := hat3
  have hrun2 := run_store_cells (P := TE.P) (w := asWorld ⟨b, 0, none⟩ k w) (o := 0) (vs := [.int .i64 k]) c1 c2 (by simpa using c3) (by intro v hv; simp at hv; subst hv; rfl)
  rw [hrun2] at hrun
  cases hrun
  exact ⟨_, pl, _, .ret (.bool true), hs2, (x.keeps hs).trans k2, by simp only [EndRel, VRel], hr⟩

theorem ev_told_ok (n e a : Int) : Ev TE 185 [vi n, vi e, vi a, .nili] (.tup [vi n, vi e, vi 0]) := by
  refine Ev.of_awp Tryz.func185 rfl (by simp [nts]) (vc_ok mixed _ _ _ _ ?_)
  simp only [sz.down, ↓reduceIte, Nat.reduceEqDiff, Nat.reduceLT, TEP, tis, ens, nts, Tryz.results185]
  refine ⟨nofun, as_nili _ _ _ ?_⟩
  simp only [sz.down, ↓reduceIte, Nat.reduceEqDiff, Nat.reduceLT, reduceCtorEq, TEP]
  exact Reif.dat rfl

theorem ev_told_err (n e a k : Int) : Ev TE 185 [vi n, vi e, vi a, werr k] (.tup [vi 0, vi a, vi k]) := by
  refine Ev.of_awp Tryz.func185 rfl (by simp [nts]) (vc_ok mixed _ _ _ _ ?_)
  simp only [sz.down, ↓reduceIte, Nat.reduceEqDiff, Nat.reduceLT, TEP, tis, ens, nts, Tryz.results185, werr]
  refine ⟨nofun, as_werr k 0 _ _ rfl _ ?_⟩
  simp only [sz.down, ↓reduceIte, Nat.reduceEqDiff, Nat.reduceLT, TEP, tis]
  exact ⟨by decide +kernel, Reif.dat rfl⟩

def fitsB (n : Int) : Bool := decide (0 ≤ n) && decide (n ≤ 2147483647)
theorem ev_fits (n : Int) : Ev TE 155 [vi n] (.bool (fitsB n)) := by
  refine Ev.of_awp Tryz.func155 rfl (by simp [nts]) (vc_ok mixed _ _ _ _ ?_)
  simp only [sz.down, ↓reduceIte, Nat.reduceEqDiff, Nat.reduceLT, reduceCtorEq, TEP, nts, Tryz.results155]
  exact Reif.eq rfl rfl

def isDig (c : UInt8) : Bool := decide (48 ≤ c.toNat) && decide (c.toNat ≤ 57)
theorem ev_digit (c : UInt8) : Ev TE 215 [.int .u8 c.toNat] (.bool (isDig c)) := by
  refine Ev.of_awp Tryz.func215 rfl (by simp [nts]) (vc_ok mixed _ _ _ _ ?_)
  simp only [sz.down, ↓reduceIte, Nat.reduceLT, reduceCtorEq, TEP, nts, Tryz.results215]
  refine Reif.eq rfl (congrArg V.bool ?_)
  have := c.toNat_lt
  unfold isDig
  rw [IntKind.wrap_u8, Bool.eq_iff_iff]
  simp only [decide_eq_true_eq, Bool.and_eq_true]
  omega
theorem grow_ext (w : World) (k : Nat) (os : Array Obj) : WExt w (Sort.grow (w.drewN k) os) := by
  refine ⟨rfl, rfl, rfl, ?_, fun b hb => ?_⟩
  · show w.heap.size ≤ (w.heap ++ os).size
    simp
  · show (w.heap ++ os)[b]? = w.heap[b]?
    rw [Array.getElem?_append_left hb]

theorem var_at {w : World} {name : String} {g : Nat} {cs : Array Value} {ty : TypeId} {fz : Nat × Nat} (hn : Tryz.prog.globalNamed name = some g) (hg : w.heap[g]? = some (.cells cs ty fz)) : w.var? Tryz.prog name = some cs := by
  unfold World.var?
  rw [hn]
  simp [hg]

theorem nDigits_le' : ∀ (k u : Nat), u < 10 ^ (k + 1) → Lib.nDigits u ≤ k + 1
  | 0, u, h => by rw [Lib.nDigits_small (by simpa using h)]; exact Nat.le_refl _
  | k + 1, u, h => by
    by_cases hu : u < 10
    · rw [Lib.nDigits_small hu]; omega
    · rw [Lib.nDigits_big hu]
      have := nDigits_le' k (u / 10) (by rw [Nat.pow_succ] at h; omega)
      omega

theorem itoa_len (n : Int) (h0 : 0 ≤ n) (h1 : n ≤ 2147483647) : (Lib.itoa n).length ≤ 10 := by
  obtain ⟨m, rfl⟩ : ∃ m : Nat, n = m := ⟨n.toNat, by omega⟩
  unfold Lib.itoa
  rw [if_neg (by omega), Int.toNat_natCast, Lib.decDigits_length]
  exact nDigits_le' 9 m (by omega)

theorem ev_itoa (n : Int) (h0 : 0 ≤ n) (h1 : n ≤ 2147483647) : Ev TE 65 [vi n] (.str (Lib.itoa n)) := by
  intro ok w vs hs hl
  simp only [VList, VRel] at hl
  obtain ⟨y, ys, rfl, rfl, rfl⟩ := hl
  obtain ⟨_, cs, ty, fz, hg0, hg1⟩ := hs.exa 2 _ rfl
  have hg1 : cs = _ := hg1
  subst hg1
  refine Calls.mono (itoa_at n (by omega) (by omega) w (var_at (by kernel_rfl) hg0)) ?_
  rintro en w' ⟨rfl, k, os, rfl⟩
  refine ⟨_, rfl, grow_ext w k os, ?_⟩
  simp only [VRel]
  exact ⟨_, rfl, by simp, by have := itoa_len n h0 h1; simp only [maxLen]; omega⟩

/-- What Put tells. -/
def putV (n : Int) : List UInt8 × Int := if fitsB n = true then (Lib.itoa n, 0) else ([], 3)
theorem ev_put (n : Int) : Ev TE 114 [vi n] (.tup [.str (putV n).1, vi (putV n).2]) := by
  refine Ev.of_awp Tryz.func114 rfl (by simp [nts]) (vc_ok mixed _ _ _ _ ?_)
  simp only [sz.down, ↓reduceIte, Nat.reduceLT, Nat.reduceLeDiff, reduceCtorEq, TEP, ens, nts, Tryz.results114]
  refine ACalls.ev (ev_fits n) rfl ?_
  unfold putV
  cases hf : fitsB n with
  | false =>
    simp only [sz.down, ↓reduceIte, Nat.reduceEqDiff, Nat.reduceLT, Nat.reduceLeDiff, TEP]
    exact Reif.dat rfl
  | true =>
    have hf : 0 ≤ n ∧ n ≤ 2147483647 := by simpa [fitsB] using hf
    simp only [sz.down, ↓reduceIte, Nat.reduceLT, reduceCtorEq, TEP, ens]
    refine ACalls.ev (ev_itoa n hf.1 hf.2) rfl ?_
    simp only [sz.down, ↓reduceIte, Nat.reduceEqDiff, Nat.reduceLT, TEP]
    exact Reif.dat rfl

end Go.Proofs.YtboolnpmlmgpkaaGreatDoor

set_option linter.unusedVariables false
set_option maxRecDepth 20000
set_option linter.unusedSimpArgs false
set_option linter.unnecessarySimpa false
namespace Go.Proofs.YtboolnpmlmgpkaaGreatDoor
open Go Go.Proofs Go.Abs Go.RowKit

abbrev By := List UInt8

/-! ### Digits, and what they spell -/
def valA (a : Nat) (ds : By) : Nat := ds.foldl (fun a c => 10 * a + (c.toNat - 48)) a
theorem valA_app (a : Nat) (x y : By) : valA a (x ++ y) = valA (valA a x) y := by unfold valA; rw [List.foldl_append]
theorem valA_ge (ds : By) : ∀ a, a ≤ valA a ds := by
  induction ds with
  | nil => intro a; exact Nat.le_refl _
  | cons c ds ih =>
    intro a
    have := ih (10 * a + (c.toNat - 48))
    show a ≤ valA (10 * a + (c.toNat - 48)) ds
    omega
theorem dig_rng {c : UInt8} (h : isDig c = true) : 48 ≤ c.toNat ∧ c.toNat ≤ 57 := by
  simpa [isDig] using h

theorem parse_digits (ds : By) : ∀ (a : Nat), (∀ c ∈ ds, isDig c = true) → a < 18446744073709551616 → Lib.parseUint10 a ds = if valA a ds < 18446744073709551616 then .ok (valA a ds) else .range := by
  induction ds with
  | nil =>
    intro a _ h
    show Lib.NumEnd.ok a = if a < _ then _ else _
    rw [if_pos h]
    rfl
  | cons c ds ih =>
    intro a hd h
    obtain ⟨h1, h2⟩ := dig_rng (hd c List.mem_cons_self)
    have hv : valA a (c :: ds) = valA (10 * a + (c.toNat - 48)) ds := rfl
    have hge := valA_ge ds (10 * a + (c.toNat - 48))
    unfold Lib.parseUint10
    rw [if_pos ⟨h1, h2⟩]
    split
    · rw [if_neg (by omega)]
    · split
      · rw [if_neg (by omega)]
      · rw [ih _ (fun c hc => hd c (List.mem_cons_of_mem _ hc)) (by omega), hv, Nat.mul_comm a 10]

theorem atoi_digits {ds : By} (hd : ∀ c ∈ ds, isDig c = true) (hne : ds ≠ []) : Lib.atoiAll ds = if (valA 0) ds < 9223372036854775808 then .ok ((valA 0) ds : Int) else .range := by
  cases ds with
  | nil => exact absurd rfl hne
  | cons c r =>
    obtain ⟨h1, h2⟩ := dig_rng (hd c List.mem_cons_self)
    unfold Lib.atoiAll
    have e1 : ¬ (c.toNat = 43 ∨ c.toNat = 45) := by omega
    have e2 : ¬ c.toNat = 45 := by omega
    simp only [if_neg e1]
    unfold Lib.parseMag
    rw [if_neg hne, parse_digits _ 0 hd (by omega)]
    by_cases h3 : valA 0 (c :: r) < 18446744073709551616
    · rw [if_pos h3]
      simp only [e2, not_false_eq_true, true_and, false_and, if_false]
      by_cases h4 : valA 0 (c :: r) < 9223372036854775808
      · rw [if_neg (by omega), if_pos h4]
      · rw [if_pos (by omega), if_neg h4]
    · rw [if_neg h3, if_neg (by omega)]

theorem nDigits_le : ∀ (k u : Nat), u < 10 ^ (k + 1) → Lib.nDigits u ≤ k + 1
  | 0, u, h => by rw [Lib.nDigits_small (by simpa using h)]; exact Nat.le_refl _
  | k + 1, u, h => by
    by_cases hu : u < 10
    · rw [Lib.nDigits_small hu]; omega
    · rw [Lib.nDigits_big hu]
      have := nDigits_le k (u / 10) (by rw [Nat.pow_succ] at h; omega)
      omega
theorem dec_len {u k : Nat} (h : u < 10 ^ (k + 1)) : (Lib.decDigits u).length ≤ k + 1 := by rw [Lib.decDigits_length]; exact nDigits_le k u h
theorem dec_big {u : Nat} (h : ¬ u < 10) : Lib.decDigits u = Lib.decDigits (u / 10) ++ [UInt8.ofNat (48 + u % 10)] := by rw [Lib.decDigits, dif_neg h]
theorem dec_ne (u : Nat) : Lib.decDigits u ≠ [] := by
  by_cases h : u < 10
  · rw [Lib.decDigits_one h]; simp
  · rw [dec_big h]; simp
theorem ofNat_toNat {d : Nat} (h : d < 10) : (UInt8.ofNat (48 + d)).toNat = 48 + d := by
  rw [UInt8.toNat_ofNat']
  omega
theorem isDig_of {d : Nat} (h : d < 10) : isDig (UInt8.ofNat (48 + d)) = true := by
  unfold isDig
  rw [ofNat_toNat h]
  simp
  omega
theorem dec_dig (u : Nat) : ∀ c ∈ Lib.decDigits u, isDig c = true := by
  induction u using Nat.strongRecOn with
  | _ u ih =>
    by_cases h : u < 10
    · rw [Lib.decDigits_one h]
      intro c hc
      have : c = UInt8.ofNat (48 + u) := by simpa using hc
      rw [this]; exact isDig_of h
    · rw [dec_big h]
      intro c hc
      rcases List.mem_append.1 hc with hc | hc
      · exact ih (u / 10) (by omega) c hc
      · have : c = UInt8.ofNat (48 + u % 10) := by simpa using hc
        rw [this]; exact isDig_of (by omega)
theorem dec_val (u : Nat) : (valA 0) (Lib.decDigits u) = u := by
  induction u using Nat.strongRecOn with
  | _ u ih =>
    by_cases h : u < 10
    · rw [Lib.decDigits_one h]
      show 10 * 0 + ((UInt8.ofNat (48 + u)).toNat - 48) = u
      rw [ofNat_toNat h]; omega
    · rw [dec_big h]
      show valA 0 _ = u
      rw [valA_app, ih (u / 10) (by omega)]
      show 10 * (u / 10) + ((UInt8.ofNat (48 + u % 10)).toNat - 48) = u
      rw [ofNat_toNat (by omega)]; omega
theorem dec_zero : ∀ (u : Nat) (r : By), Lib.decDigits u = 48 :: r → r = [] := by
  intro u
  induction u using Nat.strongRecOn with
  | _ u ih =>
    intro r h
    by_cases hu : u < 10
    · rw [Lib.decDigits_one hu] at h
      simp at h
      exact h.2
    · rw [dec_big hu] at h
      exfalso
      rcases hd : Lib.decDigits (u / 10) with _ | ⟨c, t⟩
      · exact dec_ne _ hd
      · rw [hd, List.cons_append] at h
        have hc : c = 48 := by simpa using (List.cons.inj h).1
        subst hc
        have ht := ih (u / 10) (by omega) t hd
        subst ht
        have h1 := congrArg (valA 0) hd
        rw [dec_val] at h1
        have : (valA 0) [48] = 0 := rfl
        omega

/-- Digits without a needless zero are what their number is spelt as. -/
theorem dec_canon (ds : By) : (∀ c ∈ ds, isDig c = true) → ds ≠ [] → (Lib.decDigits ((valA 0) ds) = ds ↔ ¬ (ds.head? = some 48 ∧ 1 < ds.length)) := by
  have key : ∀ n (ds : By), ds.length = n → (∀ c ∈ ds, isDig c = true) → ds ≠ [] → ¬ (ds.head? = some 48 ∧ 1 < ds.length) → Lib.decDigits ((valA 0) ds) = ds := by
    intro n
    induction n with
    | zero => intro ds hl _ hne; exact absurd (List.length_eq_zero_iff.1 hl) hne
    | succ n ih =>
      intro ds hl hd hne hz
      obtain ⟨x, c, rfl⟩ : ∃ x c, ds = x ++ [c] := ⟨ds.dropLast, ds.getLast hne, (List.dropLast_concat_getLast hne).symm⟩
      obtain ⟨h1, h2⟩ := dig_rng (hd c (by simp))
      have hc : UInt8.ofNat (48 + (c.toNat - 48)) = c := by
        rw [show 48 + (c.toNat - 48) = c.toNat by omega]
        exact UInt8.ofNat_toNat
      have hv : (valA 0) (x ++ [c]) = 10 * (valA 0) x + (c.toNat - 48) := by
        show valA 0 (x ++ [c]) = _
        rw [valA_app]; rfl
      cases x with
      | nil =>
        rw [hv]
        show Lib.decDigits (10 * 0 + (c.toNat - 48)) = [c]
        rw [show 10 * 0 + (c.toNat - 48) = c.toNat - 48 by omega, Lib.decDigits_one (by omega), hc]
      | cons a x =>
        have hz2 : a ≠ 48 := by
          rintro rfl
          exact hz ⟨rfl, by simp⟩
        have ha := dig_rng (hd a (by simp))
        have hih := ih (a :: x) (by simpa using hl) (fun c hc => hd c (List.mem_append_left _ hc)) (by simp) (fun h => hz2 (by simpa using h.1))
        have hpos : 1 ≤ (valA 0) (a :: x) := by
          have h3 : (valA 0) (a :: x) = valA (10 * 0 + (a.toNat - 48)) x := rfl
          have h4 := valA_ge x (10 * 0 + (a.toNat - 48))
          have h5 : a.toNat ≠ 48 := fun h => hz2 (by rw [← UInt8.toNat_inj]; exact h)
          omega
        rw [hv, dec_big (by omega), show (10 * (valA 0) (a :: x) + (c.toNat - 48)) / 10 = (valA 0) (a :: x) by omega, show (10 * (valA 0) (a :: x) + (c.toNat - 48)) % 10 = c.toNat - 48 by omega, hih, hc]
  intro hd hne
  refine ⟨fun h => ?_, key _ ds rfl hd hne⟩
  rintro ⟨h1, h2⟩
  cases ds with
  | nil => simp at h2
  | cons c r =>
    have : c = 48 := by simpa using h1
    subst this
    have := dec_zero _ _ h
    subst this
    simp at h2

/-- Are digits a number? -/
def good (ds : By) : Prop := (valA 0) ds ≤ 2147483647 ∧ Lib.decDigits ((valA 0) ds) = ds
instance (ds : By) : Decidable (good ds) := by unfold good; infer_instance

theorem itoa_nat (n : Nat) : Lib.itoa n = Lib.decDigits n := by
  unfold Lib.itoa
  rw [if_neg (by omega), Int.toNat_natCast]

end Go.Proofs.YtboolnpmlmgpkaaGreatDoor

set_option linter.unusedVariables false
set_option maxRecDepth 20000
set_option linter.unusedSimpArgs false
set_option linter.unnecessarySimpa false
namespace Go.Proofs.YtboolnpmlmgpkaaGreatDoor
open Go Go.Proofs Go.Abs Go.RowKit

theorem below_ext {w w' : World} (x : Below w.heap.size w w') : WExt w w' := ⟨x.os, x.tape, x.output, x.size, x.block⟩

theorem ev_atoi (ds : By) (hd : ∀ c ∈ ds, isDig c = true) (hne : ds ≠ []) (hl : ds.length ≤ 100000) :
    EvR TE 217 [.str ds] fun v => (v = .tup [vi (valA 0 ds : Nat), .nili] ∧ valA 0 ds < 9223372036854775808) ∨ (∃ n, v = .tup [vi n, .iface 323 .any] ∧ ¬ valA 0 ds < 9223372036854775808) := by
  intro ok w vs hs hl2
  simp only [VList, VRel] at hl2
  obtain ⟨y, ys, rfl, ⟨s, rfl, hsd, _⟩, rfl⟩ := hl2
  have hsz : s.size = ds.length := by rw [size_data, hsd]
  have ha := atoi_digits hd hne
  rw [← hsd] at ha
  by_cases hv : valA 0 ds < 9223372036854775808
  · rw [hsd, if_pos hv, ← hsd] at ha
    rw [hsd] at ha
    refine Calls.mono (atoi_ok s (by omega) _ (by rw [hsd]; exact ha) w) ?_
    rintro en w' ⟨rfl, hw⟩
    refine ⟨_, _, .inl ⟨rfl, hv⟩, rfl, ?_, ?_⟩
    · rcases hw with rfl | ⟨t, rfl⟩
      · exact WExt.refl _
      · exact below_ext (Lib.bytesWorld_below _ _ _)
    · simp only [VRel, VList]
      exact ⟨_, rfl, _, _, rfl, rfl, _, _, rfl, rfl, rfl⟩
  · rw [hsd, if_neg hv] at ha
    obtain ⟨_, cs, ty, fz, hg0, hg1⟩ := hs.exa 5 _ rfl
    obtain ⟨te, pe, rfl⟩ := hg1
    refine Calls.mono (atoi_range s (by omega) (by rw [hsd]; exact ha) (.iface te pe) w (by
      have hg0 : w.heap[5]? = some (.cells #[.iface te pe] ty fz) := hg0
      simp [World.cell?, hg0]) (.inr ⟨te, pe, rfl⟩)) ?_
    rintro en w' ⟨N, rfl, _, _, hb⟩
    refine ⟨_, _, .inr ⟨Lib.atoiSat s.data.toList, rfl, hv⟩, rfl, below_ext hb, ?_⟩
    simp only [VRel, VList]
    exact ⟨_, rfl, _, _, rfl, rfl, _, _, rfl, ⟨_, rfl, trivial⟩, rfl⟩

/-- What get tells. -/
def getV (ds : By) : Int × V := if good ds then ((valA 0 ds : Nat), .nili) else (0, werr 3)

theorem reif_werr (k : Int) : Reif TE [.cells [.iface 31 (.int .i64 k)]] (.iface 233 (.lp 0 0)) (werr k) :=
  Reif.iface (Reif.lp rfl (Reifs.dat rfl) rfl rfl Nat.zero_lt_one rfl)

theorem ev_get (ds : By) (hd : ∀ c ∈ ds, isDig c = true) (hne : ds ≠ []) (hl : ds.length ≤ 100000) : Ev TE 186 [.str ds] (.tup [vi (getV ds).1, (getV ds).2]) := by
  refine Ev.of_awp Tryz.func186 rfl (by simp [nts]) (vc_ok mixed _ _ _ _ ?_)
  simp only [sz.down, ↓reduceIte, Nat.reduceLT, reduceCtorEq, TEP, ens, nts, Tryz.results186]
  refine ACalls.evR (ev_atoi ds hd hne hl) rfl ?_
  rintro r (⟨rfl, hv⟩ | ⟨n, rfl, hv⟩)
  · simp only [sz.down, ↓reduceIte, Nat.reduceEqDiff, Nat.reduceLT, Nat.reduceAdd, TEP, ens]
    refine ACalls.ev (ev_put _) rfl ?_
    by_cases hm : valA 0 ds ≤ 2147483647
    · have hp : putV (valA 0 ds : Nat) = (Lib.decDigits (valA 0 ds), 0) := by
        unfold putV
        rw [if_pos (by simp [fitsB]; omega), itoa_nat]
      rw [hp]
      by_cases hc : Lib.decDigits (valA 0 ds) = ds
      · have hg : getV ds = (((valA 0 ds : Nat) : Int), V.nili) := by unfold getV; rw [if_pos ⟨hm, hc⟩]
        have hb : (Lib.decDigits (valA 0 ds) == ds) = true := by simp [hc]
        rw [hg]
        simp only [sz.down, ↓reduceIte, Nat.reduceEqDiff, Nat.reduceLT, Nat.reduceAdd, Int.reduceBNe, reduceCtorEq, TEP, pvNilI, tis, hb]
        exact Reif.dat rfl
      · have hg : getV ds = (0, werr 3) := by unfold getV; rw [if_neg (fun h => hc h.2)]
        have hb : (Lib.decDigits (valA 0 ds) == ds) = false := by simp [hc]
        rw [hg]
        simp only [sz.down, ↓reduceIte, Nat.reduceEqDiff, Nat.reduceLT, Nat.reduceAdd, Int.reduceBNe, reduceCtorEq, TEP, pvNilI, tis, hb]
        exact ⟨nofun, nofun, Reif.tup (Reifs.cons (Reif.dat rfl) (Reifs.cons (reif_werr 3) Reifs.nil))⟩
    · have hp : putV (valA 0 ds : Nat) = ([], 3) := by
        unfold putV
        rw [if_neg (by simp [fitsB]; omega)]
      have hg : getV ds = (0, werr 3) := by unfold getV; rw [if_neg (fun h => hm h.1)]
      rw [hp, hg]
      simp only [sz.down, ↓reduceIte, Nat.reduceEqDiff, Nat.reduceLT, Nat.reduceAdd, Int.reduceBNe, reduceCtorEq, TEP, pvNilI, tis]
      exact ⟨nofun, nofun, Reif.tup (Reifs.cons (Reif.dat rfl) (Reifs.cons (reif_werr 3) Reifs.nil))⟩
  · have hg : getV ds = (0, werr 3) := by
      unfold getV
      rw [if_neg]
      rintro ⟨h, _⟩
      omega
    rw [hg]
    simp only [sz.down, ↓reduceIte, Nat.reduceEqDiff, Nat.reduceLT, Nat.reduceAdd, TEP, ens]
    refine ACalls.ev (ev_put _) rfl ?_
    simp only [sz.down, ↓reduceIte, Nat.reduceEqDiff, Nat.reduceLT, Nat.reduceAdd, reduceCtorEq, TEP, pvNilI, tis]
    exact ⟨nofun, nofun, Reif.tup (Reifs.cons (Reif.dat rfl) (Reifs.cons (reif_werr 3) Reifs.nil))⟩

/-- Where digits end. -/
def endR (s : By) (at_ : Int) : Int := if at_ < 0 ∨ (s.length : Int) < at_ then at_ else at_ + ((s.drop at_.toNat).takeWhile isDig).length

theorem tw_len {l : By} {i : Nat} (hi : i ≤ l.length) (h1 : (l.take i).all isDig = true) (h2 : i < l.length → isDig (l.getD i 0) = false) : (l.takeWhile isDig).length = i := by
  have h3 : l.takeWhile isDig = l.take i ++ (l.drop i).takeWhile isDig := by
    conv => lhs; rw [← List.take_append_drop i l]
    exact List.takeWhile_append_of_pos (List.all_eq_true.1 h1)
  have h4 : (l.drop i).takeWhile isDig = [] := by
    by_cases hl : i < l.length
    · rw [List.drop_eq_getElem_cons hl]
      have := h2 hl
      rw [getD_at hl] at this
      rw [List.takeWhile_cons, this]; rfl
    · rw [List.drop_eq_nil_of_le (by omega)]; rfl
  rw [h3, h4, List.append_nil, List.length_take]
  omega

theorem getD_drop {l : By} {p i : Nat} : (l.drop p).getD i 0 = l.getD (p + i) 0 := by
  rw [List.getD_eq_getElem?_getD, List.getD_eq_getElem?_getD, List.getElem?_drop]

theorem ev_end (s : By) (a : Int) (hl : s.length ≤ 100000) : Ev TE 184 [.str s, vi a] (vi (endR s a)) := by
  have hM : maxLen = 9223372036854775807 := rfl
  refine Ev.of_awp Tryz.func184 rfl (by simp [nts]) (vc_ok mixed _ _ _ _ ?_)
  simp only [sz.down, ↓reduceIte, Nat.reduceEqDiff, Nat.reduceLT, reduceCtorEq, TEP, tis, nts, Tryz.results184]
  refine vcB.mk (fun hc => ?_) (fun hc => ?_)
  · have h0 : endR s a = a := by
      unfold endR
      rw [if_pos (by simpa using hc)]
    rw [h0]
    simp only [sz.down, ↓reduceIte, Nat.reduceEqDiff, Nat.reduceLT, TEP]
    exact Reif.dat rfl
  · simp only [Bool.or_eq_false_iff, decide_eq_false_iff_not] at hc
    obtain ⟨p, rfl⟩ : ∃ p : Nat, a = p := ⟨a.toNat, by omega⟩
    have hp : p ≤ s.length := by omega
    have h0 : endR s p = p + ((s.drop p).takeWhile isDig).length := by
      unfold endR
      rw [if_neg (by omega), Int.toNat_natCast]
    have hsub : IntKind.i64.wrap ((s.length : Int) - p) = ((s.length - p : Nat) : Int) := by rw [wrapn (by omega) (by omega)]; omega
    rw [h0]
    simp only [sz.down, ↓reduceIte, Nat.reduceEqDiff, Nat.reduceLT, reduceCtorEq, TEP, tis, hsub]
    have hdl : (s.drop p).length = s.length - p := List.length_drop
    refine awp_loop (fun m f h => ∃ i, m + i = s.length - p ∧ f.t 0 = .str s ∧ f.t 1 = vi p ∧ f.t 18 = vi ((s.length - p : Nat) : Int) ∧ f.t 19 = vi i ∧ f.d = [] ∧ h = [] ∧ ((s.drop p).take i).all isDig = true) (s.length - p) ⟨0, by omega, rfl, rfl, rfl, rfl, rfl, rfl, by simp⟩ ?_
    rintro m f h ⟨i, hm, h0, h1, h18, h19, hd, rfl, hall⟩
    have hadd : IntKind.i64.wrap ((p : Int) + i) = ((p + i : Nat) : Int) := by rw [wrapn (by omega) (by omega)]; omega
    refine vc_ok mixed _ _ _ _ ?_
    simp only [sz.down, ↓reduceIte, Nat.reduceLT, TEP, h18, h19]
    refine vcB.mk (fun hlt => ?_) (fun hlt => ?_)
    · simp only [decide_eq_true_eq, Int.ofNat_lt] at hlt
      simp only [sz.down, ↓reduceIte, Nat.reduceEqDiff, Nat.reduceLT, reduceCtorEq, TEP, tis, ens, h0, h1, h19, hadd]
      refine ⟨⟨by omega, by omega⟩, ACalls.ev (ev_digit (s.getD (p + i) 0)) rfl ?_⟩
      cases hD : isDig (s.getD (p + i) 0) with
      | false =>
        have hlen := tw_len (l := s.drop p) (i := i) (by omega) hall (fun _ => by rw [getD_drop]; exact hD)
        simp only [sz.down, ↓reduceIte, Nat.reduceEqDiff, Nat.reduceLT, TEP, h1, hd, hadd]
        exact Reif.eq rfl (by rw [hlen]; rfl)
      | true =>
        simp only [sz.down, ↓reduceIte, Nat.reduceEqDiff, Nat.reduceLT, TEP, h19, wrap_succ (show i < maxLen by omega)]
        refine .inl ⟨m - 1, by omega, i + 1, by omega, h0, h1, h18, rfl, hd, rfl, ?_⟩
        have hli : i < (s.drop p).length := by omega
        have hD2 : isDig ((s.drop p)[i]) = true := by rw [← getD_at (d := 0) hli, getD_drop]; exact hD
        rw [List.take_add_one, List.all_append, hall, List.getElem?_eq_getElem hli, Option.toList_some, List.all_cons, hD2]
        rfl
    · simp only [decide_eq_false_iff_not, Int.ofNat_lt] at hlt
      have hlen := tw_len (l := s.drop p) (i := i) (by omega) hall (fun h => by omega)
      simp only [sz.down, ↓reduceIte, Nat.reduceLT, reduceCtorEq, TEP, tis, h0, hd]
      exact Reif.eq rfl (by rw [hlen]; congr 1; omega)

/-- What Get tells. -/
def getR (s : By) (a : Int) : Int × Int × Int :=
  if a < 0 ∨ (s.length : Int) < a then (0, a, 3)
  else if (s.drop a.toNat).takeWhile isDig ≠ [] ∧ good ((s.drop a.toNat).takeWhile isDig) then ((valA 0 ((s.drop a.toNat).takeWhile isDig) : Nat), a + ((s.drop a.toNat).takeWhile isDig).length, 0)
  else (0, a, 3)

theorem ev_Get (s : By) (a : Int) (hl : s.length ≤ 100000) : Ev TE 120 [.str s, vi a] (.tup [vi (getR s a).1, vi (getR s a).2.1, vi (getR s a).2.2]) := by
  have hM : maxLen = 9223372036854775807 := rfl
  refine Ev.of_awp Tryz.func120 rfl (by simp [nts]) (vc_ok mixed _ _ _ _ ?_)
  simp only [sz.down, ↓reduceIte, Nat.reduceEqDiff, Nat.reduceLT, reduceCtorEq, TEP, ens, nts, Tryz.results120]
  refine ACalls.ev (ev_end s a hl) rfl ?_
  by_cases hc : a < 0 ∨ (s.length : Int) < a
  · have h0 : endR s a = a := by unfold endR; rw [if_pos hc]
    have h1 : getR s a = (0, a, 3) := by unfold getR; rw [if_pos hc]
    rw [h0, h1]
    simp only [sz.down, ↓reduceIte, Nat.reduceEqDiff, Nat.reduceLT, TEP, tis, ens]
    refine ⟨nofun, nofun, ACalls.lend (ev_told_err 0 a a 3) (Reifs.cons (Reif.dat rfl) (Reifs.cons (Reif.dat rfl) (Reifs.cons (Reif.dat rfl) (Reifs.cons (reif_werr 3) Reifs.nil)))) rfl ?_⟩
    simp only [sz.down, ↓reduceIte, Nat.reduceEqDiff, Nat.reduceLT, Nat.reduceAdd, TEP]
    exact Reif.dat rfl
  · obtain ⟨p, rfl⟩ : ∃ p : Nat, a = p := ⟨a.toNat, by omega⟩
    have hp : p ≤ s.length := by omega
    have h0 : endR s p = p + ((s.drop p).takeWhile isDig).length := by
      unfold endR
      rw [if_neg hc, Int.toNat_natCast]
    have h1 : getR s p = if (s.drop p).takeWhile isDig ≠ [] ∧ good ((s.drop p).takeWhile isDig) then (((valA 0 ((s.drop p).takeWhile isDig) : Nat) : Int), (p : Int) + ((s.drop p).takeWhile isDig).length, (0 : Int)) else (0, (p : Int), 3) := by
      unfold getR
      rw [if_neg hc, Int.toNat_natCast]
    have hpre : (s.drop p).take ((s.drop p).takeWhile isDig).length = (s.drop p).takeWhile isDig := (List.prefix_iff_eq_take.1 (List.takeWhile_prefix isDig)).symm
    have hdg : ∀ c ∈ (s.drop p).takeWhile isDig, isDig c = true := fun c hc => List.all_eq_true.1 List.all_takeWhile c hc
    have hlen : ((s.drop p).takeWhile isDig).length ≤ s.length - p := by
      have := (List.takeWhile_prefix (l := s.drop p) isDig).length_le
      rwa [List.length_drop] at this
    rw [h0, h1]
    generalize (s.drop p).takeWhile isDig = ds at hpre hdg hlen
    by_cases hne : ds = []
    · subst hne
      rw [if_neg (fun h => h.1 rfl)]
      have hb : ((p : Int) + ((0 : Nat) : Int) == (p : Int)) = true := by simp
      simp only [sz.down, ↓reduceIte, Nat.reduceEqDiff, Nat.reduceLT, TEP, tis, ens, hb]
      refine ⟨nofun, nofun, ACalls.lend (ev_told_err 0 p p 3) (Reifs.cons (Reif.dat rfl) (Reifs.cons (Reif.dat rfl) (Reifs.cons (Reif.dat rfl) (Reifs.cons (reif_werr 3) Reifs.nil)))) rfl ?_⟩
      simp only [sz.down, ↓reduceIte, Nat.reduceEqDiff, Nat.reduceLT, Nat.reduceAdd, TEP]
      exact Reif.dat rfl
    · have hpos : 0 < ds.length := List.length_pos_iff.2 hne
      have hb : ((p : Int) + (ds.length : Nat) == (p : Int)) = false := by
        rw [beq_eq_false_iff_ne]; omega
      have hsl : List.take (((p : Int) + (ds.length : Nat)).toNat - p) (List.drop p s) = ds := by
        rw [show ((p : Int) + (ds.length : Nat)).toNat - p = ds.length by omega, hpre]
      simp only [sz.down, ↓reduceIte, Nat.reduceEqDiff, Nat.reduceLT, reduceCtorEq, TEP, tis, ens, hb, hsl]
      refine ⟨⟨by omega, by omega, by omega⟩, ACalls.ev (ev_get ds hdg hne (by omega)) rfl ?_⟩
      unfold getV
      by_cases hg : good ds
      · rw [if_pos hg, if_pos ⟨hne, hg⟩]
        simp only [sz.down, ↓reduceIte, Nat.reduceEqDiff, Nat.reduceLT, Nat.reduceAdd, TEP, ens]
        refine ACalls.ev (ev_told_ok _ _ _) rfl ?_
        simp only [sz.down, ↓reduceIte, Nat.reduceEqDiff, Nat.reduceLT, Nat.reduceAdd, TEP]
        exact Reif.dat rfl
      · rw [if_neg hg, if_neg (fun h => hg h.2)]
        simp only [sz.down, ↓reduceIte, Nat.reduceEqDiff, Nat.reduceLT, Nat.reduceAdd, TEP, ens]
        refine ⟨trivial, ACalls.ev (ev_told_err _ _ _ 3) rfl ?_⟩
        simp only [sz.down, ↓reduceIte, Nat.reduceEqDiff, Nat.reduceLT, Nat.reduceAdd, TEP]
        exact Reif.dat rfl

end Go.Proofs.YtboolnpmlmgpkaaGreatDoor
