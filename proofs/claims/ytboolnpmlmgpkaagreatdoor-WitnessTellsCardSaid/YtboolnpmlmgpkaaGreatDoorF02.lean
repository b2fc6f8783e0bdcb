/- Functions of the program, part 02. -/
import Derived.Test.YtboolnpmlmgpkaaGreatDoorF01
import Derived.Test.YtboolnpmlmgpkaaGreatDoorA10
set_option linter.unusedVariables false
set_option maxRecDepth 20000
set_option linter.unusedSimpArgs false
set_option linter.unnecessarySimpa false
namespace Go.Proofs.YtboolnpmlmgpkaaGreatDoor
open Go Go.Proofs Go.Abs

theorem grow_calls (n : Nat) (hn : n ≤ 1000000000) (h : H) (R : AEnd → H → (Nat → Bool) → Prop) (hr0 : n = 0 → R (.ret .nils) h (fun _ => false))
    (hr : 0 < n → R (.ret (.ls h.length 1 0 0 n)) (h ++ [.cells (List.replicate n (.str []))]) (fun _ => false)) : ACalls TE 151 [.nils, vi n] h R := by
  
  refine ACalls.of_awp Tryz.func151 rfl (by simp [nts]) ?_
  refine awp_seq (vc_ok mixed _ _ _ _ ?_)
  simp only [sz.down, Nat.reduceLT, TEP, nts, Tryz.results151]
  refine awp_seq ?_
  refine vc_ok mixed _ _ _ _ ?_
  simp only [sz.down, ↓reduceIte, Nat.reduceEqDiff, Nat.reduceLT, TEP]
  refine vcB.mk (fun hc => ?_) (fun hc => ?_)
  · simp only [decide_eq_true_eq] at hc; omega
  simp only [sz.down]
  refine awp_seq (awp_seq (awp_list ?_))
  refine awpL_vc rfl rfl ?_
  simp only [sz.down, ↓reduceIte, Nat.reduceEqDiff, TEP]
  refine awpL_vc rfl rfl ?_
  simp only [sz.down, ↓reduceIte, reduceCtorEq, TEP]
  refine awpL_op rfl rfl ?_
  have hq : ti TE.P 26 = some ⟨.slice 9, 1, 24, .nils⟩ := by simp only [sz.down, TEP, tis]
  have hqe : ti TE.P 9 = some ⟨.str, 1, 16, .str []⟩ := by simp only [sz.down, TEP, tis]
  have hqi : ti TE.P 3 = some ⟨.int .i64, 1, 8, .int .i64 0⟩ := by simp only [sz.down, TEP, tis]
  refine eff_cap_nils (t := 26) rfl rfl hq rfl trivial rfl ?_
  refine awpL_vc rfl rfl ?_
  simp only [sz.down, ↓reduceIte, reduceCtorEq, TEP]
  refine awpL_vc rfl rfl ?_
  simp only [sz.down, ↓reduceIte, TEP, tis]
  refine awpL_vc rfl rfl ?_
  simp only [sz.down, ↓reduceIte, Nat.reduceEqDiff, Int.reduceSub, TEP]
  refine awpL_vc rfl rfl ?_
  simp only [sz.down, ↓reduceIte, Nat.reduceEqDiff, TEP]
  refine awpL_vc rfl rfl ?_
  simp only [sz.down, ↓reduceIte, TEP]
  have w0 : IntKind.i64.wrap 0 = 0 := by decide
  have w1 : IntKind.i64.wrap ((n : Int) - 0) = n := by rw [Int.sub_zero]; exact wrapn (by omega) (by omega)
  refine awpL_nil ?_
  simp only [sz.down, w0, w1]
  refine awp_seq ?_
  refine vc_ok mixed _ _ _ _ ?_
  simp only [sz.down, ↓reduceIte, Nat.reduceLT, TEP]
  refine awp_cond (b := decide ((0 : Int) < n)) (by simp only [sz.down, ↓reduceIte]) (by simp only [sz.down, ↓reduceIte]) (fun hb => ?_) (fun hb => ?_)
  · have hpos : 0 < n := by simp only [decide_eq_true_eq] at hb; omega
    refine awp_list ?_
    refine awpL_vc rfl rfl ?_
    simp only [sz.down, ↓reduceIte, reduceCtorEq, TEP]
    refine awpL_vc rfl rfl ?_
    simp only [sz.down, ↓reduceIte, reduceCtorEq, TEP]
    refine awpL_op rfl rfl ?_
    refine eff_cap_nils (t := 26) rfl rfl hq rfl trivial rfl ?_
    refine awpL_op rfl rfl ?_
    refine eff_slice_nils rfl hq rfl hqe (by simp only [sz.down, ↓reduceIte, Nat.reduceEqDiff]) (by simp only [sz.down, ↓reduceIte, Nat.reduceEqDiff]) (by simp only [sz.down, ↓reduceIte]) (k := .i64) (by simp only [sz.down, ↓reduceIte]) ?_
    refine awpL_vc rfl rfl ?_
    simp only [sz.down, ↓reduceIte, Nat.reduceEqDiff, TEP]
    refine awpL_op rfl rfl ?_
    refine eff_append_make (x := .tmp 20) (y := .tmp 21) (t := 26) (xt := 3) (el := 9) ⟨⟨_, rfl, rfl, rfl⟩, hq, rfl, hqe, rfl, rfl, Nat.zero_lt_one⟩ (by simp only [sz.down, ↓reduceIte, Nat.reduceEqDiff]) (by simp only [sz.down, ↓reduceIte]) (by simp only [sz.down, ↓reduceIte, Nat.reduceEqDiff]) (by simp only [sz.down, ↓reduceIte]) hqi rfl hpos (by omega) ?_ rfl (zv := .str []) rfl ?_
    · show n * 16 ≤ _
      omega
    refine awpL_vc rfl rfl ?_
    simp only [sz.down, ↓reduceIte, reduceCtorEq, TEP]
    refine awpL_vc rfl rfl ?_
    simp only [sz.down, ↓reduceIte, TEP, tis]
    refine awpL_vc rfl rfl ?_
    simp only [sz.down, ↓reduceIte, Nat.reduceEqDiff, Int.reduceLE, Nat.reduceMul, TEP, tis]
    refine ⟨by omega, ?_⟩
    refine awpL_vc rfl rfl ?_
    simp only [sz.down, ↓reduceIte, TEP]
    refine awpL_nil ?_
    simp only [sz.down]
    refine vc_ok mixed _ _ _ _ ?_
    simp only [sz.down, ↓reduceIte, Nat.reduceLT, TEP]
    exact hr hpos
  · have : n = 0 := by simp only [decide_eq_false_iff_not] at hb; omega
    refine vc_ok mixed _ _ _ _ ?_
    simp only [sz.down]
    refine vc_ok mixed _ _ _ _ ?_
    simp only [sz.down, ↓reduceIte, Nat.reduceLT, reduceCtorEq, TEP]
    exact hr0 this

theorem drop_at {α : Type} {l : List α} {i : Nat} (h : i < l.length) : l.drop i = l[i] :: l.drop (i + 1) := List.drop_eq_getElem_cons h
theorem flat_split {α : Type} (ls : List (List α)) (i : Nat) : ls.flatten = (ls.take i).flatten ++ (ls.drop i).flatten := by rw [← List.flatten_append, List.take_append_drop]
theorem flat_succ {α : Type} {ls : List (List α)} {i : Nat} (h : i < ls.length) : (ls.take (i + 1)).flatten = (ls.take i).flatten ++ ls[i] := by
  rw [List.take_add_one, List.flatten_append]; simp [h]
theorem flat_len {α : Type} {ls : List (List α)} {i : Nat} (h : i < ls.length) : (ls.take i).flatten.length + ls[i].length ≤ ls.flatten.length := by
  have h1 := congrArg List.length (flat_split ls (i + 1))
  rw [flat_succ h] at h1
  simp only [List.length_append] at h1
  omega
/-- A row that is filled. -/
def CatS (n : Nat) (c : List S) (v : V) (h : H) : Prop :=
  (c = [] ∧ v = .nils ∧ h = [] ∧ n = 0) ∨ (c.length ≤ n ∧ v = .ls 0 1 0 c.length n ∧ h = [.cells (c.map V.str ++ List.replicate (n - c.length) (.str []))])
theorem grow_cat (n : Nat) (hn : n ≤ 1000000000) (R : AEnd → H → (Nat → Bool) → Prop) (hr : ∀ v h, CatS n [] v h → R (.ret v) h (fun _ => false)) : ACalls TE 151 [.nils, vi n] [] R :=
  grow_calls n hn [] R (fun hz => hr _ _ (.inl ⟨rfl, rfl, rfl, hz⟩)) (fun hz => hr _ _ (.inr ⟨Nat.zero_le _, rfl, rfl⟩))
theorem drops_strs' {p : Nat → Bool} : ∀ l : List S, V.drops p (l.map V.str) = l.map V.str
  | [] => rfl
  | a :: l => by simp only [List.map_cons, V.drops, V.drop, drops_strs' l]
theorem allOne_s : ∀ l : List S, allOne (l.map V.str) = true
  | [] => rfl
  | a :: l => by simp only [List.map_cons, allOne, allOne_s l, V.one]; rfl
theorem splice_fill (c l : List S) (n : Nat) (h : c.length + l.length ≤ n) : splice (c.map V.str ++ List.replicate (n - c.length) (.str [])) c.length (l.map V.str) = (c ++ l).map V.str ++ List.replicate (n - (c ++ l).length) (.str []) := by
  unfold splice
  have e1 : (c.map V.str ++ List.replicate (n - c.length) (V.str [])).take c.length = c.map V.str := by
    simp
  have e2 : (c.map V.str ++ List.replicate (n - c.length) (V.str [])).drop (c.length + (l.map V.str).length) = List.replicate (n - (c ++ l).length) (V.str []) := by
    rw [List.drop_append]
    have : (c.map V.str).drop (c.length + (l.map V.str).length) = [] := List.drop_of_length_le (by simp)
    rw [this, List.nil_append, List.drop_replicate]
    congr 1
    simp only [List.length_map, List.length_append]
    omega
  rw [e1, e2, List.map_append]

theorem evF_concatS (ls : List (List S)) (hn : ls.flatten.length ≤ 1000000000) (hls : ls.length ≤ 1000000000) : EvF TE 75 [.is true 1 (ls.map strs)] 1 ls.flatten.length (ls.flatten.map V.str) := by
  have hM : maxLen = 9223372036854775807 := rfl
  have hget : ∀ {i : Nat} (h : i < ls.length) (d : V), (ls.map strs).getD i d = strs ls[i] := fun h d => getD_map h d
  unfold EvF
  refine ACalls.of_awp Tryz.func75 rfl (by simp [nts]) (vc_ok mixed _ _ _ _ ?_)
  simp only [sz.down, ↓reduceIte, Nat.reduceLT, reduceCtorEq, TEP, tis, nts, Tryz.results75]
  refine awp_loop (fun m f h => ∃ i, m + i = ls.length ∧ f.t 0 = .is true 1 (ls.map strs) ∧ f.t 3 = vi (ls.take i).flatten.length ∧ f.t 9 = .is true 1 (ls.map strs) ∧ f.t 10 = vi ls.length ∧ f.t 11 = vi i ∧ f.d = [] ∧ h = []) ls.length ⟨0, by simp, rfl, rfl, rfl, by simp only [sz.down, ↓reduceIte, Nat.reduceEqDiff], rfl, rfl, rfl⟩ ?_
  rintro m f h ⟨i, hm, h0, h3, h9, h10, h11, hd, rfl⟩
  refine vc_ok mixed _ _ _ _ ?_
  simp only [sz.down, ↓reduceIte, Nat.reduceLT, TEP, h10, h11]
  refine vcB.mk (fun hc => ?_) (fun hc => ?_)
  · simp only [decide_eq_true_eq, Int.ofNat_lt] at hc
    have hfl := flat_len hc
    have hw : IntKind.i64.wrap (((ls.take i).flatten.length : Int) + (ls[i].length : Int)) = ((ls.take (i + 1)).flatten.length : Int) := by
      rw [flat_succ hc, List.length_append, wrap64 (by omega) (by omega)]; omega
    simp only [sz.down, ↓reduceIte, Nat.reduceEqDiff, Nat.reduceLT, TEP, tis, h3, h9, h11, hget hc, hw]
    refine ⟨⟨by omega, by omega⟩, vcB.mk (fun hc' => ?_) (fun hc' => ?_)⟩
    · simp only [decide_eq_true_eq] at hc'; omega
    · simp only [sz.down, ↓reduceIte, Nat.reduceEqDiff, Nat.reduceLT, TEP, h11, wrap_succ (show i < maxLen by omega)]
      exact .inl ⟨m - 1, by omega, i + 1, by omega, h0, rfl, h9, h10, rfl, hd, rfl⟩
  · simp only [decide_eq_false_iff_not, Int.ofNat_lt] at hc
    have hi : ls.take i = ls := List.take_of_length_le (by omega)
    rw [hi] at h3
    simp only [sz.down, ↓reduceIte, Nat.reduceEqDiff, Nat.reduceLT, TEP, ens, h3]
    refine grow_cat ls.flatten.length hn _ (fun v0 h0' hcat => ?_)
    simp only [sz.down, ↓reduceIte, Nat.reduceLT, reduceCtorEq, TEP, tis, h0]
    refine awp_loop (fun m f h => ∃ i v, m + i = ls.length ∧ f.t 25 = .is true 1 (ls.map strs) ∧ f.t 26 = vi ls.length ∧ f.t 27 = vi i ∧ f.t 6 = v ∧ f.d = [] ∧ CatS ls.flatten.length (ls.take i).flatten v h) ls.length ⟨0, v0, by simp, by simp only [sz.down, ↓reduceIte, Nat.reduceEqDiff], by simp only [sz.down, ↓reduceIte, Nat.reduceEqDiff], rfl, rfl, by simp only [sz.down, hd], by simpa using hcat⟩ ?_
    rintro m f h ⟨i, v, hm, h25, h26, h27, h6, hd, hcat⟩
    refine vc_ok mixed _ _ _ _ ?_
    simp only [sz.down, ↓reduceIte, Nat.reduceLT, TEP, h26, h27]
    refine vcB.mk (fun hc => ?_) (fun hc => ?_)
    · simp only [decide_eq_true_eq, Int.ofNat_lt] at hc
      have hfl := flat_len hc
      have hnext : f.t 27 = vi i → IntKind.i64.wrap ((i : Int) + 1) = ((i + 1 : Nat) : Int) := fun _ => wrap_succ (by omega)
      rcases hcat with ⟨hc0, rfl, rfl, hn0⟩ | ⟨hcl, rfl, rfl⟩
      · have hl0 : ls[i] = [] := List.eq_nil_of_length_eq_zero (by omega)
        simp only [sz.down, ↓reduceIte, Nat.reduceEqDiff, Nat.reduceLT, Nat.reduceLeDiff, Nat.reduceMul, TEP, tis, h25, h27, h6, hget hc, hl0, wrap_succ (show i < maxLen by omega)]
        refine ⟨⟨by omega, by omega⟩, by omega, .inl ⟨m - 1, by omega, i + 1, _, by omega, h25, h26, rfl, rfl, hd, ?_⟩⟩
        right
        rw [flat_succ hc, hl0, hc0, hn0]
        exact ⟨Nat.le_refl _, rfl, rfl⟩
      · by_cases hlt : (ls.take i).flatten.length < ls.flatten.length
        · have hdt : decide ((ls.take i).flatten.length < ls.flatten.length) = true := by simpa using hlt
          simp only [sz.down, ↓reduceIte, Nat.reduceEqDiff, Nat.reduceLT, TEP, tis, h25, h27, h6, hget hc, wrap_succ (show i < maxLen by omega), allOne_s, hdt]
          refine ⟨⟨by omega, by omega⟩, ⟨by omega, by omega, by rw [List.length_replicate]; omega⟩, .inl ⟨m - 1, by omega, i + 1, _, by omega, h25, h26, rfl, rfl, hd, ?_⟩⟩
          right
          rw [flat_succ hc]
          refine ⟨by rw [List.length_append]; omega, by simp only [sz.down, ↓reduceIte, Nat.reduceEqDiff], ?_⟩
          have hsp := splice_fill (ls.take i).flatten ls[i] ls.flatten.length hfl
          unfold splice at hsp
          rw [List.length_map] at hsp
          rw [Nat.mul_one, hsp]
        · have hdt : decide ((ls.take i).flatten.length < ls.flatten.length) = false := by simpa using hlt
          have hl0 : ls[i] = [] := List.eq_nil_of_length_eq_zero (by omega)
          have hne : (ls.take i).flatten.length = ls.flatten.length := by omega
          simp only [sz.down, ↓reduceIte, Nat.reduceEqDiff, Nat.reduceLT, TEP, tis, h25, h27, h6, hd, hget hc, wrap_succ (show i < maxLen by omega), hdt, hl0]
          refine ⟨⟨by omega, by omega⟩, ⟨by rw [List.length_replicate]; omega, by omega, by omega⟩, .inl ⟨m - 1, by omega, i + 1, _, by omega, by simp only [sz.down, ↓reduceIte, Nat.reduceEqDiff, h25], by simp only [sz.down, ↓reduceIte, Nat.reduceEqDiff, h26], rfl, rfl, hd, ?_⟩⟩
          right
          rw [flat_succ hc, hl0, List.append_nil, hne, Nat.sub_self]
          refine ⟨Nat.le_refl _, by simp only [sz.down, ↓reduceIte, Nat.reduceEqDiff], ?_⟩
          simp only [List.replicate_zero, V.drops]
    · simp only [decide_eq_false_iff_not, Int.ofNat_lt] at hc
      have hi : ls.take i = ls := List.take_of_length_le (by omega)
      rw [hi] at hcat
      simp only [sz.down, ↓reduceIte, Nat.reduceEqDiff, Nat.reduceLT, TEP, h6, hd]
      rcases hcat with ⟨hc0, rfl, rfl, hn0⟩ | ⟨hcl, rfl, rfl⟩
      · exact .inl ⟨rfl, hn0, by rw [hc0]; rfl⟩
      · rw [Nat.sub_self, List.replicate_zero, List.append_nil]
        exact .inr ⟨0, _, rfl, Nat.le_refl _, rfl⟩
theorem ev_concatS (ls : List (List S)) (hn : ls.flatten.length ≤ 1000000000) (hls : ls.length ≤ 1000000000) : Ev TE 75 [.is true 1 (ls.map strs)] (strs ls.flatten) := by
  refine (evF_concatS ls hn hls).ev (fun _ hc => ?_) (fun h' id cap _ hid => Reif.ls_strs hid rfl) (fun _ hc h' => ?_)
  · rw [List.map_eq_nil_iff.1 hc]
    exact VLe.nils_is
  · rw [List.map_eq_nil_iff.1 hc]; exact Reif.nils

end Go.Proofs.YtboolnpmlmgpkaaGreatDoor

set_option linter.unusedVariables false
set_option maxRecDepth 20000
set_option linter.unusedSimpArgs false
set_option linter.unnecessarySimpa false
namespace Go.Proofs.YtboolnpmlmgpkaaGreatDoor
open Go Go.Proofs Go.Abs

theorem grow_callsB (n : Nat) (hn : n ≤ 1000000000) (h : H) (R : AEnd → H → (Nat → Bool) → Prop) (hr0 : n = 0 → R (.ret .nils) h (fun _ => false))
    (hr : 0 < n → R (.ret (.ls h.length 1 0 0 n)) (h ++ [.cells (List.replicate n (.bool false))]) (fun _ => false)) : ACalls TE 219 [.nils, vi n] h R := by
  
  refine ACalls.of_awp Tryz.func219 rfl (by simp [nts]) ?_
  refine awp_seq (vc_ok mixed _ _ _ _ ?_)
  simp only [sz.down, Nat.reduceLT, TEP, nts, Tryz.results219]
  refine awp_seq ?_
  refine vc_ok mixed _ _ _ _ ?_
  simp only [sz.down, ↓reduceIte, Nat.reduceEqDiff, Nat.reduceLT, TEP]
  refine vcB.mk (fun hc => ?_) (fun hc => ?_)
  · simp only [decide_eq_true_eq] at hc; omega
  simp only [sz.down]
  refine awp_seq (awp_seq (awp_list ?_))
  refine awpL_vc rfl rfl ?_
  simp only [sz.down, ↓reduceIte, Nat.reduceEqDiff, TEP]
  refine awpL_vc rfl rfl ?_
  simp only [sz.down, ↓reduceIte, reduceCtorEq, TEP]
  refine awpL_op rfl rfl ?_
  have hq : ti TE.P 59 = some ⟨.slice 4, 1, 24, .nils⟩ := by simp only [sz.down, TEP, tis]
  have hqe : ti TE.P 4 = some ⟨.bool, 1, 1, .bool false⟩ := by simp only [sz.down, TEP, tis]
  have hqi : ti TE.P 3 = some ⟨.int .i64, 1, 8, .int .i64 0⟩ := by simp only [sz.down, TEP, tis]
  refine eff_cap_nils (t := 59) rfl rfl hq rfl trivial rfl ?_
  refine awpL_vc rfl rfl ?_
  simp only [sz.down, ↓reduceIte, reduceCtorEq, TEP]
  refine awpL_vc rfl rfl ?_
  simp only [sz.down, ↓reduceIte, TEP, tis]
  refine awpL_vc rfl rfl ?_
  simp only [sz.down, ↓reduceIte, Nat.reduceEqDiff, Int.reduceSub, TEP]
  refine awpL_vc rfl rfl ?_
  simp only [sz.down, ↓reduceIte, Nat.reduceEqDiff, TEP]
  refine awpL_vc rfl rfl ?_
  simp only [sz.down, ↓reduceIte, TEP]
  have w0 : IntKind.i64.wrap 0 = 0 := by decide
  have w1 : IntKind.i64.wrap ((n : Int) - 0) = n := by rw [Int.sub_zero]; exact wrapn (by omega) (by omega)
  refine awpL_nil ?_
  simp only [sz.down, w0, w1]
  refine awp_seq ?_
  refine vc_ok mixed _ _ _ _ ?_
  simp only [sz.down, ↓reduceIte, Nat.reduceLT, TEP]
  refine awp_cond (b := decide ((0 : Int) < n)) (by simp only [sz.down, ↓reduceIte]) (by simp only [sz.down, ↓reduceIte]) (fun hb => ?_) (fun hb => ?_)
  · have hpos : 0 < n := by simp only [decide_eq_true_eq] at hb; omega
    refine awp_list ?_
    refine awpL_vc rfl rfl ?_
    simp only [sz.down, ↓reduceIte, reduceCtorEq, TEP]
    refine awpL_vc rfl rfl ?_
    simp only [sz.down, ↓reduceIte, reduceCtorEq, TEP]
    refine awpL_op rfl rfl ?_
    refine eff_cap_nils (t := 59) rfl rfl hq rfl trivial rfl ?_
    refine awpL_op rfl rfl ?_
    refine eff_slice_nils rfl hq rfl hqe (by simp only [sz.down, ↓reduceIte, Nat.reduceEqDiff]) (by simp only [sz.down, ↓reduceIte, Nat.reduceEqDiff]) (by simp only [sz.down, ↓reduceIte]) (k := .i64) (by simp only [sz.down, ↓reduceIte]) ?_
    refine awpL_vc rfl rfl ?_
    simp only [sz.down, ↓reduceIte, Nat.reduceEqDiff, TEP]
    refine awpL_op rfl rfl ?_
    refine eff_append_make (x := .tmp 20) (y := .tmp 21) (t := 59) (xt := 3) (el := 4) ⟨⟨_, rfl, rfl, rfl⟩, hq, rfl, hqe, rfl, rfl, Nat.zero_lt_one⟩ (by simp only [sz.down, ↓reduceIte, Nat.reduceEqDiff]) (by simp only [sz.down, ↓reduceIte]) (by simp only [sz.down, ↓reduceIte, Nat.reduceEqDiff]) (by simp only [sz.down, ↓reduceIte]) hqi rfl hpos (by omega) ?_ rfl (zv := .bool false) rfl ?_
    · show n * 1 ≤ _
      omega
    refine awpL_vc rfl rfl ?_
    simp only [sz.down, ↓reduceIte, reduceCtorEq, TEP]
    refine awpL_vc rfl rfl ?_
    simp only [sz.down, ↓reduceIte, TEP, tis]
    refine awpL_vc rfl rfl ?_
    simp only [sz.down, ↓reduceIte, Nat.reduceEqDiff, Int.reduceLE, Nat.reduceMul, TEP, tis]
    refine ⟨by omega, ?_⟩
    refine awpL_vc rfl rfl ?_
    simp only [sz.down, ↓reduceIte, TEP]
    refine awpL_nil ?_
    simp only [sz.down]
    refine vc_ok mixed _ _ _ _ ?_
    simp only [sz.down, ↓reduceIte, Nat.reduceLT, TEP]
    exact hr hpos
  · have : n = 0 := by simp only [decide_eq_false_iff_not] at hb; omega
    refine vc_ok mixed _ _ _ _ ?_
    simp only [sz.down]
    refine vc_ok mixed _ _ _ _ ?_
    simp only [sz.down, ↓reduceIte, Nat.reduceLT, reduceCtorEq, TEP]
    exact hr0 this

/-- A row that is filled. -/
def CatSB (n : Nat) (c : List Bool) (v : V) (h : H) : Prop :=
  (c = [] ∧ v = .nils ∧ h = [] ∧ n = 0) ∨ (c.length ≤ n ∧ v = .ls 0 1 0 c.length n ∧ h = [.cells (c.map V.bool ++ List.replicate (n - c.length) (.bool false))])
theorem grow_catB (n : Nat) (hn : n ≤ 1000000000) (R : AEnd → H → (Nat → Bool) → Prop) (hr : ∀ v h, CatSB n [] v h → R (.ret v) h (fun _ => false)) : ACalls TE 219 [.nils, vi n] [] R :=
  grow_callsB n hn [] R (fun hz => hr _ _ (.inl ⟨rfl, rfl, rfl, hz⟩)) (fun hz => hr _ _ (.inr ⟨Nat.zero_le _, rfl, rfl⟩))
theorem drops_bools'B {p : Nat → Bool} : ∀ l : List Bool, V.drops p (l.map V.bool) = l.map V.bool
  | [] => rfl
  | a :: l => by simp only [List.map_cons, V.drops, V.drop, drops_bools'B l]
theorem allOne_sB : ∀ l : List Bool, allOne (l.map V.bool) = true
  | [] => rfl
  | a :: l => by simp only [List.map_cons, allOne, allOne_sB l, V.one]; rfl
theorem splice_fillB (c l : List Bool) (n : Nat) (h : c.length + l.length ≤ n) : splice (c.map V.bool ++ List.replicate (n - c.length) (.bool false)) c.length (l.map V.bool) = (c ++ l).map V.bool ++ List.replicate (n - (c ++ l).length) (.bool false) := by
  unfold splice
  have e1 : (c.map V.bool ++ List.replicate (n - c.length) (V.bool false)).take c.length = c.map V.bool := by
    simp
  have e2 : (c.map V.bool ++ List.replicate (n - c.length) (V.bool false)).drop (c.length + (l.map V.bool).length) = List.replicate (n - (c ++ l).length) (V.bool false) := by
    rw [List.drop_append]
    have : (c.map V.bool).drop (c.length + (l.map V.bool).length) = [] := List.drop_of_length_le (by simp)
    rw [this, List.nil_append, List.drop_replicate]
    congr 1
    simp only [List.length_map, List.length_append]
    omega
  rw [e1, e2, List.map_append]

theorem evF_concatSB (ls : List (List Bool)) (hn : ls.flatten.length ≤ 1000000000) (hls : ls.length ≤ 1000000000) : EvF TE 188 [.is true 1 (ls.map bools)] 1 ls.flatten.length (ls.flatten.map V.bool) := by
  have hM : maxLen = 9223372036854775807 := rfl
  have hget : ∀ {i : Nat} (h : i < ls.length) (d : V), (ls.map bools).getD i d = bools ls[i] := fun h d => getD_map h d
  unfold EvF
  refine ACalls.of_awp Tryz.func188 rfl (by simp [nts]) (vc_ok mixed _ _ _ _ ?_)
  simp only [sz.down, ↓reduceIte, Nat.reduceLT, reduceCtorEq, TEP, tis, nts, Tryz.results188]
  refine awp_loop (fun m f h => ∃ i, m + i = ls.length ∧ f.t 0 = .is true 1 (ls.map bools) ∧ f.t 3 = vi (ls.take i).flatten.length ∧ f.t 9 = .is true 1 (ls.map bools) ∧ f.t 10 = vi ls.length ∧ f.t 11 = vi i ∧ f.d = [] ∧ h = []) ls.length ⟨0, by simp, rfl, rfl, rfl, by simp only [sz.down, ↓reduceIte, Nat.reduceEqDiff], rfl, rfl, rfl⟩ ?_
  rintro m f h ⟨i, hm, h0, h3, h9, h10, h11, hd, rfl⟩
  refine vc_ok mixed _ _ _ _ ?_
  simp only [sz.down, ↓reduceIte, Nat.reduceLT, TEP, h10, h11]
  refine vcB.mk (fun hc => ?_) (fun hc => ?_)
  · simp only [decide_eq_true_eq, Int.ofNat_lt] at hc
    have hfl := flat_len hc
    have hw : IntKind.i64.wrap (((ls.take i).flatten.length : Int) + (ls[i].length : Int)) = ((ls.take (i + 1)).flatten.length : Int) := by
      rw [flat_succ hc, List.length_append, wrap64 (by omega) (by omega)]; omega
    simp only [sz.down, ↓reduceIte, Nat.reduceEqDiff, Nat.reduceLT, TEP, tis, h3, h9, h11, hget hc, hw]
    refine ⟨⟨by omega, by omega⟩, vcB.mk (fun hc' => ?_) (fun hc' => ?_)⟩
    · simp only [decide_eq_true_eq] at hc'; omega
    · simp only [sz.down, ↓reduceIte, Nat.reduceEqDiff, Nat.reduceLT, TEP, h11, wrap_succ (show i < maxLen by omega)]
      exact .inl ⟨m - 1, by omega, i + 1, by omega, h0, rfl, h9, h10, rfl, hd, rfl⟩
  · simp only [decide_eq_false_iff_not, Int.ofNat_lt] at hc
    have hi : ls.take i = ls := List.take_of_length_le (by omega)
    rw [hi] at h3
    simp only [sz.down, ↓reduceIte, Nat.reduceEqDiff, Nat.reduceLT, TEP, ens, h3]
    refine grow_catB ls.flatten.length hn _ (fun v0 h0' hcat => ?_)
    simp only [sz.down, ↓reduceIte, Nat.reduceLT, reduceCtorEq, TEP, tis, h0]
    refine awp_loop (fun m f h => ∃ i v, m + i = ls.length ∧ f.t 25 = .is true 1 (ls.map bools) ∧ f.t 26 = vi ls.length ∧ f.t 27 = vi i ∧ f.t 6 = v ∧ f.d = [] ∧ CatSB ls.flatten.length (ls.take i).flatten v h) ls.length ⟨0, v0, by simp, by simp only [sz.down, ↓reduceIte, Nat.reduceEqDiff], by simp only [sz.down, ↓reduceIte, Nat.reduceEqDiff], rfl, rfl, by simp only [sz.down, hd], by simpa using hcat⟩ ?_
    rintro m f h ⟨i, v, hm, h25, h26, h27, h6, hd, hcat⟩
    refine vc_ok mixed _ _ _ _ ?_
    simp only [sz.down, ↓reduceIte, Nat.reduceLT, TEP, h26, h27]
    refine vcB.mk (fun hc => ?_) (fun hc => ?_)
    · simp only [decide_eq_true_eq, Int.ofNat_lt] at hc
      have hfl := flat_len hc
      have hnext : f.t 27 = vi i → IntKind.i64.wrap ((i : Int) + 1) = ((i + 1 : Nat) : Int) := fun _ => wrap_succ (by omega)
      rcases hcat with ⟨hc0, rfl, rfl, hn0⟩ | ⟨hcl, rfl, rfl⟩
      · have hl0 : ls[i] = [] := List.eq_nil_of_length_eq_zero (by omega)
        simp only [sz.down, ↓reduceIte, Nat.reduceEqDiff, Nat.reduceLT, Nat.reduceLeDiff, Nat.reduceMul, TEP, tis, h25, h27, h6, hget hc, hl0, wrap_succ (show i < maxLen by omega)]
        refine ⟨⟨by omega, by omega⟩, by omega, .inl ⟨m - 1, by omega, i + 1, _, by omega, h25, h26, rfl, rfl, hd, ?_⟩⟩
        right
        rw [flat_succ hc, hl0, hc0, hn0]
        exact ⟨Nat.le_refl _, rfl, rfl⟩
      · by_cases hlt : (ls.take i).flatten.length < ls.flatten.length
        · have hdt : decide ((ls.take i).flatten.length < ls.flatten.length) = true := by simpa using hlt
          simp only [sz.down, ↓reduceIte, Nat.reduceEqDiff, Nat.reduceLT, TEP, tis, h25, h27, h6, hget hc, wrap_succ (show i < maxLen by omega), allOne_sB, hdt]
          refine ⟨⟨by omega, by omega⟩, ⟨by omega, by omega, by rw [List.length_replicate]; omega⟩, .inl ⟨m - 1, by omega, i + 1, _, by omega, h25, h26, rfl, rfl, hd, ?_⟩⟩
          right
          rw [flat_succ hc]
          refine ⟨by rw [List.length_append]; omega, by simp only [sz.down, ↓reduceIte, Nat.reduceEqDiff], ?_⟩
          have hsp := splice_fillB (ls.take i).flatten ls[i] ls.flatten.length hfl
          unfold splice at hsp
          rw [List.length_map] at hsp
          rw [Nat.mul_one, hsp]
        · have hdt : decide ((ls.take i).flatten.length < ls.flatten.length) = false := by simpa using hlt
          have hl0 : ls[i] = [] := List.eq_nil_of_length_eq_zero (by omega)
          have hne : (ls.take i).flatten.length = ls.flatten.length := by omega
          simp only [sz.down, ↓reduceIte, Nat.reduceEqDiff, Nat.reduceLT, TEP, tis, h25, h27, h6, hd, hget hc, wrap_succ (show i < maxLen by omega), hdt, hl0, drops_bools'B]
          refine ⟨⟨by omega, by omega⟩, ⟨by rw [List.length_replicate]; omega, by omega, by omega⟩, .inl ⟨m - 1, by omega, i + 1, _, by omega, by simp only [sz.down, ↓reduceIte, Nat.reduceEqDiff, h25], by simp only [sz.down, ↓reduceIte, Nat.reduceEqDiff, h26], rfl, rfl, hd, ?_⟩⟩
          right
          rw [flat_succ hc, hl0, List.append_nil, hne, Nat.sub_self]
          refine ⟨Nat.le_refl _, by simp only [sz.down, ↓reduceIte, Nat.reduceEqDiff], ?_⟩
          simp only [List.replicate_zero, V.drops]
    · simp only [decide_eq_false_iff_not, Int.ofNat_lt] at hc
      have hi : ls.take i = ls := List.take_of_length_le (by omega)
      rw [hi] at hcat
      simp only [sz.down, ↓reduceIte, Nat.reduceEqDiff, Nat.reduceLT, TEP, h6, hd]
      rcases hcat with ⟨hc0, rfl, rfl, hn0⟩ | ⟨hcl, rfl, rfl⟩
      · exact .inl ⟨rfl, hn0, by rw [hc0]; rfl⟩
      · rw [Nat.sub_self, List.replicate_zero, List.append_nil]
        exact .inr ⟨0, _, rfl, Nat.le_refl _, rfl⟩
theorem ev_concatSB (ls : List (List Bool)) (hn : ls.flatten.length ≤ 1000000000) (hls : ls.length ≤ 1000000000) : Ev TE 188 [.is true 1 (ls.map bools)] (bools ls.flatten) := by
  refine (evF_concatSB ls hn hls).ev (fun _ hc => ?_) (fun h' id cap _ hid => reif_bools hid (by simp)) (fun _ hc h' => ?_)
  · rw [List.map_eq_nil_iff.1 hc]
    exact VLe.nils_is
  · rw [List.map_eq_nil_iff.1 hc]; exact Reif.nils

end Go.Proofs.YtboolnpmlmgpkaaGreatDoor

set_option linter.unusedVariables false
set_option maxRecDepth 20000
set_option linter.unusedSimpArgs false
set_option linter.unnecessarySimpa false
namespace Go.Proofs.YtboolnpmlmgpkaaGreatDoor
open Go Go.Proofs Go.Abs

theorem grow_callsI (n : Nat) (hn : n ≤ 1000000000) (h : H) (R : AEnd → H → (Nat → Bool) → Prop) (hr0 : n = 0 → R (.ret .nils) h (fun _ => false))
    (hr : 0 < n → R (.ret (.ls h.length 1 0 0 n)) (h ++ [.cells (List.replicate n (.int .i64 0))]) (fun _ => false)) : ACalls TE 198 [.nils, vi n] h R := by
  
  refine ACalls.of_awp Tryz.func198 rfl (by simp [nts]) ?_
  refine awp_seq (vc_ok mixed _ _ _ _ ?_)
  simp only [sz.down, Nat.reduceLT, TEP, nts, Tryz.results198]
  refine awp_seq ?_
  refine vc_ok mixed _ _ _ _ ?_
  simp only [sz.down, ↓reduceIte, Nat.reduceEqDiff, Nat.reduceLT, TEP]
  refine vcB.mk (fun hc => ?_) (fun hc => ?_)
  · simp only [decide_eq_true_eq] at hc; omega
  simp only [sz.down]
  refine awp_seq (awp_seq (awp_list ?_))
  refine awpL_vc rfl rfl ?_
  simp only [sz.down, ↓reduceIte, Nat.reduceEqDiff, TEP]
  refine awpL_vc rfl rfl ?_
  simp only [sz.down, ↓reduceIte, reduceCtorEq, TEP]
  refine awpL_op rfl rfl ?_
  have hq : ti TE.P 22 = some ⟨.slice 3, 1, 24, .nils⟩ := by simp only [sz.down, TEP, tis]
  have hqe : ti TE.P 3 = some ⟨.int .i64, 1, 8, .int .i64 0⟩ := by simp only [sz.down, TEP, tis]
  have hqi : ti TE.P 3 = some ⟨.int .i64, 1, 8, .int .i64 0⟩ := by simp only [sz.down, TEP, tis]
  refine eff_cap_nils (t := 22) rfl rfl hq rfl trivial rfl ?_
  refine awpL_vc rfl rfl ?_
  simp only [sz.down, ↓reduceIte, reduceCtorEq, TEP]
  refine awpL_vc rfl rfl ?_
  simp only [sz.down, ↓reduceIte, TEP, tis]
  refine awpL_vc rfl rfl ?_
  simp only [sz.down, ↓reduceIte, Nat.reduceEqDiff, Int.reduceSub, TEP]
  refine awpL_vc rfl rfl ?_
  simp only [sz.down, ↓reduceIte, Nat.reduceEqDiff, TEP]
  refine awpL_vc rfl rfl ?_
  simp only [sz.down, ↓reduceIte, TEP]
  have w0 : IntKind.i64.wrap 0 = 0 := by decide
  have w1 : IntKind.i64.wrap ((n : Int) - 0) = n := by rw [Int.sub_zero]; exact wrapn (by omega) (by omega)
  refine awpL_nil ?_
  simp only [sz.down, w0, w1]
  refine awp_seq ?_
  refine vc_ok mixed _ _ _ _ ?_
  simp only [sz.down, ↓reduceIte, Nat.reduceLT, TEP]
  refine awp_cond (b := decide ((0 : Int) < n)) (by simp only [sz.down, ↓reduceIte]) (by simp only [sz.down, ↓reduceIte]) (fun hb => ?_) (fun hb => ?_)
  · have hpos : 0 < n := by simp only [decide_eq_true_eq] at hb; omega
    refine awp_list ?_
    refine awpL_vc rfl rfl ?_
    simp only [sz.down, ↓reduceIte, reduceCtorEq, TEP]
    refine awpL_vc rfl rfl ?_
    simp only [sz.down, ↓reduceIte, reduceCtorEq, TEP]
    refine awpL_op rfl rfl ?_
    refine eff_cap_nils (t := 22) rfl rfl hq rfl trivial rfl ?_
    refine awpL_op rfl rfl ?_
    refine eff_slice_nils rfl hq rfl hqe (by simp only [sz.down, ↓reduceIte, Nat.reduceEqDiff]) (by simp only [sz.down, ↓reduceIte, Nat.reduceEqDiff]) (by simp only [sz.down, ↓reduceIte]) (k := .i64) (by simp only [sz.down, ↓reduceIte]) ?_
    refine awpL_vc rfl rfl ?_
    simp only [sz.down, ↓reduceIte, Nat.reduceEqDiff, TEP]
    refine awpL_op rfl rfl ?_
    refine eff_append_make (x := .tmp 20) (y := .tmp 21) (t := 22) (xt := 3) (el := 3) ⟨⟨_, rfl, rfl, rfl⟩, hq, rfl, hqe, rfl, rfl, Nat.zero_lt_one⟩ (by simp only [sz.down, ↓reduceIte, Nat.reduceEqDiff]) (by simp only [sz.down, ↓reduceIte]) (by simp only [sz.down, ↓reduceIte, Nat.reduceEqDiff]) (by simp only [sz.down, ↓reduceIte]) hqi rfl hpos (by omega) ?_ rfl (zv := .int .i64 0) rfl ?_
    · show n * 8 ≤ _
      omega
    refine awpL_vc rfl rfl ?_
    simp only [sz.down, ↓reduceIte, reduceCtorEq, TEP]
    refine awpL_vc rfl rfl ?_
    simp only [sz.down, ↓reduceIte, TEP, tis]
    refine awpL_vc rfl rfl ?_
    simp only [sz.down, ↓reduceIte, Nat.reduceEqDiff, Int.reduceLE, Nat.reduceMul, TEP, tis]
    refine ⟨by omega, ?_⟩
    refine awpL_vc rfl rfl ?_
    simp only [sz.down, ↓reduceIte, TEP]
    refine awpL_nil ?_
    simp only [sz.down]
    refine vc_ok mixed _ _ _ _ ?_
    simp only [sz.down, ↓reduceIte, Nat.reduceLT, TEP]
    exact hr hpos
  · have : n = 0 := by simp only [decide_eq_false_iff_not] at hb; omega
    refine vc_ok mixed _ _ _ _ ?_
    simp only [sz.down]
    refine vc_ok mixed _ _ _ _ ?_
    simp only [sz.down, ↓reduceIte, Nat.reduceLT, reduceCtorEq, TEP]
    exact hr0 this

/-- A row that is filled. -/
def CatSI (n : Nat) (c : List Int) (v : V) (h : H) : Prop :=
  (c = [] ∧ v = .nils ∧ h = [] ∧ n = 0) ∨ (c.length ≤ n ∧ v = .ls 0 1 0 c.length n ∧ h = [.cells (c.map vi ++ List.replicate (n - c.length) (.int .i64 0))])
theorem grow_catI (n : Nat) (hn : n ≤ 1000000000) (R : AEnd → H → (Nat → Bool) → Prop) (hr : ∀ v h, CatSI n [] v h → R (.ret v) h (fun _ => false)) : ACalls TE 198 [.nils, vi n] [] R :=
  grow_callsI n hn [] R (fun hz => hr _ _ (.inl ⟨rfl, rfl, rfl, hz⟩)) (fun hz => hr _ _ (.inr ⟨Nat.zero_le _, rfl, rfl⟩))
theorem drops_ints'I {p : Nat → Bool} : ∀ l : List Int, V.drops p (l.map vi) = l.map vi
  | [] => rfl
  | a :: l => by simp only [List.map_cons, V.drops, V.drop, drops_ints'I l]
theorem allOne_sI : ∀ l : List Int, allOne (l.map vi) = true
  | [] => rfl
  | a :: l => by simp only [List.map_cons, allOne, allOne_sI l, V.one]; rfl
theorem splice_fillI (c l : List Int) (n : Nat) (h : c.length + l.length ≤ n) : splice (c.map vi ++ List.replicate (n - c.length) (.int .i64 0)) c.length (l.map vi) = (c ++ l).map vi ++ List.replicate (n - (c ++ l).length) (.int .i64 0) := by
  unfold splice
  have e1 : (c.map vi ++ List.replicate (n - c.length) (V.int .i64 0)).take c.length = c.map vi := by
    simp
  have e2 : (c.map vi ++ List.replicate (n - c.length) (V.int .i64 0)).drop (c.length + (l.map vi).length) = List.replicate (n - (c ++ l).length) (V.int .i64 0) := by
    rw [List.drop_append]
    have : (c.map vi).drop (c.length + (l.map vi).length) = [] := List.drop_of_length_le (by simp)
    rw [this, List.nil_append, List.drop_replicate]
    congr 1
    simp only [List.length_map, List.length_append]
    omega
  rw [e1, e2, List.map_append]

theorem evF_concatSI (ls : List (List Int)) (hn : ls.flatten.length ≤ 1000000000) (hls : ls.length ≤ 1000000000) : EvF TE 147 [.is true 1 (ls.map ints)] 1 ls.flatten.length (ls.flatten.map vi) := by
  have hM : maxLen = 9223372036854775807 := rfl
  have hget : ∀ {i : Nat} (h : i < ls.length) (d : V), (ls.map ints).getD i d = ints ls[i] := fun h d => getD_map h d
  unfold EvF
  refine ACalls.of_awp Tryz.func147 rfl (by simp [nts]) (vc_ok mixed _ _ _ _ ?_)
  simp only [sz.down, ↓reduceIte, Nat.reduceLT, reduceCtorEq, TEP, tis, nts, Tryz.results147]
  refine awp_loop (fun m f h => ∃ i, m + i = ls.length ∧ f.t 0 = .is true 1 (ls.map ints) ∧ f.t 3 = vi (ls.take i).flatten.length ∧ f.t 9 = .is true 1 (ls.map ints) ∧ f.t 10 = vi ls.length ∧ f.t 11 = vi i ∧ f.d = [] ∧ h = []) ls.length ⟨0, by simp, rfl, rfl, rfl, by simp only [sz.down, ↓reduceIte, Nat.reduceEqDiff], rfl, rfl, rfl⟩ ?_
  rintro m f h ⟨i, hm, h0, h3, h9, h10, h11, hd, rfl⟩
  refine vc_ok mixed _ _ _ _ ?_
  simp only [sz.down, ↓reduceIte, Nat.reduceLT, TEP, h10, h11]
  refine vcB.mk (fun hc => ?_) (fun hc => ?_)
  · simp only [decide_eq_true_eq, Int.ofNat_lt] at hc
    have hfl := flat_len hc
    have hw : IntKind.i64.wrap (((ls.take i).flatten.length : Int) + (ls[i].length : Int)) = ((ls.take (i + 1)).flatten.length : Int) := by
      rw [flat_succ hc, List.length_append, wrap64 (by omega) (by omega)]; omega
    simp only [sz.down, ↓reduceIte, Nat.reduceEqDiff, Nat.reduceLT, TEP, tis, h3, h9, h11, hget hc, hw]
    refine ⟨⟨by omega, by omega⟩, vcB.mk (fun hc' => ?_) (fun hc' => ?_)⟩
    · simp only [decide_eq_true_eq] at hc'; omega
    · simp only [sz.down, ↓reduceIte, Nat.reduceEqDiff, Nat.reduceLT, TEP, h11, wrap_succ (show i < maxLen by omega)]
      exact .inl ⟨m - 1, by omega, i + 1, by omega, h0, rfl, h9, h10, rfl, hd, rfl⟩
  · simp only [decide_eq_false_iff_not, Int.ofNat_lt] at hc
    have hi : ls.take i = ls := List.take_of_length_le (by omega)
    rw [hi] at h3
    simp only [sz.down, ↓reduceIte, Nat.reduceEqDiff, Nat.reduceLT, TEP, ens, h3]
    refine grow_catI ls.flatten.length hn _ (fun v0 h0' hcat => ?_)
    simp only [sz.down, ↓reduceIte, Nat.reduceLT, reduceCtorEq, TEP, tis, h0]
    refine awp_loop (fun m f h => ∃ i v, m + i = ls.length ∧ f.t 25 = .is true 1 (ls.map ints) ∧ f.t 26 = vi ls.length ∧ f.t 27 = vi i ∧ f.t 6 = v ∧ f.d = [] ∧ CatSI ls.flatten.length (ls.take i).flatten v h) ls.length ⟨0, v0, by simp, by simp only [sz.down, ↓reduceIte, Nat.reduceEqDiff], by simp only [sz.down, ↓reduceIte, Nat.reduceEqDiff], rfl, rfl, by simp only [sz.down, hd], by simpa using hcat⟩ ?_
    rintro m f h ⟨i, v, hm, h25, h26, h27, h6, hd, hcat⟩
    refine vc_ok mixed _ _ _ _ ?_
    simp only [sz.down, ↓reduceIte, Nat.reduceLT, TEP, h26, h27]
    refine vcB.mk (fun hc => ?_) (fun hc => ?_)
    · simp only [decide_eq_true_eq, Int.ofNat_lt] at hc
      have hfl := flat_len hc
      have hnext : f.t 27 = vi i → IntKind.i64.wrap ((i : Int) + 1) = ((i + 1 : Nat) : Int) := fun _ => wrap_succ (by omega)
      rcases hcat with ⟨hc0, rfl, rfl, hn0⟩ | ⟨hcl, rfl, rfl⟩
      · have hl0 : ls[i] = [] := List.eq_nil_of_length_eq_zero (by omega)
        simp only [sz.down, ↓reduceIte, Nat.reduceEqDiff, Nat.reduceLT, Nat.reduceLeDiff, Nat.reduceMul, TEP, tis, h25, h27, h6, hget hc, hl0, wrap_succ (show i < maxLen by omega)]
        refine ⟨⟨by omega, by omega⟩, by omega, .inl ⟨m - 1, by omega, i + 1, _, by omega, h25, h26, rfl, rfl, hd, ?_⟩⟩
        right
        rw [flat_succ hc, hl0, hc0, hn0]
        exact ⟨Nat.le_refl _, rfl, rfl⟩
      · by_cases hlt : (ls.take i).flatten.length < ls.flatten.length
        · have hdt : decide ((ls.take i).flatten.length < ls.flatten.length) = true := by simpa using hlt
          simp only [sz.down, ↓reduceIte, Nat.reduceEqDiff, Nat.reduceLT, TEP, tis, h25, h27, h6, hget hc, wrap_succ (show i < maxLen by omega), allOne_sI, hdt]
          refine ⟨⟨by omega, by omega⟩, ⟨by omega, by omega, by rw [List.length_replicate]; omega⟩, .inl ⟨m - 1, by omega, i + 1, _, by omega, h25, h26, rfl, rfl, hd, ?_⟩⟩
          right
          rw [flat_succ hc]
          refine ⟨by rw [List.length_append]; omega, by simp only [sz.down, ↓reduceIte, Nat.reduceEqDiff], ?_⟩
          have hsp := splice_fillI (ls.take i).flatten ls[i] ls.flatten.length hfl
          unfold splice at hsp
          rw [List.length_map] at hsp
          rw [Nat.mul_one, hsp]
        · have hdt : decide ((ls.take i).flatten.length < ls.flatten.length) = false := by simpa using hlt
          have hl0 : ls[i] = [] := List.eq_nil_of_length_eq_zero (by omega)
          have hne : (ls.take i).flatten.length = ls.flatten.length := by omega
          simp only [sz.down, ↓reduceIte, Nat.reduceEqDiff, Nat.reduceLT, TEP, tis, h25, h27, h6, hd, hget hc, wrap_succ (show i < maxLen by omega), hdt, hl0, drops_ints'I]
          refine ⟨⟨by omega, by omega⟩, ⟨by rw [List.length_replicate]; omega, by omega, by omega⟩, .inl ⟨m - 1, by omega, i + 1, _, by omega, by simp only [sz.down, ↓reduceIte, Nat.reduceEqDiff, h25], by simp only [sz.down, ↓reduceIte, Nat.reduceEqDiff, h26], rfl, rfl, hd, ?_⟩⟩
          right
          rw [flat_succ hc, hl0, List.append_nil, hne, Nat.sub_self]
          refine ⟨Nat.le_refl _, by simp only [sz.down, ↓reduceIte, Nat.reduceEqDiff], ?_⟩
          simp only [List.replicate_zero, V.drops]
    · simp only [decide_eq_false_iff_not, Int.ofNat_lt] at hc
      have hi : ls.take i = ls := List.take_of_length_le (by omega)
      rw [hi] at hcat
      simp only [sz.down, ↓reduceIte, Nat.reduceEqDiff, Nat.reduceLT, TEP, h6, hd]
      rcases hcat with ⟨hc0, rfl, rfl, hn0⟩ | ⟨hcl, rfl, rfl⟩
      · exact .inl ⟨rfl, hn0, by rw [hc0]; rfl⟩
      · rw [Nat.sub_self, List.replicate_zero, List.append_nil]
        exact .inr ⟨0, _, rfl, Nat.le_refl _, rfl⟩
theorem ev_concatSI (ls : List (List Int)) (hn : ls.flatten.length ≤ 1000000000) (hls : ls.length ≤ 1000000000) : Ev TE 147 [.is true 1 (ls.map ints)] (ints ls.flatten) := by
  refine (evF_concatSI ls hn hls).ev (fun _ hc => ?_) (fun h' id cap _ hid => reif_ints hid (by simp)) (fun _ hc h' => ?_)
  · rw [List.map_eq_nil_iff.1 hc]
    exact VLe.nils_is
  · rw [List.map_eq_nil_iff.1 hc]; exact Reif.nils

end Go.Proofs.YtboolnpmlmgpkaaGreatDoor

set_option linter.unusedVariables false
set_option maxRecDepth 20000
set_option linter.unusedSimpArgs false
set_option linter.unnecessarySimpa false
namespace Go.Proofs.YtboolnpmlmgpkaaGreatDoor
open Go Go.Proofs Go.Abs

theorem ev_ixS (c : List S) (q : FuncId) (caps : List V) (p : S → Bool) (he : enters P q = true) (hd : V.dats caps = true) (hq : ∀ x ∈ c, Ev TE q (.str x :: caps) (.bool (p x))) : Ev TE 226 [strs c, .fn (.func q) [] caps] (vi (idx c p)) := by
  refine Ev.bnd fun hb => ?_
  have hlen := strs_len hb
  refine Ev.of_awp Tryz.func226 rfl (by simp [nts]) (vc_ok mixed _ _ _ _ ?_)
  simp only [sz.down, ↓reduceIte, Nat.reduceLT, Int.reduceNeg, reduceCtorEq, TEP, tis, nts, Tryz.results226]
  refine awp_loop (fun m f h => ∃ i, m + i = c.length ∧ f.t 0 = strs c ∧ f.t 1 = .fn (.func q) [] caps ∧ f.t 7 = .int .i64 (c.length : Int) ∧ f.t 8 = .int .i64 (i : Int) ∧ f.d = [] ∧ ∀ x ∈ c.take i, p x = false) c.length ⟨0, by simp, rfl, rfl, rfl, rfl, rfl, by simp⟩ ?_
  rintro m f h ⟨i, hm, h0, h1, h7, h8, hdd, hall⟩
  refine vc_ok mixed _ _ _ _ ?_
  simp only [sz.down, ↓reduceIte, Nat.reduceLT, Int.reduceNeg, TEP, h7, h8]
  refine vcB.mk (fun hc => ?_) (fun hc => ?_)
  · simp only [decide_eq_true_eq, Int.ofNat_lt] at hc
    simp only [sz.down, ↓reduceIte, Nat.reduceEqDiff, Nat.reduceLT, Int.reduceNeg, reduceCtorEq, TEP, tis, h0, h1, h8, getS hc, he]
    refine ⟨⟨by omega, by omega⟩, ACalls.ev (hq _ (List.getElem_mem _)) (by simp [V.dats, V.dat, hd]) ?_⟩
    simp only [sz.down, ↓reduceIte, Int.reduceNeg]
    refine vcB.mk (fun hc' => ?_) (fun hc' => ?_)
    · simp only [sz.down, ↓reduceIte, Nat.reduceEqDiff, Nat.reduceLT, Int.reduceNeg, TEP, hdd]
      rw [idx_some hc hall hc']
      exact Reif.dat rfl
    · simp only [sz.down, ↓reduceIte, Nat.reduceEqDiff, Nat.reduceLT, Int.reduceNeg, TEP, h8, wrap_succ (show i < maxLen by omega)]
      exact .inl ⟨m - 1, by omega, i + 1, by omega, h0, h1, h7, rfl, hdd, mem_take_succ hc hall hc'⟩
  · simp only [decide_eq_false_iff_not, Int.ofNat_lt] at hc
    simp only [sz.down, ↓reduceIte, Nat.reduceLT, Int.reduceNeg, TEP, hdd]
    rw [List.take_of_length_le (by omega)] at hall
    rw [idx_none hall]
    exact Reif.dat rfl

theorem ev_ctS (c : List S) (q : FuncId) (caps : List V) (p : S → Bool) (he : enters P q = true) (hd : V.dats caps = true) (hq : ∀ x ∈ c, Ev TE q (.str x :: caps) (.bool (p x))) : Ev TE 194 [strs c, .fn (.func q) [] caps] (.bool (c.any p)) := by
  refine Ev.of_awp Tryz.func194 rfl (by simp [nts]) (vc_ok mixed _ _ _ _ ?_)
  simp only [sz.down, ↓reduceIte, Nat.reduceEqDiff, Nat.reduceLT, reduceCtorEq, TEP, ens, nts, Tryz.results194]
  refine ACalls.ev (ev_ixS c q caps p he hd hq) (by simp [V.dats, V.dat, hd]) ?_
  simp only [sz.down, ↓reduceIte, Nat.reduceLT, TEP]
  exact Reif.eq rfl (by rw [idx_has])

/-- Is it no name? -/
def noName (s : S) : Bool := !okName s
theorem ev_lodd1 (s : S) : Ev TE 195 [.str s] (.bool (noName s)) := by
  refine Ev.of_awp Tryz.func195 rfl (by simp [nts]) (vc_ok mixed _ _ _ _ ?_)
  simp only [sz.down, ↓reduceIte, Nat.reduceLT, reduceCtorEq, TEP, ens, nts, Tryz.results195]
  refine ACalls.ev (ev_iname s) rfl ?_
  simp only [sz.down, ↓reduceIte, Nat.reduceLT, TEP]
  exact Reif.dat rfl
theorem ev_lodd (l : List S) : Ev TE 137 [strs l] (.bool (l.any noName)) := by
  refine Ev.of_awp Tryz.func137 rfl (by simp [nts]) (vc_ok mixed _ _ _ _ ?_)
  simp only [sz.down, ↓reduceIte, Nat.reduceLT, reduceCtorEq, TEP, ens, nts, Tryz.results137]
  refine ACalls.ev (ev_ctS l 195 [] noName rfl rfl fun x _ => ev_lodd1 x) rfl ?_
  simp only [sz.down, ↓reduceIte, Nat.reduceLT, TEP]
  exact Reif.dat rfl

/-- The place of a text. -/
def at? : List S → S → Option Nat
  | [], _ => none
  | x :: l, s => if x = s then some 0 else (at? l s).map (· + 1)
theorem mfind_strs (s : S) : ∀ (ks : List S), mfind .str (.str s) (ks.map V.str) = some (at? ks s)
  | [] => rfl
  | k :: ks => by
    simp only [List.map_cons, mfind, keq, at?]
    by_cases h : k = s
    · subst h; simp
    · have : (s == k) = false := by simpa using fun h' => h h'.symm
      rw [this, mfind_strs s ks, if_neg h]
      cases at? ks s <;> rfl
theorem at?_lt : ∀ {l : List S} {s : S} {n : Nat}, at? l s = some n → ∃ h : n < l.length, l[n] = s
  | [], s, n, h => by cases h
  | x :: l, s, n, h => by
    simp only [at?] at h
    split at h
    · rename_i he; cases h; exact ⟨by simp, he⟩
    · cases hl : at? l s with
      | none => rw [hl] at h; cases h
      | some k =>
        rw [hl] at h
        cases h
        obtain ⟨h1, h2⟩ := at?_lt hl
        exact ⟨by simpa using h1, by simpa using h2⟩
theorem at?_mem : ∀ {l : List S} {s : S}, s ∈ l → ∃ n, at? l s = some n
  | x :: l, s, h => by
    by_cases hx : x = s
    · exact ⟨0, by simp [at?, hx]⟩
    · have : s ∈ l := by
        rcases List.mem_cons.1 h with h | h
        · exact absurd h.symm hx
        · exact h
      obtain ⟨n, hn⟩ := at?_mem this
      exact ⟨n + 1, by simp [at?, hx, hn]⟩
theorem at?_none {l : List S} {s : S} (h : s ∉ l) : at? l s = none := by
  cases hh : at? l s with
  | none => rfl
  | some n =>
    obtain ⟨h1, h2⟩ := at?_lt hh
    exact absurd (h2 ▸ List.getElem_mem h1) h

/-- Is one there twice? -/
def twice (l : List S) : Bool := !decide l.Nodup

theorem ev_ltwice (l : List S) : Ev TE 138 [strs l] (.bool (twice l)) := by
  refine Ev.bnd fun hb => ?_
  have hlen := strs_len hb
  refine Ev.of_awp Tryz.func138 rfl (by simp [nts]) (vc_ok mixed _ _ _ _ ?_)
  simp only [sz.down, ↓reduceIte, Nat.reduceLT, reduceCtorEq, TEP, tis, nts, Tryz.results138]
  refine awp_loop (fun m f h => ∃ i, m + i = l.length ∧ f.t 3 = .lm 0 ∧ f.t 7 = strs l ∧ f.t 8 = .int .i64 (l.length : Int) ∧ f.t 9 = .int .i64 (i : Int) ∧ f.d = [] ∧ h = [.map ((l.take i).map V.str) (List.replicate i (.bool true))] ∧ (l.take i).Nodup) l.length ⟨0, by simp, rfl, rfl, rfl, rfl, rfl, rfl, by simp⟩ ?_
  rintro m f h ⟨i, hm, h3, h7, h8, h9, hd, rfl, hnd⟩
  refine vc_ok mixed _ _ _ _ ?_
  simp only [sz.down, ↓reduceIte, Nat.reduceLT, TEP, h8, h9]
  refine vcB.mk (fun hc => ?_) (fun hc => ?_)
  · simp only [decide_eq_true_eq, Int.ofNat_lt] at hc
    have hsucc : l.take (i + 1) = l.take i ++ [l[i]] := by rw [List.take_add_one]; simp [hc]
    cases hat : at? (l.take i) l[i] with
    | some n =>
      obtain ⟨g1, g2⟩ := at?_lt hat
      have hn : n < i := by simpa using (Nat.lt_of_lt_of_le g1 (by simp; omega))
      have hg : (List.replicate i (V.bool true)).getD n .any = .bool true := by simp [List.getD_eq_getElem?_getD, hn]
      simp only [sz.down, ↓reduceIte, Nat.reduceEqDiff, Nat.reduceLT, TEP, tis, h3, h7, h9, hd, getS hc, mget, mfind_strs, K.keyOk, hat, hg]
      refine ⟨⟨by omega, by omega⟩, ?_⟩
      have : ¬ l.Nodup := by
        intro h
        rw [← List.take_append_drop (i + 1) l, hsucc] at h
        have h2 := (List.nodup_append.1 (List.nodup_append.1 h).1).2.2
        exact h2 l[i] (g2 ▸ List.getElem_mem g1) l[i] (by simp) rfl
      exact Reif.eq rfl (by simp [twice, this])
    | none =>
      have hnm : l[i] ∉ l.take i := fun h => by
        obtain ⟨n, hn⟩ := at?_mem h
        rw [hn] at hat; cases hat
      simp only [sz.down, ↓reduceIte, Nat.reduceEqDiff, Nat.reduceLT, TEP, tis, h3, h7, h9, getS hc, mget, mput, mfind_strs, K.keyOk, hat]
      refine ⟨⟨by omega, by omega⟩, .inl ⟨m - 1, by omega, i + 1, by omega, h3, h7, h8, by rw [wrap_succ (by omega)]; rfl, hd, ?_, ?_⟩⟩
      · rw [hsucc, List.map_append, List.replicate_succ']; rfl
      · rw [hsucc]
        refine List.nodup_append.2 ⟨hnd, by simp, fun a ha b hb h => ?_⟩
        simp only [List.mem_singleton] at hb
        exact hnm (by rw [← hb, ← h]; exact ha)
  · simp only [decide_eq_false_iff_not, Int.ofNat_lt] at hc
    simp only [sz.down, ↓reduceIte, Nat.reduceLT, TEP, hd]
    rw [List.take_of_length_le (by omega)] at hnd
    exact Reif.eq rfl (by simp [twice, hnd])

theorem ev_indexS (c : List S) (s : S) : Ev TE 108 [strs c, .str s] (vi (idx c (· == s))) := by
  refine Ev.bnd fun hb => ?_
  have hlen := strs_len hb
  refine Ev.of_awp Tryz.func108 rfl (by simp [nts]) (vc_ok mixed _ _ _ _ ?_)
  simp only [sz.down, ↓reduceIte, Nat.reduceLT, Int.reduceNeg, reduceCtorEq, TEP, tis, nts, Tryz.results108]
  refine awp_loop (fun m f h => ∃ i, m + i = c.length ∧ f.t 0 = strs c ∧ f.t 1 = .str s ∧ f.t 7 = .int .i64 (c.length : Int) ∧ f.t 8 = .int .i64 (i : Int) ∧ f.d = [] ∧ ∀ x ∈ c.take i, (x == s) = false) c.length ⟨0, by simp, rfl, rfl, rfl, rfl, rfl, by simp⟩ ?_
  rintro m f h ⟨i, hm, h0, h1, h7, h8, hdd, hall⟩
  refine vc_ok mixed _ _ _ _ ?_
  simp only [sz.down, ↓reduceIte, Nat.reduceLT, Int.reduceNeg, TEP, h7, h8]
  refine vcB.mk (fun hc => ?_) (fun hc => ?_)
  · simp only [decide_eq_true_eq, Int.ofNat_lt] at hc
    simp only [sz.down, ↓reduceIte, Nat.reduceEqDiff, Nat.reduceLT, Int.reduceNeg, reduceCtorEq, TEP, tis, h0, h1, h8, getS hc]
    refine ⟨⟨by omega, by omega⟩, vcB.mk (fun hc' => ?_) (fun hc' => ?_)⟩
    · simp only [sz.down, ↓reduceIte, Nat.reduceEqDiff, Nat.reduceLT, Int.reduceNeg, TEP, hdd]
      rw [idx_some hc hall (by rw [beq_iff_eq] at hc' ⊢; exact hc'.symm)]
      exact Reif.dat rfl
    · simp only [sz.down, ↓reduceIte, Nat.reduceEqDiff, Nat.reduceLT, Int.reduceNeg, TEP, h8, wrap_succ (show i < maxLen by omega)]
      exact .inl ⟨m - 1, by omega, i + 1, by omega, h0, h1, h7, rfl, hdd, mem_take_succ hc hall (by rw [beq_eq_false_iff_ne] at hc' ⊢; exact hc'.symm)⟩
  · simp only [decide_eq_false_iff_not, Int.ofNat_lt] at hc
    simp only [sz.down, ↓reduceIte, Nat.reduceLT, Int.reduceNeg, TEP, hdd]
    rw [List.take_of_length_le (by omega)] at hall
    rw [idx_none hall]
    exact Reif.dat rfl

/-! ### Models -/
structure Mo where
  g : Gr
  ins : List S
  lat : List S
  out : List S
abbrev Mo.v (m : Mo) : V := .agg [vi m.g.ins, ints m.g.next, ints m.g.init, prs m.g.ands, ints m.g.outs, strs m.ins, strs m.lat, strs m.out]
/-- The number of a name. -/
def Mo.place (m : Mo) (s : S) : Int := if idx (m.ins ++ m.lat) (· == s) < 0 then -1 else idx (m.ins ++ m.lat) (· == s) + 1
theorem idx_ge {α : Type} (l : List α) (p : α → Bool) : -1 ≤ idx l p ∧ idx l p < l.length := by
  unfold idx
  cases h : l.findIdx? p with
  | none => exact ⟨Int.le_refl _, by show (-1 : Int) < _; omega⟩
  | some i =>
    have := (List.findIdx?_eq_some_iff_getElem.1 h).1
    exact ⟨by show (-1 : Int) ≤ (i : Int); omega, by show (i : Int) < _; omega⟩

theorem ev_lplace (m : Mo) (s : S) (h1 : m.ins.length + m.lat.length ≤ 1000000) : Ev TE 139 [m.v, .str s] (vi (m.place s)) := by
  have hcat := ev_concatS [m.ins, m.lat] (by simp; omega) (by simp)
  have hfl : [m.ins, m.lat].flatten = m.ins ++ m.lat := by simp
  rw [hfl] at hcat
  have hi := idx_ge (m.ins ++ m.lat) (· == s)
  rw [List.length_append] at hi
  unfold Mo.v
  refine Ev.of_awp Tryz.func139 rfl (by simp [nts]) (vc_ok mixed _ _ _ _ ?_)
  simp only [sz.down, ↓reduceIte, Nat.reduceEqDiff, Nat.reduceLT, Nat.reduceLeDiff, Nat.reduceAdd, Int.reduceNeg, reduceCtorEq, Nat.reduceMul, TEP, tis, ens, nts, Tryz.results139]
  refine ⟨⟨rfl, by decide⟩, ACalls.ev hcat rfl ?_⟩
  simp only [sz.down, ↓reduceIte, Nat.reduceEqDiff, Nat.reduceLT, Int.reduceNeg, TEP, ens]
  refine ACalls.ev (ev_indexS _ _) rfl ?_
  unfold Mo.place
  simp only [sz.down, ↓reduceIte, Nat.reduceLT, Int.reduceNeg, TEP]
  refine vcB.mk (fun hc => ?_) (fun hc => ?_)
  · simp only [sz.down, ↓reduceIte, Nat.reduceLT, Int.reduceNeg, TEP]
    simp only [decide_eq_true_eq] at hc
    exact Reif.eq rfl (by rw [if_pos hc])
  · simp only [sz.down, ↓reduceIte, Nat.reduceEqDiff, Nat.reduceLT, Int.reduceNeg, TEP]
    simp only [decide_eq_false_iff_not] at hc
    rw [wrapn (n := idx (m.ins ++ m.lat) (fun x => x == s) + 1) (by omega) (by omega)]
    exact Reif.eq rfl (by rw [if_neg hc])

end Go.Proofs.YtboolnpmlmgpkaaGreatDoor

set_option linter.unusedVariables false
set_option maxRecDepth 20000
set_option linter.unusedSimpArgs false
set_option linter.unnecessarySimpa false
namespace Go.Proofs.YtboolnpmlmgpkaaGreatDoor
open Go Go.Proofs Go.Abs

/-- Are there as many names as there should be? -/
def Mo.lens (m : Mo) : Bool := ((m.ins.length : Int) != m.g.ins) || ((m.lat.length : Int) != (m.g.next.length : Int)) || ((m.out.length : Int) != (m.g.outs.length : Int))
def Mo.names (m : Mo) : Bool := m.ins.any noName || m.lat.any noName || m.out.any noName
def Mo.twos (m : Mo) : Bool := twice (m.ins ++ m.lat) || twice m.out
/-- Is an output's name that of another one? -/
def Mo.other (m : Mo) (n : Nat) : Bool := (List.range n).any fun i => decide (0 ≤ m.place (m.out.getD i [])) && m.g.outs.getD i 0 != 2 * m.place (m.out.getD i [])
def Mo.chk (m : Mo) : Int := if m.g.chk ≠ 0 then m.g.chk else if m.lens then 1 else if m.names then 4 else if m.twos then 5 else if m.other m.out.length then 5 else 0

structure Gr.Ok (g : Gr) : Prop where
  lim : g.lim = false
  i0 : 0 ≤ g.ins
  i1 : g.ins ≤ 4000
  i2 : g.ins + g.next.length + g.ands.length ≤ 4000
  i3 : (g.outs.length : Int) ≤ 4000
  row : g.oddR = false
  ands : g.oddAs g.ands.length = false
theorem Gr.ok_of {g : Gr} (h : g.chk = 0) : g.Ok := by
  unfold Gr.chk at h
  split at h
  · cases h
  · rename_i h1
    split at h
    · cases h
    · rename_i h2
      split at h
      · cases h
      · rename_i h3
        have h1 : g.lim = false := by simpa using h1
        have h2' := h1
        simp only [Gr.lim, Bool.or_eq_false_iff, decide_eq_false_iff_not] at h2'
        exact ⟨h1, by omega, by omega, by omega, by omega, by simpa using h2, by simpa using h3⟩

theorem other_mono {m : Mo} {i n : Nat} (h : i ≤ n) (ho : m.other i = true) : m.other n = true := by
  unfold Mo.other at ho ⊢
  rw [List.any_eq_true] at ho ⊢
  obtain ⟨x, hx, h2⟩ := ho
  exact ⟨x, List.mem_range.2 (by have := List.mem_range.1 hx; omega), h2⟩

set_option maxHeartbeats 4000000 in
theorem ev_lcheck (m : Mo) (hs : m.g.Sm) : Ev TE 66 [m.v] (vi m.chk) := by
  have hgc := ev_grCheck m.g hs
  unfold Gr.v at hgc
  unfold Mo.v
  have dg : V.dats [.agg [vi m.g.ins, ints m.g.next, ints m.g.init, prs m.g.ands, ints m.g.outs]] = true := by simp only [V.dats, V.dat, Bool.and_self]
  refine Ev.of_awp Tryz.func66 rfl (by simp [nts]) (vc_ok mixed _ _ _ _ ?_)
  simp only [sz.down, ↓reduceIte, Nat.reduceEqDiff, Nat.reduceLT, Nat.reduceLeDiff, Nat.reduceAdd, reduceCtorEq, TEP, tis, ens, nts, Tryz.results66]
  refine ACalls.ev hgc dg ?_
  simp only [sz.down, ↓reduceIte, Nat.reduceLT, TEP]
  refine vcB.mk (fun hc => ?_) (fun hc => ?_)
  · simp only [sz.down, ↓reduceIte, Nat.reduceEqDiff, Nat.reduceLT, TEP]
    exact Reif.eq rfl (by unfold Mo.chk; rw [if_pos (by simpa using hc)])
  · have hg : m.g.chk = 0 := by simpa using hc
    have go := Gr.ok_of hg
    obtain ⟨_, i0, i1, i2, i3, _, _⟩ := go
    have fin1 : m.lens = true → vi 1 = vi m.chk := fun h => by unfold Mo.chk; rw [if_neg (by simp [hg]), if_pos h]
    cases hl1 : (m.ins.length : Int) != m.g.ins with
    | true =>
      simp only [sz.down, ↓reduceIte, Nat.reduceEqDiff, Nat.reduceLT, Nat.reduceLeDiff, Nat.reduceAdd, TEP, tis, hl1]
      exact Reif.eq rfl (fin1 (by simp [Mo.lens, hl1]))
    | false =>
      cases hl2 : (m.lat.length : Int) != (m.g.next.length : Int) with
      | true =>
        simp only [sz.down, ↓reduceIte, Nat.reduceEqDiff, Nat.reduceLT, Nat.reduceLeDiff, Nat.reduceAdd, TEP, tis, hl1, hl2]
        exact Reif.eq rfl (fin1 (by simp [Mo.lens, hl2]))
      | false =>
        cases hl3 : (m.out.length : Int) != (m.g.outs.length : Int) with
        | true =>
          simp only [sz.down, ↓reduceIte, Nat.reduceEqDiff, Nat.reduceLT, Nat.reduceLeDiff, Nat.reduceAdd, TEP, tis, hl1, hl2, hl3]
          exact Reif.eq rfl (fin1 (by simp [Mo.lens, hl3]))
        | false =>
          have hlens : m.lens = false := by simp only [Mo.lens, hl1, hl2, hl3, Bool.or_false]
          have fin4 : m.names = true → vi 4 = vi m.chk := fun h => by unfold Mo.chk; rw [if_neg (by simp [hg]), if_neg (by simp [hlens]), if_pos h]
          simp only [bne_eq_false_iff_eq] at hl1 hl2 hl3
          simp only [sz.down, ↓reduceIte, Nat.reduceEqDiff, Nat.reduceLT, Nat.reduceLeDiff, Nat.reduceAdd, TEP, tis, ens, hl1, hl2, hl3, bne_self_eq_false]
          refine ACalls.ev (ev_lodd m.ins) rfl ?_
          cases hn1 : m.ins.any noName with
          | true =>
            simp only [sz.down, ↓reduceIte, Nat.reduceLT, TEP]
            exact Reif.eq rfl (fin4 (by simp [Mo.names, hn1]))
          | false =>
            simp only [sz.down, ↓reduceIte, Nat.reduceEqDiff, Nat.reduceLT, Nat.reduceLeDiff, Nat.reduceAdd, TEP, tis, ens]
            refine ACalls.ev (ev_lodd m.lat) rfl ?_
            cases hn2 : m.lat.any noName with
            | true =>
              simp only [sz.down, ↓reduceIte, Nat.reduceLT, TEP]
              exact Reif.eq rfl (fin4 (by simp [Mo.names, hn2]))
            | false =>
              simp only [sz.down, ↓reduceIte, Nat.reduceEqDiff, Nat.reduceLT, Nat.reduceAdd, TEP, tis, ens]
              refine ACalls.ev (ev_lodd m.out) rfl ?_
              cases hn3 : m.out.any noName with
              | true =>
                simp only [sz.down, ↓reduceIte, Nat.reduceLT, TEP]
                exact Reif.eq rfl (fin4 (by simp [Mo.names, hn3]))
              | false =>
                have hnames : m.names = false := by simp only [Mo.names, hn1, hn2, hn3, Bool.or_false]
                have fin5 : m.twos = true → vi 5 = vi m.chk := fun h => by unfold Mo.chk; rw [if_neg (by simp [hg]), if_neg (by simp [hlens]), if_neg (by simp [hnames]), if_pos h]
                have hcat := ev_concatS [m.ins, m.lat] (by simp; omega) (by simp)
                rw [show [m.ins, m.lat].flatten = m.ins ++ m.lat by simp] at hcat
                simp only [sz.down, ↓reduceIte, Nat.reduceEqDiff, Nat.reduceLT, Nat.reduceLeDiff, Nat.reduceAdd, reduceCtorEq, Nat.reduceMul, TEP, tis, ens]
                refine ⟨⟨rfl, by decide⟩, ACalls.ev hcat rfl ?_⟩
                simp only [sz.down, ↓reduceIte, Nat.reduceLT, TEP, ens]
                refine ACalls.ev (ev_ltwice _) rfl ?_
                cases ht1 : twice (m.ins ++ m.lat) with
                | true =>
                  simp only [sz.down, ↓reduceIte, Nat.reduceLT, TEP]
                  exact Reif.eq rfl (fin5 (by simp [Mo.twos, ht1]))
                | false =>
                  simp only [sz.down, ↓reduceIte, Nat.reduceEqDiff, Nat.reduceLT, Nat.reduceAdd, TEP, tis, ens]
                  refine ACalls.ev (ev_ltwice _) rfl ?_
                  cases ht2 : twice m.out with
                  | true =>
                    simp only [sz.down, ↓reduceIte, Nat.reduceLT, TEP]
                    exact Reif.eq rfl (fin5 (by simp [Mo.twos, ht2]))
                  | false =>
                    have htwos : m.twos = false := by simp only [Mo.twos, ht1, ht2, Bool.or_false]
                    simp only [sz.down, ↓reduceIte, Nat.reduceEqDiff, Nat.reduceLT, Nat.reduceAdd, TEP, tis]
                    refine awp_loop (fun k f h => ∃ i, k + i = m.out.length ∧ f.t 1 = .lp 0 0 ∧ f.t 60 = strs m.out ∧ f.t 61 = vi m.out.length ∧ f.t 62 = vi i ∧ f.d = [] ∧ h = .cells [vi m.g.ins, ints m.g.next, ints m.g.init, prs m.g.ands, ints m.g.outs, strs m.ins, strs m.lat, strs m.out] :: [] ∧ m.other i = false) m.out.length ⟨0, by simp, rfl, rfl, rfl, rfl, rfl, rfl, rfl⟩ ?_
                    rintro k f h ⟨i, hk, h1, h60, h61, h62, hd, rfl, hno⟩
                    refine vc_ok mixed _ _ _ _ ?_
                    simp only [sz.down, ↓reduceIte, Nat.reduceLT, TEP, h61, h62]
                    have hM : maxLen = 9223372036854775807 := rfl
                    refine vcB.mk (fun hc => ?_) (fun hc => ?_)
                    · simp only [decide_eq_true_eq, Int.ofNat_lt] at hc
                      have hc3 : i < m.g.outs.length := by omega
                      have hpl := idx_ge (m.ins ++ m.lat) (· == m.out[i])
                      rw [List.length_append] at hpl
                      have hpr : -1 ≤ m.place m.out[i] ∧ m.place m.out[i] ≤ 4000 := by
                        unfold Mo.place
                        split <;> omega
                      have hgo : m.out.getD i [] = m.out[i] := getD_at hc
                      have hgg : m.g.outs.getD i 0 = m.g.outs[i] := getD_at hc3
                      have hplace := ev_lplace m m.out[i] (by omega)
                      have dm : V.dats [m.v, .str m.out[i]] = true := by simp only [V.dats, V.dat, Bool.and_self]
                      unfold Mo.v at hplace dm
                      have w2 : IntKind.i64.wrap (2 * m.place m.out[i]) = 2 * m.place m.out[i] := wrapn (by omega) (by omega)
                      simp only [sz.down, ↓reduceIte, Nat.reduceEqDiff, Nat.reduceLT, Nat.reduceAdd, reduceCtorEq, TEP, tis, ens, h1, h60, h62, getS hc]
                      refine ⟨⟨by omega, by omega⟩, ACalls.ev hplace dm ?_⟩
                      have hother : m.other (i + 1) = (m.other i || (decide (0 ≤ m.place m.out[i]) && m.g.outs[i] != 2 * m.place m.out[i])) := by
                        unfold Mo.other
                        rw [List.range_succ, List.any_append, List.any_cons, List.any_nil, Bool.or_false, hgo, hgg]
                      cases hp : decide (0 ≤ m.place m.out[i]) with
                      | false =>
                        rw [hp, hno] at hother
                        simp only [sz.down, ↓reduceIte, Nat.reduceEqDiff, Nat.reduceLT, Nat.reduceLeDiff, Nat.reduceAdd, TEP, tis, h1, h62, hp, getI hc3, wrap_succ (show i < maxLen by omega)]
                        exact .inl ⟨k - 1, by omega, i + 1, by omega, h1, h60, h61, rfl, hd, rfl, hother⟩
                      | true =>
                        rw [hp, hno] at hother
                        cases hq : m.g.outs[i] != 2 * m.place m.out[i] with
                        | true =>
                          simp only [sz.down, ↓reduceIte, Nat.reduceEqDiff, Nat.reduceLT, Nat.reduceLeDiff, Nat.reduceAdd, reduceCtorEq, TEP, tis, h1, hd, hp, getI hc3, w2, hq]
                          refine ⟨⟨by omega, by omega⟩, Reif.eq rfl ?_⟩
                          rw [hq] at hother
                          unfold Mo.chk
                          rw [if_neg (by simp [hg]), if_neg (by simp [hlens]), if_neg (by simp [hnames]), if_neg (by simp [htwos]), if_pos]
                          refine other_mono (by omega) (hother.trans rfl)
                        | false =>
                          rw [hq] at hother
                          simp only [sz.down, ↓reduceIte, Nat.reduceEqDiff, Nat.reduceLT, Nat.reduceLeDiff, Nat.reduceAdd, reduceCtorEq, TEP, tis, h1, h62, hp, getI hc3, w2, hq, wrap_succ (show i < maxLen by omega)]
                          refine ⟨⟨by omega, by omega⟩, .inl ⟨k - 1, by omega, i + 1, by omega, h1, h60, h61, rfl, hd, rfl, hother⟩⟩
                    · simp only [decide_eq_false_iff_not, Int.ofNat_lt] at hc
                      have hi : i = m.out.length := by omega
                      simp only [sz.down, ↓reduceIte, Nat.reduceLT, TEP, hd]
                      refine Reif.eq rfl ?_
                      unfold Mo.chk
                      rw [if_neg (by simp [hg]), if_neg (by simp [hlens]), if_neg (by simp [hnames]), if_neg (by simp [htwos]), ← hi, if_neg (by simp [hno])]

end Go.Proofs.YtboolnpmlmgpkaaGreatDoor
