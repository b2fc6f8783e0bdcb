/- Functions of the program, part 5. -/
import Derived.Test.YtljpjeclnceddaaF4
set_option linter.unusedVariables false
set_option linter.unusedSimpArgs false
set_option linter.unnecessarySimpa false
namespace Go.Proofs.Ytljpjeclnceddaa
open Go Go.Proofs Go.Abs

/-- A map of places, and one entry more. -/
def putK (m : List S × List Int) (s : S) (i : Int) : List S × List Int :=
  match at? m.1 s with
  | some n => (m.1, m.2.set n i)
  | none => (m.1 ++ [s], m.2 ++ [i])
def plcN (l : List S) : Nat → List S × List Int
  | 0 => ([], [])
  | i + 1 => putK (plcN l i) (l.getD i []) i
def imV (m : List S × List Int) : V := .im (m.1.map V.str) (m.2.map (V.int .i64))

theorem mfind_strs (s : S) : ∀ (ks : List S), mfind .str (.str s) (ks.map V.str) = some (at? ks s)
  | [] => rfl
  | k :: ks => by
    simp only [List.map_cons, mfind, keq, at?]
    by_cases h : k = s
    · subst h; simp
    · have : (s == k) = false := by simpa using fun h' => h h'.symm
      rw [this, mfind_strs s ks, if_neg h]
      cases at? ks s <;> rfl

theorem at?_lt : ∀ {l : List S} {s : S} {n : Nat}, at? l s = some n → ∃ h : n < l.length, l[n] = s
  | [], s, n, h => by cases h
  | x :: l, s, n, h => by
    simp only [at?] at h
    split at h
    · rename_i he; cases h; exact ⟨by simp, he⟩
    · cases hl : at? l s with
      | none => rw [hl] at h; cases h
      | some k =>
        rw [hl] at h
        cases h
        obtain ⟨h1, h2⟩ := at?_lt hl
        exact ⟨by simpa using h1, by simpa using h2⟩

theorem mput_strs (m : List S × List Int) (s : S) (i : Int) : mput .str (.str s) (.int .i64 i) (m.1.map V.str) (m.2.map (V.int .i64)) = some ((putK m s i).1.map V.str, (putK m s i).2.map (V.int .i64)) := by
  unfold mput putK
  rw [mfind_strs]
  cases h : at? m.1 s with
  | none => simp
  | some n =>
    obtain ⟨h1, h2⟩ := at?_lt h
    have : (m.1.map V.str).set n (.str s) = m.1.map V.str := by
      rw [← List.map_set, ← h2, List.set_getElem_self]
    simp only [this, List.map_set]

theorem dats_ints {k : IntKind} {l : List Int} : V.dats (l.map (V.int k)) = true := by
  induction l with
  | nil => rfl
  | cons a l ih => simp only [List.map_cons, V.dats, ih, V.dat, Bool.and_self]

theorem ev_places (l : List S) : Ev TE 35 [strs l] (imV (plcN l l.length)) := by
  refine Ev.bnd fun hb => ?_
  have hlen := strs_len hb
  refine Ev.of_awp Try.func35 rfl (by simp [nts]) (vc_ok mixed _ _ _ _ ?_)
  simp only [vc_seq, vcPlan_fin, vcPlan_take, vcPlan_one, vcPlan_alt, vcOp_mk, onlyN, vc_region, vc_drawn, quietOp, List.all_cons, List.all_nil, vc_ret, vc_skip, vc_block, vc_exit, vc_loop, vc_rangeFunc, vc_cond, vcOps_cons, vcOps_grd, vcOps_nil, vcQuiet_cons, vcQuiet_grd, vcQuiet_nil, goQ_true, goQ_false, goQ_sym, effG_true, effG_false, normK, isEff, vcEff, pvOp, TEP, dstOk, ev_tmp, put_t, put_d, ev_const, ev_func, init_t, init_d, seq_normal, seq_ret, seq_exit, block_normal, block_exit, block_ret, vcCall, vcNil, vcAppend, callOn, callSc, allSc, V.sv, V.sc, V.fit, V.vc, V.one, V.sub, put_none, ofVal, PV.and_mk, PV.go_true, PV.go_false, PV.go_sym, vcB_true, vcB_false, ↓reduceIte, Nat.reduceEqDiff, Nat.reduceLT, Nat.reduceLeDiff, Nat.reduceAdd, Nat.reduceSub, decide_true, decide_false, true_and, and_true, and_self, imp_self, implies_true, forall_const, List.getD_cons_zero, List.getD_cons_succ, List.length_nil, Bool.or_true, Bool.false_or, Bool.true_or, Bool.or_false, Bool.and_true, Bool.true_and, Bool.and_false, Bool.false_and, Bool.not_true, Bool.not_false, pvFieldAddr, pvField, pvLoad, pvAt, hcells, pvUn, pvBin, pvInt, pvStr, pvPick, pvPart, pvBuild, pvLen, pvIndexAddr, pvIndex, pvSlice, K.isSlice, K.isMap, List.length_map, List.nil_append, List.cons_append, List.length_cons, List.getElem?_cons_zero, List.getElem?_cons_succ, TI.agg, cond_true, cond_false, Bool.cond_false_right, Bool.cond_true_right, Bool.cond_true_left, Bool.cond_false_left, List.map_cons, List.map_nil, List.append_nil, List.zip_cons_cons, beq_self_eq_true, Option.bind_some, List.append_eq, Int.reduceToNat, List.getD_cons_zero, Nat.reduceDiv, List.forall_mem_cons, List.not_mem_nil, putAll, drop_k, put_k, init_k, Int.reduceLT, Int.reduceLE, Int.reduceNeg, Int.reduceBEq, Int.reduceBNe, Int.reduceAdd, Int.reduceSub, beq_true, beq_false, pvLookup, mget, K.keyOk, V.dats, Bool.false_eq_true, true_or, or_true, V.dat, drop_t, drop_d, V.drop, V.drops, O.drop_cells, O.drop_map, O.drop_misc, O.drop_dead, drops_strs, V.drops_append, Nat.reduceBEq, reduceCtorEq, false_imp_iff, pvPlaces, fillV, splice, List.take_zero, List.take_succ_cons, List.take_nil, List.drop_succ_cons, List.drop_nil, List.set_cons_zero, List.set_cons_succ, allOne, srcTy, srcFit, srcEls, isExact, bsOk, allFit, List.length_append, List.map_append, Bool.not_eq_true', Bool.not_eq_false', skipK, Nat.le_refl, Nat.reduceMul, Nat.zero_add, Nat.add_zero, Option.toList_some, Option.toList_none, Option.map_some, Option.map_none, Int.toNat_natCast, Int.toNat_zero, Nat.sub_zero, List.drop_zero, gd, gval, callK_ret, V.guard_true, V.guard_sv, V.guard_sc, V.guard_gval, V.guard_gval2, V.guard_gval3, V.guard_false, fnPost, evPost, fnEnd, evEnd, shutAll, resPV, resOne, resAll, List.getElem?_toArray, tis, ens, nts, Try.results35]
  refine awp_loop (fun m f h => ∃ i, m + i = l.length ∧ f.t 3 = .lm 0 ∧ f.t 7 = strs l ∧ f.t 8 = .int .i64 (l.length : Int) ∧ f.t 9 = .int .i64 (i : Int) ∧ f.d = [] ∧ h = [.map ((plcN l i).1.map V.str) ((plcN l i).2.map (V.int .i64))]) l.length ⟨0, by simp, rfl, rfl, rfl, rfl, rfl, rfl⟩ ?_
  rintro m f h ⟨i, hm, h3, h7, h8, h9, hd, rfl⟩
  refine vc_ok mixed _ _ _ _ ?_
  simp only [vc_seq, vcPlan_fin, vcPlan_take, vcPlan_one, vcPlan_alt, vcOp_mk, onlyN, vc_region, vc_drawn, quietOp, List.all_cons, List.all_nil, vc_ret, vc_skip, vc_block, vc_exit, vc_loop, vc_rangeFunc, vc_cond, vcOps_cons, vcOps_grd, vcOps_nil, vcQuiet_cons, vcQuiet_grd, vcQuiet_nil, goQ_true, goQ_false, goQ_sym, effG_true, effG_false, normK, isEff, vcEff, pvOp, TEP, dstOk, ev_tmp, put_t, put_d, ev_const, ev_func, init_t, init_d, seq_normal, seq_ret, seq_exit, block_normal, block_exit, block_ret, vcCall, vcNil, vcAppend, callOn, callSc, allSc, V.sv, V.sc, V.fit, V.vc, V.one, V.sub, put_none, ofVal, PV.and_mk, PV.go_true, PV.go_false, PV.go_sym, vcB_true, vcB_false, ↓reduceIte, Nat.reduceEqDiff, Nat.reduceLT, Nat.reduceLeDiff, Nat.reduceAdd, Nat.reduceSub, decide_true, decide_false, true_and, and_true, and_self, imp_self, implies_true, forall_const, List.getD_cons_zero, List.getD_cons_succ, List.length_nil, Bool.or_true, Bool.false_or, Bool.true_or, Bool.or_false, Bool.and_true, Bool.true_and, Bool.and_false, Bool.false_and, Bool.not_true, Bool.not_false, pvFieldAddr, pvField, pvLoad, pvAt, hcells, pvUn, pvBin, pvInt, pvStr, pvPick, pvPart, pvBuild, pvLen, pvIndexAddr, pvIndex, pvSlice, K.isSlice, K.isMap, List.length_map, List.nil_append, List.cons_append, List.length_cons, List.getElem?_cons_zero, List.getElem?_cons_succ, TI.agg, cond_true, cond_false, Bool.cond_false_right, Bool.cond_true_right, Bool.cond_true_left, Bool.cond_false_left, List.map_cons, List.map_nil, List.append_nil, List.zip_cons_cons, beq_self_eq_true, Option.bind_some, List.append_eq, Int.reduceToNat, List.getD_cons_zero, Nat.reduceDiv, List.forall_mem_cons, List.not_mem_nil, putAll, drop_k, put_k, init_k, Int.reduceLT, Int.reduceLE, Int.reduceNeg, Int.reduceBEq, Int.reduceBNe, Int.reduceAdd, Int.reduceSub, beq_true, beq_false, pvLookup, mget, K.keyOk, V.dats, Bool.false_eq_true, true_or, or_true, V.dat, drop_t, drop_d, V.drop, V.drops, O.drop_cells, O.drop_map, O.drop_misc, O.drop_dead, drops_strs, V.drops_append, Nat.reduceBEq, reduceCtorEq, false_imp_iff, pvPlaces, fillV, splice, List.take_zero, List.take_succ_cons, List.take_nil, List.drop_succ_cons, List.drop_nil, List.set_cons_zero, List.set_cons_succ, allOne, srcTy, srcFit, srcEls, isExact, bsOk, allFit, List.length_append, List.map_append, Bool.not_eq_true', Bool.not_eq_false', skipK, Nat.le_refl, Nat.reduceMul, Nat.zero_add, Nat.add_zero, Option.toList_some, Option.toList_none, Option.map_some, Option.map_none, Int.toNat_natCast, Int.toNat_zero, Nat.sub_zero, List.drop_zero, gd, gval, callK_ret, V.guard_true, V.guard_sv, V.guard_sc, V.guard_gval, V.guard_gval2, V.guard_gval3, V.guard_false, fnPost, evPost, fnEnd, evEnd, shutAll, resPV, resOne, resAll, List.getElem?_toArray, tis, ens, nts, Try.results35, h3, h7, h8, h9, hd]
  refine vcB.mk (fun hc => ?_) (fun hc => ?_)
  · simp only [decide_eq_true_eq, Int.ofNat_lt] at hc
    simp only [vc_seq, vcPlan_fin, vcPlan_take, vcPlan_one, vcPlan_alt, vcOp_mk, onlyN, vc_region, vc_drawn, quietOp, List.all_cons, List.all_nil, vc_ret, vc_skip, vc_block, vc_exit, vc_loop, vc_rangeFunc, vc_cond, vcOps_cons, vcOps_grd, vcOps_nil, vcQuiet_cons, vcQuiet_grd, vcQuiet_nil, goQ_true, goQ_false, goQ_sym, effG_true, effG_false, normK, isEff, vcEff, pvOp, TEP, dstOk, ev_tmp, put_t, put_d, ev_const, ev_func, init_t, init_d, seq_normal, seq_ret, seq_exit, block_normal, block_exit, block_ret, vcCall, vcNil, vcAppend, callOn, callSc, allSc, V.sv, V.sc, V.fit, V.vc, V.one, V.sub, put_none, ofVal, PV.and_mk, PV.go_true, PV.go_false, PV.go_sym, vcB_true, vcB_false, ↓reduceIte, Nat.reduceEqDiff, Nat.reduceLT, Nat.reduceLeDiff, Nat.reduceAdd, Nat.reduceSub, decide_true, decide_false, true_and, and_true, and_self, imp_self, implies_true, forall_const, List.getD_cons_zero, List.getD_cons_succ, List.length_nil, Bool.or_true, Bool.false_or, Bool.true_or, Bool.or_false, Bool.and_true, Bool.true_and, Bool.and_false, Bool.false_and, Bool.not_true, Bool.not_false, pvFieldAddr, pvField, pvLoad, pvAt, hcells, pvUn, pvBin, pvInt, pvStr, pvPick, pvPart, pvBuild, pvLen, pvIndexAddr, pvIndex, pvSlice, K.isSlice, K.isMap, List.length_map, List.nil_append, List.cons_append, List.length_cons, List.getElem?_cons_zero, List.getElem?_cons_succ, TI.agg, cond_true, cond_false, Bool.cond_false_right, Bool.cond_true_right, Bool.cond_true_left, Bool.cond_false_left, List.map_cons, List.map_nil, List.append_nil, List.zip_cons_cons, beq_self_eq_true, Option.bind_some, List.append_eq, Int.reduceToNat, List.getD_cons_zero, Nat.reduceDiv, List.forall_mem_cons, List.not_mem_nil, putAll, drop_k, put_k, init_k, Int.reduceLT, Int.reduceLE, Int.reduceNeg, Int.reduceBEq, Int.reduceBNe, Int.reduceAdd, Int.reduceSub, beq_true, beq_false, pvLookup, mget, K.keyOk, V.dats, Bool.false_eq_true, true_or, or_true, V.dat, drop_t, drop_d, V.drop, V.drops, O.drop_cells, O.drop_map, O.drop_misc, O.drop_dead, drops_strs, V.drops_append, Nat.reduceBEq, reduceCtorEq, false_imp_iff, pvPlaces, fillV, splice, List.take_zero, List.take_succ_cons, List.take_nil, List.drop_succ_cons, List.drop_nil, List.set_cons_zero, List.set_cons_succ, allOne, srcTy, srcFit, srcEls, isExact, bsOk, allFit, List.length_append, List.map_append, Bool.not_eq_true', Bool.not_eq_false', skipK, Nat.le_refl, Nat.reduceMul, Nat.zero_add, Nat.add_zero, Option.toList_some, Option.toList_none, Option.map_some, Option.map_none, Int.toNat_natCast, Int.toNat_zero, Nat.sub_zero, List.drop_zero, gd, gval, callK_ret, V.guard_true, V.guard_sv, V.guard_sc, V.guard_gval, V.guard_gval2, V.guard_gval3, V.guard_false, fnPost, evPost, fnEnd, evEnd, shutAll, resPV, resOne, resAll, List.getElem?_toArray, tis, ens, nts, Try.results35, h3, h7, h8, h9, hd, getS hc, mput_strs, K.keyOk]
    refine ⟨⟨by omega, by omega⟩, .inl ⟨m - 1, by omega, i + 1, by omega, h3, h7, h8, by rw [wrap_succ (by omega)]; rfl, hd, ?_⟩⟩
    have : l.getD i [] = l[i] := by simp [List.getD_eq_getElem?_getD, hc]
    simp only [plcN, this]
  · simp only [decide_eq_false_iff_not, Int.ofNat_lt] at hc
    have : i = l.length := by omega
    subst this
    simp only [vc_seq, vcPlan_fin, vcPlan_take, vcPlan_one, vcPlan_alt, vcOp_mk, onlyN, vc_region, vc_drawn, quietOp, List.all_cons, List.all_nil, vc_ret, vc_skip, vc_block, vc_exit, vc_loop, vc_rangeFunc, vc_cond, vcOps_cons, vcOps_grd, vcOps_nil, vcQuiet_cons, vcQuiet_grd, vcQuiet_nil, goQ_true, goQ_false, goQ_sym, effG_true, effG_false, normK, isEff, vcEff, pvOp, TEP, dstOk, ev_tmp, put_t, put_d, ev_const, ev_func, init_t, init_d, seq_normal, seq_ret, seq_exit, block_normal, block_exit, block_ret, vcCall, vcNil, vcAppend, callOn, callSc, allSc, V.sv, V.sc, V.fit, V.vc, V.one, V.sub, put_none, ofVal, PV.and_mk, PV.go_true, PV.go_false, PV.go_sym, vcB_true, vcB_false, ↓reduceIte, Nat.reduceEqDiff, Nat.reduceLT, Nat.reduceLeDiff, Nat.reduceAdd, Nat.reduceSub, decide_true, decide_false, true_and, and_true, and_self, imp_self, implies_true, forall_const, List.getD_cons_zero, List.getD_cons_succ, List.length_nil, Bool.or_true, Bool.false_or, Bool.true_or, Bool.or_false, Bool.and_true, Bool.true_and, Bool.and_false, Bool.false_and, Bool.not_true, Bool.not_false, pvFieldAddr, pvField, pvLoad, pvAt, hcells, pvUn, pvBin, pvInt, pvStr, pvPick, pvPart, pvBuild, pvLen, pvIndexAddr, pvIndex, pvSlice, K.isSlice, K.isMap, List.length_map, List.nil_append, List.cons_append, List.length_cons, List.getElem?_cons_zero, List.getElem?_cons_succ, TI.agg, cond_true, cond_false, Bool.cond_false_right, Bool.cond_true_right, Bool.cond_true_left, Bool.cond_false_left, List.map_cons, List.map_nil, List.append_nil, List.zip_cons_cons, beq_self_eq_true, Option.bind_some, List.append_eq, Int.reduceToNat, List.getD_cons_zero, Nat.reduceDiv, List.forall_mem_cons, List.not_mem_nil, putAll, drop_k, put_k, init_k, Int.reduceLT, Int.reduceLE, Int.reduceNeg, Int.reduceBEq, Int.reduceBNe, Int.reduceAdd, Int.reduceSub, beq_true, beq_false, pvLookup, mget, K.keyOk, V.dats, Bool.false_eq_true, true_or, or_true, V.dat, drop_t, drop_d, V.drop, V.drops, O.drop_cells, O.drop_map, O.drop_misc, O.drop_dead, drops_strs, V.drops_append, Nat.reduceBEq, reduceCtorEq, false_imp_iff, pvPlaces, fillV, splice, List.take_zero, List.take_succ_cons, List.take_nil, List.drop_succ_cons, List.drop_nil, List.set_cons_zero, List.set_cons_succ, allOne, srcTy, srcFit, srcEls, isExact, bsOk, allFit, List.length_append, List.map_append, Bool.not_eq_true', Bool.not_eq_false', skipK, Nat.le_refl, Nat.reduceMul, Nat.zero_add, Nat.add_zero, Option.toList_some, Option.toList_none, Option.map_some, Option.map_none, Int.toNat_natCast, Int.toNat_zero, Nat.sub_zero, List.drop_zero, gd, gval, callK_ret, V.guard_true, V.guard_sv, V.guard_sc, V.guard_gval, V.guard_gval2, V.guard_gval3, V.guard_false, fnPost, evPost, fnEnd, evEnd, shutAll, resPV, resOne, resAll, List.getElem?_toArray, tis, ens, nts, Try.results35, h3, h7, h8, h9, hd]
    exact Reif.lm rfl (Reifs.dat dats_strs) (Reifs.dat dats_ints)

def placeN (m : List S × List Int) (s : S) : Int := match at? m.1 s with | some n => m.2.getD n 0 | none => -1

theorem ev_place (m : List S × List Int) (hm : m.1.length = m.2.length) (s : S) : Ev TE 40 [imV m, .str s] (.int .i64 (placeN m s)) := by
  refine Ev.of_awp Try.func40 rfl (by simp [nts]) (vc_ok mixed _ _ _ _ ?_)
  unfold placeN
  cases h : at? m.1 s with
  | none =>
    simp only [vc_seq, vcPlan_fin, vcPlan_take, vcPlan_one, vcPlan_alt, vcOp_mk, onlyN, vc_region, vc_drawn, quietOp, List.all_cons, List.all_nil, vc_ret, vc_skip, vc_block, vc_exit, vc_loop, vc_rangeFunc, vc_cond, vcOps_cons, vcOps_grd, vcOps_nil, vcQuiet_cons, vcQuiet_grd, vcQuiet_nil, goQ_true, goQ_false, goQ_sym, effG_true, effG_false, normK, isEff, vcEff, pvOp, TEP, dstOk, ev_tmp, put_t, put_d, ev_const, ev_func, init_t, init_d, seq_normal, seq_ret, seq_exit, block_normal, block_exit, block_ret, vcCall, vcNil, vcAppend, callOn, callSc, allSc, V.sv, V.sc, V.fit, V.vc, V.one, V.sub, put_none, ofVal, PV.and_mk, PV.go_true, PV.go_false, PV.go_sym, vcB_true, vcB_false, ↓reduceIte, Nat.reduceEqDiff, Nat.reduceLT, Nat.reduceLeDiff, Nat.reduceAdd, Nat.reduceSub, decide_true, decide_false, true_and, and_true, and_self, imp_self, implies_true, forall_const, List.getD_cons_zero, List.getD_cons_succ, List.length_nil, Bool.or_true, Bool.false_or, Bool.true_or, Bool.or_false, Bool.and_true, Bool.true_and, Bool.and_false, Bool.false_and, Bool.not_true, Bool.not_false, pvFieldAddr, pvField, pvLoad, pvAt, hcells, pvUn, pvBin, pvInt, pvStr, pvPick, pvPart, pvBuild, pvLen, pvIndexAddr, pvIndex, pvSlice, K.isSlice, K.isMap, List.length_map, List.nil_append, List.cons_append, List.length_cons, List.getElem?_cons_zero, List.getElem?_cons_succ, TI.agg, cond_true, cond_false, Bool.cond_false_right, Bool.cond_true_right, Bool.cond_true_left, Bool.cond_false_left, List.map_cons, List.map_nil, List.append_nil, List.zip_cons_cons, beq_self_eq_true, Option.bind_some, List.append_eq, Int.reduceToNat, List.getD_cons_zero, Nat.reduceDiv, List.forall_mem_cons, List.not_mem_nil, putAll, drop_k, put_k, init_k, Int.reduceLT, Int.reduceLE, Int.reduceNeg, Int.reduceBEq, Int.reduceBNe, Int.reduceAdd, Int.reduceSub, beq_true, beq_false, pvLookup, mget, K.keyOk, V.dats, Bool.false_eq_true, true_or, or_true, V.dat, drop_t, drop_d, V.drop, V.drops, O.drop_cells, O.drop_map, O.drop_misc, O.drop_dead, drops_strs, V.drops_append, Nat.reduceBEq, reduceCtorEq, false_imp_iff, pvPlaces, fillV, splice, List.take_zero, List.take_succ_cons, List.take_nil, List.drop_succ_cons, List.drop_nil, List.set_cons_zero, List.set_cons_succ, allOne, srcTy, srcFit, srcEls, isExact, bsOk, allFit, List.length_append, List.map_append, Bool.not_eq_true', Bool.not_eq_false', skipK, Nat.le_refl, Nat.reduceMul, Nat.zero_add, Nat.add_zero, Option.toList_some, Option.toList_none, Option.map_some, Option.map_none, Int.toNat_natCast, Int.toNat_zero, Nat.sub_zero, List.drop_zero, gd, gval, callK_ret, V.guard_true, V.guard_sv, V.guard_sc, V.guard_gval, V.guard_gval2, V.guard_gval3, V.guard_false, fnPost, evPost, fnEnd, evEnd, shutAll, resPV, resOne, resAll, List.getElem?_toArray, tis, ens, nts, Try.results40, imV, mfind_strs, h]
    exact Reif.dat rfl
  | some n =>
    obtain ⟨h1, h2⟩ := at?_lt h
    have hn : n < m.2.length := by omega
    have hg : (m.2.map (V.int .i64)).getD n .any = .int .i64 m.2[n] := getD_map hn _
    have hg2 : m.2.getD n 0 = m.2[n] := by simp [List.getD_eq_getElem?_getD, hn]
    simp only [vc_seq, vcPlan_fin, vcPlan_take, vcPlan_one, vcPlan_alt, vcOp_mk, onlyN, vc_region, vc_drawn, quietOp, List.all_cons, List.all_nil, vc_ret, vc_skip, vc_block, vc_exit, vc_loop, vc_rangeFunc, vc_cond, vcOps_cons, vcOps_grd, vcOps_nil, vcQuiet_cons, vcQuiet_grd, vcQuiet_nil, goQ_true, goQ_false, goQ_sym, effG_true, effG_false, normK, isEff, vcEff, pvOp, TEP, dstOk, ev_tmp, put_t, put_d, ev_const, ev_func, init_t, init_d, seq_normal, seq_ret, seq_exit, block_normal, block_exit, block_ret, vcCall, vcNil, vcAppend, callOn, callSc, allSc, V.sv, V.sc, V.fit, V.vc, V.one, V.sub, put_none, ofVal, PV.and_mk, PV.go_true, PV.go_false, PV.go_sym, vcB_true, vcB_false, ↓reduceIte, Nat.reduceEqDiff, Nat.reduceLT, Nat.reduceLeDiff, Nat.reduceAdd, Nat.reduceSub, decide_true, decide_false, true_and, and_true, and_self, imp_self, implies_true, forall_const, List.getD_cons_zero, List.getD_cons_succ, List.length_nil, Bool.or_true, Bool.false_or, Bool.true_or, Bool.or_false, Bool.and_true, Bool.true_and, Bool.and_false, Bool.false_and, Bool.not_true, Bool.not_false, pvFieldAddr, pvField, pvLoad, pvAt, hcells, pvUn, pvBin, pvInt, pvStr, pvPick, pvPart, pvBuild, pvLen, pvIndexAddr, pvIndex, pvSlice, K.isSlice, K.isMap, List.length_map, List.nil_append, List.cons_append, List.length_cons, List.getElem?_cons_zero, List.getElem?_cons_succ, TI.agg, cond_true, cond_false, Bool.cond_false_right, Bool.cond_true_right, Bool.cond_true_left, Bool.cond_false_left, List.map_cons, List.map_nil, List.append_nil, List.zip_cons_cons, beq_self_eq_true, Option.bind_some, List.append_eq, Int.reduceToNat, List.getD_cons_zero, Nat.reduceDiv, List.forall_mem_cons, List.not_mem_nil, putAll, drop_k, put_k, init_k, Int.reduceLT, Int.reduceLE, Int.reduceNeg, Int.reduceBEq, Int.reduceBNe, Int.reduceAdd, Int.reduceSub, beq_true, beq_false, pvLookup, mget, K.keyOk, V.dats, Bool.false_eq_true, true_or, or_true, V.dat, drop_t, drop_d, V.drop, V.drops, O.drop_cells, O.drop_map, O.drop_misc, O.drop_dead, drops_strs, V.drops_append, Nat.reduceBEq, reduceCtorEq, false_imp_iff, pvPlaces, fillV, splice, List.take_zero, List.take_succ_cons, List.take_nil, List.drop_succ_cons, List.drop_nil, List.set_cons_zero, List.set_cons_succ, allOne, srcTy, srcFit, srcEls, isExact, bsOk, allFit, List.length_append, List.map_append, Bool.not_eq_true', Bool.not_eq_false', skipK, Nat.le_refl, Nat.reduceMul, Nat.zero_add, Nat.add_zero, Option.toList_some, Option.toList_none, Option.map_some, Option.map_none, Int.toNat_natCast, Int.toNat_zero, Nat.sub_zero, List.drop_zero, gd, gval, callK_ret, V.guard_true, V.guard_sv, V.guard_sc, V.guard_gval, V.guard_gval2, V.guard_gval3, V.guard_false, fnPost, evPost, fnEnd, evEnd, shutAll, resPV, resOne, resAll, List.getElem?_toArray, tis, ens, nts, Try.results40, imV, mfind_strs, h, hg, hg2]
    exact Reif.dat rfl

theorem ev_clone (l : List S) (hl : l.length ≤ 1000000) : Ev TE 30 [strs l] (strs l) := by
  refine Ev.of_awp Try.func30 rfl (by simp [nts]) (vc_ok mixed _ _ _ _ ?_)
  simp only [vc_seq, vcPlan_fin, vcPlan_take, vcPlan_one, vcPlan_alt, vcOp_mk, onlyN, vc_region, vc_drawn, quietOp, List.all_cons, List.all_nil, vc_ret, vc_skip, vc_block, vc_exit, vc_loop, vc_rangeFunc, vc_cond, vcOps_cons, vcOps_grd, vcOps_nil, vcQuiet_cons, vcQuiet_grd, vcQuiet_nil, goQ_true, goQ_false, goQ_sym, effG_true, effG_false, normK, isEff, vcEff, pvOp, TEP, dstOk, ev_tmp, put_t, put_d, ev_const, ev_func, init_t, init_d, seq_normal, seq_ret, seq_exit, block_normal, block_exit, block_ret, vcCall, vcNil, vcAppend, callOn, callSc, allSc, V.sv, V.sc, V.fit, V.vc, V.one, V.sub, put_none, ofVal, PV.and_mk, PV.go_true, PV.go_false, PV.go_sym, vcB_true, vcB_false, ↓reduceIte, Nat.reduceEqDiff, Nat.reduceLT, Nat.reduceLeDiff, Nat.reduceAdd, Nat.reduceSub, decide_true, decide_false, true_and, and_true, and_self, imp_self, implies_true, forall_const, List.getD_cons_zero, List.getD_cons_succ, List.length_nil, Bool.or_true, Bool.false_or, Bool.true_or, Bool.or_false, Bool.and_true, Bool.true_and, Bool.and_false, Bool.false_and, Bool.not_true, Bool.not_false, pvFieldAddr, pvField, pvLoad, pvAt, hcells, pvUn, pvBin, pvInt, pvStr, pvPick, pvPart, pvBuild, pvLen, pvIndexAddr, pvIndex, pvSlice, K.isSlice, K.isMap, List.length_map, List.nil_append, List.cons_append, List.length_cons, List.getElem?_cons_zero, List.getElem?_cons_succ, TI.agg, cond_true, cond_false, Bool.cond_false_right, Bool.cond_true_right, Bool.cond_true_left, Bool.cond_false_left, List.map_cons, List.map_nil, List.append_nil, List.zip_cons_cons, beq_self_eq_true, Option.bind_some, List.append_eq, Int.reduceToNat, List.getD_cons_zero, Nat.reduceDiv, List.forall_mem_cons, List.not_mem_nil, putAll, drop_k, put_k, init_k, Int.reduceLT, Int.reduceLE, Int.reduceNeg, Int.reduceBEq, Int.reduceBNe, Int.reduceAdd, Int.reduceSub, beq_true, beq_false, pvLookup, mget, K.keyOk, V.dats, Bool.false_eq_true, true_or, or_true, V.dat, drop_t, drop_d, V.drop, V.drops, O.drop_cells, O.drop_map, O.drop_misc, O.drop_dead, drops_strs, V.drops_append, Nat.reduceBEq, reduceCtorEq, false_imp_iff, pvPlaces, fillV, splice, List.take_zero, List.take_succ_cons, List.take_nil, List.drop_succ_cons, List.drop_nil, List.set_cons_zero, List.set_cons_succ, allOne, srcTy, srcFit, srcEls, isExact, bsOk, allFit, List.length_append, List.map_append, Bool.not_eq_true', Bool.not_eq_false', skipK, Nat.le_refl, Nat.reduceMul, Nat.zero_add, Nat.add_zero, Option.toList_some, Option.toList_none, Option.map_some, Option.map_none, Int.toNat_natCast, Int.toNat_zero, Nat.sub_zero, List.drop_zero, gd, gval, callK_ret, V.guard_true, V.guard_sv, V.guard_sc, V.guard_gval, V.guard_gval2, V.guard_gval3, V.guard_false, fnPost, evPost, fnEnd, evEnd, shutAll, resPV, resOne, resAll, List.getElem?_toArray, tis, ens, nts, Try.results30]
  intro b hb
  cases b
  · have hM : maxLen = 9223372036854775807 := rfl
    simp only [vc_seq, vcPlan_fin, vcPlan_take, vcPlan_one, vcPlan_alt, vcOp_mk, onlyN, vc_region, vc_drawn, quietOp, List.all_cons, List.all_nil, vc_ret, vc_skip, vc_block, vc_exit, vc_loop, vc_rangeFunc, vc_cond, vcOps_cons, vcOps_grd, vcOps_nil, vcQuiet_cons, vcQuiet_grd, vcQuiet_nil, goQ_true, goQ_false, goQ_sym, effG_true, effG_false, normK, isEff, vcEff, pvOp, TEP, dstOk, ev_tmp, put_t, put_d, ev_const, ev_func, init_t, init_d, seq_normal, seq_ret, seq_exit, block_normal, block_exit, block_ret, vcCall, vcNil, vcAppend, callOn, callSc, allSc, V.sv, V.sc, V.fit, V.vc, V.one, V.sub, put_none, ofVal, PV.and_mk, PV.go_true, PV.go_false, PV.go_sym, vcB_true, vcB_false, ↓reduceIte, Nat.reduceEqDiff, Nat.reduceLT, Nat.reduceLeDiff, Nat.reduceAdd, Nat.reduceSub, decide_true, decide_false, true_and, and_true, and_self, imp_self, implies_true, forall_const, List.getD_cons_zero, List.getD_cons_succ, List.length_nil, Bool.or_true, Bool.false_or, Bool.true_or, Bool.or_false, Bool.and_true, Bool.true_and, Bool.and_false, Bool.false_and, Bool.not_true, Bool.not_false, pvFieldAddr, pvField, pvLoad, pvAt, hcells, pvUn, pvBin, pvInt, pvStr, pvPick, pvPart, pvBuild, pvLen, pvIndexAddr, pvIndex, pvSlice, K.isSlice, K.isMap, List.length_map, List.nil_append, List.cons_append, List.length_cons, List.getElem?_cons_zero, List.getElem?_cons_succ, TI.agg, cond_true, cond_false, Bool.cond_false_right, Bool.cond_true_right, Bool.cond_true_left, Bool.cond_false_left, List.map_cons, List.map_nil, List.append_nil, List.zip_cons_cons, beq_self_eq_true, Option.bind_some, List.append_eq, Int.reduceToNat, List.getD_cons_zero, Nat.reduceDiv, List.forall_mem_cons, List.not_mem_nil, putAll, drop_k, put_k, init_k, Int.reduceLT, Int.reduceLE, Int.reduceNeg, Int.reduceBEq, Int.reduceBNe, Int.reduceAdd, Int.reduceSub, beq_true, beq_false, pvLookup, mget, K.keyOk, V.dats, Bool.false_eq_true, true_or, or_true, V.dat, drop_t, drop_d, V.drop, V.drops, O.drop_cells, O.drop_map, O.drop_misc, O.drop_dead, drops_strs, V.drops_append, Nat.reduceBEq, reduceCtorEq, false_imp_iff, pvPlaces, fillV, splice, List.take_zero, List.take_succ_cons, List.take_nil, List.drop_succ_cons, List.drop_nil, List.set_cons_zero, List.set_cons_succ, allOne, srcTy, srcFit, srcEls, isExact, bsOk, allFit, List.length_append, List.map_append, Bool.not_eq_true', Bool.not_eq_false', skipK, Nat.le_refl, Nat.reduceMul, Nat.zero_add, Nat.add_zero, Option.toList_some, Option.toList_none, Option.map_some, Option.map_none, Int.toNat_natCast, Int.toNat_zero, Nat.sub_zero, List.drop_zero, gd, gval, callK_ret, V.guard_true, V.guard_sv, V.guard_sc, V.guard_gval, V.guard_gval2, V.guard_gval3, V.guard_false, fnPost, evPost, fnEnd, evEnd, shutAll, resPV, resOne, resAll, List.getElem?_toArray, tis, ens, nts, Try.results30, allOne_strs]
    exact ⟨⟨rfl, by decide⟩, ⟨by omega, by omega⟩, Reif.ls_strs rfl rfl⟩
  · have : l = [] := by simpa using hb rfl
    subst this
    simp only [vc_seq, vcPlan_fin, vcPlan_take, vcPlan_one, vcPlan_alt, vcOp_mk, onlyN, vc_region, vc_drawn, quietOp, List.all_cons, List.all_nil, vc_ret, vc_skip, vc_block, vc_exit, vc_loop, vc_rangeFunc, vc_cond, vcOps_cons, vcOps_grd, vcOps_nil, vcQuiet_cons, vcQuiet_grd, vcQuiet_nil, goQ_true, goQ_false, goQ_sym, effG_true, effG_false, normK, isEff, vcEff, pvOp, TEP, dstOk, ev_tmp, put_t, put_d, ev_const, ev_func, init_t, init_d, seq_normal, seq_ret, seq_exit, block_normal, block_exit, block_ret, vcCall, vcNil, vcAppend, callOn, callSc, allSc, V.sv, V.sc, V.fit, V.vc, V.one, V.sub, put_none, ofVal, PV.and_mk, PV.go_true, PV.go_false, PV.go_sym, vcB_true, vcB_false, ↓reduceIte, Nat.reduceEqDiff, Nat.reduceLT, Nat.reduceLeDiff, Nat.reduceAdd, Nat.reduceSub, decide_true, decide_false, true_and, and_true, and_self, imp_self, implies_true, forall_const, List.getD_cons_zero, List.getD_cons_succ, List.length_nil, Bool.or_true, Bool.false_or, Bool.true_or, Bool.or_false, Bool.and_true, Bool.true_and, Bool.and_false, Bool.false_and, Bool.not_true, Bool.not_false, pvFieldAddr, pvField, pvLoad, pvAt, hcells, pvUn, pvBin, pvInt, pvStr, pvPick, pvPart, pvBuild, pvLen, pvIndexAddr, pvIndex, pvSlice, K.isSlice, K.isMap, List.length_map, List.nil_append, List.cons_append, List.length_cons, List.getElem?_cons_zero, List.getElem?_cons_succ, TI.agg, cond_true, cond_false, Bool.cond_false_right, Bool.cond_true_right, Bool.cond_true_left, Bool.cond_false_left, List.map_cons, List.map_nil, List.append_nil, List.zip_cons_cons, beq_self_eq_true, Option.bind_some, List.append_eq, Int.reduceToNat, List.getD_cons_zero, Nat.reduceDiv, List.forall_mem_cons, List.not_mem_nil, putAll, drop_k, put_k, init_k, Int.reduceLT, Int.reduceLE, Int.reduceNeg, Int.reduceBEq, Int.reduceBNe, Int.reduceAdd, Int.reduceSub, beq_true, beq_false, pvLookup, mget, K.keyOk, V.dats, Bool.false_eq_true, true_or, or_true, V.dat, drop_t, drop_d, V.drop, V.drops, O.drop_cells, O.drop_map, O.drop_misc, O.drop_dead, drops_strs, V.drops_append, Nat.reduceBEq, reduceCtorEq, false_imp_iff, pvPlaces, fillV, splice, List.take_zero, List.take_succ_cons, List.take_nil, List.drop_succ_cons, List.drop_nil, List.set_cons_zero, List.set_cons_succ, allOne, srcTy, srcFit, srcEls, isExact, bsOk, allFit, List.length_append, List.map_append, Bool.not_eq_true', Bool.not_eq_false', skipK, Nat.le_refl, Nat.reduceMul, Nat.zero_add, Nat.add_zero, Option.toList_some, Option.toList_none, Option.map_some, Option.map_none, Int.toNat_natCast, Int.toNat_zero, Nat.sub_zero, List.drop_zero, gd, gval, callK_ret, V.guard_true, V.guard_sv, V.guard_sc, V.guard_gval, V.guard_gval2, V.guard_gval3, V.guard_false, fnPost, evPost, fnEnd, evEnd, shutAll, resPV, resOne, resAll, List.getElem?_toArray, tis, ens, nts, Try.results30]
    exact Reif.nils

theorem at?_mem : ∀ {l : List S} {s : S}, s ∈ l → ∃ n, at? l s = some n
  | x :: l, s, h => by
    by_cases hx : x = s
    · exact ⟨0, by simp [at?, hx]⟩
    · have : s ∈ l := by
        rcases List.mem_cons.1 h with h | h
        · exact absurd h.symm hx
        · exact h
      obtain ⟨n, hn⟩ := at?_mem this
      exact ⟨n + 1, by simp [at?, hx, hn]⟩

structure PlcOk (l : List S) (i : Nat) : Prop where
  le : (plcN l i).1.length ≤ i
  mem : ∀ s, s ∈ (plcN l i).1 ↔ s ∈ l.take i
  len : (plcN l i).1.length = (plcN l i).2.length
  nd : (l.take i).Nodup → plcN l i = (l.take i, (List.range i).map Int.ofNat)
  dup : ¬ (l.take i).Nodup → (plcN l i).1.length < i

theorem plcOk (l : List S) : ∀ i, i ≤ l.length → PlcOk l i
  | 0, _ => ⟨Nat.le_refl _, fun s => by simp [plcN], rfl, fun _ => by simp [plcN], fun h => by simp at h⟩
  | i + 1, hi => by
    have ih := plcOk l i (by omega)
    have hlt : i < l.length := by omega
    have hg : l.getD i [] = l[i] := by simp [List.getD_eq_getElem?_getD, hlt]
    have ht : l.take (i + 1) = l.take i ++ [l[i]] := by rw [List.take_add_one]; simp [hlt]
    cases hm : at? (plcN l i).1 l[i] with
    | some n =>
      have hp : plcN l (i + 1) = ((plcN l i).1, (plcN l i).2.set n i) := by simp only [plcN, putK, hg, hm]
      obtain ⟨h1, h2⟩ := at?_lt hm
      have hin : l[i] ∈ l.take i := (ih.mem _).1 (h2 ▸ List.getElem_mem h1)
      have hnd : ¬ (l.take (i + 1)).Nodup := by
        rw [ht, List.nodup_append]
        rintro ⟨_, _, h3⟩
        exact h3 _ hin _ (by simp) rfl
      refine ⟨by rw [hp]; have := ih.le; exact Nat.le_succ_of_le this, fun s => ?_, by rw [hp]; simpa using ih.len, fun h => absurd h hnd, fun _ => by rw [hp]; exact Nat.lt_succ_of_le ih.le⟩
      rw [hp, ht, List.mem_append, ih.mem]
      constructor
      · exact fun h => .inl h
      · rintro (h | h)
        · exact h
        · rw [List.mem_singleton] at h; rw [h]; exact hin
    | none =>
      have hp : plcN l (i + 1) = ((plcN l i).1 ++ [l[i]], (plcN l i).2 ++ [(i : Int)]) := by simp only [plcN, putK, hg, hm]
      have hin : ¬ l[i] ∈ l.take i := by
        intro h
        obtain ⟨n, hn⟩ := at?_mem ((ih.mem _).2 h)
        rw [hm] at hn; cases hn
      refine ⟨by rw [hp]; simpa using ih.le, fun s => by rw [hp, ht, List.mem_append, List.mem_append, ih.mem], by rw [hp]; simpa using ih.len, fun h => ?_, fun h => ?_⟩
      · have h0 : (l.take i).Nodup := by rw [ht, List.nodup_append] at h; exact h.1
        rw [hp, ih.nd h0, ht, List.range_succ, List.map_append]
        rfl
      · have h0 : ¬ (l.take i).Nodup := fun h0 => h (nodup_take hlt h0 hin)
        rw [hp]
        simpa using ih.dup h0

theorem plc_once (l : List S) : decide (((plcN l l.length).1.length : Int) < (l.length : Int)) = !once l := by
  have h := plcOk l l.length (Nat.le_refl _)
  by_cases hn : l.Nodup
  · have h1 := h.nd (by rw [List.take_length]; exact hn)
    simp [h1, once, hn]
  · have h1 := h.dup (by rw [List.take_length]; exact hn)
    have : once l = false := by simp [once, hn]
    rw [this]
    simpa using h1

theorem place_once {l : List S} (h : once l = true) (s : S) : placeN (plcN l l.length) s = match at? l s with | some n => (n : Int) | none => -1 := by
  have hn : l.Nodup := by simpa [once] using h
  have h1 := (plcOk l l.length (Nat.le_refl _)).nd (by rw [List.take_length]; exact hn)
  unfold placeN
  rw [h1, List.take_length]
  cases hm : at? l s with
  | none => rfl
  | some n =>
    obtain ⟨h2, _⟩ := at?_lt hm
    simp [List.getD_eq_getElem?_getD, h2]

end Go.Proofs.Ytljpjeclnceddaa
