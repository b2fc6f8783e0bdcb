/- Abstract values, heaps and frames over the calculus, part 14. -/
import Derived.Test.YtegnjoonhabicaaA13
set_option linter.unusedVariables false
set_option linter.unusedSimpArgs false
namespace Go.Abs
open Go.RowKit

section
variable {P : Program} {w : World}

theorem run_append_growG {ts : Array TypeId} {t xt ty el : TypeId} {r re rx : TI} {i ie ix : TypeInfo} {de dx : TypeDesc} {z ze zx : Value} (h0 : ts[0]? = some t) (h1 : ts[1]? = some xt)
    (hT : TIs P t r i (.slice el) z) (hE : TIs P el re ie de ze) (hX : TIs P xt rx ix dx zx) (hx : ∀ k, dx ≠ .int k)
    (base : Option Addr) (sLen sCap n : Nat) (xv : Value) (olds news : Array Value) (hn : ∀ w, (Builtin.lenOf xv).run P w = .ok n w)
    (ho : (Builtin.firstCells re.size sLen (.slice base sLen sCap)).run P w.drew = .ok olds w.drew) (hw : (Builtin.firstCells re.size n xv).run P w.drew = .ok news w.drew)
    (hg : sCap < sLen + n) (h63 : sLen + n ≤ maxLen) (hb : (sLen + n) * re.bytes ≤ 140737488355328) :
    (Builtin.append_ ts ty #[.slice base sLen sCap, xv]).run P w =
      .ok (.slice (some ⟨w.heap.size, 0, none⟩) (sLen + n) (grownCap w (sLen + n) sCap el))
        (w.drew.alloc (.cells (olds ++ news ++ Builtin.zeroCells ze.cells (grownCap w (sLen + n) sCap el - (sLen + n))) el)) := by
  have hn' : ¬ (sLen + n ≤ sCap) := by omega
  have h63' : ¬ (9223372036854775807 < ((sLen : Int) + (n : Int))) := by simp only [maxLen] at h63; omega
  have h48' : ¬ (281474976710656 < Builtin.nextslicecap (sLen + n) sCap * re.bytes) := by have := growslice_fits hg hb; omega
  have hz : (match dx with | .int _ => true | _ => false) = false := by cases dx <;> first | rfl | exact absurd rfl (hx _)
  unfold Builtin.append_
  simp only [h0, h1, List.getElem?_toArray, List.getElem?_cons_zero, List.getElem?_cons_succ, Sem.run_bind, hT.run_und, Result.andThen, hE.run_size, hX.run_und, Sem.run_pure]
  simp only [hz, Bool.false_eq_true, if_false, hn, Sem.run_bind, Result.andThen]
  rw [if_neg hn']
  have hbytes : (typeInfo el).run P w = .ok ie w := by simp [typeInfo, hE.info]
  have h63'' : ¬ (((sLen + n : Nat) : Int) > IntKind.i64.max ∧ (False ∨ ie.bytes = 0)) := by
    have h1 : IntKind.i64.max = 9223372036854775807 := rfl
    rw [h1]; simp only [maxLen] at h63; omega
  simp [hbytes, Result.andThen, h63', hE.bytes ▸ h48', Question.forced, ho, hw, hE.run_zero, newRow, grownCap, typeInfo, hE.info]

theorem run_append_roomG {ts : Array TypeId} {t xt ty el : TypeId} {r re rx : TI} {i ie ix : TypeInfo} {de dx : TypeDesc} {z ze zx : Value} (h0 : ts[0]? = some t) (h1 : ts[1]? = some xt)
    (hT : TIs P t r i (.slice el) z) (hE : TIs P el re ie de ze) (hX : TIs P xt rx ix dx zx) (hx : ∀ k, dx ≠ .int k)
    (base : Option Addr) (sLen sCap n : Nat) (xv : Value) (news : Array Value) (hn : ∀ w, (Builtin.lenOf xv).run P w = .ok n w)
    (hw : (Builtin.firstCells re.size n xv).run P w = .ok news w) (hg : sLen + n ≤ sCap) {w' : World}
    (hs : (base = none ∧ w' = w) ∨ ∃ a, base = some a ∧ (storeCells (a.add (sLen * re.size)) news.toList).run P w = .ok () w') :
    (Builtin.append_ ts ty #[.slice base sLen sCap, xv]).run P w = .ok (.slice base (sLen + n) sCap) w' := by
  have hz : (match dx with | .int _ => true | _ => false) = false := by cases dx <;> first | rfl | exact absurd rfl (hx _)
  unfold Builtin.append_
  simp only [h0, h1, List.getElem?_toArray, List.getElem?_cons_zero, List.getElem?_cons_succ, Sem.run_bind, hT.run_und, Result.andThen, hE.run_size, hX.run_und, Sem.run_pure]
  simp only [hz, Bool.false_eq_true, if_false, hn, Sem.run_bind, Result.andThen]
  rw [if_pos hg]
  rcases hs with ⟨rfl, rfl⟩ | ⟨a, rfl, hs⟩
  · simp [hw, Result.andThen]
  · simp [hw, Result.andThen, hs]
end

/-! ### What is appended -/
/-- The elements that are appended: how many, and their cells. -/
def srcEls (h : H) (k : Nat) : V → Option (Nat × List V)
  | .nils => some (0, [])
  | .is _ k' es => if k' = k then (if k = 1 then some (es.length, es) else some (es.length, es.flatMap V.vc)) else none
  | .ls id k' off len _ => if k' = k ∧ off + len * k ≤ (hcells h id).length then some (len, ((hcells h id).drop off).take (len * k)) else none
  | .str l => if k = 1 then some (l.length, l.map fun b => .int .u8 b.toNat) else none
  | _ => none

theorem flatMap_one : ∀ {es : List V}, allOne es = true → es.flatMap V.vc = es
  | [], _ => rfl
  | v :: vs, h => by
    simp only [allOne, Bool.and_eq_true] at h
    rw [List.flatMap_cons, flatMap_one h.2]
    have : v.vc = [v] := by cases v <;> first | rfl | (simp [V.one] at h)
    rw [this]; rfl

def allFits : List V → Bool
  | [] => true
  | v :: vs => v.fit && allFits vs

theorem allFits_of_one : ∀ {es : List V}, allOne es = true → allFits es = true
  | [], _ => rfl
  | v :: vs, h => by
    simp only [allOne, Bool.and_eq_true] at h
    simp only [allFits, Bool.and_eq_true]
    exact ⟨by simp [V.fit, h.1], allFits_of_one h.2⟩

theorem VElems.flat {c : C} {b k : Nat} : ∀ {es : List V} {off : Nat}, VElems c k es b off → allFits es = true →
    ∃ xs : List Value, xs.length = es.length * k ∧ (∀ j v, xs[j]? = some v → c.w.cell? ⟨b, off + j, none⟩ = some v) ∧ VList c (es.flatMap V.vc) xs
  | [], off, _, _ => ⟨[], by simp, by simp, by simp [VList]⟩
  | e :: es, off, h, ho => by
    simp only [VElems] at h
    obtain ⟨⟨ev, h1, h2, h3⟩, h4⟩ := h
    simp only [allFits, Bool.and_eq_true] at ho
    obtain ⟨xs, h5, h6, h7⟩ := VElems.flat h4 ho.2
    refine ⟨ev.cells.toList ++ xs, by simp [h1, h5, Nat.add_mul]; omega, fun j v hj => ?_, by rw [List.flatMap_cons]; exact (h3.vc ho.1).append h7⟩
    by_cases hjk : j < k
    · rw [List.getElem?_append_left (by simp; omega)] at hj
      rw [(h2 j (by omega)).2]; simpa using hj
    · rw [List.getElem?_append_right (by simp; omega)] at hj
      simp only [Array.length_toList, h1] at hj
      have := h6 (j - k) v hj
      rwa [show off + k + (j - k) = off + j by omega] at this

/-- The element type of the source fits. -/
def srcTy (P : Program) (xt el : TypeId) : V → Bool
  | .str _ => match ti P xt, ti P el with | some rx, some re => rx.kind = .str && re.kind = .int .u8 | _, _ => false
  | _ => match ti P xt with | some rx => rx.kind.isSlice | none => false

def srcFit (k : Nat) : V → Bool
  | .is _ _ es => if k = 1 then allOne es else allFits es
  | _ => true

theorem src_run {e : E} {ok : Nat → Prop} {pl : Nat → Option Nat} {w : World} {h : H} (hs : HSim e ok pl h w) {k n : Nat} {s : V} {xv : Value} {cs : List V} (hv : VRel (cx ok pl w) s xv)
    (he : srcEls h k s = some (n, cs)) (hf : srcFit k s = true) :
    ∃ news : Array Value, (∀ w', (Builtin.lenOf xv).run e.P w' = .ok n w') ∧ (∀ w', (∀ a, w'.cell? a = w.cell? a) → (Builtin.firstCells k n xv).run e.P w' = .ok news w') ∧ VList (cx ok pl w) cs news.toList ∧ cs.length = n * k := by
  have rd : ∀ (b off m : Nat) (len cp : Nat) (xs : List Value), xs.length = m * k → (∀ j v, xs[j]? = some v → w.cell? ⟨b, off + j, none⟩ = some v) → ∀ w', (∀ a, w'.cell? a = w.cell? a) →
      (Builtin.firstCells k m (.slice (some ⟨b, off, none⟩) len cp)).run e.P w' = .ok xs.toArray w' := by
    intro b off m len cp xs h1 h2 w' hw'
    have := run_loadCells_list (P := e.P) w' ⟨b, off, none⟩ xs (fun j v hj => by rw [add_plain, hw']; exact h2 j v hj)
    rw [h1] at this
    exact this
  have rd0 : ∀ (a : Option Addr) (len cp : Nat) (w' : World), (Builtin.firstCells k 0 (.slice a len cp)).run e.P w' = .ok #[] w' := by
    intro a len cp w'
    cases a with
    | none => rfl
    | some a => simp only [Builtin.firstCells, Nat.zero_mul]; rfl
  unfold srcEls at he
  split at he
  · cases he
    simp only [VRel] at hv; subst hv
    exact ⟨#[], fun _ => rfl, fun w' _ => rd0 _ _ _ _, by simp [VList], by simp⟩
  · rename_i ex k' es
    split at he
    · rename_i hk
      subst hk
      simp only [VRel] at hv
      obtain ⟨a, cp, rfl, h1, h2, h3, h4⟩ := hv
      have hcs : n = es.length ∧ cs = es.flatMap V.vc ∧ allFits es = true := by
        simp only [srcFit] at hf
        split at he
        · rename_i h1k
          cases he
          rw [if_pos h1k] at hf
          exact ⟨rfl, (flatMap_one hf).symm, allFits_of_one hf⟩
        · rename_i h1k
          cases he
          rw [if_neg h1k] at hf
          exact ⟨rfl, rfl, hf⟩
      obtain ⟨rfl, rfl, hfit⟩ := hcs
      rcases h4 with rfl | ⟨b, off, rfl, hel⟩
      · exact ⟨#[], fun _ => rfl, fun w' _ => rd0 _ _ _ _, by simp [VList], by simp⟩
      · obtain ⟨xs, h5, h6, h7⟩ := hel.flat hfit
        exact ⟨xs.toArray, fun _ => rfl, fun w' hw' => rd b off _ _ _ xs h5 h6 w' hw', by simpa using VList.ofdata _ _ h7, by rw [← h5, h7.length]⟩
    · cases he
  · rename_i id k' off len cap
    split at he
    · rename_i hk
      obtain ⟨rfl, hle⟩ := hk
      cases he
      simp only [VRel] at hv
      obtain ⟨a, cp, rfl, h1, h2, h3, h4⟩ := hv
      rcases h4 with rfl | ⟨b, arr, el, fz, hb, rfl, _⟩
      · have : n = 0 := by omega
        subst this
        exact ⟨#[], fun _ => rfl, fun w' _ => rd0 _ _ _ _, by simp [VList], by simp⟩
      · obtain ⟨xs, h5, h6, h7⟩ := hs.cellsTake hb off (n * k') hle
        refine ⟨xs.toArray, fun _ => rfl, fun w' hw' => rd b off _ _ _ xs h5 h6 w' hw', by simpa using h7, ?_⟩
        rw [List.length_take, List.length_drop]; omega
    · cases he
  · rename_i l
    split at he
    · rename_i hk
      subst hk
      cases he
      simp only [VRel] at hv
      obtain ⟨u, rfl, rfl, hl⟩ := hv
      refine ⟨(u.extract 0 u.size).data.map fun b => .int .u8 b.toNat, fun _ => by rw [← size_data]; rfl, fun w' _ => by rw [← size_data]; rfl, ?_, by simp⟩
      have : (u.extract 0 u.size).data.toList = u.data.toList := by
        rw [Lib.extract_data]; simp only [List.drop_zero, Nat.sub_zero]
        rw [List.take_of_length_le]; rw [size_data]; exact Nat.le_refl _
      simp only [Array.toList_map, this]
      refine VList.of_get (by simp) fun i v x hv hx => ?_
      rw [List.getElem?_map] at hv hx
      cases hq : u.data.toList[i]? with
      | none => rw [hq] at hv; cases hv
      | some q => rw [hq] at hv hx; cases hv; cases hx; simp only [VRel]
    · cases he
  · cases he

end Go.Abs
