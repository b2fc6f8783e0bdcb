/- Abstract values, heaps and frames over the calculus, part 9. -/
import Derived.Test.YtegnjoonhabicaaA8
import Derived.Laws.Tables
set_option linter.unusedVariables false
set_option linter.unusedSimpArgs false
namespace Go.Abs
open Go.RowKit

/-- A condition put ahead. -/
def PV.and (p : Prop) (q : PV) : PV := (p ∧ q.1, q.2)

theorem Gives.and {P : Program} {c : C} {s : Sem Value} {p : Prop} {q : PV} (h : p → Gives P c s q) : Gives P c s (PV.and p q) :=
  fun ⟨h1, h2⟩ => h h1 h2

def pvPick (c a b : V) : PV :=
  match c.sv with
  | .bool t => match a.sv, b.sv with
    | .bool x, .bool y => (c.sc ∧ (t = true → a.sc) ∧ (t = false → b.sc), .bool (bif t then x else y))
    | .bool x, _ => (c.sc ∧ a.sc ∧ t = true, .bool x)
    | _, .bool y => (c.sc ∧ b.sc ∧ t = false, .bool y)
    | _, _ => pvNo
  | _ => pvNo

theorem pvPick_ok {P : Program} {m : C} {c a b : V} {cv av bv : Value} (hc : VRel m c cv) (ha : VRel m a av) (hb : VRel m b bv) :
    Gives P m (do pure (if ← asBool cv then av else bv)) (pvPick c a b) := by
  unfold pvPick
  split
  · rename_i t ht
    have key : c.sc → cv = .bool t := fun h => by have := hc.sv h; rw [ht] at this; simpa only [VRel] using this
    split
    · rename_i x y hx hy
      rintro ⟨h1, h2, h3⟩
      have := key h1; subst this
      cases t
      · have hb' := hb.sv (h3 rfl); rw [hy] at hb'
        exact ⟨bv, by simp [asBool, Result.andThen], by simpa only [cond_false] using hb'⟩
      · have ha' := ha.sv (h2 rfl); rw [hx] at ha'
        exact ⟨av, by simp [asBool, Result.andThen], by simpa only [cond_true] using ha'⟩
    · rename_i x hx _
      rintro ⟨h1, h2, rfl⟩
      have := key h1; subst this
      have ha' := ha.sv h2; rw [hx] at ha'
      exact ⟨av, by simp [asBool, Result.andThen], ha'⟩
    · rename_i y hy _
      rintro ⟨h1, h2, rfl⟩
      have := key h1; subst this
      have hb' := hb.sv h2; rw [hy] at hb'
      exact ⟨bv, by simp [asBool, Result.andThen], hb'⟩
    · exact Gives.no
  · exact Gives.no

/-- The bytes that a row of numbers is. -/
def vbytes : List V → Option (List UInt8)
  | [] => some []
  | .int .u8 n :: vs => (vbytes vs).map (UInt8.ofNat n.toNat :: ·)
  | _ => none

def pvConv (P : Program) (h : H) (src dst : TypeId) (x : V) : PV :=
  match ti P src, ti P dst with
  | some rs, some rd => match rd.kind, x with
    | .int k, .int _ n => (True, .int k (k.wrap n))
    | .str, .str l => (True, .str l)
    | .str, .nils => match rs.kind with
      | .slice el => match ti P el with
        | some re => (re.kind = .int .u8, .str [])
        | none => pvNo
      | _ => pvNo
    | .str, .is _ k es => match rs.kind with
      | .slice el => match ti P el, vbytes es with
        | some re, some l => (re.kind = .int .u8 ∧ k = 1, .str l)
        | _, _ => pvNo
      | _ => pvNo
    | .str, .ls id k off len _ => match rs.kind with
      | .slice el => match ti P el, vbytes (((hcells h id).drop off).take len) with
        | some re, some l => (re.kind = .int .u8 ∧ k = 1 ∧ off + len ≤ (hcells h id).length, .str l)
        | _, _ => pvNo
      | _ => pvNo
    | _, _ => pvNo
  | _, _ => pvNo

theorem vbytes_vals {c : C} : ∀ {vs : List V} {xs : List Value} {l : List UInt8}, VList c vs xs → vbytes vs = some l → ∃ ns : List Int, xs = ns.map (Value.int .u8) ∧ ns.map (fun n => UInt8.ofNat n.toNat) = l
  | [], xs, l, h, hb => by
    simp only [VList] at h; simp only [vbytes] at hb; cases hb; subst h; exact ⟨[], rfl, rfl⟩
  | .int .u8 n :: vs, xs, l, h, hb => by
    simp only [VList] at h
    obtain ⟨y, ys, rfl, h1, h2⟩ := h
    simp only [vbytes] at hb
    cases hv : vbytes vs with
    | none => rw [hv] at hb; cases hb
    | some l' =>
      rw [hv] at hb; cases hb
      obtain ⟨ns, rfl, h4⟩ := vbytes_vals h2 hv
      simp only [VRel] at h1; subst h1
      exact ⟨n :: ns, rfl, by simp [h4]⟩
  | .int .i8 _ :: _, _, _, _, hb | .int .i16 _ :: _, _, _, _, hb | .int .i32 _ :: _, _, _, _, hb | .int .i64 _ :: _, _, _, _, hb | .int .u16 _ :: _, _, _, _, hb
  | .int .u32 _ :: _, _, _, _, hb | .int .u64 _ :: _, _, _, _, hb => by simp [vbytes] at hb
  | .any :: _, _, _, _, hb | .bool _ :: _, _, _, _, hb | .str _ :: _, _, _, _, hb | .nilp :: _, _, _, _, hb | .lp _ _ :: _, _, _, _, hb | .ip _ :: _, _, _, _, hb
  | .nils :: _, _, _, _, hb | .ls _ _ _ _ _ :: _, _, _, _, hb | .is _ _ _ :: _, _, _, _, hb | .nilm :: _, _, _, _, hb | .lm _ :: _, _, _, _, hb | .im _ _ :: _, _, _, _, hb
  | .fn _ _ _ :: _, _, _, _, hb | .yd _ :: _, _, _, _, hb | .nilf :: _, _, _, _, hb | .iface _ _ :: _, _, _, _, hb | .nili :: _, _, _, _, hb | .agg _ :: _, _, _, _, hb
  | .tup _ :: _, _, _, _, hb | .grd _ _ :: _, _, _, _, hb => by simp [vbytes] at hb

theorem VElems.list {c : C} {b : Nat} : ∀ {es : List V} {off : Nat}, VElems c 1 es b off → (∀ v ∈ es, v.one = true) →
    ∃ xs : List Value, xs.length = es.length ∧ (∀ j v, xs[j]? = some v → c.w.cell? ⟨b, off + j, none⟩ = some v) ∧ VList c es xs
  | [], off, _, _ => ⟨[], rfl, by simp, by simp only [VList]⟩
  | e :: es, off, h, ho => by
    simp only [VElems] at h
    obtain ⟨⟨ev, h1, h2, h3⟩, h4⟩ := h
    obtain ⟨xs, h5, h6, h7⟩ := VElems.list h4 (fun v hv => ho v (by simp [hv]))
    have hone := h3.one (ho e (by simp))
    refine ⟨ev :: xs, by simp [h5], fun j v hj => ?_, by simp only [VList]; exact ⟨ev, xs, rfl, h3, h7⟩⟩
    cases j with
    | zero =>
      simp at hj; subst hj
      have := (h2 0 (by rw [hone]; simp)).2
      rw [hone] at this; simpa using this
    | succ j =>
      have := h6 j v (by simpa using hj)
      rwa [show off + 1 + j = off + (j + 1) by omega] at this

theorem vbytes_one : ∀ {vs : List V} {l : List UInt8}, vbytes vs = some l → ∀ v ∈ vs, v.one = true
  | [], _, _, _, hv => by simp at hv
  | u :: vs, l, h, v, hv => by
    cases u <;> try (simp [vbytes] at h; done)
    rename_i k n
    cases k <;> try (simp [vbytes] at h; done)
    simp only [vbytes] at h
    cases hvs : vbytes vs with
    | none => rw [hvs] at h; cases h
    | some l' =>
      rcases List.mem_cons.1 hv with rfl | hv
      · rfl
      · exact vbytes_one hvs v hv

theorem vbytes_length : ∀ {vs : List V} {l : List UInt8}, vbytes vs = some l → l.length = vs.length
  | [], _, h => by simp only [vbytes] at h; cases h; rfl
  | u :: vs, l, h => by
    cases u <;> try (simp [vbytes] at h; done)
    rename_i k n
    cases k <;> try (simp [vbytes] at h; done)
    simp only [vbytes] at h
    cases hvs : vbytes vs with
    | none => rw [hvs] at h; cases h
    | some l' => rw [hvs] at h; cases h; simp [vbytes_length hvs]

section
variable {P : Program} {c : C} {e : E} {ok : Nat → Prop} {pl : Nat → Option Nat} {w : World} {h : H}

theorem pvConv_ok (hs : HSim e ok pl h w) {src dst : TypeId} {x : V} {xv : Value} (hx : VRel (cx ok pl w) x xv) : Gives P (cx ok pl w) (convert src dst xv) (pvConv P h src dst x) := by
  unfold pvConv
  split
  · rename_i rs rd hrs hrd
    obtain ⟨is, ds, zs, hS⟩ := ti_some hrs
    obtain ⟨id, dd, zd, hD⟩ := ti_some hrd
    split
    · rename_i k k' n hk
      simp only [VRel] at hx; subst hx
      refine Gives.int fun _ => ?_
      have hd := hD.int hk; subst hd
      simp [convert, hS.run_und, hD.run_und, Conv.intToInt, Result.andThen]
    · rename_i l hk
      simp only [VRel] at hx
      obtain ⟨s, rfl, rfl, hl⟩ := hx
      have hd := hD.str hk; subst hd
      intro _
      refine ⟨.string s, ?_, by simp only [VRel]; exact ⟨s, rfl, rfl, hl⟩⟩
      unfold convert
      simp only [Sem.run_bind, hS.run_und, hD.run_und, Result.andThen]
      cases ds <;> rfl
    · rename_i hk
      split
      · rename_i el hsl
        have hds := hS.slice hsl; subst hds
        have hd := hD.str hk; subst hd
        split
        · rename_i re hre
          obtain ⟨ie, de, ze, hE⟩ := ti_some hre
          intro hu
          have hde := hE.int hu; subst hde
          simp only [VRel] at hx; subst hx
          refine ⟨.string .empty, ?_, by simp only [VRel]; exact ⟨.empty, rfl, rfl, by simp⟩⟩
          unfold convert
          simp only [Sem.run_bind, hS.run_und, hD.run_und, hE.run_und, Result.andThen]
          rfl
        · exact Gives.no
      · exact Gives.no
    · rename_i ex k es hk
      split
      · rename_i el hsl
        have hds := hS.slice hsl; subst hds
        have hd := hD.str hk; subst hd
        split
        · rename_i re l hre hb
          obtain ⟨ie, de, ze, hE⟩ := ti_some hre
          rintro ⟨hu, rfl⟩
          have hde := hE.int hu; subst hde
          simp only [VRel] at hx
          obtain ⟨a, cp, rfl, h1, h2, h3, h4⟩ := hx
          have hll := vbytes_length hb
          rcases h4 with rfl | ⟨b, off, rfl, hel⟩
          · simp only [vbytes] at hb; cases hb
            refine ⟨.string .empty, ?_, by simp only [VRel]; exact ⟨.empty, rfl, rfl, by simp⟩⟩
            unfold convert
            simp only [Sem.run_bind, hS.run_und, hD.run_und, hE.run_und, Result.andThen]
            cases a
            · rfl
            · rfl
          · obtain ⟨xs, h5, h6, h7⟩ := hel.list (vbytes_one hb)
            obtain ⟨ns, rfl, h8⟩ := vbytes_vals h7 hb
            refine ⟨.string (strOfNums ns), ?_, ?_⟩
            · refine run_convert_bytes_arg _ src el hS.und hE.und b off es.length cp ns (by simpa using h5) (fun i hi => ?_) dst hD.und
              have hl' : i < ns.length := by simp at h5; omega
              refine h6 i _ ?_
              simp [hl', List.getElem?_eq_getElem hl', List.getD_eq_getElem?_getD]
            · simp only [VRel]
              exact ⟨_, rfl, by rw [strOfNums_data, h8], by omega⟩
        · exact Gives.no
      · exact Gives.no
    · rename_i id k off len cap hk
      split
      · rename_i el hsl
        have hds := hS.slice hsl; subst hds
        have hd := hD.str hk; subst hd
        split
        · rename_i re l hre hb
          obtain ⟨ie, de, ze, hE⟩ := ti_some hre
          rintro ⟨hu, rfl, hle⟩
          have hde := hE.int hu; subst hde
          simp only [VRel] at hx
          obtain ⟨a, cp, rfl, h1, h2, h3, h4⟩ := hx
          have hll := vbytes_length hb
          have hlen : (((hcells h id).drop off).take len).length = len := by rw [List.length_take, List.length_drop]; omega
          rcases h4 with rfl | ⟨b, arr, el', fz, hpl, rfl, _⟩
          · have hl0 : len = 0 := by omega
            subst hl0
            have hl' : l = [] := List.length_eq_zero_iff.1 (by omega)
            subst hl'
            refine ⟨.string .empty, ?_, by simp only [VRel]; exact ⟨.empty, rfl, rfl, by simp⟩⟩
            unfold convert
            simp only [Sem.run_bind, hS.run_und, hD.run_und, hE.run_und, Result.andThen]
            cases a
            · rfl
            · rfl
          · obtain ⟨xs, h5, h6, h7⟩ := hs.cellsTake hpl off len hle
            obtain ⟨ns, rfl, h8⟩ := vbytes_vals h7 hb
            refine ⟨.string (strOfNums ns), ?_, ?_⟩
            · refine run_convert_bytes_arg _ src el hS.und hE.und b off len cp ns (by simpa using h5) (fun i hi => ?_) dst hD.und
              have hl' : i < ns.length := by simp at h5; omega
              refine h6 i _ ?_
              simp [hl', List.getElem?_eq_getElem hl', List.getD_eq_getElem?_getD]
            · simp only [VRel]
              exact ⟨_, rfl, by rw [strOfNums_data, h8], by omega⟩
        · exact Gives.no
      · exact Gives.no
    · exact Gives.no
  · exact Gives.no

/-! ### Building structs, arrays, slices -/
def V.vc : V → List V
  | .agg vs => vs
  | v => [v]

def V.fit (v : V) : Bool := v.one || (match v with | .agg _ => true | _ => false)

theorem VRel.vc {v : V} {x : Value} (h : VRel c v x) (hf : v.fit = true) : VList c v.vc x.cells.toList := by
  cases v <;> first
    | (rw [h.one (by simpa [V.fit] using hf)]; simp only [V.vc, VList]; exact ⟨_, _, rfl, h, rfl⟩)
    | skip
  case agg vs => simp only [VRel] at h; obtain ⟨cs, rfl, hcs⟩ := h; exact hcs

def splice (cs : List V) (off : Nat) (vs : List V) : List V := cs.take off ++ vs ++ cs.drop (off + vs.length)

def fillV (place : Nat → Option (Nat × Nat)) : List V → List (Nat × V) → Option (List V)
  | cs, [] => some cs
  | cs, (i, v) :: rest => match place i with
    | none => none
    | some (off, size) => if v.fit = true ∧ v.vc.length = size ∧ off + size ≤ cs.length then fillV place (splice cs off v.vc) rest else none

theorem foldl_set (off : Nat) : ∀ (ys : List Value) (k : Nat) (cs : Array Value), off + k + ys.length ≤ cs.size →
    ((ys.zipIdx k).foldl (fun cs (p : Value × Nat) => cs.setIfInBounds (off + p.2) p.1) cs).toList = cs.toList.take (off + k) ++ ys ++ cs.toList.drop (off + k + ys.length)
  | [], k, cs, h => by simp
  | y :: ys, k, cs, h => by
    simp only [List.zipIdx_cons, List.foldl_cons]
    rw [show off + k = off + k from rfl]
    have ih := foldl_set off ys (k + 1) (cs.setIfInBounds (off + k) y) (by simp; simp at h; omega)
    rw [ih]
    simp only [List.length_cons] at h
    have hlt : off + k < cs.toList.length := by simp; omega
    have e1 : (cs.setIfInBounds (off + k) y).toList = cs.toList.set (off + k) y := by simp
    rw [e1]
    apply List.ext_getElem?
    intro i
    simp only [List.length_cons]
    simp only [List.getElem?_append, List.getElem?_take, List.getElem?_drop, List.length_append, List.length_take, List.length_set, List.getElem?_set, List.length_drop, List.getElem?_cons]
    have hsz : cs.toList.length = cs.size := by simp
    repeat' split
    all_goals first
      | rfl
      | omega
      | (congr 1; omega)
      | (exfalso; omega)
      | (simp_all; (try omega); done)
      | (simp only [Array.getElem?_toList]; congr 1; simp_all; omega)

theorem fillV_ok {place : Nat → Option (Nat × Nat)} : ∀ {parts : List (Nat × V)} {xs : List (Nat × Value)} {cs : List V} {cells : Array Value} {r : List V},
    VList c cs cells.toList → xs.map (·.1) = parts.map (·.1) → VList c (parts.map (·.2)) (xs.map (·.2)) → fillV place cs parts = some r →
    ∃ res, Instr.fill place cells xs = some res ∧ VList c r res.toList
  | [], xs, cs, cells, r, h1, h2, h3, h4 => by
    have : xs = [] := by simpa using h2
    subst this
    simp only [fillV] at h4; cases h4
    exact ⟨cells, rfl, h1⟩
  | (i, v) :: parts, [], cs, cells, r, h1, h2, h3, h4 => by simp at h2
  | (i, v) :: parts, (j, y) :: xs, cs, cells, r, h1, h2, h3, h4 => by
    simp only [List.map_cons, List.cons.injEq] at h2
    obtain ⟨rfl, h2⟩ := h2
    simp only [List.map_cons, VList] at h3
    obtain ⟨_, _, he, h5, h6⟩ := h3
    cases he
    simp only [fillV] at h4
    cases hp : place j with
    | none => rw [hp] at h4; cases h4
    | some q =>
      obtain ⟨off, size⟩ := q
      rw [hp] at h4
      dsimp only at h4
      split at h4
      · rename_i hc
        obtain ⟨hf, hl, hle⟩ := hc
        have hvc := h5.vc hf
        have hyl : y.cells.toList.length = size := by rw [hvc.length, hl]
        have hcl := h1.length
        have hfold := foldl_set off y.cells.toList 0 cells (by simp at hcl hyl ⊢; omega)
        have hlist : VList c (splice cs off v.vc) (cells.toList.take off ++ y.cells.toList ++ cells.toList.drop (off + y.cells.toList.length)) := by
          unfold splice
          rw [← hvc.length]
          exact ((h1.take off).append hvc).append (h1.dropN _)
        obtain ⟨res, hr1, hr2⟩ := fillV_ok (cells := (y.cells.zipIdx.foldl (fun cs (p : Value × Nat) => cs.setIfInBounds (off + p.2) p.1) cells)) (by
          rw [← Array.foldl_toList, Array.toList_zipIdx, hfold]; simpa using hlist) h2 h6 h4
        refine ⟨res, ?_, hr2⟩
        simp only [Instr.fill, hp]
        have h7 : ¬ (y.cells.size ≠ size ∨ off + y.cells.size > cells.size) := by simp at hyl hcl; omega
        simp only [ne_eq, Bool.or_eq_true, decide_eq_true_eq] at h7 ⊢
        rw [if_neg h7]
        exact hr1
      · cases h4
end
end Go.Abs
