/- Abstract values, heaps and frames over the calculus, part 6. -/
import Derived.Test.YtegnjoonhabicaaA5
set_option linter.unusedVariables false
set_option linter.unusedSimpArgs false
namespace Go.Abs
open Go.RowKit

section
variable {P : Program} {c : C}

/-! ### Parts of structs -/
def pvPart (P : Program) (ft : TypeId) (off : Nat) (vs : List V) : PV :=
  match ti P ft with
  | some r => (off + r.size ≤ vs.length ∧ 0 < r.size ∧ (r.agg = false → r.size = 1 ∧ (vs.getD off .any).one = true), V.sub vs off r.size r.agg)
  | none => pvNo

theorem pvPart_ok {ft : TypeId} {off : Nat} {vs : List V} {cs : Array Value} (h : VList c vs cs.toList) : Gives P c (part ft cs off) (pvPart P ft off vs) := by
  unfold pvPart
  split
  · rename_i r hr
    obtain ⟨i, d, z, hT⟩ := ti_some hr
    rintro ⟨h1, h2, h3⟩
    have hl := h.length
    unfold part
    simp only [Sem.run_bind, hT.agg, Result.andThen]
    cases ha : r.agg with
    | true =>
      refine ⟨.agg (cs.extract off (off + r.size)), by simp [hT.run_size, Result.andThen], ?_⟩
      simp only [V.sub, cond_true, VRel]
      refine ⟨_, rfl, ?_⟩
      have := (h.dropN off).take r.size
      rw [show (cs.extract off (off + r.size)).toList = (cs.toList.drop off).take r.size by simp]
      exact this
    | false =>
      obtain ⟨v, hv⟩ : ∃ v, vs[off]? = some v := ⟨_, List.getElem?_eq_getElem (show off < vs.length by omega)⟩
      obtain ⟨x, hx, hrel⟩ := h.get off v hv
      have hx' : cs[off]? = some x := by simpa using hx
      refine ⟨x, by simp [hx'], ?_⟩
      simp only [V.sub, cond_false, List.getD_eq_getElem?_getD, hv, Option.getD_some]
      exact hrel
  · exact Gives.no

def pvField (P : Program) (t : TypeId) (x : V) (f : Nat) : PV :=
  match ti P t, x with
  | some r, .agg vs => match r.kind with
    | .struct fs => match fs[f]? with
      | some (off, ft) => pvPart P ft off vs
      | none => pvNo
    | _ => pvNo
  | _, _ => pvNo

theorem pvField_ok {t : TypeId} {x : V} {xv : Value} {f : Nat} (h : VRel c x xv) : Gives P c (Instr.field t xv f) (pvField P t x f) := by
  unfold pvField
  split
  · rename_i r vs hr
    obtain ⟨i, d, z, hT⟩ := ti_some hr
    split
    · rename_i fs hk
      obtain ⟨gs, rfl, hfs⟩ := hT.struct hk
      split
      · rename_i off ft hf
        rw [hfs, List.getElem?_map] at hf
        cases hg : gs.toList[f]? with
        | none => rw [hg] at hf; cases hf
        | some g =>
          rw [hg] at hf
          simp at hf
          obtain ⟨rfl, rfl⟩ := hf
          simp only [VRel] at h
          obtain ⟨cs, rfl, hcs⟩ := h
          intro hp
          obtain ⟨y, hy1, hy2⟩ := pvPart_ok (P := P) (c := c) hcs hp
          refine ⟨y, ?_, hy2⟩
          have hg' : gs[f]? = some g := by simpa using hg
          simp [Instr.field, hT.run_und, Result.andThen, hg', asAgg, hy1]
      · exact Gives.no
    · exact Gives.no
  · exact Gives.no

/-! ### Addresses -/
/-- The place of a part behind an address. -/
def pvAt (P : Program) (ft : TypeId) (off : Nat) (x : V) : PV :=
  match ti P ft with
  | some r => match x with
    | .lp id o => (0 < r.size, .lp id (o + off))
    | .ip (.agg vs) => (off + r.size ≤ vs.length ∧ 0 < r.size ∧ (r.agg = false → r.size = 1 ∧ (vs.getD off .any).one = true), .ip (V.sub vs off r.size r.agg))
    | _ => pvNo
  | none => pvNo

theorem reads_sub {b o off : Nat} {cs : Array Value} (h : Reads c b o (.agg cs)) {n : Nat} (hn : off + n ≤ cs.size) :
    Reads c b (o + off) (.agg (cs.extract off (off + n))) := by
  intro j hj
  simp only [Value.cells] at hj
  have hj' : j < n := by simp at hj; omega
  obtain ⟨h1, h2⟩ := h (off + j) (by simp only [Value.cells]; omega)
  refine ⟨h1, ?_⟩
  rw [show o + off + j = o + (off + j) by omega, h2]
  simp only [Value.cells]
  rw [Array.getElem?_extract]
  simp; omega

theorem reads_one {b o off : Nat} {cs : Array Value} (h : Reads c b o (.agg cs)) {x : Value} (hx : cs[off]? = some x) (h1 : x.cells = #[x]) :
    Reads c b (o + off) x := by
  intro j hj
  rw [h1] at hj ⊢
  have hj0 : j = 0 := by simpa using hj
  subst hj0
  have hlt : off < cs.size := (Array.getElem?_eq_some_iff.1 hx).1
  obtain ⟨h2, h3⟩ := h off (by simpa only [Value.cells] using hlt)
  refine ⟨h2, ?_⟩
  rw [Nat.add_zero, h3]
  simp only [Value.cells]
  rw [hx]; rfl

theorem pvAt_ok {ft : TypeId} {off : Nat} {x : V} {xv : Value} (h : VRel c x xv) (hp : (pvAt P ft off x).1) :
    ∃ b o, xv = .pointer (some ⟨b, o, none⟩) ∧ VRel c (pvAt P ft off x).2 (.pointer (some ⟨b, o + off, none⟩)) ∧ ∃ r, ti P ft = some r ∧ 0 < r.size := by
  unfold pvAt at hp ⊢
  split at hp
  · rename_i r hr
    split at hp
    · simp only [VRel] at h ⊢
      obtain ⟨b, h1, rfl⟩ := h
      exact ⟨b, _, rfl, ⟨b, h1, rfl⟩, r, hr, hp⟩
    · rename_i vs
      simp only [VRel] at h
      obtain ⟨b, o, ev, rfl, h2, h3, h4⟩ := h
      obtain ⟨cs, rfl, hcs⟩ := h4
      obtain ⟨p1, p2, p3⟩ := hp
      have hl := hcs.length
      refine ⟨b, o, rfl, ?_, r, hr, p2⟩
      simp only [VRel]
      cases ha : r.agg with
      | true =>
        refine ⟨b, o + off, .agg (cs.extract off (off + r.size)), rfl, reads_sub h2 (by simp at hl; omega), ?_, ?_⟩
        · simp only [Value.cells, Array.size_extract]; simp at hl; omega
        · simp only [V.sub, cond_true, VRel]
          refine ⟨_, rfl, ?_⟩
          rw [show (cs.extract off (off + r.size)).toList = (cs.toList.drop off).take r.size by simp]
          exact (hcs.dropN off).take r.size
      | false =>
        obtain ⟨p4, p5⟩ := p3 ha
        obtain ⟨v, hv⟩ : ∃ v, vs[off]? = some v := ⟨_, List.getElem?_eq_getElem (show off < vs.length by omega)⟩
        obtain ⟨x, hx, hrel⟩ := hcs.get off v hv
        rw [List.getD_eq_getElem?_getD, hv] at p5
        have hone := hrel.one p5
        refine ⟨b, o + off, x, rfl, reads_one h2 (by simpa using hx) hone, by simp [hone], ?_⟩
        simp only [V.sub, cond_false, List.getD_eq_getElem?_getD, hv, Option.getD_some]
        exact hrel
    · exact hp.elim
  · exact hp.elim

theorem add_plain' (b off j : Nat) : (⟨b, off, none⟩ : Addr).add j = ⟨b, off + j, none⟩ := add_plain b off j

def pvFieldAddr (P : Program) (t : TypeId) (x : V) (f : Nat) : PV :=
  match ti P t with
  | some r => match r.kind with
    | .struct fs => match fs[f]? with
      | some (off, ft) => pvAt P ft off x
      | none => pvNo
    | _ => pvNo
  | none => pvNo

theorem pvFieldAddr_ok {t : TypeId} {x : V} {xv : Value} {f : Nat} (h : VRel c x xv) : Gives P c (Instr.fieldAt t xv f) (pvFieldAddr P t x f) := by
  unfold pvFieldAddr
  split
  · rename_i r hr
    obtain ⟨i, d, z, hT⟩ := ti_some hr
    split
    · rename_i fs hk
      obtain ⟨gs, rfl, hfs⟩ := hT.struct hk
      split
      · rename_i off ft hf
        rw [hfs, List.getElem?_map] at hf
        cases hg : gs.toList[f]? with
        | none => rw [hg] at hf; cases hf
        | some g =>
          rw [hg] at hf
          simp at hf
          obtain ⟨rfl, rfl⟩ := hf
          intro hp
          obtain ⟨b, o, rfl, h1, r', hr', hs⟩ := pvAt_ok h hp
          obtain ⟨i', d', z', hT'⟩ := ti_some hr'
          have hg' : gs[f]? = some g := by simpa using hg
          refine ⟨_, ?_, h1⟩
          have hne : ¬ r'.size = 0 := by omega
          simp [Instr.fieldAt, hT.run_und, Result.andThen, hg', Instr.sureAddr, fieldPlace, hT'.run_size, hne, add_plain]
      · exact Gives.no
    · exact Gives.no
  · exact Gives.no

/-! ### Indexing -/
def pvIndexAddr (P : Program) (t : TypeId) (x i : V) : PV :=
  match ti P t, i with
  | some r, .int _ n => match r.kind with
    | .slice el => match ti P el with
      | some re => match x with
        | .ls id k off len _ => (0 ≤ n ∧ n < len ∧ re.size = k, .lp id (off + n.toNat * k))
        | .is _ k es => (0 ≤ n ∧ n < es.length ∧ re.size = k ∧ 0 < k, .ip (es.getD n.toNat .any))
        | _ => pvNo
      | none => pvNo
    | .arr m el => match ti P el with
      | some re => let q := pvAt P el (n.toNat * re.size) x; (0 ≤ n ∧ n < m ∧ q.1, q.2)
      | none => pvNo
    | _ => pvNo
  | _, _ => pvNo

theorem pvIndexAddr_ok {t : TypeId} {x i : V} {xv iv : Value} (hx : VRel c x xv) (hi : VRel c i iv) : Gives P c (Instr.indexAt t xv iv) (pvIndexAddr P t x i) := by
  unfold pvIndexAddr
  split
  · rename_i r k n hr
    obtain ⟨i, d, z, hT⟩ := ti_some hr
    simp only [VRel] at hi; subst hi
    split
    · rename_i el hk
      have hd := hT.slice hk
      subst hd
      split
      · rename_i re hre
        obtain ⟨i', d', z', hT'⟩ := ti_some hre
        split
        · rename_i id k' off len cap
          rintro ⟨h0, h1, h2⟩
          simp only [VRel] at hx
          obtain ⟨a, cp, rfl, hcap, hlen, hmax, hh⟩ := hx
          have hcp : cp ≠ 0 := by omega
          rcases hh with hh | ⟨b, arr, el', fz, hb, rfl, _⟩
          · exact absurd hh hcp
          refine ⟨.pointer (some ⟨b, off + n.toNat * k', none⟩), ?_, ?_⟩
          · simp [Instr.indexAt, asIntOf, hT.run_und, Result.andThen, h0, h1, hT'.run_size, h2, add_plain]
          · simp only [VRel]; exact ⟨b, hb, rfl⟩
        · rename_i ex k' es
          rintro ⟨h0, h1, h2, h3⟩
          simp only [VRel] at hx
          obtain ⟨a, cp, rfl, hlen, hmax, hex, hh⟩ := hx
          rcases hh with rfl | ⟨b, off, rfl, hel⟩
          · simp at h1; omega
          have hlt : n.toNat < es.length := by omega
          obtain ⟨v, hv⟩ : ∃ v, es[n.toNat]? = some v := ⟨_, List.getElem?_eq_getElem hlt⟩
          obtain ⟨ev, he1, he2, he3⟩ := hel.get n.toNat hv
          refine ⟨.pointer (some ⟨b, off + n.toNat * k', none⟩), ?_, ?_⟩
          · simp [Instr.indexAt, asIntOf, hT.run_und, Result.andThen, h0, h1, hT'.run_size, h2, add_plain]
          · simp only [VRel, List.getD_eq_getElem?_getD, hv, Option.getD_some]
            exact ⟨b, _, ev, rfl, he2, by omega, he3⟩
        · exact Gives.no
      · exact Gives.no
    · rename_i m el hk
      have hd := hT.arr hk
      subst hd
      split
      · rename_i re hre
        obtain ⟨i', d', z', hT'⟩ := ti_some hre
        rintro ⟨h0, h1, hq⟩
        obtain ⟨b, o, rfl, h2, _⟩ := pvAt_ok hx hq
        refine ⟨_, ?_, h2⟩
        simp [Instr.indexAt, asIntOf, hT.run_und, Result.andThen, h0, h1, hT'.run_size, add_plain, Instr.sureAddr]
      · exact Gives.no
    · exact Gives.no
  · exact Gives.no

def pvIndex (P : Program) (t : TypeId) (x i : V) : PV :=
  match ti P t, x, i with
  | some r, .str l, .int _ n => (r.kind = .str ∧ 0 ≤ n ∧ n < l.length, .int .u8 (l.getD n.toNat 0).toNat)
  | some r, .agg vs, .int _ n => match r.kind with
    | .arr m el => match ti P el with
      | some re => let q := pvPart P el (n.toNat * re.size) vs; (0 ≤ n ∧ n < m ∧ q.1, q.2)
      | none => pvNo
    | _ => pvNo
  | _, _, _ => pvNo

theorem pvIndex_ok {t : TypeId} {x i : V} {xv iv : Value} (hx : VRel c x xv) (hi : VRel c i iv) : Gives P c (Instr.index t xv iv) (pvIndex P t x i) := by
  unfold pvIndex
  split
  · rename_i r l k n hr
    obtain ⟨i, d, z, hT⟩ := ti_some hr
    simp only [VRel] at hi hx; subst hi
    obtain ⟨s, rfl, rfl, hs⟩ := hx
    rintro ⟨hk, h0, h1⟩
    have hd := hT.str hk
    subst hd
    have hlt : n.toNat < s.size := by rw [size_data]; omega
    refine ⟨.int .u8 (s[n.toNat]'hlt).toNat, ?_, ?_⟩
    · simp [Instr.index, asIntOf, hT.run_und, Result.andThen, h0, hlt]
    · simp only [VRel]
      congr 2
      have hlt' : n.toNat < s.data.size := hlt
      simp only [List.getD_eq_getElem?_getD, Array.getElem?_toList, Array.getElem?_eq_getElem hlt', Option.getD_some]
      rfl
  · rename_i r vs k n hr
    obtain ⟨i, d, z, hT⟩ := ti_some hr
    simp only [VRel] at hi hx; subst hi
    obtain ⟨cs, rfl, hcs⟩ := hx
    split
    · rename_i m el hk
      have hd := hT.arr hk
      subst hd
      split
      · rename_i re hre
        obtain ⟨i', d', z', hT'⟩ := ti_some hre
        rintro ⟨h0, h1, hq⟩
        obtain ⟨y, hy1, hy2⟩ := pvPart_ok (P := P) (c := c) hcs hq
        refine ⟨y, ?_, hy2⟩
        simp [Instr.index, asIntOf, hT.run_und, Result.andThen, h0, h1, hT'.run_size, hy1]
      · exact Gives.no
    · exact Gives.no
  · exact Gives.no
end
end Go.Abs
