/- Abstract values, heaps and frames over the calculus, part 22. -/
import Derived.Test.YtegnjoonhabicaaA21
set_option linter.unusedVariables false
set_option linter.unusedSimpArgs false
namespace Go.Abs
open Go.RowKit

/-! ### Lengths -/
mutual
def V.bnd : V → Prop
  | .str s => s.length ≤ maxLen
  | .is _ _ es => es.length ≤ maxLen ∧ V.bnds es
  | .ls _ _ _ len _ => len ≤ maxLen
  | .ip e => e.bnd
  | .im ks vs => V.bnds ks ∧ V.bnds vs
  | .agg vs => V.bnds vs
  | .tup vs => V.bnds vs
  | .iface _ e => e.bnd
  | .fn _ a b => V.bnds a ∧ V.bnds b
  | _ => True
def V.bnds : List V → Prop
  | [] => True
  | v :: vs => v.bnd ∧ V.bnds vs
end

mutual
theorem VRel.bnd : ∀ {c : C} {v : V} {x : Value}, VRel c v x → v.bnd
  | c, .str s, x, h => by simp only [VRel] at h; obtain ⟨_, _, _, h⟩ := h; exact h
  | c, .is ex k es, x, h => by
    simp only [VRel] at h
    obtain ⟨a, cp, _, h1, h2, _, h3⟩ := h
    refine ⟨by omega, ?_⟩
    rcases h3 with rfl | ⟨b, off, _, h3⟩
    · trivial
    · exact VElems.bnd h3
  | c, .ls id k off len cap, x, h => by simp only [VRel] at h; obtain ⟨a, cp, _, _, h1, h2, _⟩ := h; simp only [V.bnd]; omega
  | c, .ip e, x, h => by simp only [VRel] at h; obtain ⟨_, _, _, _, _, _, h⟩ := h; simp only [V.bnd]; exact VRel.bnd h
  | c, .im ks vs, x, h => by simp only [VRel] at h; obtain ⟨_, _, _, _, _, _, h1, h2, _⟩ := h; exact ⟨VList.bnd h1, VList.bnd h2⟩
  | c, .agg vs, x, h => by simp only [VRel] at h; obtain ⟨_, _, h⟩ := h; simp only [V.bnd]; exact VList.bnd h
  | c, .tup vs, x, h => by simp only [VRel] at h; obtain ⟨_, _, h⟩ := h; simp only [V.bnd]; exact VList.bnd h
  | c, .iface t e, x, h => by simp only [VRel] at h; obtain ⟨_, _, h⟩ := h; simp only [V.bnd]; exact VRel.bnd h
  | c, .fn f a b, x, h => by simp only [VRel] at h; obtain ⟨_, _, _, h1, h2⟩ := h; exact ⟨VList.bnd h1, VList.bnd h2⟩
  | c, .any, x, h | c, .bool _, x, h | c, .int _ _, x, h | c, .nilp, x, h | c, .lp _ _, x, h | c, .nils, x, h | c, .nilm, x, h | c, .lm _, x, h | c, .yd _, x, h | c, .nilf, x, h | c, .nili, x, h | c, .grd _ _, x, h => by simp only [V.bnd]
theorem VList.bnd : ∀ {c : C} {vs : List V} {xs : List Value}, VList c vs xs → V.bnds vs
  | c, [], xs, h => trivial
  | c, v :: vs, xs, h => by simp only [VList] at h; obtain ⟨_, _, _, h1, h2⟩ := h; exact ⟨VRel.bnd h1, VList.bnd h2⟩
theorem VElems.bnd : ∀ {c : C} {k : Nat} {es : List V} {b off : Nat}, VElems c k es b off → V.bnds es
  | c, k, [], b, off, h => trivial
  | c, k, e :: es, b, off, h => by simp only [VElems] at h; obtain ⟨⟨_, _, _, h1⟩, h2⟩ := h; exact ⟨VRel.bnd h1, VElems.bnd h2⟩
end

theorem Ev.bnd {e : E} {g : FuncId} {args : List V} {r : V} (h : V.bnds args → Ev e g args r) : Ev e g args r :=
  fun ok w vs hs hl => h hl.bnd ok w vs hs hl
theorem ACalls.bnd {e : E} {g : FuncId} {args : List V} {h : H} {R : AEnd → H → (Nat → Bool) → Prop} (hh : V.bnds args → ACalls e g args h R) : ACalls e g args h R :=
  fun ok pl w vs hs hl => hh hl.bnd ok pl w vs hs hl
theorem awp_bnd {e : E} {n : Nat} {r : Option Nat} {c : Code} {Q : XE → Fr → H → Prop} {f : Fr} {h : H} (i : Nat) (hh : (f.t i).bnd → awp e n r c Q f h) : awp e n r c Q f h :=
  fun ok pl0 w0 pl w a s => hh (s.val i).bnd ok pl0 w0 pl w a s

theorem V.bnds_iff : ∀ {vs : List V}, V.bnds vs ↔ ∀ v ∈ vs, v.bnd
  | [] => by simp [V.bnds]
  | v :: vs => by simp [V.bnds, V.bnds_iff]

/-! ### Numbers and rows -/
theorem wrap64 {n : Int} (h1 : -9223372036854775808 ≤ n) (h2 : n < 9223372036854775808) : IntKind.i64.wrap n = n := by
  have key : IntKind.i64.wrap n = if n % 18446744073709551616 ≥ 9223372036854775808 then n % 18446744073709551616 - 18446744073709551616 else n % 18446744073709551616 := by
    simp [IntKind.wrap, IntKind.bits, IntKind.signed]
  rw [key]
  split <;> omega
theorem wrap_succ {i : Nat} (h : i < maxLen) : IntKind.i64.wrap ((i : Int) + 1) = ((i + 1 : Nat) : Int) := by
  have : maxLen = 9223372036854775807 := rfl
  rw [wrap64 (by omega) (by omega)]; rfl
theorem getD_map {α β : Type} {f : α → β} {l : List α} {i : Nat} (h : i < l.length) (d : β) : (l.map f).getD i d = f l[i] := by
  simp [List.getD_eq_getElem?_getD, h]
theorem Int.natCast_lt {a b : Nat} : decide ((a : Int) < (b : Int)) = decide (a < b) := by simp
theorem Int.natCast_le {a b : Nat} : decide ((a : Int) ≤ (b : Int)) = decide (a ≤ b) := by simp

end Go.Abs
