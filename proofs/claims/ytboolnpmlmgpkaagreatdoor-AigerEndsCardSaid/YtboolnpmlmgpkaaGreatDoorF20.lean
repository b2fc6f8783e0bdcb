/- Lemmas for the statement of this claim, part F20: they hold with no conditions but those that each one names. -/
import Derived.Test.YtboolnpmlmgpkaaGreatDoorF19
set_option linter.unusedVariables false
set_option maxRecDepth 20000
set_option linter.unusedSimpArgs false
set_option linter.unnecessarySimpa false
namespace Go.Proofs.YtboolnpmlmgpkaaGreatDoor
open Go Go.Proofs Go.Abs
theorem zrK {m : Mo} (h : m.chk = 0) : ∃ q f, zaq (zdp m.g) = .tup [q, f] ∧ ((∃ k : Mo, q = k.v ∧ k.g = m.g ∧ f = .agg [vi 0, vi 0, vi 0]) ∨ (q = zh3 ∧ ∃ e a b : Int, e ≠ 0 ∧ f = .agg [vi e, vi a, vi b])) := by
 obtain ⟨a, ha, he⟩ := zgP (s := zdp m.g) (znR h) (r := []) (by rw [List.append_nil])
 unfold zaq
 rw [he]
 unfold zgm
 rw [zpJ ha (.inl rfl)]
 unfold zwX
 dsimp only
 obtain ⟨k, hk, hkg⟩ : ∃ k : Mo, k = ⟨m.g, (zfW (zc7 [m.g.ins, (m.g.next.length : Int), (m.g.outs.length : Int), 0, 0])).getD 0 [], (zfW (zc7 [m.g.ins, (m.g.next.length : Int), (m.g.outs.length : Int), 0, 0])).getD 1 [], (zfW (zc7 [m.g.ins, (m.g.next.length : Int), (m.g.outs.length : Int), 0, 0])).getD 2 [] ++ ((zfW (zc7 [m.g.ins, (m.g.next.length : Int), (m.g.outs.length : Int), 0, 0])).getD 3 [] ++ (zfW (zc7 [m.g.ins, (m.g.next.length : Int), (m.g.outs.length : Int), 0, 0])).getD 4 [])⟩ ∧ k.g = m.g := ⟨_, rfl, rfl⟩
 rw [← hk]
 by_cases hc : k.chk = 0
 ·rw [if_pos hc]
  exact ⟨_, _, rfl, .inl ⟨k, rfl, hkg, rfl⟩⟩
 ·rw [if_neg hc]
  refine ⟨_, _, rfl, .inr ⟨rfl, ?_⟩⟩
  unfold zW
  rw [if_neg hc]
  exact ⟨_, _, _, hc, rfl⟩
theorem znT {g k : Gr} (h : k = g) : g.same k = true := by subst h; simp [Gr.same]
set_option maxHeartbeats 4000000 in
theorem ev_aigerEnds (m : Mo) (t : S) (hs : m.g.Sm) : Ev TE 5 [m.v, .str t] (.bool true) := by
 have hM : maxLen = 9223372036854775807 := rfl
 have e1 := zli m
 have e2 := zff m hs
 unfold zc6 at e2
 have dm : V.dats [m.v] = true := by simp only [Mo.v, V.dats, V.dat, Bool.and_self]
 refine zl Tryz.func5 rfl (by simp [nts]) ?_
 unfold Mo.v at e1 e2 dm ⊢
 refine za (vm ?_)
 simp only [wq.down, Nat.reduceLT, Tryz.results5]
 refine za (vm ?_)
 simp only [wq.down, Nat.reduceLT]
 refine zb.ev zg4 rfl ?_
 simp only [wq.down, seval]
 refine za (vm ?_)
 simp only [wq.down, seval]
 refine za (vm ?_)
 simp only [wq.down, seval]
 refine zb.ev e1 dm ?_
 simp only [wq.down, seval]
 obtain ⟨few, hfew⟩ : ∃ few, few = m.few := ⟨_, rfl⟩
 rw [← hfew]
 by_cases hc : m.chk = 0
 ·rw [if_pos hc] at e2
  refine za (vm ?_)
  simp only [wq.down, seval]
  refine zb.ev e2 dm ?_
  simp only [wq.down, seval]
  cases few with
  | false =>
   refine za (vm ?_)
   simp only [wq.down, seval]
   exact zw.dat rfl
  | true =>
   by_cases hlt : 900 < t.length
   ·have hd : decide ((900 : Int) < (t.length : Int)) = true := by simp; omega
    refine za (vm ?_)
    simp only [wq.down, seval, hd]
    exact zw.dat rfl
   ·have hd : decide ((900 : Int) < (t.length : Int)) = false := by simp; omega
    have hl := zmT hfew.symm hc
    have e3 := zcH (zbJ m.norm) (by omega)
    unfold zaq at e3
    rw [zg7 hc] at e3
    have e4 := zcH (zbJ m.norm ++ [99, 10] ++ t) (by simp only [List.length_append, List.length_cons, List.length_nil]; omega)
    have hp4 : zaX (zbJ m.norm ++ [99, 10] ++ t) = .ok m.norm := by
     rw [show zbJ m.norm ++ [99, 10] ++ t = zbJ m.norm ++ (99 :: 10 :: t) by simp]
     exact zgQ (zdm hc) (.inr ⟨t, rfl⟩)
    unfold zaq at e4
    rw [hp4] at e4
    have htl : (zbJ m.norm).length = (zdp m.norm.g).length + (zb7 m).length := by
     show (zdp m.norm.g ++ zb7 m).length = _
     rw [List.length_append]
    have n1 := zdP (c := 105) (l := m.ins) (i := 0)
    have n2 := zdP (c := 108) (l := m.lat) (i := 0)
    have n3 := zdP (c := 111) (l := m.out) (i := 0)
    have n4 : (zb7 m).length = (nmT 105 0 m.ins).length + ((nmT 108 0 m.lat).length + (nmT 111 0 m.out).length) := by unfold zb7; rw [List.length_append, List.length_append]
    have e5 := zkQ m (by omega) (by omega) (by omega) (by omega)
    have htk : (zbJ m.norm).take (zdp m.norm.g).length = zdp m.norm.g := by
     show (zdp m.norm.g ++ zb7 m).take _ = _
     rw [List.take_left]
    have hsub : IntKind.i64.wrap (((zbJ m.norm).length : Int) - ((zb7 m).length : Int)) = ((zdp m.norm.g).length : Int) := by rw [z6 (by omega) (by omega)]; omega
    have e6 := zcH (zdp m.norm.g) (by omega)
    obtain ⟨q, fv, hq, hcase⟩ := zrK (zdm hc)
    rw [hq] at e6
    have e7 := zmQ m.norm m.norm
    rw [zeW] at e7
    have dn : V.dats [m.norm.v] = true := by simp only [Mo.v, V.dats, V.dat, Bool.and_self]
    have dn2 : V.dats [m.norm.v, m.norm.v] = true := by simp only [Mo.v, V.dats, V.dat, Bool.and_self]
    unfold Mo.v at e3 e4 e5 e7 dn dn2
    refine za (vm ?_)
    simp only [wq.down, seval, hd]
    refine za (vm ?_)
    simp only [wq.down, seval]
    refine zb.ev e3 rfl ?_
    simp only [wq.down, seval]
    refine za (vm ?_)
    simp only [wq.down, seval]
    refine ⟨by omega, by omega, zb.ev e4 rfl ?_⟩
    simp only [wq.down, seval]
    refine za (vm ?_)
    simp only [wq.down, seval]
    refine zb.ev e5 dm ?_
    simp only [wq.down, seval, hsub, htk]
    rcases hcase with ⟨k, rfl, hkg, rfl⟩ | ⟨rfl, e, a, b, he, rfl⟩
    ·have e8 := zg5 m.norm.g k.g
     rw [znT hkg] at e8
     have dk : V.dats [m.norm.g.v, k.g.v] = true := by simp only [Gr.v, V.dats, V.dat, Bool.and_self]
     unfold Mo.v at e6
     unfold Gr.v at e8 dk
     refine ⟨⟨by omega, by omega⟩, zb.ev e6 rfl ?_⟩
     simp only [wq.down, seval]
     refine vm ?_
     simp only [wq.down, seval]
     refine ⟨zb6, zb6, zb.ev e7 dn2 ?_⟩
     simp only [wq.down, seval]
     refine zb.ev e8 dk ?_
     simp only [wq.down, seval]
     exact zw.dat rfl
    ·have hne : (e != 0) = true := by simpa using he
     unfold zh3 at e6
     refine ⟨⟨by omega, by omega⟩, zb.ev e6 rfl ?_⟩
     simp only [wq.down, seval]
     refine vm ?_
     simp only [wq.down, seval]
     refine ⟨zb6, zb6, zb.ev e7 dn2 ?_⟩
     simp only [wq.down, seval, hne]
     refine ⟨.bool true, ?_⟩
     simp only [wq.down]
     exact zw.dat rfl
 ·rw [if_neg hc] at e2
  have hne : (m.chk != 0) = true := by simpa using hc
  refine za (vm ?_)
  simp only [wq.down, seval]
  refine zb.ev e2 dm ?_
  simp only [wq.down, seval]
  cases few with
  | false =>
   refine za (vm ?_)
   simp only [wq.down, seval]
   exact zw.dat rfl
  | true =>
   refine za (vm ?_)
   simp only [wq.down, seval, hne]
   exact zw.dat rfl
end Go.Proofs.YtboolnpmlmgpkaaGreatDoor
