/- Lemmas for this claim, part F02: each holds under what it names. -/
import Derived.Test.YtfcpapokknfeeaaGreatDoorF01
import Derived.Test.YtfcpapokknfeeaaGreatDoorA9
import Derived.Lib.Builder
import Derived.Lib.UnsafeStr
import Derived.Test.YtfcpapokknfeeaaGreatDoorA8
import Derived.Laws.Externs
import Derived.WalkKit
import Derived.LaidEql
import Derived.Stop.Asserts
import Derived.RowKitTokens
import Derived.Shelf.Strconv.AtoiAll
import Derived.Shelf.Strconv.Itoa3
import Derived.Shelf.LaysM
import Derived.Shelf.LaysC
set_option linter.unusedVariables false
set_option linter.unusedSimpArgs false
set_option linter.unnecessarySimpa false
set_option maxRecDepth 100000
set_option maxHeartbeats 8000000
namespace Go.Proofs.YtfcpapokknfeeaaGreatDoor
open Go Go.Proofs Go.Abs
def Mo.lens (m : Mo) : Bool := ((m.ins.length : Int) != m.g.ins) || ((m.lat.length : Int) != (m.g.next.length : Int)) || ((m.out.length : Int) != (m.g.outs.length : Int))
def Mo.names (m : Mo) : Bool := m.ins.any o8 || m.lat.any o8 || m.out.any o8
def Mo.twos (m : Mo) : Bool := GK (m.ins ++ m.lat) || GK m.out
def Mo.other (m : Mo) (n : Nat) : Bool := (List.range n).any fun i => decide (0 ≤ m.place (m.out.getD i [])) && m.g.outs.getD i 0 != 2 * m.place (m.out.getD i [])
def Mo.chk (m : Mo) : Int := if m.g.chk ≠ 0 then m.g.chk else if m.lens then 1 else if m.names then 4 else if m.twos then 5 else if m.other m.out.length then 5 else 0
structure Gr.Ok (g : Gr) : Prop where
 lim : g.lim = false
 i0 : 0 ≤ g.ins
 i1 : g.ins ≤ 4000
 i2 : g.ins + g.next.length + g.ands.length ≤ 4000
 i3 : (g.outs.length : Int) ≤ 4000
 row : g.oddR = false
 ands : g.oddAs g.ands.length = false
theorem bf {g : Gr} (h : g.chk = 0) : g.Ok := by
 unfold Gr.chk at h;split at h
 ·cases h
 ·rename_i h1;split at h
  ·cases h
  ·rename_i h2;split at h
   ·cases h
   ·rename_i h3;have h1 : g.lim = false := by simpa using h1
    have h2' := h1;simp only [Gr.lim,Bool.or_eq_false_iff,decide_eq_false_iff_not] at h2';exact ⟨h1,by omega,by omega,by omega,by omega,by simpa using h2,by simpa using h3⟩
theorem MS {m : Mo} {i n : Nat} (h : i ≤ n) (ho : m.other i = true) : m.other n = true := by unfold Mo.other at ho ⊢;rw [List.any_eq_true] at ho ⊢;obtain ⟨x,hx,h2⟩ := ho;exact ⟨x,List.mem_range.2 (by have := List.mem_range.1 hx;omega),h2⟩
theorem vU (m : Mo) (hs : m.g.Sm) : Ev TE 51 [m.v] (vi m.chk) := by
 have hgc := oG m.g hs;unfold Gr.v at hgc;unfold Mo.v;have dg : V.dats [.agg [vi m.g.ins,aH m.g.next,aH m.g.init,prs m.g.ands,aH m.g.outs]] = true := by simp only [V.dats,V.dat,Bool.and_self]
 refine aA Tryz.func51 rfl (by simp [nts]) (vm ?_);simp only [wq.1,seval,Tryz.results51];refine ah.ev hgc dg ?_;simp only [wq.1,seval];refine vcB.mk (fun hc => ?_) (fun hc => ?_)
 ·simp only [wq.1,seval];exact aV rfl (by unfold Mo.chk;rw [if_pos (by simpa using hc)])
 ·have hg : m.g.chk = 0 := by simpa using hc
  have go := bf hg;obtain ⟨_,i0,i1,i2,i3,_,_⟩ := go;have fin1 : m.lens = true → vi 1 = vi m.chk := fun h => by unfold Mo.chk;rw [if_neg (by simp [hg]),if_pos h]
  cases hl1 : (m.ins.length : Int) != m.g.ins with
  | true => simp only [wq.1,seval,hl1];exact aV rfl (fin1 (by simp [Mo.lens,hl1]))
  | false =>
   cases hl2 : (m.lat.length : Int) != (m.g.next.length : Int) with
   | true => simp only [wq.1,seval,hl1,hl2];exact aV rfl (fin1 (by simp [Mo.lens,hl2]))
   | false =>
    cases hl3 : (m.out.length : Int) != (m.g.outs.length : Int) with
    | true => simp only [wq.1,seval,hl1,hl2,hl3];exact aV rfl (fin1 (by simp [Mo.lens,hl3]))
    | false =>
     have hlens : m.lens = false := by simp only [Mo.lens,hl1,hl2,hl3,Bool.or_false]
     have fin4 : m.names = true → vi 4 = vi m.chk := fun h => by unfold Mo.chk;rw [if_neg (by simp [hg]),if_neg (by simp [hlens]),if_pos h]
     simp only [bne_eq_false_iff_eq] at hl1 hl2 hl3;simp only [wq.1,seval,hl1,hl2,hl3,bne_self_eq_false];refine ah.ev (GI m.ins) rfl ?_;cases hn1 : m.ins.any o8 with
     | true => simp only [wq.1,seval];exact aV rfl (fin4 (by simp [Mo.names,hn1]))
     | false =>
      simp only [wq.1,seval];refine ah.ev (GI m.lat) rfl ?_;cases hn2 : m.lat.any o8 with
      | true => simp only [wq.1,seval];exact aV rfl (fin4 (by simp [Mo.names,hn2]))
      | false =>
       simp only [wq.1,seval];refine ah.ev (GI m.out) rfl ?_;cases hn3 : m.out.any o8 with
       | true => simp only [wq.1,↓reduceIte,Nat.reduceLT];exact aV rfl (fin4 (by simp [Mo.names,hn3]))
       | false =>
        have hnames : m.names = false := by simp only [Mo.names,hn1,hn2,hn3,Bool.or_false]
        have fin5 : m.twos = true → vi 5 = vi m.chk := fun h => by unfold Mo.chk;rw [if_neg (by simp [hg]),if_neg (by simp [hlens]),if_neg (by simp [hnames]),if_pos h]
        have hcat := oH [m.ins,m.lat] (by simp;omega) (by simp);rw [show [m.ins,m.lat].flatten = m.ins ++ m.lat by simp] at hcat;simp only [wq.1,↓reduceIte,Nat.reduceEqDiff,Nat.reduceLT,Nat.reduceLeDiff,Nat.reduceAdd,reduceCtorEq,Nat.reduceMul];refine ⟨⟨rfl,by decide⟩,ah.ev hcat rfl ?_⟩;simp only [wq.1,seval];refine ah.ev (DN _) rfl ?_;cases ht1 : GK (m.ins ++ m.lat) with
        | true => simp only [wq.1,seval];exact aV rfl (fin5 (by simp [Mo.twos,ht1]))
        | false =>
         simp only [wq.1,seval];refine ah.ev (DN _) rfl ?_;cases ht2 : GK m.out with
         | true => simp only [wq.1,seval];exact aV rfl (fin5 (by simp [Mo.twos,ht2]))
         | false =>
          have htwos : m.twos = false := by simp only [Mo.twos,ht1,ht2,Bool.or_false]
          simp only [wq.1,seval];refine aF (fun k f h => ∃ i,k + i = m.out.length ∧ f.t 1 = .lp 0 0 ∧ f.t 60 = aT m.out ∧ f.t 61 = vi m.out.length ∧ f.t 62 = vi i ∧ f.d = [] ∧ h = .cells [vi m.g.ins,aH m.g.next,aH m.g.init,prs m.g.ands,aH m.g.outs,aT m.ins,aT m.lat,aT m.out] :: [] ∧ m.other i = false) m.out.length ⟨0,by simp,rfl,rfl,rfl,rfl,rfl,rfl,rfl⟩ ?_;rintro k f h ⟨i,hk,h1,h60,h61,h62,hd,rfl,hno⟩;refine vm ?_;simp only [wq.1,seval,h61,h62];have hM : maxLen = 9223372036854775807 := rfl;refine vcB.mk (fun hc => ?_) (fun hc => ?_)
          ·simp only [decide_eq_true_eq,Int.ofNat_lt] at hc;have hc3 : i < m.g.outs.length := by omega
           have hpl := PG (m.ins ++ m.lat) (· == m.out[i]);rw [List.length_append] at hpl;have hpr : -1 ≤ m.place m.out[i] ∧ m.place m.out[i] ≤ 4000 := by unfold Mo.place;split <;> omega
           have hgo : m.out.getD i [] = m.out[i] := aG hc;have hgg : m.g.outs.getD i 0 = m.g.outs[i] := aG hc3;have hplace := PH m m.out[i] (by omega);have dm : V.dats [m.v,.str m.out[i]] = true := by simp only [V.dats,V.dat,Bool.and_self]
           unfold Mo.v at hplace dm;have w2 : IntKind.i64.wrap (2 * m.place m.out[i]) = 2 * m.place m.out[i] := aZ (by omega) (by omega);simp only [wq.1,seval,h1,h60,h62,Xd hc];refine ⟨⟨by omega,by omega⟩,ah.ev hplace dm ?_⟩;have hother : m.other (i + 1) = (m.other i || (decide (0 ≤ m.place m.out[i]) && m.g.outs[i] != 2 * m.place m.out[i])) := by
            unfold Mo.other;rw [List.range_succ,List.any_append,List.any_cons,List.any_nil,Bool.or_false,hgo,hgg]
           cases hp : decide (0 ≤ m.place m.out[i]) with
           | false => rw [hp,hno] at hother;simp only [wq.1,seval,h1,h62,hp,xU hc3,ax (show i < maxLen by omega)];exact .inl ⟨k - 1,by omega,i + 1,by omega,h1,h60,h61,rfl,hd,rfl,hother⟩
           | true =>
            rw [hp,hno] at hother;cases hq : m.g.outs[i] != 2 * m.place m.out[i] with
            | true => simp only [wq.1,seval,h1,hd,hp,xU hc3,w2,hq];refine ⟨⟨by omega,by omega⟩,aV rfl ?_⟩;rw [hq] at hother;unfold Mo.chk;rw [if_neg (by simp [hg]),if_neg (by simp [hlens]),if_neg (by simp [hnames]),if_neg (by simp [htwos]),if_pos];refine MS (by omega) (hother.trans rfl)
            | false => rw [hq] at hother;simp only [wq.1,seval,h1,h62,hp,xU hc3,w2,hq,ax (show i < maxLen by omega)];refine ⟨⟨by omega,by omega⟩,.inl ⟨k - 1,by omega,i + 1,by omega,h1,h60,h61,rfl,hd,rfl,hother⟩⟩
          ·simp only [decide_eq_false_iff_not,Int.ofNat_lt] at hc;have hi : i = m.out.length := by omega
           simp only [wq.1,seval,hd];refine aV rfl ?_;unfold Mo.chk;rw [if_neg (by simp [hg]),if_neg (by simp [hlens]),if_neg (by simp [hnames]),if_neg (by simp [htwos]),← hi,if_neg (by simp [hno])]
structure Wi where
 bad : Int
 st : Cl
 steps : List Cl
abbrev Wi.v (w : Wi) : V := .agg [vi w.bad,aH w.st,cls w.steps]
def za7 (n v : Int) : Bool := (n + v == 1) && decide (n < 2) && decide (v < 2)
theorem dP {m : Mo} (h : m.chk = 0) : m.g.chk = 0 ∧ m.lens = false ∧ m.names = false ∧ m.twos = false ∧ m.other m.out.length = false := by
 unfold Mo.chk at h;split at h
 ·rename_i h1;exact absurd h h1
 ·rename_i h1;split at h
  ·cases h
  ·split at h
   ·cases h
   ·split at h
    ·cases h
    ·split at h
     ·cases h
     ·refine ⟨by simpa using h1,?_⟩
      simp_all
theorem dB {g : Gr} (h : g.oddR = false) : g.init.length = g.next.length ∧ (∀ a ∈ g.init,0 ≤ a ∧ a ≤ 2) ∧ (∀ a ∈ g.next,0 ≤ a ∧ a < g.all) ∧ (∀ a ∈ g.outs,0 ≤ a ∧ a < g.all) := by simp only [Gr.oddR,Bool.or_eq_false_iff,bne_eq_false_iff_eq,List.any_eq_false,Za,Vg,Bool.not_eq_true,decide_eq_false_iff_not] at h;obtain ⟨⟨⟨h1,h2⟩,h3⟩,h4⟩ := h;exact ⟨h1,fun a ha => by have := h2 a ha;omega,fun a ha => by have := h3 a ha;omega,fun a ha => by have := h4 a ha;omega⟩
def lv (v : List Bool) (a : Int) : Bool := v.getD (a / 2).toNat false != (a % 2 == 1)
theorem zbr {a : Int} (h0 : 0 ≤ a) (h1 : a ≤ 1000000000) : IntKind.i64.wrap ((BitVec.ofInt IntKind.i64.bits a &&& BitVec.ofInt IntKind.i64.bits 1).toNat : Int) = a % 2 := by
 obtain ⟨n,rfl⟩ : ∃ n : Nat,a = n := ⟨a.toNat,by omega⟩;have e1 : (BitVec.ofInt IntKind.i64.bits (n : Int) &&& BitVec.ofInt IntKind.i64.bits 1).toNat = n % 2 := by
  show (BitVec.ofInt 64 (n : Int) &&& BitVec.ofInt 64 1).toNat = n % 2;rw [BitVec.toNat_and];have : (BitVec.ofInt 64 (n : Int)).toNat = n := by simp;omega
  rw [this];show n &&& 1 = n % 2;exact Nat.and_one_is_mod n
 rw [e1,aZ (by omega) (by omega)];omega
theorem NY (a : Int) : a.fdiv (2 ^ (min 1 IntKind.i64.bits)) = a / 2 := by show a.fdiv 2 = a / 2;rw [Int.fdiv_eq_ediv_of_nonneg _ (by decide)]
def za8 (g : Gr) (st ins : List Bool) (n : Nat) : List Bool := (g.ands.take n).foldl (fun v p => v ++ [lv v p.1 && lv v p.2]) ([false] ++ ins ++ st)
def Gr.vals (g : Gr) (st ins : List Bool) : List Bool := za8 g st ins g.ands.length
def Gr.valE (g : Gr) (st ins : List Bool) : Int := if g.chk ≠ 0 then g.chk else if ((st.length : Int) != (g.next.length : Int)) || ((ins.length : Int) != g.ins) then 11 else 0
theorem dY {g : Gr} (h : g.oddAs g.ands.length = false) {i : Nat} (hi : i < g.ands.length) : 0 ≤ g.ands[i].1 ∧ 0 ≤ g.ands[i].2 ∧ g.ands[i].1 < 2 * (g.first + i) ∧ g.ands[i].2 < 2 * (g.first + i) := by unfold Gr.oddAs at h;rw [List.any_eq_false] at h;have := h i (List.mem_range.2 hi);rw [aG hi] at this;simp only [za2,Bool.or_eq_true,decide_eq_true_eq,not_or] at this;omega
def Gr.out (g : Gr) (st ins : List Bool) : List Bool := if g.valE st ins = 0 then g.outs.map (lv (g.vals st ins)) else []
def Gr.nxt (g : Gr) (st ins : List Bool) : List Bool := if g.valE st ins = 0 then g.next.map (lv (g.vals st ins)) else []
def stv (n v : Int) : Bool := v == 1 || (v == 2 && n == 1)
def stB (m : Mo) (w : Wi) (n : Nat) : List Bool := (List.range n).map fun i => stv (m.g.init.getD i 0) (w.st.getD i 0)
def Wi.state (m : Mo) (w : Wi) : List Bool := stB m w w.st.length
def zby (l : Cl) : List Bool := l.map (· == 1)
def Wi.seq (w : Wi) : List (List Bool) := w.steps.map zby
structure Fit (m : Mo) (w : Wi) : Prop where
 chk : m.chk = 0
 g : m.g.chk = 0
 bad0 : 0 ≤ w.bad
 bad1 : w.bad < (m.out.length : Int)
 st : w.st.length = m.lat.length
 lat : m.lat.length = m.g.next.length
 ini : m.g.init.length = m.g.next.length
 ins : (m.ins.length : Int) = m.g.ins
 out : m.out.length = m.g.outs.length
 ins1 : m.ins.length ≤ 4000
 st1 : w.st.length ≤ 4000
 out1 : m.out.length ≤ 4000
 stv : ∀ a ∈ w.st,0 ≤ a ∧ a ≤ 2
 iniv : ∀ a ∈ m.g.init,0 ≤ a ∧ a ≤ 2
 s1 : 1 ≤ w.steps.length
 s2 : w.steps.length ≤ 40
 row : ∀ l ∈ w.steps,l.length = m.ins.length ∧ ∀ a ∈ l,0 ≤ a ∧ a ≤ 2
 ok : (List.range w.st.length).any (fun i => za7 (m.g.init.getD i 0) (w.st.getD i 0)) = false
def Gr.run (g : Gr) (st : List Bool) (sq : List (List Bool)) : List Bool × List Bool := sq.foldl (fun x ins => (g.out x.2 ins,g.nxt x.2 ins)) ([],st)
open Go.RowKit
theorem xW (b : Nat) (w : World) (h0 : w.cell? ⟨b,0,none⟩ = some (.pointer (some ⟨b,0,none⟩))) :
 Calls Tryz.prog 70 #[.pointer (some ⟨b,0,none⟩)] w fun e w' => e = .returned (.tuple #[]) ∧ w' = w := by
 obtain ⟨j,hj,_⟩ : ∃ j,Tryz.prog.info? 57 = some j ∧ True := ⟨_,rfl,trivial⟩
 go_enter Tryz.func70,Tryz.ntmps70
 go_wp2
 rw [Lib.run_neq_ptr_same w _ Tryz.underlying54 hj]
 go_wp2
 go_end0
 exact ⟨rfl,rfl⟩
theorem vV (b : Nat) (w : World) (T cells : Nat) (h0 : w.cell? ⟨b,0,none⟩ = some (.pointer none)) (hsh : w.shape? b = some (T,cells)) (hc : 0 < cells) (hl : liesAt Tryz.prog Tryz.prog.depth T (cells / Tryz.prog.cellsOf T) 0 57 1 = true) (hfz : w.frozen? ⟨b,0,none⟩ = false) :
 Calls Tryz.prog 70 #[.pointer (some ⟨b,0,none⟩)] w fun e w' => e = .returned (.tuple #[]) ∧ w' = w.setCell ⟨b,0,none⟩ (.pointer (some ⟨b,0,none⟩)) := by
 obtain ⟨j,hj,hjs⟩ : ∃ j,Tryz.prog.info? 57 = some j ∧ j.size ≠ 0 := ⟨_,rfl,by decide⟩
 go_enter Tryz.func70,Tryz.ntmps70
 go_wp2
 rw [Lib.run_to_unsafe w ⟨b,0,none⟩ Tryz.underlying54 Tryz.underlying172 hj hjs hsh hc];simp only [Result.andThen];rw [Oper.upon_value]
 go_wp2
 rw [run_callFunc_extern Tryz.func120 (by kernel_rfl) (by kernel_rfl) (by kernel_rfl) (e := Extern.AbiNoEscape.same) (by kernel_rfl)];rw [Lib.run_noEscape];simp only [Result.andThen];rw [Oper.upon_value]
 go_wp2
 rw [Lib.run_from_unsafe w ⟨b,0,none⟩ Tryz.underlying172 Tryz.underlying54 hj hsh hl];simp only [Result.andThen];rw [Oper.upon_value]
 go_wp2
 go_end0
 exact ⟨rfl,rfl⟩
def BT (T : Nat) : Prop := Tryz.prog.cellsOf T = 2 ∧ ∀ k,liesAt Tryz.prog Tryz.prog.depth T (k + 1) 0 57 1 = true
theorem oI : BT 57 := ⟨by kernel_rfl,fun k => by kernel_rfl⟩
theorem Bh {h : H} {i : Nat} {o : O} (hi : h[i]? = some o) : h.set i o = h := by obtain ⟨h1,h2⟩ := List.getElem?_eq_some_iff.1 hi;rw [← h2,List.set_getElem_self]
theorem jK {T : Nat} (hT : BT T) {id : Nat} {a buf : V} {h : H} {R : AEnd → H → (Nat → Bool) → Prop} (ha : a = .nilp ∨ a = .lp id 0) (hh : h[id]? = some (.typed T [a,buf]))
 (hr : R (.ret (.tup [])) (h.set id (.typed T [.lp id 0,buf])) (fun _ => false)) : ah TE 70 [.lp id 0] h R := by
 intro ok pl w vs hs hl;simp only [VList,VRel] at hl;obtain ⟨y,ys,rfl,⟨b,hb,rfl⟩,rfl⟩ := hl;have hb : pl id = some b := hb;obtain ⟨o,ho,hat⟩ := hs.obj id b hb;rw [hh] at ho;cases ho;obtain ⟨arr,fz,g1,g2,g3,g4⟩ := hat;have g1 : w.heap[b]? = some (.cells arr T fz) := g1;have hsz : 2 ≤ arr.size := g3;have hx0 : ∃ x0,arr[0]? = some x0 ∧ VRel (cx ok pl w) a x0 := by
  obtain ⟨x,h1,h2⟩ := VList.get 0 a g4 rfl;refine ⟨x,?_,h2⟩;rw [List.getElem?_take_of_lt (by simp)] at h1;simpa using h1
 obtain ⟨x0,h0,hr0⟩ := hx0;have hcell : w.cell? ⟨b,0,none⟩ = some x0 := by rw [Lib.cell_of_heap g1];exact h0
 rcases ha with rfl | rfl
 ·simp only [VRel] at hr0;subst hr0;have hsh : w.shape? b = some (T,arr.size) := by unfold World.shape?;rw [g1]
  obtain ⟨k,hk⟩ : ∃ k,arr.size / 2 = k + 1 := ⟨arr.size / 2 - 1,by omega⟩;have hfz : w.frozen? ⟨b,0,none⟩ = false := by have := g2 0 (by omega);unfold World.frozen?;rw [g1];simp;omega
  refine (vV b w T arr.size hcell hsh (by omega) (by rw [hT.1,hk];exact hT.2 k) hfz).mono ?_;rintro e w' ⟨rfl,rfl⟩;obtain ⟨w'',h1,h2,h3⟩ := tN hs hb (off := 0) (vs := [.lp id 0]) (xs := [.pointer (some ⟨b,0,none⟩)]) (by simp only [VList,VRel];exact ⟨_,_,rfl,⟨b,hb,rfl⟩,rfl⟩) rfl hh (by simp);have h4 := eQ (P := TE.P) (vs := [.pointer (some ⟨b,0,none⟩)]) (o := 0) g1 g2 (by simp;omega) (fun v hv => by simp at hv;subst hv;rfl);rw [h4] at h1;cases h1;exact ⟨fun _ => false,pl,_,.ret (.tup []),h2,h3,by show VRel _ _ _;simp only [VRel,VList];exact ⟨#[],rfl,rfl⟩,hr⟩
 ·simp only [VRel] at hr0;obtain ⟨b',hb',rfl⟩ := hr0;have hb' : pl id = some b' := hb';rw [hb] at hb';cases hb';refine (xW b w hcell).mono ?_;rintro e w' ⟨rfl,rfl⟩;rw [Bh hh] at hr;exact ⟨fun _ => false,pl,h,.ret (.tup []),hs,Keeps.refl pl _,by show VRel _ _ _;simp only [VRel,VList];exact ⟨#[],rfl,rfl⟩,hr⟩
abbrev vb (c : UInt8) : V := .int .u8 c.toNat
theorem DR : ∀ l : S,dH (l.map vb) = true
 | [] => rfl
 | a :: l => by simp only [List.map_cons,dH,DR l,V.one,V.vc,List.length_singleton];rfl
theorem kC {p : Nat → Bool} : ∀ c : S,V.drops p (c.map vb) = c.map vb
 | [] => rfl
 | a :: l => by simp only [List.map_cons,V.drops,V.drop,kC l]
theorem qM {T : Nat} (hT : BT T) {id : Nat} {a : V} {h : H} {R : AEnd → H → (Nat → Bool) → Prop} (s : S) (ha : a = .nilp ∨ a = .lp id 0) (hh : h[id]? = some (.typed T [a,.nils])) (hs : s ≠ []) (hl : s.length ≤ 20000000000000)
 (hr : R (.ret (.tup [vi s.length,.nili])) ((h ++ [O.typed 5 (s.map vb)]).set id (.typed T [.lp id 0,.ls h.length 1 0 s.length s.length])) (fun _ => false)) : ah TE 27 [.lp id 0,.str s] h R := by
 have hM : maxLen = 9223372036854775807 := rfl;have hlt : id < h.length := (List.getElem?_eq_some_iff.1 hh).1;have hpos : 0 < s.length := List.length_pos_iff.2 hs;refine au Tryz.func27 rfl (by simp [nts]) ?_;refine ag (vm ?_);simp only [wq.1,Nat.reduceLT,Tryz.results27];refine ag (vm ?_);simp only [wq.1,seval];refine jK hT ha hh ?_;simp only [wq.1];have h1 : (h.set id (.typed T [.lp id 0,.nils]))[id]? = some (.typed T [.lp id 0,.nils]) := by simp [hlt]
 refine ag (fB ?_);refine ay rfl rfl ?_;simp only [wq.1,seval];refine ay rfl rfl ?_;simp only [wq.1,seval];refine ay rfl rfl ?_;simp only [wq.1,↓reduceIte];refine ay rfl rfl ?_;simp only [wq.1,seval];refine ay rfl rfl ?_;simp only [wq.1,seval,h1];refine ay rfl rfl ?_;simp only [wq.1,seval];have hq : ti TE.P 55 = some ⟨.slice 5,1,24,.nils⟩ := by simp only [wq.1]
 have hqe : ti TE.P 5 = some ⟨.int .u8,1,1,.int .u8 0⟩ := by simp only [wq.1]
 refine bW rfl rfl ?_;refine rX (x := .tmp 12) (y := .tmp 13) (t := 55) (xt := 9) (el := 5) (m := s.length) (cs := s.map vb) ⟨⟨_,rfl,rfl,rfl⟩,hq,rfl,hqe,rfl,rfl,Nat.zero_lt_one⟩ (by simp only [wq.1,seval]) (by simp only [wq.1,↓reduceIte]) (by simp only [wq.1,seval]) (by simp only [wq.1,↓reduceIte]) (by simp only [wq.1,↓reduceIte]) (by simp only [wq.1,↓reduceIte]) hpos (by omega) (by show (0 + s.length) * 1 ≤ _;omega) ?_;have h2 : (h.set id (O.typed T [.lp id 0,.nils]) ++ [O.typed 5 (s.map vb)])[id]? = some (.typed T [.lp id 0,.nils]) := by rw [List.getElem?_append_left (by simpa using hlt)];exact h1
 simp only [wq.1,List.length_set];refine ay rfl rfl ?_;simp only [wq.1,seval];refine ay rfl rfl ?_;simp only [wq.1,seval];refine bW rfl rfl ?_;refine rW (t := 55) (x := .tmp 16) (y := .tmp 14) rfl (id := id) (off := 1) (by simp only [wq.1,↓reduceIte]) (by simp only [wq.1,↓reduceIte]) (by simp only [wq.1,seval]) hq (by simp only [wq.1,seval]) (by simp only [wq.1,seval]) (by simp only [wq.1,seval]) h2 (by simp only [wq.1,seval]) ?_;refine bT ?_;simp only [wq.1,seval];refine vm ?_;simp only [wq.1,seval];rw [List.set_append_left _ _ (by simpa using hlt),List.set_set,← List.set_append_left _ _ hlt];exact hr
theorem tZ (p : Nat → Bool) (h : H) (i : Nat) (o : O) : (h.set i o).map (O.drop p) = (h.map (O.drop p)).set i (o.drop p) := by rw [List.map_set]
theorem uB {T : Nat} (hT : BT T) {id bid : Nat} {a : V} {h : H} {R : AEnd → H → (Nat → Bool) → Prop} (out s : S) (ha : a = .nilp ∨ a = .lp id 0) (hne : id ≠ bid) (hh : h[id]? = some (.typed T [a,.ls bid 1 0 out.length out.length])) (hb : h[bid]? = some (.typed 5 (out.map vb))) (hl : out.length + s.length ≤ 20000000000000)
 (hr : R (.ret (.tup [vi s.length,.nili])) (((h.map (O.drop (· == bid))).set bid (O.typed 5 ((out ++ s).map vb))).set id (.typed T [.lp id 0,.ls bid 1 0 (out ++ s).length (out ++ s).length])) (· == bid)) : ah TE 27 [.lp id 0,.str s] h R := by
 have hM : maxLen = 9223372036854775807 := rfl;have hlt : id < h.length := (List.getElem?_eq_some_iff.1 hh).1;have hltb : bid < h.length := (List.getElem?_eq_some_iff.1 hb).1;have hidb : (id == bid) = false := by simpa using hne
 refine au Tryz.func27 rfl (by simp [nts]) ?_;refine ag (vm ?_);simp only [wq.1,Nat.reduceLT,Tryz.results27];refine ag (vm ?_);simp only [wq.1,seval];refine jK hT ha hh ?_;simp only [wq.1];have h1 : (h.set id (.typed T [.lp id 0,.ls bid 1 0 out.length out.length]))[id]? = some (.typed T [.lp id 0,.ls bid 1 0 out.length out.length]) := by simp [hlt]
 have h1b : (h.set id (.typed T [.lp id 0,.ls bid 1 0 out.length out.length]))[bid]? = some (.typed 5 (out.map vb)) := by rw [List.getElem?_set_ne hne];exact hb
 refine ag (fB ?_);refine ay rfl rfl ?_;simp only [wq.1,seval];refine ay rfl rfl ?_;simp only [wq.1,seval];refine ay rfl rfl ?_;simp only [wq.1,↓reduceIte];refine ay rfl rfl ?_;simp only [wq.1,seval];refine ay rfl rfl ?_;simp only [wq.1,seval,h1];refine ay rfl rfl ?_;simp only [wq.1,seval];have hq : ti TE.P 55 = some ⟨.slice 5,1,24,.nils⟩ := by simp only [wq.1]
 have hqe : ti TE.P 5 = some ⟨.int .u8,1,1,.int .u8 0⟩ := by simp only [wq.1]
 refine bW rfl rfl ?_;refine mQ (x := .tmp 12) (y := .tmp 13) (t := 55) (xt := 9) (el := 5) (m := s.length) (cs := s.map vb) (len := out.length) (cap := out.length) ⟨⟨_,rfl,rfl,rfl⟩,hq,rfl,hqe,rfl,rfl,Nat.zero_lt_one⟩ (by simp only [wq.1,seval]) (by simp only [wq.1,↓reduceIte]) (id := bid) (by simp only [wq.1,seval]) h1b (by rw [List.length_map];show _ = out.length * 1;omega) (by simp only [wq.1,↓reduceIte]) (by simp only [wq.1,↓reduceIte]) (by simp only [wq.1,↓reduceIte]) (DR s) (by omega) (by show (out.length + s.length) * 1 ≤ _;omega) (by simp only [wq.1]) ?_;rw [iY,kC,kC,tZ];have e1 : (O.typed T [.lp id 0,.ls bid 1 0 out.length out.length]).drop (· == bid) = .typed T [.lp id 0,.any] := by
  simp only [O.drop,V.drops,V.drop,hidb,beq_self_eq_true,Bool.false_eq_true,if_false,if_true]
 rw [e1];generalize hG : h.map (O.drop (· == bid)) = G at hr ⊢;have hGl : id < G.length := by rw [← hG,List.length_map];exact hlt
 have h2 : ((G.set id (O.typed T [.lp id 0,.any])).set bid (O.typed 5 (out.map vb ++ s.map vb)))[id]? = some (.typed T [.lp id 0,.any]) := by rw [List.getElem?_set_ne (Ne.symm hne)];simp [hGl]
 simp only [wq.1];refine ay rfl rfl ?_;simp only [wq.1,seval,hidb];refine ay rfl rfl ?_;simp only [wq.1,seval];refine bW rfl rfl ?_;refine rW (t := 55) (x := .tmp 16) (y := .tmp 14) rfl (id := id) (off := 1) (by simp only [wq.1,↓reduceIte]) (by simp only [wq.1,↓reduceIte]) (by simp only [wq.1,seval]) hq (by simp only [wq.1,seval]) (by simp only [wq.1,seval]) (by simp only [wq.1,seval]) h2 (by simp only [wq.1,seval]) ?_;refine bT ?_;simp only [wq.1,seval];refine vm ?_;simp only [wq.1,seval];rw [List.map_append,List.length_append] at hr;rw [List.set_comm _ _ hne,List.set_set];exact hr
theorem IB {T : Nat} (hT : BT T) {id bid : Nat} {a : V} {h : H} {R : AEnd → H → (Nat → Bool) → Prop} (out : S) (c : UInt8) (ha : a = .nilp ∨ a = .lp id 0) (hne : id ≠ bid) (hh : h[id]? = some (.typed T [a,.ls bid 1 0 out.length out.length])) (hb : h[bid]? = some (.typed 5 (out.map vb))) (hl : out.length + 1 ≤ 20000000000000)
 (hr : R (.ret .nili) (((h.map (O.drop (· == bid))).set bid (O.typed 5 ((out ++ [c]).map vb))).set id (.typed T [.lp id 0,.ls bid 1 0 (out ++ [c]).length (out ++ [c]).length])) (· == bid)) : ah TE 71 [.lp id 0,vb c] h R := by
 have hM : maxLen = 9223372036854775807 := rfl;have hlt : id < h.length := (List.getElem?_eq_some_iff.1 hh).1;have hltb : bid < h.length := (List.getElem?_eq_some_iff.1 hb).1;have hidb : (id == bid) = false := by simpa using hne
 refine au Tryz.func71 rfl (by simp [nts]) ?_;refine ag (vm ?_);simp only [wq.1,Nat.reduceLT,Tryz.results71];refine ag (vm ?_);simp only [wq.1,seval];refine jK hT ha hh ?_;simp only [wq.1];have h1 : (h.set id (.typed T [.lp id 0,.ls bid 1 0 out.length out.length]))[id]? = some (.typed T [.lp id 0,.ls bid 1 0 out.length out.length]) := by simp [hlt]
 have h1b : (h.set id (.typed T [.lp id 0,.ls bid 1 0 out.length out.length]))[bid]? = some (.typed 5 (out.map vb)) := by rw [List.getElem?_set_ne hne];exact hb
 refine ag (fB ?_);refine ay rfl rfl ?_;simp only [wq.1,seval];refine ay rfl rfl ?_;simp only [wq.1,seval];refine ay rfl rfl ?_;simp only [wq.1,↓reduceIte];refine ay rfl rfl ?_;simp only [wq.1,seval];refine ay rfl rfl ?_;simp only [wq.1,seval,h1];refine ay rfl rfl ?_;simp only [wq.1,↓reduceIte,Nat.reduceEqDiff];refine ay rfl rfl ?_;simp only [wq.1,↓reduceIte,Nat.reduceLT,reduceCtorEq,Nat.reduceMul];refine ⟨⟨rfl,by decide⟩,?_⟩;have hq : ti TE.P 55 = some ⟨.slice 5,1,24,.nils⟩ := by simp only [wq.1]
 have hqe : ti TE.P 5 = some ⟨.int .u8,1,1,.int .u8 0⟩ := by simp only [wq.1]
 refine bW rfl rfl ?_;refine mQ (x := .tmp 11) (y := .tmp 13) (t := 55) (xt := 55) (el := 5) (m := 1) (cs := [vb c]) (len := out.length) (cap := out.length) ⟨⟨_,rfl,rfl,rfl⟩,hq,rfl,hqe,rfl,rfl,Nat.zero_lt_one⟩ (by simp only [wq.1,seval]) (by simp only [wq.1,↓reduceIte]) (id := bid) (by simp only [wq.1,seval]) h1b (by rw [List.length_map];show _ = out.length * 1;omega) (by simp only [wq.1,↓reduceIte]) (by simp only [wq.1,↓reduceIte]) (by simp only [wq.1,↓reduceIte]) rfl (by omega) (by show (out.length + 1) * 1 ≤ _;omega) (by simp only [wq.1]) ?_;rw [iY,kC,show V.drops (· == bid) [vb c] = [vb c] from rfl,tZ];have e1 : (O.typed T [.lp id 0,.ls bid 1 0 out.length out.length]).drop (· == bid) = .typed T [.lp id 0,.any] := by
  simp only [O.drop,V.drops,V.drop,hidb,beq_self_eq_true,Bool.false_eq_true,if_false,if_true]
 rw [e1];generalize hG : h.map (O.drop (· == bid)) = G at hr ⊢;have hGl : id < G.length := by rw [← hG,List.length_map];exact hlt
 have h2 : ((G.set id (O.typed T [.lp id 0,.any])).set bid (O.typed 5 (out.map vb ++ [vb c])))[id]? = some (.typed T [.lp id 0,.any]) := by rw [List.getElem?_set_ne (Ne.symm hne)];simp [hGl]
 simp only [wq.1];refine ay rfl rfl ?_;simp only [wq.1,seval,hidb];refine ay rfl rfl ?_;simp only [wq.1,seval];refine bW rfl rfl ?_;refine rW (t := 55) (x := .tmp 16) (y := .tmp 14) rfl (id := id) (off := 1) (by simp only [wq.1,↓reduceIte]) (by simp only [wq.1,↓reduceIte]) (by simp only [wq.1,seval]) hq (by simp only [wq.1,seval]) (by simp only [wq.1,seval]) (by simp only [wq.1,seval]) h2 (by simp only [wq.1,seval]) ?_;refine bT ?_;simp only [wq.1,seval];refine vm ?_;simp only [wq.1,seval];rw [List.map_append,List.length_append] at hr;rw [List.set_comm _ _ hne,List.set_set];exact hr
theorem MV (b g len cap cells : Nat) (l : List UInt8) (w : World) (c1 : w.drew.cell? ⟨b,1,none⟩ = some (.slice (some ⟨g,0,none⟩) l.length cap)) (hcap : cap ≠ 0) (hsh : w.drew.shape? g = some (5,cells)) (hn : l.length ≤ cells) (h63 : l.length ≤ 9223372036854775807) (h0 : l ≠ []) (hcell : ∀ j x,l[j]? = some x → w.drew.cell? ((⟨g,0,none⟩ : Addr).add j) = some (.int .u8 x.toNat)) :
 Calls Tryz.prog 29 #[.pointer (some ⟨b,0,none⟩)] w fun e w' => e = .returned (.string ⟨l.toArray⟩) ∧ w' = w.drew.freeze ⟨g,0,none⟩ l.length := by
 have hSD : (Builtin.unsafeSliceData_ #[55] 126 #[.slice (some ⟨g,0,none⟩) l.length cap]).run Tryz.prog w.drew = .ok (.pointer (some ⟨g,0,none⟩)) w.drew :=
  Lib.run_unsafeSliceData_row w.drew _ _ _ _ _ hcap
 have hUS : (Builtin.unsafeString_ #[126,3] 9 #[.pointer (some ⟨g,0,none⟩),.int .i64 l.length]).run Tryz.prog w.drew = .ok (.string ⟨l.toArray⟩) (w.drew.freeze ⟨g,0,none⟩ l.length) :=
  Lib.run_unsafeString_row w.drew 126 3 9 5 Tryz.underlying126 (by kernel_rfl) g cells hsh l h0 hn h63 hcell
 go_enter Tryz.func29,Tryz.ntmps29
 go_wp2
 go_region
 all_goals (go_wp2;go_ret;exact ⟨rfl,rfl⟩)
theorem Bi {T id bid : Nat} {a : V} {h : H} {R : AEnd → H → (Nat → Bool) → Prop} (out : S) (hh : h[id]? = some (.typed T [a,.ls bid 1 0 out.length out.length])) (hb : h[bid]? = some (.typed 5 (out.map vb))) (h0 : out ≠ []) (hl : out.length ≤ 20000000000000)
 (hr : R (.ret (.str out)) ((h.map (O.drop (· == bid))).set bid .dead) (· == bid)) : ah TE 29 [.lp id 0] h R := by
 intro ok pl w vs hs hv;simp only [VList,VRel] at hv;obtain ⟨y,ys,rfl,⟨b,hpb,rfl⟩,rfl⟩ := hv;have hpb : pl id = some b := hpb;have hpos : 0 < out.length := List.length_pos_iff.2 h0;obtain ⟨o,ho,hat⟩ := hs.obj id b hpb;rw [hh] at ho;cases ho;obtain ⟨arr,fz,g1,g2,g3,g4⟩ := hat;have g1 : w.heap[b]? = some (.cells arr T fz) := g1;obtain ⟨x1,e1,r1⟩ := VList.get 1 (.ls bid 1 0 out.length out.length) g4 rfl;have e1 : arr[1]? = some x1 := by
  rw [List.getElem?_take_of_lt (by simp)] at e1;simpa using e1
 simp only [VRel] at r1;obtain ⟨ad,cp,rfl,q2,q3,q4,q5⟩ := r1;rcases q5 with q5 | ⟨g,arr2,el2,fz2,q6,rfl,q8,q9⟩
 ·omega
 have q6 : pl bid = some g := q6;obtain ⟨o,ho,hat⟩ := hs.obj bid g q6;rw [hb] at ho;cases ho;obtain ⟨arr3,fz3,k1,k2,k3,k4⟩ := hat;have k1 : w.heap[g]? = some (.cells arr3 5 fz3) := k1;have k3 : out.length ≤ arr3.size := by simpa using k3
 have hcell : w.drew.cell? ⟨b,1,none⟩ = some (.slice (some ⟨g,0,none⟩) out.length cp) := by rw [Lib.cell_of_heap (w := w.drew) g1];exact e1
 have hsh : w.drew.shape? g = some (5,arr3.size) := by unfold World.shape?;show (match w.heap[g]? with | some (.cells c e _) => some (e,c.size) | _ => none) = _;rw [k1]
 refine (MV b g out.length cp arr3.size out w hcell (by omega) hsh k3 (by omega) h0 fun j x hx => ?_).mono ?_
 ·have hj : j < out.length := (List.getElem?_eq_some_iff.1 hx).1;obtain ⟨x2,hx2,r2⟩ := VList.get j (vb x) k4 (by rw [List.getElem?_map,hx];rfl);simp only [VRel] at r2;subst r2;rw [List.length_map,List.getElem?_take_of_lt hj] at hx2;rw [bV,Lib.cell_of_heap (w := w.drew) k1,Nat.zero_add];simpa using hx2
 ·rintro en w' ⟨rfl,rfl⟩;have hsz : (w.drew.freeze ⟨g,0,none⟩ out.length).heap.size = w.heap.size := by
   unfold World.freeze;rw [if_neg (by omega)];exact Array.size_modify
  have hsame : ∀ i,i ≠ g → (w.drew.freeze ⟨g,0,none⟩ out.length).heap[i]? = w.heap[i]? := fun i hi => by unfold World.freeze;rw [if_neg (by omega)];show (w.heap.modify g _)[i]? = _;rw [Array.getElem?_modify,if_neg (Ne.symm hi)]
  have hrow : ∀ arr el fz,w.heap[g]? = some (.cells arr el fz) → ∃ arr' fz',(w.drew.freeze ⟨g,0,none⟩ out.length).heap[g]? = some (.cells arr' el fz') ∧ arr'.size = arr.size := fun a3 el fz4 ha => by unfold World.freeze;rw [if_neg (by omega)];refine ⟨a3,(if fz4.1 == fz4.2 then (0,0 + out.length) else (min fz4.1 0,max fz4.2 (0 + out.length))),?_,rfl⟩;show (w.heap.modify g _)[g]? = _;rw [Array.getElem?_modify,if_pos rfl,ha];rfl
  have hos : (w.drew.freeze ⟨g,0,none⟩ out.length).os = w.os ∧ (w.drew.freeze ⟨g,0,none⟩ out.length).tape = w.tape ∧ (w.drew.freeze ⟨g,0,none⟩ out.length).output = w.output := by unfold World.freeze;rw [if_neg (by omega)];exact ⟨rfl,rfl,rfl⟩
  obtain ⟨s1,s2⟩ := hs.burn q6 hos.1 hos.2.1 hos.2.2 hsz hsame hrow;exact ⟨_,_,_,.ret (.str out),s1,s2,by show VRel _ _ _;simp only [VRel];exact ⟨_,rfl,by simp,by have : maxLen = 9223372036854775807 := rfl;omega⟩,hr⟩
open Go.Extern.Stop
open Go.Stop
open Go.Extern
theorem PI (t : Addr) (w : World) : (ReflectliteValue.unpack (.iface 208 (.pointer (some t)))).run Tryz.prog w
 = .ok (.agg #[.pointer (some ⟨8,208,none⟩),.pointer (some ⟨w.heap.size,0,none⟩),.int .u64 150]) (w.alloc (.cells #[.pointer (some t)] 208)) := by kernel_rfl
theorem ZU (a : Addr) (w : World) : (ReflectliteValue.methodAny (ReflectliteValue.valueError "reflectlite.Value.Type" 0) (fun t _ _ _ => ReflectliteType.toType t) #[.agg #[.pointer (some ⟨8, 208, none⟩), .pointer (some a), .int .u64 150]]).run Tryz.prog w
 = .ok (.iface 237 (.agg #[.pointer (some ⟨8,208,none⟩)])) w := by kernel_rfl
theorem MW (h : Value) (w : World) : (Go.method 394 237 (.agg #[h]) "Kind").run Tryz.prog w = .ok (224, h) w := by kernel_rfl
theorem ZV (w : World) : ((ReflectliteType.abiMethod fun t => (fun a : Nat => Value.int IntKind.u8 (a : Int)) <$> Rtype.kind t) #[.pointer (some ⟨8,208,none⟩)]).run Tryz.prog w = .ok (.int .u8 22) w := by kernel_rfl
theorem ZW (w : World) : ((ReflectliteType.abiMethod fun t => (fun a : Nat => Value.int IntKind.u8 (a : Int)) <$> Rtype.kind t) #[.pointer (some ⟨8,31,none⟩)]).run Tryz.prog w = .ok (.int .u8 2) w := by kernel_rfl
theorem rlm (z : Sem Value) (f : TypeId → Addr → Nat → Nat → Sem Value) (v : Value) :
 ReflectliteValue.method z f #[v] = (do match ← ReflectliteValue.parts v with | none => z | some (t,a,fl) => f t a fl (fl % 32)) := rfl
theorem PK (a : Addr) (w : World) : (ReflectliteValue.parts (.agg #[.pointer (some ⟨8,208,none⟩),.pointer (some a),.int .u64 150])).run Tryz.prog w = .ok (some (208,a,150)) w := by kernel_rfl
theorem Yk (a p : Addr) (W : World) (ha : W.cell? a = some (.pointer (some p))) :
 (ReflectliteValue.method (ReflectliteValue.valueError "reflectlite.Value.IsNil" 0) ReflectliteValue.isNil #[.agg #[.pointer (some ⟨8, 208, none⟩), .pointer (some a), .int .u64 150]]).run Tryz.prog W = .ok (.bool false) W := by
 rw [rlm];simp only [Sem.run_bind,PK,Result.andThen];simp [ReflectliteValue.isNil,loadVar,isAgg,underlying,Tryz.underlying208,ha,Result.andThen]
theorem MX (h : Value) (w : World) : (Go.method 394 237 (.agg #[h]) "Elem").run Tryz.prog w = .ok (238, .agg #[h]) w := by kernel_rfl
theorem um (h : Value) (w : World) : (Go.method 394 237 (.agg #[h]) "Implements").run Tryz.prog w = .ok (239, .agg #[h]) w := by kernel_rfl
theorem qN (h : Value) (w : World) : (Go.method 394 237 (.agg #[h]) "AssignableTo").run Tryz.prog w = .ok (236, .agg #[h]) w := by kernel_rfl
theorem ZX (w : World) : (ReflectliteType.method ReflectliteType.elem #[.agg #[.pointer (some ⟨8,208,none⟩)]]).run Tryz.prog w = .ok (.iface 237 (.agg #[.pointer (some ⟨8,31,none⟩)])) w := by kernel_rfl
theorem DT (w : World) : (ReflectliteType.relation "Implements" ReflectliteType.implements_ #[.agg #[.pointer (some ⟨8, 31, none⟩)], .iface 237 (.agg #[.pointer (some ⟨8, 61, none⟩)])]).run Tryz.prog w = .ok (.bool true) w := by kernel_rfl
theorem Vk (v : Value) (w : World) : (ReflectliteType.typeOf #[.iface 31 v]).run Tryz.prog w = .ok (.iface 237 (.agg #[.pointer (some ⟨8,31,none⟩)])) w := by kernel_rfl
theorem Vl (v : Value) (w : World) : (ReflectliteType.typeOf #[.iface 182 v]).run Tryz.prog w = .ok (.iface 237 (.agg #[.pointer (some ⟨8,182,none⟩)])) w := by kernel_rfl
theorem DU (w : World) : (ReflectliteType.relation "AssignableTo" ReflectliteType.assignableTo #[.agg #[.pointer (some ⟨8, 31, none⟩)], .iface 237 (.agg #[.pointer (some ⟨8, 31, none⟩)])]).run Tryz.prog w = .ok (.bool true) w := by kernel_rfl
theorem DV (w : World) : (ReflectliteType.relation "AssignableTo" ReflectliteType.assignableTo #[.agg #[.pointer (some ⟨8, 182, none⟩)], .iface 237 (.agg #[.pointer (some ⟨8, 31, none⟩)])]).run Tryz.prog w = .ok (.bool false) w := by kernel_rfl
theorem Vm (w : World) : (Rtype.elem? 208).run Tryz.prog w = .ok (some 31) w := by kernel_rfl
theorem zbz (v : Value) (xT : TypeId) (w : World) : (Instr.typeAssert (.iface 182 v) xT 242 true).run Tryz.prog w = .ok (.tuple #[.nilIface,.bool false]) w := run_typeAssert_lacksB Tryz.underlying242 (by kernel_rfl) (by kernel_rfl) v xT w
theorem PM (v : Value) (xT : TypeId) (w : World) : (Instr.typeAssert (.iface 182 v) xT 245 true).run Tryz.prog w = .ok (.tuple #[.iface 182 v,.bool true]) w := run_typeAssert_hasB Tryz.underlying245 (by kernel_rfl) v xT w
theorem DW (v : Value) (w : World) : (Go.method 394 182 v "Unwrap").run Tryz.prog w = .ok (230, v) w := by kernel_rfl
theorem Vo (w : World) : (Rtype.directlyAssignable 31 31).run Tryz.prog w = .ok true w := by kernel_rfl
theorem PN (k : Int) (w : World) : (ReflectliteValue.unpack (.iface 31 (.int .i64 k))).run Tryz.prog w
 = .ok (.agg #[.pointer (some ⟨8,31,none⟩),.pointer (some ⟨w.heap.size,0,none⟩),.int .u64 130]) (w.alloc (.cells #[.int .i64 k] 31)) := by kernel_rfl
theorem zbA (p : Addr) (w : World) : (ReflectliteValue.mk 31 p ReflectliteValue.flagAddr).run Tryz.prog w = .ok (.agg #[.pointer (some ⟨8,31,none⟩),.pointer (some p),.int .u64 386]) w := by kernel_rfl
theorem Yl (a p : Addr) (W : World) (ha : W.cell? a = some (.pointer (some p))) :
 (ReflectliteValue.method (ReflectliteValue.valueError "reflectlite.Value.Elem" 0) ReflectliteValue.elem #[.agg #[.pointer (some ⟨8, 208, none⟩), .pointer (some a), .int .u64 150]]).run Tryz.prog W
  = .ok (.agg #[.pointer (some ⟨8,31,none⟩),.pointer (some p),.int .u64 386]) W := by
 rw [rlm];simp only [Sem.run_bind,PK,Result.andThen];simp [ReflectliteValue.elem,loadVar,isAgg,underlying,Tryz.underlying208,ha,Result.andThen,Vm,zbA]
theorem rls (v x : Value) : ReflectliteValue.set #[v,x] = (do
 let (some (dst,a,fl),some (src,b,_)) := (← ReflectliteValue.parts v,← ReflectliteValue.parts x)
  | unsupported (.noEntry "extern/(internal/reflectlite.Value).Set.zeroValue")
 if fl / ReflectliteValue.flagAddr % 2 == 0 then unsupported (.noEntry "extern/(internal/reflectlite.Value).Set.unaddressable")
 let val ← loadVar src b
 if ← Rtype.directlyAssignable dst src then storeVar dst a val
 else if ← Rtype.implements dst src then
  if (← Rtype.kind src) == 20 then
   match val with
   | .nilIface => unsupported (.noEntry "extern/reflectlite: a nil value of one interface type handed on as a value of another")
   | _ => storeVar dst a val
  else storeVar dst a (.iface src val)
 else panicString ("reflectlite.Set: value of type " ++ (← Rtype.spelt src) ++ " is not assignable to type " ++ (← Rtype.spelt dst))
 pure (.tuple #[])) := rfl
theorem Vp (a : Addr) (w : World) : (ReflectliteValue.parts (.agg #[.pointer (some ⟨8,31,none⟩),.pointer (some a),.int .u64 386])).run Tryz.prog w = .ok (some (31,a,386)) w := by kernel_rfl
theorem Ym (a : Addr) (w : World) : (ReflectliteValue.parts (.agg #[.pointer (some ⟨8,31,none⟩),.pointer (some a),.int .u64 130])).run Tryz.prog w = .ok (some (31,a,130)) w := by kernel_rfl
theorem za9 (ta b : Addr) (k : Int) (old : Value) (W : World) (hb : W.cell? b = some (.int .i64 k)) (ht : W.cell? ta = some old) (hf : W.frozen? ta = false) :
 (ReflectliteValue.set #[.agg #[.pointer (some ⟨8,31,none⟩),.pointer (some ta),.int .u64 386],.agg #[.pointer (some ⟨8,31,none⟩),.pointer (some b),.int .u64 130]]).run Tryz.prog W
  = .ok (.tuple #[]) (W.setCell ta (.int .i64 k)) := by
 rw [rls];simp only [Sem.run_bind,Vp,Ym,Result.andThen];simp [ReflectliteValue.flagAddr,loadVar,isAgg,underlying,Tryz.underlying31,hb,Result.andThen,Vo,storeVar,Value.cells,storeCells,Addr.add];rw [run_store Tryz.prog W ta _ _ (by rfl)];simp [ht,hf]
def GL (t : Addr) (k : Int) (w : World) : World :=
 (((w.alloc (.cells #[.pointer (some t)] 208)).alloc (.cells #[.pointer (some ⟨8,208,none⟩),.pointer (some ⟨w.heap.size,0,none⟩),.int .u64 150] 222)).alloc (.cells #[.pointer (some ⟨8,208,none⟩),.pointer (some ⟨w.heap.size,0,none⟩),.int .u64 150] 222)).alloc (.cells #[.int .i64 k] 31)
theorem ZY (t : Value) (w : World) : Calls Tryz.prog 163 #[.nilIface,t] w fun e w' => e = .returned (.bool false) ∧ w' = w := by
 go_enter Tryz.func163,Tryz.ntmps163
 go_wp2
 go_ret
 exact ⟨rfl,rfl⟩
theorem ZZ (p : Nat) (po : Nat) (t : Addr) (k : Int) (old : Value) (w : World) (hp : w.cell? ⟨p,po,none⟩ = some (.iface 31 (.int .i64 k))) (hg : w.cell? ⟨2,0,none⟩ = some (.iface 237 (.agg #[.pointer (some ⟨8,61,none⟩)]))) (ht0 : w.cell? t = some old) (hf0 : w.frozen? t = false) :
 Calls Tryz.prog 163 #[.iface 182 (.pointer (some ⟨p,po,none⟩)),.iface 208 (.pointer (some t))] w fun ev w' => ev = .returned (.bool true) ∧ w' = (GL t k w).setCell t (.int .i64 k) := by
 have h32 := @run_callFunc_extern Tryz.prog 183 _ (fun args => ReflectliteValue.unpack (args.getD 0 (.tuple #[]))) Tryz.func183 (by kernel_rfl) (by kernel_rfl) (by kernel_rfl) (by kernel_rfl);have h33 := @run_callFunc_extern Tryz.prog 184 _ (ReflectliteValue.methodAny (ReflectliteValue.valueError "reflectlite.Value.Type" 0) (fun t _ _ _ => ReflectliteType.toType t)) Tryz.func184 (by kernel_rfl) (by kernel_rfl) (by kernel_rfl) (by kernel_rfl)
 have h34 := @run_callFunc_extern Tryz.prog 185 _ (ReflectliteValue.method (ReflectliteValue.valueError "reflectlite.Value.IsNil" 0) ReflectliteValue.isNil) Tryz.func185 (by kernel_rfl) (by kernel_rfl) (by kernel_rfl) (by kernel_rfl)
 have h76 := @run_callFunc_extern Tryz.prog 224 _ (ReflectliteType.abiMethod fun t => do pure (.int .u8 (← Rtype.kind t))) Tryz.func224 (by kernel_rfl) (by kernel_rfl) (by kernel_rfl) (by kernel_rfl);have h88 := @run_callFunc_extern Tryz.prog 238 _ (ReflectliteType.method ReflectliteType.elem) Tryz.func238 (by kernel_rfl) (by kernel_rfl) (by kernel_rfl) (by kernel_rfl);have h89 := @run_callFunc_extern Tryz.prog 239 _ (ReflectliteType.relation "Implements" ReflectliteType.implements_) Tryz.func239 (by kernel_rfl) (by kernel_rfl) (by kernel_rfl) (by kernel_rfl)
 have h42 := @run_callFunc_extern Tryz.prog 196 _ ReflectliteType.typeOf Tryz.func196 (by kernel_rfl) (by kernel_rfl) (by kernel_rfl) (by kernel_rfl);have h86 := @run_callFunc_extern Tryz.prog 236 _ (ReflectliteType.relation "AssignableTo" ReflectliteType.assignableTo) Tryz.func236 (by kernel_rfl) (by kernel_rfl) (by kernel_rfl) (by kernel_rfl)
 have h43 := @run_callFunc_extern Tryz.prog 197 _ (ReflectliteValue.method (ReflectliteValue.valueError "reflectlite.Value.Elem" 0) ReflectliteValue.elem) Tryz.func197 (by kernel_rfl) (by kernel_rfl) (by kernel_rfl) (by kernel_rfl)
 have h44 := @run_callFunc_extern Tryz.prog 198 _ ReflectliteValue.set Tryz.func198 (by kernel_rfl) (by kernel_rfl) (by kernel_rfl) (by kernel_rfl);have tO := Vk;have tP := Vl;have mA := qN;have a23 := DU;have a40 := DV;have v23 := PN;have f6 := PI;have f7 := ZU;have mK := MW;have mE := MX;have mI := um;have k52 := ZV;have k23 := ZW;have e52 := ZX;have i23 := DT;have nA := zbz;have hU := PM;have mU := DW;have n8 := Yk ⟨w.heap.size,0,none⟩ t ((w.alloc (.cells #[.pointer (some t)] 208)).alloc (.cells #[.pointer (some ⟨8,208,none⟩),.pointer (some ⟨w.heap.size,0,none⟩),.int .u64 150] 222)) (by simp);have hlt : 2 < w.heap.size := by
  rcases Nat.lt_or_ge 2 w.heap.size with h | h
  ·exact h
  ·simp [World.cell?,Array.getElem?_eq_none h] at hg
 have hg2 : ((w.alloc (.cells #[.pointer (some t)] 208)).alloc (.cells #[.pointer (some ⟨8,208,none⟩),.pointer (some ⟨w.heap.size,0,none⟩),.int .u64 150] 222)).cell? ⟨2,0,none⟩ = some (.iface 237 (.agg #[.pointer (some ⟨8,61,none⟩)])) := by rw [World.cell?_alloc_lt _ _ ⟨2,0,none⟩ (by simp;omega),World.cell?_alloc_lt _ _ ⟨2,0,none⟩ hlt];exact hg
 have htl : t.block < w.heap.size := by
  rcases Nat.lt_or_ge t.block w.heap.size with h | h
  ·exact h
  ·simp [World.cell?,Array.getElem?_eq_none h] at ht0
 have hpl : p < w.heap.size := by
  rcases Nat.lt_or_ge p w.heap.size with h | h
  ·exact h
  ·simp [World.cell?,Array.getElem?_eq_none h] at hp
 have hp2 : (((w.alloc (.cells #[.pointer (some t)] 208)).alloc (.cells #[.pointer (some ⟨8,208,none⟩),.pointer (some ⟨w.heap.size,0,none⟩),.int .u64 150] 222)).alloc (.cells #[.pointer (some ⟨8,208,none⟩),.pointer (some ⟨w.heap.size,0,none⟩),.int .u64 150] 222)).cell? ⟨p,po,none⟩ = some (.iface 31 (.int .i64 k)) := by rw [World.cell?_alloc_lt _ _ ⟨p,po,none⟩ (by simp;omega),World.cell?_alloc_lt _ _ ⟨p,po,none⟩ (by simp;omega),World.cell?_alloc_lt _ _ ⟨p,po,none⟩ hpl];exact hp
 have el := Yl ⟨w.heap.size,0,none⟩ t (((w.alloc (.cells #[.pointer (some t)] 208)).alloc (.cells #[.pointer (some ⟨8,208,none⟩),.pointer (some ⟨w.heap.size,0,none⟩),.int .u64 150] 222)).alloc (.cells #[.pointer (some ⟨8,208,none⟩),.pointer (some ⟨w.heap.size,0,none⟩),.int .u64 150] 222)) (by rw [World.cell?_alloc_lt _ _ ⟨w.heap.size,0,none⟩ (by simp;omega)];simp);have st := za9 t ⟨w.heap.size + 1 + 1 + 1,0,none⟩ k old ((((w.alloc (.cells #[.pointer (some t)] 208)).alloc (.cells #[.pointer (some ⟨8,208,none⟩),.pointer (some ⟨w.heap.size,0,none⟩),.int .u64 150] 222)).alloc (.cells #[.pointer (some ⟨8,208,none⟩),.pointer (some ⟨w.heap.size,0,none⟩),.int .u64 150] 222)).alloc (.cells #[.int .i64 k] 31))
  (by rw [World.cell?_alloc_at _ _ _ _ (by simp)];rfl)
  (by rw [World.cell?_alloc_lt _ _ t (by simp;omega),World.cell?_alloc_lt _ _ t (by simp;omega),World.cell?_alloc_lt _ _ t (by simp;omega),World.cell?_alloc_lt _ _ t htl];exact ht0)
  (by rw [World.frozen?_alloc_old _ _ t (by simp;omega),World.frozen?_alloc_old _ _ t (by simp;omega),World.frozen?_alloc_old _ _ t (by simp;omega),World.frozen?_alloc_old _ _ t (Nat.ne_of_lt htl)];exact hf0)
 go_enter Tryz.func163,Tryz.ntmps163
 go_wp2
 refine wp_loop_rounds 2 ?_;rw [rounds_succ]
 go_wp2
 rw [rounds_succ]
 go_wp2
 go_ret
 exact ⟨rfl,rfl⟩
open Go.Shelf
open Go.Lib
open Go.Sort
def Yn : Go.Shelf.Ren := ⟨fun | 171 => 34 | 243 => 74 | 246 => 125 | 283 => 153 | 284 => 154 | 285 => 155 | 286 => 156 | 129 => 173 | 317 => 172 | 318 => 174 | 319 => 175 | 320 => 176 | 337 => 193 | 338 => 194 | n => n,fun | 3 => 3 | 9 => 9 | 2 => 2 | 4 => 4 | 171 => 197 | 0 => 0 | 53 => 198 | 37 => 55 | 5 => 5 | 173 => 201 | 212 => 214 | 51 => 215 | 20 => 20 | 213 => 216 | 46 => 123 | 232 => 256 | 233 => 257 | n => n,fun | 17 => 1 | 18 => 4 | 19 => 5 | n => n⟩
theorem zba : Go.Proofs.LaysM.n171 Tryz.prog Yn where
 mixed := by kernel_rfl
 f129 := Tryz.func173.trans (congrArg some (by kernel_rfl))
 f171 := Tryz.func34.trans (congrArg some (by kernel_rfl))
 f243 := Tryz.func74.trans (congrArg some (by kernel_rfl))
 f246 := Tryz.func125.trans (congrArg some (by kernel_rfl))
 f283 := Tryz.func153.trans (congrArg some (by kernel_rfl))
 f284 := Tryz.func154.trans (congrArg some (by kernel_rfl))
 f285 := Tryz.func155.trans (congrArg some (by kernel_rfl))
 f286 := Tryz.func156.trans (congrArg some (by kernel_rfl))
 f317 := Tryz.func172.trans (congrArg some (by kernel_rfl))
 f318 := Tryz.func174.trans (congrArg some (by kernel_rfl))
 f319 := Tryz.func175.trans (congrArg some (by kernel_rfl))
 f320 := Tryz.func176.trans (congrArg some (by kernel_rfl))
 f337 := Tryz.func193.trans (congrArg some (by kernel_rfl))
 f338 := Tryz.func194.trans (congrArg some (by kernel_rfl))
 t0 := Tryz.underlying0
 a0 := Tryz.isAgg0
 z0 := Tryz.sizeOf0
 v0 := Tryz.zeroValue0
 t2 := Tryz.underlying2
 a2 := Tryz.isAgg2
 z2 := Tryz.sizeOf2
 v2 := Tryz.zeroValue2
 t3 := Tryz.underlying3
 a3 := Tryz.isAgg3
 z3 := Tryz.sizeOf3
 v3 := Tryz.zeroValue3
 t4 := Tryz.underlying4
 a4 := Tryz.isAgg4
 z4 := Tryz.sizeOf4
 v4 := Tryz.zeroValue4
 t5 := Tryz.underlying5
 a5 := Tryz.isAgg5
 z5 := Tryz.sizeOf5
 v5 := Tryz.zeroValue5
 t9 := Tryz.underlying9
 a9 := Tryz.isAgg9
 z9 := Tryz.sizeOf9
 v9 := Tryz.zeroValue9
 t20 := Tryz.underlying20
 a20 := Tryz.isAgg20
 z20 := Tryz.sizeOf20
 v20 := Tryz.zeroValue20
 t37 := Tryz.underlying55
 a37 := Tryz.isAgg55
 z37 := Tryz.sizeOf55
 v37 := Tryz.zeroValue55
 t46 := Tryz.underlying123
 a46 := Tryz.isAgg123
 z46 := Tryz.sizeOf123
 v46 := Tryz.zeroValue123
 t51 := Tryz.underlying215
 a51 := Tryz.isAgg215
 z51 := Tryz.sizeOf215
 v51 := Tryz.zeroValue215
 t53 := Tryz.underlying198
 a53 := Tryz.isAgg198
 z53 := Tryz.sizeOf198
 v53 := Tryz.zeroValue198
 t171 := Tryz.underlying197
 a171 := Tryz.isAgg197
 z171 := Tryz.sizeOf197
 v171 := Tryz.zeroValue197
 t173 := Tryz.underlying201
 a173 := Tryz.isAgg201
 z173 := Tryz.sizeOf201
 v173 := Tryz.zeroValue201
 t212 := Tryz.underlying214
 a212 := Tryz.isAgg214
 z212 := Tryz.sizeOf214
 v212 := Tryz.zeroValue214
 t213 := Tryz.underlying216
 a213 := Tryz.isAgg216
 z213 := Tryz.sizeOf216
 t232 := Tryz.underlying256
 a232 := Tryz.isAgg256
 z232 := Tryz.sizeOf256
 v232 := Tryz.zeroValue256
 t233 := Tryz.underlying257
 a233 := Tryz.isAgg257
 z233 := Tryz.sizeOf257
 v233 := Tryz.zeroValue257
 g17 := by kernel_rfl
 g18 := by kernel_rfl
 g19 := by kernel_rfl
 i0 := by kernel_rfl
 i2 := by kernel_rfl
 i3 := by kernel_rfl
 i4 := by kernel_rfl
 i5 := by kernel_rfl
 i9 := by kernel_rfl
 i20 := by kernel_rfl
 i37 := by kernel_rfl
 i46 := by kernel_rfl
 i51 := by kernel_rfl
 i53 := by kernel_rfl
 i171 := by kernel_rfl
 i173 := by kernel_rfl
 i212 := by kernel_rfl
 i232 := by kernel_rfl
 i233 := by kernel_rfl
 m17 := by kernel_rfl
 m18 := by kernel_rfl
 m19 := by kernel_rfl
def Yo : Go.Shelf.Ren := ⟨fun | 172 => 164 | 244 => 187 | 245 => 188 | 247 => 199 | 279 => 200 | 280 => 201 | 281 => 202 | 282 => 203 | 287 => 205 | 316 => 206 | 171 => 34 | 205 => 207 | 321 => 208 | 322 => 209 | 243 => 74 | 246 => 125 | 283 => 153 | 284 => 154 | 285 => 155 | 286 => 156 | 129 => 173 | 317 => 172 | 318 => 174 | 319 => 175 | 320 => 176 | 337 => 193 | 338 => 194 | n => n,fun | 9 => 9 | 3 => 3 | 75 => 61 | 76 => 62 | 4 => 4 | 5 => 5 | 167 => 250 | 37 => 55 | 0 => 0 | 85 => 251 | 2 => 2 | 168 => 253 | 53 => 198 | 175 => 258 | 46 => 123 | 210 => 262 | 127 => 126 | 145 => 267 | 143 => 265 | 21 => 21 | 171 => 197 | 173 => 201 | 212 => 214 | 51 => 215 | 20 => 20 | 213 => 216 | 232 => 256 | 233 => 257 | 80 => 67 | n => n,fun | 15 => 6 | 16 => 7 | 17 => 1 | 18 => 4 | 19 => 5 | n => n⟩
theorem Z4 : Go.Proofs.LaysC.n172 Tryz.prog Yo where
 mixed := by kernel_rfl
 f129 := Tryz.func173.trans (congrArg some (by kernel_rfl))
 f171 := Tryz.func34.trans (congrArg some (by kernel_rfl))
 f172 := Tryz.func164.trans (congrArg some (by kernel_rfl))
 f205 := Tryz.func207.trans (congrArg some (by kernel_rfl))
 f243 := Tryz.func74.trans (congrArg some (by kernel_rfl))
 f244 := Tryz.func187.trans (congrArg some (by kernel_rfl))
 f245 := Tryz.func188.trans (congrArg some (by kernel_rfl))
 f246 := Tryz.func125.trans (congrArg some (by kernel_rfl))
 f247 := Tryz.func199.trans (congrArg some (by kernel_rfl))
 f279 := Tryz.func200.trans (congrArg some (by kernel_rfl))
 f280 := Tryz.func201.trans (congrArg some (by kernel_rfl))
 f281 := Tryz.func202.trans (congrArg some (by kernel_rfl))
 f282 := Tryz.func203.trans (congrArg some (by kernel_rfl))
 f283 := Tryz.func153.trans (congrArg some (by kernel_rfl))
 f284 := Tryz.func154.trans (congrArg some (by kernel_rfl))
 f285 := Tryz.func155.trans (congrArg some (by kernel_rfl))
 f286 := Tryz.func156.trans (congrArg some (by kernel_rfl))
 f287 := Tryz.func205.trans (congrArg some (by kernel_rfl))
 f316 := Tryz.func206.trans (congrArg some (by kernel_rfl))
 f317 := Tryz.func172.trans (congrArg some (by kernel_rfl))
 f318 := Tryz.func174.trans (congrArg some (by kernel_rfl))
 f319 := Tryz.func175.trans (congrArg some (by kernel_rfl))
 f320 := Tryz.func176.trans (congrArg some (by kernel_rfl))
 f321 := Tryz.func208.trans (congrArg some (by kernel_rfl))
 f322 := Tryz.func209.trans (congrArg some (by kernel_rfl))
 f337 := Tryz.func193.trans (congrArg some (by kernel_rfl))
 f338 := Tryz.func194.trans (congrArg some (by kernel_rfl))
 t0 := Tryz.underlying0
 a0 := Tryz.isAgg0
 z0 := Tryz.sizeOf0
 v0 := Tryz.zeroValue0
 t2 := Tryz.underlying2
 a2 := Tryz.isAgg2
 z2 := Tryz.sizeOf2
 v2 := Tryz.zeroValue2
 t3 := Tryz.underlying3
 a3 := Tryz.isAgg3
 z3 := Tryz.sizeOf3
 v3 := Tryz.zeroValue3
 t4 := Tryz.underlying4
 a4 := Tryz.isAgg4
 z4 := Tryz.sizeOf4
 v4 := Tryz.zeroValue4
 t5 := Tryz.underlying5
 a5 := Tryz.isAgg5
 z5 := Tryz.sizeOf5
 v5 := Tryz.zeroValue5
 t9 := Tryz.underlying9
 a9 := Tryz.isAgg9
 z9 := Tryz.sizeOf9
 v9 := Tryz.zeroValue9
 t20 := Tryz.underlying20
 a20 := Tryz.isAgg20
 z20 := Tryz.sizeOf20
 v20 := Tryz.zeroValue20
 t21 := Tryz.underlying21
 a21 := Tryz.isAgg21
 z21 := Tryz.sizeOf21
 v21 := Tryz.zeroValue21
 t37 := Tryz.underlying55
 a37 := Tryz.isAgg55
 z37 := Tryz.sizeOf55
 v37 := Tryz.zeroValue55
 t46 := Tryz.underlying123
 a46 := Tryz.isAgg123
 z46 := Tryz.sizeOf123
 v46 := Tryz.zeroValue123
 t51 := Tryz.underlying215
 a51 := Tryz.isAgg215
 z51 := Tryz.sizeOf215
 v51 := Tryz.zeroValue215
 t53 := Tryz.underlying198
 a53 := Tryz.isAgg198
 z53 := Tryz.sizeOf198
 v53 := Tryz.zeroValue198
 t75 := Tryz.underlying61
 a75 := Tryz.isAgg61
 z75 := Tryz.sizeOf61
 v75 := Tryz.zeroValue61
 t76 := Tryz.underlying62
 a76 := Tryz.isAgg62
 z76 := Tryz.sizeOf62
 v76 := Tryz.zeroValue62
 t85 := Tryz.underlying251
 a85 := Tryz.isAgg251
 z85 := Tryz.sizeOf251
 v85 := Tryz.zeroValue251
 t127 := Tryz.underlying126
 a127 := Tryz.isAgg126
 z127 := Tryz.sizeOf126
 v127 := Tryz.zeroValue126
 t143 := Tryz.underlying265
 a143 := Tryz.isAgg265
 z143 := Tryz.sizeOf265
 v143 := Tryz.zeroValue265
 t145 := Tryz.underlying267
 a145 := Tryz.isAgg267
 z145 := Tryz.sizeOf267
 v145 := Tryz.zeroValue267
 t167 := Tryz.underlying250
 a167 := Tryz.isAgg250
 z167 := Tryz.sizeOf250
 v167 := Tryz.zeroValue250
 t168 := Tryz.underlying253
 a168 := Tryz.isAgg253
 z168 := Tryz.sizeOf253
 v168 := Tryz.zeroValue253
 t171 := Tryz.underlying197
 a171 := Tryz.isAgg197
 z171 := Tryz.sizeOf197
 v171 := Tryz.zeroValue197
 t173 := Tryz.underlying201
 a173 := Tryz.isAgg201
 z173 := Tryz.sizeOf201
 v173 := Tryz.zeroValue201
 t175 := Tryz.underlying258
 a175 := Tryz.isAgg258
 z175 := Tryz.sizeOf258
 v175 := Tryz.zeroValue258
 t210 := Tryz.underlying262
 a210 := Tryz.isAgg262
 z210 := Tryz.sizeOf262
 v210 := Tryz.zeroValue262
 t212 := Tryz.underlying214
 a212 := Tryz.isAgg214
 z212 := Tryz.sizeOf214
 v212 := Tryz.zeroValue214
 t213 := Tryz.underlying216
 a213 := Tryz.isAgg216
 z213 := Tryz.sizeOf216
 t232 := Tryz.underlying256
 a232 := Tryz.isAgg256
 z232 := Tryz.sizeOf256
 v232 := Tryz.zeroValue256
 t233 := Tryz.underlying257
 a233 := Tryz.isAgg257
 z233 := Tryz.sizeOf257
 v233 := Tryz.zeroValue257
 g15 := by kernel_rfl
 g16 := by kernel_rfl
 g17 := by kernel_rfl
 g18 := by kernel_rfl
 g19 := by kernel_rfl
 t80 := Tryz.underlying67
 a80 := Tryz.isAgg67
 z80 := Tryz.sizeOf67
 v80 := Tryz.zeroValue67
 i0 := by kernel_rfl
 i2 := by kernel_rfl
 i3 := by kernel_rfl
 i4 := by kernel_rfl
 i5 := by kernel_rfl
 i9 := by kernel_rfl
 i20 := by kernel_rfl
 i21 := by kernel_rfl
 i37 := by kernel_rfl
 i46 := by kernel_rfl
 i51 := by kernel_rfl
 i53 := by kernel_rfl
 i75 := by kernel_rfl
 i76 := by kernel_rfl
 i80 := by kernel_rfl
 i85 := by kernel_rfl
 i127 := by kernel_rfl
 i143 := by kernel_rfl
 i145 := by kernel_rfl
 i167 := by kernel_rfl
 i168 := by kernel_rfl
 i171 := by kernel_rfl
 i173 := by kernel_rfl
 i175 := by kernel_rfl
 i210 := by kernel_rfl
 i212 := by kernel_rfl
 i232 := by kernel_rfl
 i233 := by kernel_rfl
 m15 := by kernel_rfl
 m16 := by kernel_rfl
 m17 := by kernel_rfl
 m18 := by kernel_rfl
 m19 := by kernel_rfl
 c0 := by kernel_rfl
 c2 := by kernel_rfl
 c3 := by kernel_rfl
 c4 := by kernel_rfl
 c5 := by kernel_rfl
 c9 := by kernel_rfl
 c20 := by kernel_rfl
 c21 := by kernel_rfl
 c37 := by kernel_rfl
 c46 := by kernel_rfl
 c51 := by kernel_rfl
 c53 := by kernel_rfl
 c75 := by kernel_rfl
 c76 := by kernel_rfl
 c80 := by kernel_rfl
 c85 := by kernel_rfl
 c127 := by kernel_rfl
 c143 := by kernel_rfl
 c145 := by kernel_rfl
 c167 := by kernel_rfl
 c168 := by kernel_rfl
 c171 := by kernel_rfl
 c173 := by kernel_rfl
 c175 := by kernel_rfl
 c210 := by kernel_rfl
 c212 := by kernel_rfl
 c213 := by kernel_rfl
 c232 := by kernel_rfl
 c233 := by kernel_rfl
theorem Yp (n : Int) (h0 : -9223372036854775808 ≤ n) (h1 : n ≤ 9223372036854775807) (w : World) (htab : Lib.TabIs Tryz.prog w "internal/strconv.uint64pow10" .u64 Lib.pow10Tab) :
 Calls Tryz.prog 34 #[.int .i64 n] w fun e w' => e = .returned (.string ⟨(Lib.itoa n).toArray⟩) ∧ ∃ k os,w' = grow (w.drewN k) os := Any.strconv_Itoa zba n h0 h1 w htab
theorem Yq (s : ByteArray) (hmax : s.size ≤ 9223372036854775806) (v : Int) (h : Lib.atoiAll s.data.toList = .ok v) (w : World) :
 Calls Tryz.prog 164 #[.string s] w fun e w' => e = .returned (.tuple #[.int .i64 v,.nilIface]) ∧ (w' = w ∨ ∃ t,w' = Lib.bytesWorld w 5 t) := Any.strconv_Atoi_ok Z4 s hmax v h w
theorem MZ (s : ByteArray) (hlim : s.size ≤ 281474976710656) (h : Lib.atoiAll s.data.toList = .range) (ev : Value) (w : World) (hv : w.cell? ⟨7,0,none⟩ = some ev) (hev : ev = .nilIface ∨ ∃ te pe,ev = .iface te pe) :
 Calls Tryz.prog 164 #[.string s] w fun e w' => ∃ N,e = .returned (.tuple #[.int .i64 (Lib.atoiSat s.data.toList),.iface 253 (.pointer (some ⟨N,0,none⟩))]) ∧ w.heap.size ≤ N ∧ w'.heap[N]? = some (.cells #[.string ⟨#[65,116,111,105]⟩,.string s,ev] 262 (0,0)) ∧ RowKit.Below w.heap.size w w' := Any.strconv_Atoi_range Z4 s hlim h ev w hv hev
end Go.Proofs.YtfcpapokknfeeaaGreatDoor
