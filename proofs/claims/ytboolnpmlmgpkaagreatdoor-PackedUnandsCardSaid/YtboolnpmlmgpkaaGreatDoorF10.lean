/- Lemmas for the statement of this claim, part F10: they hold with no conditions but those that each one names. -/
import Derived.Test.YtboolnpmlmgpkaaGreatDoorF09
import Derived.Test.YtboolnpmlmgpkaaGreatDoorA11
import Derived.Test.YtboolnpmlmgpkaaGreatDoorF03
import Derived.Test.YtboolnpmlmgpkaaGreatDoorA10
set_option linter.unusedVariables false
set_option maxRecDepth 20000
set_option linter.unusedSimpArgs false
set_option linter.unnecessarySimpa false
namespace Go.Proofs.YtboolnpmlmgpkaaGreatDoor
open Go Go.Proofs Go.Abs
def lnG : Cl → S
 | [] => [10]
 | n :: l => 32 :: (Lib.itoa n ++ lnG l)
def lnT : Cl → S
 | [] => [10]
 | n :: l => Lib.itoa n ++ lnG l
def nmT (c : UInt8) : Nat → List S → S
 | _, [] => []
 | i, s :: l => c :: (Lib.itoa i ++ 32 :: (s ++ 10 :: nmT c (i + 1) l))
def zcB (m : Mo) : S := nmT 105 0 m.ins ++ (nmT 108 0 m.lat ++ nmT 111 0 m.out)
def zpp (g : Gr) (i : Nat) : Cl := 2 * (1 + g.ins + (i : Int)) :: g.next.getD i 0 :: (if g.init.getD i 0 = 0 then [] else if g.init.getD i 0 = 1 then [1] else [2 * (1 + g.ins + (i : Int))])
def zaV (g : Gr) : Cl := [g.first - 1 + (g.ands.length : Int), g.ins, (g.next.length : Int), (g.outs.length : Int), (g.ands.length : Int)]
def zsc (n : Nat) : S := (List.range n).flatMap fun i : Nat => lnT [2 * ((i : Int) + 1)]
def zmY (g : Gr) (n : Nat) : S := (List.range n).flatMap fun i : Nat => lnT (zpp g i)
def zez (l : Cl) (n : Nat) : S := (List.range n).flatMap fun i : Nat => lnT [l.getD i 0]
def zmZ (g : Gr) (n : Nat) : S := (List.range n).flatMap fun i : Nat => lnT [2 * (g.first + (i : Int)), (g.ands.getD i (0, 0)).1, (g.ands.getD i (0, 0)).2]
def zoy (g : Gr) : S := [97, 97, 103, 32] ++ (lnT (zaV g) ++ (zsc g.ins.toNat ++ (zmY g g.next.length ++ (zez g.outs g.outs.length ++ zmZ g g.ands.length))))
def zoz (m : Mo) : S := zoy m.g ++ zcB m
abbrev RE (α : Type) := Except (Nat × Int) α
def zeN (s : S) (a : Nat) : RE (Int × Nat) := if (zfT s a).2.2 = 0 then .ok ((zfT s a).1, (zfT s a).2.1.toNat) else .error (a, 3)
def zbX (s : S) (c : UInt8) (a : Nat) : RE Nat := if zdj s a c = true then .ok (a + 1) else .error (a, 2)
def zck (s : S) : Nat → Nat → Cl → RE (Cl × Nat)
 | 0, a, l => .ok (l, a)
 | k + 1, a, l => if zdj s a 32 = true then (match zeN s (a + 1) with
  | .ok (n, b) => zck s k b (l ++ [n])
  | .error e => .error e) else .ok (l, a)
def hd9 (l : Cl) : Cl := l ++ List.replicate (9 - l.length) 0
def zg5 (h : Cl) : Bool := decide (h.getD 0 0 ≤ 4000) && decide (h.getD 1 0 + h.getD 2 0 + h.getD 4 0 ≤ h.getD 0 0) && decide (h.getD 3 0 + h.getD 5 0 + h.getD 6 0 ≤ 4000)
def zdI (s magic : S) : RE (Cl × Nat) :=
 if magic.isPrefixOf s = true then (match zck s 9 magic.length [] with
  | .ok (l, a) => if 5 ≤ l.length then (match zbX s 10 a with
   | .ok b => if (hd9 l).getD 7 0 = 0 ∧ (hd9 l).getD 8 0 = 0 then if zg5 (hd9 l) = true then .ok (hd9 l, b) else .error (0, 8) else .error (0, 9)
   | .error e => .error e) else .error (a, 2)
  | .error e => .error e) else .error (0, 2)
abbrev Us := Int × Nat
structure An where
 lit : Int
 pos : Nat
 p : Us
 q : Us
structure Fi where
 a : Nat
 D : Cl
 ins : Cl
 lats : Cl
 next : List Us
 init : Cl
 outs : List Us
 ands : List An
def zsC (s : S) (mo : Int) (x : Fi) : RE (Int × Fi) :=
 match zeN s x.a with
 | .error e => .error e
 | .ok (n, b) => if n % 2 = 0 ∧ 2 ≤ n ∧ n ≤ mo then if n / 2 ∈ x.D then .error (x.a, 5) else .ok (n, { x with a := b, D := x.D ++ [n / 2] }) else .error (x.a, 1)
def zsO (s : S) (mo : Int) (x : Fi) : RE (Us × Fi) :=
 match zeN s x.a with
 | .error e => .error e
 | .ok (n, b) => if n ≤ mo then .ok ((n, x.a), { x with a := b }) else .error (x.a, 1)
def zqj (s : S) (c : UInt8) (x : Fi) : RE Fi := if zdj s x.a c = true then .ok { x with a := x.a + 1 } else .error (x.a, 2)
def zrG (s : S) (mo : Int) (x : Fi) : RE Fi :=
 match zsC s mo x with
 | .error e => .error e
 | .ok (n, y) => zqj s 10 { y with ins := y.ins ++ [n] }
def zrH (s : S) (lit : Int) (x : Fi) : RE (Int × Fi) :=
 if zdj s x.a 32 = true then (match zeN s (x.a + 1) with
  | .error e => .error e
  | .ok (n, b) => if n < 2 ∨ n = lit then .ok (n, { x with a := b }) else .error (x.a + 1, 1)) else .ok (0, x)
def zrI (s : S) (mo : Int) (x : Fi) : RE Fi :=
 match zsC s mo x with
 | .error e => .error e
 | .ok (lit, y) => match zqj s 32 y with
  | .error e => .error e
  | .ok y => match zsO s mo y with
   | .error e => .error e
   | .ok (u, y) => match zrH s lit { y with next := y.next ++ [u] } with
    | .error e => .error e
    | .ok (n, y) => zqj s 10 { y with lats := y.lats ++ [lit], init := y.init ++ [min n 2] }
def zsn (f : Fi → RE Fi) : Nat → Fi → RE Fi
 | 0, x => .ok x
 | n + 1, x => match f x with
  | .error e => .error e
  | .ok y => zsn f n y
def zk7 (c : UInt8) : Option Nat := [(105 : UInt8), 108, 111, 98, 99].findIdx? (· == c)
def zm0 (s : S) (a : Nat) : Bool := ([99, 10] : S).isPrefixOf (s.drop a) || s.drop a == [99]
def zeb (s : S) (L : List (List S)) (a : Nat) : RE (List (List S) × Nat) :=
 match zk7 (s.getD a 0) with
 | none => .error (a, 2)
 | some k => match zeN s (a + 1) with
  | .error e => .error e
  | .ok (n, b) => match zbX s 32 b with
   | .error e => .error e
   | .ok b =>
    if b + ((s.drop b).takeWhile (· != 10)).length < s.length then
     if n < ((L.getD k []).length : Int) then
      if zaY ((s.drop b).takeWhile (· != 10)) = true then
       if (L.getD k []).getD n.toNat [] = [] then .ok (L.set k ((L.getD k []).set n.toNat ((s.drop b).takeWhile (· != 10))), b + ((s.drop b).takeWhile (· != 10)).length + 1) else .error (a, 5)
      else .error (b, 4)
     else .error (a + 1, 1)
    else .error (s.length, 2)
def zdR (s : S) : Nat → List (List S) → Nat → RE (List (List S))
 | 0, L, _ => .ok L
 | k + 1, L, a => if a < s.length ∧ zm0 s a = false then (match zeb s L a with
  | .error e => .error e
  | .ok (L, b) => zdR s k L b) else .ok L
def zbl (c : UInt8) : Nat → List S → List S
 | _, [] => []
 | i, x :: l => (if x = [] then c :: Lib.itoa i else x) :: zbl c (i + 1) l
def zk8 (L : List (List S)) : List (List S) := [zbl 105 0 (L.getD 0 []), zbl 108 0 (L.getD 1 []), zbl 111 0 (L.getD 2 []), zbl 98 0 (L.getD 3 []), zbl 99 0 (L.getD 4 [])]
def zeA (many : Cl) : List (List S) := many.map fun n => List.replicate (min (max n 0) 4000).toNat []
def ziD (s : S) (many : Cl) (a : Nat) : RE (List (List S)) :=
 match zdR s (s.length + 1) (zeA many) a with
 | .error e => .error e
 | .ok L => .ok (zk8 L)
def An.nil : An := ⟨0, 0, (0, 0), (0, 0)⟩
def zso (D : Cl) : Cl → Int → Cl → Cl
 | V, _, [] => V
 | V, k, l :: ls => zso D (V.set (D.idxOf (l / 2)) k) (k + 1) ls
def Fi.vals (x : Fi) (o : List Nat) : Cl :=
 zso x.D (zso x.D (x.D.map fun _ => 0) 1 (x.ins ++ x.lats)) (1 + (x.ins.length : Int) + x.lats.length) (o.map fun k => (x.ands.getD k .nil).lit)
def Fi.start (a : Nat) : Fi := ⟨a, [0], [], [], [], [], [], []⟩
def Fi.left (x : Fi) : Cl := x.ands.map fun a => a.lit / 2
theorem zch {s : S} {a : Nat} {c : UInt8} {r : S} (h : s.drop a = c :: r) : zdj s a c = true ∧ s.drop (a + 1) = r ∧ a < s.length ∧ (∀ d, d ≠ c → zdj s a d = false) ∧ s.getD a 0 = c := by
 have e : s[a]? = some c := by
  have : s[a]? = (s.drop a)[0]? := by rw [List.getElem?_drop]; rfl
  rw [this, h]; rfl
 refine ⟨?_, ?_, (List.getElem?_eq_some_iff.1 e).1, fun d hd => ?_, ?_⟩
 ·unfold zdj; rw [e]; simp
 ·rw [← List.drop_drop, h]; rfl
 ·unfold zdj
  rw [e]
  cases hx : (some c == some d) with
  | false => rfl
  | true => exact absurd (by simpa using hx) (fun hh : c = d => hd hh.symm)
 ·rw [List.getD_eq_getElem?_getD, e]; rfl
theorem zm1 {p : UInt8 → Bool} {l : S} {c : UInt8} {r : S} (h : ∀ x ∈ l, p x = true) (hc : p c = false) : (l ++ c :: r).takeWhile p = l := by
 induction l with
 | nil => simp [hc]
 | cons a l ih => simp only [List.cons_append, List.takeWhile_cons, h a (by simp), if_true]; rw [ih fun x hx => h x (by simp [hx])]
theorem zjj {s : S} {a : Nat} {n : Int} {c : UInt8} {r : S} (h : s.drop a = Lib.itoa n ++ c :: r) (h0 : 0 ≤ n) (hn : n ≤ 2147483647) (hc : zP c = false) : ∃ b, zeN s a = .ok (n, b) ∧ s.drop b = c :: r ∧ b = a + (Lib.itoa n).length := by
 obtain ⟨k, rfl⟩ : ∃ k : Nat, n = k := ⟨n.toNat, by omega⟩
 rw [zgY] at h ⊢
 have hl : a < s.length := by
  have h1 := congrArg List.length h
  simp only [List.length_drop, List.length_append, List.length_cons] at h1
  omega
 have htw : (s.drop a).takeWhile zP = Lib.decDigits k := by rw [h]; exact zm1 (zqa k) hc
 have hg : zfT s a = ((k : Int), (a : Int) + ((Lib.decDigits k).length : Int), 0) := by
  unfold zfT
  rw [if_neg (by omega)]
  show (if (s.drop a).takeWhile zP ≠ [] ∧ zpc ((s.drop a).takeWhile zP) then _ else _) = _
  rw [htw, if_pos ⟨zpb k, by unfold zpc; rw [zmB]; exact ⟨by omega, rfl⟩⟩]
  show (((zcl 0 ((s.drop a).takeWhile zP) : Nat) : Int), (a : Int) + (((s.drop a).takeWhile zP).length : Int), (0 : Int)) = _
  rw [htw, zmB]
 refine ⟨a + (Lib.decDigits k).length, ?_, by rw [← List.drop_drop, h, List.drop_left], rfl⟩
 unfold zeN
 rw [hg, if_pos rfl]
 show Except.ok ((k : Int), ((a : Int) + ((Lib.decDigits k).length : Int)).toNat) = _
 rw [show ((a : Int) + ((Lib.decDigits k).length : Int)).toNat = a + (Lib.decDigits k).length by omega]
theorem zoA : zP 10 = false := by decide
theorem zqk : zP 32 = false := by decide
theorem zpq (l : Cl) : ∃ c r, lnG l = c :: r ∧ zP c = false := by
 cases l with
 | nil => exact ⟨10, [], rfl, zoA⟩
 | cons n l => exact ⟨32, _, rfl, zqk⟩
theorem zjZ {s : S} : ∀ (l : Cl) (k a : Nat) (acc : Cl) (r : S), (∀ n ∈ l, 0 ≤ n ∧ n ≤ 2147483647) → l.length ≤ k → s.drop a = lnG l ++ r → ∃ b, zck s k a acc = .ok (acc ++ l, b) ∧ s.drop b = 10 :: r
 | [], k, a, acc, r, _, hk, h => by
  have h' : s.drop a = 10 :: r := h
  refine ⟨a, ?_, h'⟩
  cases k with
  | zero => unfold zck; rw [List.append_nil]
  | succ k =>
   unfold zck
   rw [if_neg (by rw [(zch h').2.2.2.1 32 (by decide)]; decide), List.append_nil]
 | n :: l, k, a, acc, r, hl, hk, h => by
  obtain ⟨k, rfl⟩ : ∃ j, k = j + 1 := ⟨k - 1, by simp at hk; omega⟩
  have h' : s.drop a = 32 :: (Lib.itoa n ++ (lnG l ++ r)) := by rw [h]; simp [lnG]
  obtain ⟨a1, a2, _⟩ := zch h'
  obtain ⟨c, r', e, hc⟩ := zpq l
  have h2 := a2
  rw [e, List.cons_append] at h2
  obtain ⟨b, hb, hd, _⟩ := zjj h2 (hl n (by simp)).1 (hl n (by simp)).2 hc
  obtain ⟨b', hb', hd'⟩ := zjZ l k b (acc ++ [n]) r (fun x hx => hl x (by simp [hx])) (by simp at hk; omega) (by rw [hd, e]; rfl)
  refine ⟨b', ?_, hd'⟩
  unfold zck
  rw [if_pos a1, hb]
  dsimp only
  rw [hb', List.append_assoc]
  rfl
theorem zsp (l : Cl) (h : l ≠ []) : 32 :: lnT l = lnG l := by
 cases l with
 | nil => exact absurd rfl h
 | cons n l => rfl
theorem zoB {s magic : S} {l : Cl} {r : S} (h : s = magic ++ (lnG l ++ r)) (hl : ∀ n ∈ l, 0 ≤ n ∧ n ≤ 2147483647) (h5 : 5 ≤ l.length) (h7 : l.length ≤ 7) (hlim : zg5 (hd9 l) = true) : ∃ b, zdI s magic = .ok (hd9 l, b) ∧ s.drop b = r := by
 have hd : s.drop magic.length = lnG l ++ r := by rw [h, List.drop_left]
 obtain ⟨b, hb, hb'⟩ := zjZ l 9 magic.length [] r hl (by omega) hd
 obtain ⟨a1, a2, _⟩ := zch hb'
 refine ⟨b + 1, ?_, a2⟩
 unfold zdI
 rw [if_pos (by rw [List.isPrefixOf_iff_prefix, h]; exact List.prefix_append _ _), hb]
 dsimp only
 rw [List.nil_append, if_pos h5]
 unfold zbX
 rw [if_pos a1]
 dsimp only
 have z : ∀ i, 7 ≤ i → i < 9 → (hd9 l).getD i 0 = 0 := fun i h1 h2 => by
  unfold hd9
  rw [List.getD_eq_getElem?_getD, List.getElem?_append_right (by omega), List.getElem?_replicate]
  split <;> rfl
 rw [if_pos ⟨z 7 (by omega) (by omega), z 8 (by omega) (by omega)⟩, if_pos hlim]
def zsP (n : Nat) : Cl := (List.range n).map fun i : Nat => (i : Int)
def zcW (f : Nat → S) (i n : Nat) : S := (List.range' i (n - i)).flatMap f
theorem zcO {f : Nat → S} {i n : Nat} (h : i < n) : zcW f i n = f i ++ zcW f (i + 1) n := by
 unfold zcW
 rw [show n - i = (n - (i + 1)) + 1 by omega, List.range'_succ, List.flatMap_cons]
theorem zdJ {f : Nat → S} {n : Nat} : zcW f n n = [] := by unfold zcW; simp
theorem zbY {f : Nat → S} {n : Nat} : (List.range n).flatMap f = zcW f 0 n := by unfold zcW; rw [List.range_eq_range', Nat.sub_zero]
theorem zfx {l : Cl} {i : Nat} (h : i < l.length) : l.take (i + 1) = l.take i ++ [l.getD i 0] := by
 rw [List.take_add_one, List.getElem?_eq_getElem h, zt h]; rfl
def PL (s : S) (g : Gr) (r : S) (i : Nat) (x : Fi) : Prop := s.drop x.a = zcW (fun i : Nat => lnT (zpp g i)) i g.next.length ++ r ∧ x.D = zsP (1 + g.ins.toNat + i) ∧ x.ins = (List.range g.ins.toNat).map (fun j : Nat => 2 * ((j : Int) + 1)) ∧ x.lats = (List.range i).map (fun j : Nat => 2 * (1 + g.ins + (j : Int))) ∧ x.next.map Prod.fst = g.next.take i ∧ x.init = g.init.take i ∧ x.outs = [] ∧ x.ands = []
theorem zfy {s : S} (h : zaY s = true) : s ≠ [] ∧ ∀ c ∈ s, (c != 10) = true := by
 unfold zaY at h
 simp only [Bool.and_eq_true, decide_eq_true_eq, List.all_eq_true] at h
 refine ⟨fun e => by rw [e] at h; simp at h, fun c hc => ?_⟩
 have := h.1 c hc
 cases hx : c != 10 with
 | true => rfl
 | false =>
  have hx : c = 10 := by simpa using hx
  subst hx
  exact absurd this (by decide)
theorem zoC {s : S} {a : Nat} {c : UInt8} {k i : Nat} {x r : S} {L : List (List S)} (h : s.drop a = c :: (Lib.itoa (i : Int) ++ 32 :: (x ++ 10 :: r))) (hc : zk7 c = some k) (hi : i < (L.getD k []).length) (hin : i ≤ 100000) (hx : zaY x = true) (he : (L.getD k []).getD i [] = []) : ∃ b, zeb s L a = .ok (L.set k ((L.getD k []).set i x), b) ∧ s.drop b = r ∧ a < b := by
 obtain ⟨a1, a2, a3, a4, a5⟩ := zch h
 obtain ⟨b, hb, hd, hbe⟩ := zjj a2 (by omega) (by omega) zqk
 obtain ⟨b1, b2, _⟩ := zch hd
 have htw : (s.drop (b + 1)).takeWhile (· != 10) = x := by rw [b2]; exact zm1 (zfy hx).2 (by decide)
 have hlen : b + 1 + x.length < s.length := by
  have := congrArg List.length b2
  simp only [List.length_drop, List.length_append, List.length_cons] at this
  omega
 refine ⟨b + 1 + x.length + 1, ?_, ?_, by omega⟩
 ·unfold zeb
  rw [a5, hc]
  dsimp only
  rw [hb]
  dsimp only
  unfold zbX
  rw [if_pos b1]
  dsimp only
  rw [htw, if_pos hlen, if_pos (by omega), if_pos hx, Int.toNat_natCast, if_pos he]
 ·rw [Nat.add_assoc, ← List.drop_drop, b2, show x ++ 10 :: r = (x ++ [10]) ++ r by simp, show x.length + 1 = (x ++ [10]).length by simp, List.drop_left]
theorem zrJ {s : S} {a : Nat} {c : UInt8} {r : S} (h : s.drop a = c :: r) (hc : c ≠ 99) : zm0 s a = false := by
 unfold zm0
 rw [h]
 have : (99 == c) = false := by simpa using fun e : (99 : UInt8) = c => hc e.symm
 have h2 : ((c :: r) == ([99] : S)) = false := by
  cases hh : ((c :: r) == ([99] : S)) with
  | false => rfl
  | true =>
   have := eq_of_beq hh
   simp only [List.cons.injEq] at this
   exact absurd this.1 hc
 rw [h2, Bool.or_false]
 simp [List.isPrefixOf, this]
theorem zg6 {s : S} {c : UInt8} {k : Nat} (hc : zk7 c = some k) (h99 : c ≠ 99) : ∀ (l pre : List S) (f a : Nat) (L : List (List S)) (r : S), k < L.length → L.getD k [] = pre ++ List.replicate l.length [] → pre.length + l.length ≤ 100000 → (∀ x ∈ l, zaY x = true) → l.length ≤ f → s.drop a = nmT c pre.length l ++ r →
 ∃ b, zdR s f L a = zdR s (f - l.length) (L.set k (pre ++ l)) b ∧ s.drop b = r ∧ a + l.length ≤ b
 | [], pre, f, a, L, r, hk, hL, hn, ho, hf, h => by
  refine ⟨a, ?_, h, Nat.le_refl _⟩
  have : L.set k (pre ++ []) = L := by
   rw [List.append_nil]
   simp only [List.length_nil, List.replicate_zero, List.append_nil] at hL
   rw [← hL, zt hk, List.set_getElem_self]
  rw [this, List.length_nil, Nat.sub_zero]
 | x :: l, pre, f, a, L, r, hk, hL, hn, ho, hf, h => by
  obtain ⟨f, rfl⟩ : ∃ j, f = j + 1 := ⟨f - 1, by simp at hf; omega⟩
  rw [List.length_cons] at hn hf hL
  have h' : s.drop a = c :: (Lib.itoa (pre.length : Int) ++ 32 :: (x ++ 10 :: (nmT c (pre.length + 1) l ++ r))) := by rw [h]; simp [nmT]
  have hll : (L.getD k []).length = pre.length + (l.length + 1) := by rw [hL]; simp
  obtain ⟨b, hb, hd, hab⟩ := zoC (L := L) (k := k) (i := pre.length) (x := x) h' hc (by omega) (by omega) (ho x (by simp)) (by
   rw [hL, List.getD_eq_getElem?_getD, List.getElem?_append_right (Nat.le_refl _), Nat.sub_self, List.replicate_succ]
   rfl)
  have hset : (L.getD k []).set pre.length x = (pre ++ [x]) ++ List.replicate l.length [] := by
   rw [hL, List.set_append_right _ _ (Nat.le_refl _), Nat.sub_self, List.replicate_succ, List.set_cons_zero, List.append_assoc]
   rfl
  rw [hset] at hb
  have hk2 : k < (L.set k ((pre ++ [x]) ++ List.replicate l.length [])).length := by simpa using hk
  obtain ⟨b2, e2, e3, e4⟩ := zg6 hc h99 l (pre ++ [x]) f b (L.set k ((pre ++ [x]) ++ List.replicate l.length [])) r hk2 (by
   rw [zt hk2, List.getElem_set_self]) (by simp; omega) (fun y hy => ho y (by simp [hy])) (by omega) (by rw [hd]; simp)
  refine ⟨b2, ?_, e3, by rw [List.length_cons]; omega⟩
  have a3 := (zch h').2.2.1
  rw [show zdR s (f + 1) L a = zdR s f (L.set k ((pre ++ [x]) ++ List.replicate l.length [])) b by
   show (if a < s.length ∧ zm0 s a = false then _ else _) = _
   rw [if_pos ⟨a3, zrJ h' h99⟩, hb], e2, List.set_set, List.length_cons]
  congr 1
  ·omega
  ·congr 1; simp
theorem zrK : zk7 105 = some 0 := by decide +kernel
theorem zrL : zk7 108 = some 1 := by decide +kernel
theorem zrM : zk7 111 = some 2 := by decide +kernel
theorem zeO {c : UInt8} : ∀ {l : List S} {i : Nat}, (∀ x ∈ l, zaY x = true) → zbl c i l = l
 | [], i, _ => rfl
 | x :: l, i, h => by
  unfold zbl
  rw [if_neg (zfy (h x (by simp))).1, zeO fun y hy => h y (by simp [hy])]
theorem zg7 {c : UInt8} : ∀ {l : List S} {i : Nat}, l.length ≤ (nmT c i l).length
 | [], i => Nat.le_refl _
 | x :: l, i => by
  have := zg7 (c := c) (l := l) (i := i + 1)
  simp only [nmT, List.length_cons, List.length_append]
  omega
def zsq (r : S) : Prop := r = [] ∨ ∃ t, r = 99 :: 10 :: t
theorem zql {s : S} {f a : Nat} {L : List (List S)} {r : S} (h : s.drop a = r) (hr : zsq r) : zdR s f L a = .ok L := by
 cases f with
 | zero => rfl
 | succ f =>
  unfold zdR
  rw [if_neg]
  rintro ⟨h1, h2⟩
  rcases hr with rfl | ⟨t, rfl⟩
  ·rw [List.drop_eq_nil_iff] at h; omega
  ·unfold zm0 at h2
   rw [h] at h2
   simp [List.isPrefixOf] at h2
theorem zoD {s : S} {m : Mo} {n3 n4 : Nat} {a : Nat} {r : S} (hn : ∀ x, x ∈ m.ins ∨ x ∈ m.lat ∨ x ∈ m.out → zaY x = true) (li : m.ins.length ≤ 4000) (ll : m.lat.length ≤ 4000) (lo : m.out.length ≤ 4000) (h : s.drop a = zcB m ++ r) (hr : zsq r) :
 ziD s [(m.ins.length : Int), (m.lat.length : Int), (m.out.length : Int), 0, 0] a = .ok [m.ins, m.lat, m.out, [], []] := by
 have hm : zeA [(m.ins.length : Int), (m.lat.length : Int), (m.out.length : Int), 0, 0] = [List.replicate m.ins.length [], List.replicate m.lat.length [], List.replicate m.out.length [], [], []] := by
  unfold zeA
  have e : ∀ n : Nat, n ≤ 4000 → (min (max (n : Int) 0) 4000).toNat = n := fun n hn => by omega
  simp only [List.map_cons, List.map_nil, e _ li, e _ ll, e _ lo]
  rfl
 unfold ziD
 rw [hm]
 have hlen := congrArg List.length h
 have q1 := zg7 (c := 105) (l := m.ins) (i := 0)
 have q2 := zg7 (c := 108) (l := m.lat) (i := 0)
 have q3 := zg7 (c := 111) (l := m.out) (i := 0)
 simp only [List.length_drop, zcB, List.length_append] at hlen
 obtain ⟨b1, e1, d1, _⟩ := zg6 (s := s) zrK (by decide) m.ins [] (s.length + 1) a [List.replicate m.ins.length [], List.replicate m.lat.length [], List.replicate m.out.length [], [], []] (nmT 108 0 m.lat ++ (nmT 111 0 m.out ++ r)) (by simp) rfl (by simp; omega) (fun x hx => hn x (.inl hx)) (by omega) (by rw [h]; simp [zcB])
 obtain ⟨b2, e2, d2, _⟩ := zg6 (s := s) zrL (by decide) m.lat [] (s.length + 1 - m.ins.length) b1 [m.ins, List.replicate m.lat.length [], List.replicate m.out.length [], [], []] (nmT 111 0 m.out ++ r) (by simp) rfl (by simp; omega) (fun x hx => hn x (.inr (.inl hx))) (by omega) d1
 obtain ⟨b3, e3, d3, _⟩ := zg6 (s := s) zrM (by decide) m.out [] (s.length + 1 - m.ins.length - m.lat.length) b2 [m.ins, m.lat, List.replicate m.out.length [], [], []] r (by simp) rfl (by simp; omega) (fun x hx => hn x (.inr (.inr hx))) (by omega) d2
 have e1' : zdR s (s.length + 1) [List.replicate m.ins.length [], List.replicate m.lat.length [], List.replicate m.out.length [], [], []] a = zdR s (s.length + 1 - m.ins.length) [m.ins, List.replicate m.lat.length [], List.replicate m.out.length [], [], []] b1 := e1
 have e2' : zdR s (s.length + 1 - m.ins.length) [m.ins, List.replicate m.lat.length [], List.replicate m.out.length [], [], []] b1 = zdR s (s.length + 1 - m.ins.length - m.lat.length) [m.ins, m.lat, List.replicate m.out.length [], [], []] b2 := e2
 have e3' : zdR s (s.length + 1 - m.ins.length - m.lat.length) [m.ins, m.lat, List.replicate m.out.length [], [], []] b2 = zdR s (s.length + 1 - m.ins.length - m.lat.length - m.out.length) [m.ins, m.lat, m.out, [], []] b3 := e3
 rw [e1', e2', e3', zql d3 hr]
 dsimp only
 have f1 := zeO (c := 105) (l := m.ins) (i := 0) fun x hx => hn x (.inl hx)
 have f2 := zeO (c := 108) (l := m.lat) (i := 0) fun x hx => hn x (.inr (.inl hx))
 have f3 := zeO (c := 111) (l := m.out) (i := 0) fun x hx => hn x (.inr (.inr hx))
 show Except.ok [zbl 105 0 m.ins, zbl 108 0 m.lat, zbl 111 0 m.out, [], []] = _
 rw [f1, f2, f3]
def zsd (g : Gr) : RE (List (List S)) → RE Mo
 | .error e => .error e
 | .ok N => if Mo.chk ⟨g, N.getD 0 [], N.getD 1 [], N.getD 2 [] ++ (N.getD 3 [] ++ N.getD 4 [])⟩ = 0 then .ok ⟨g, N.getD 0 [], N.getD 1 [], N.getD 2 [] ++ (N.getD 3 [] ++ N.getD 4 [])⟩ else .error (0, Mo.chk ⟨g, N.getD 0 [], N.getD 1 [], N.getD 2 [] ++ (N.getD 3 [] ++ N.getD 4 [])⟩)
theorem zcC {m : Mo} (h : m.chk = 0) : ∀ x, x ∈ m.ins ∨ x ∈ m.lat ∨ x ∈ m.out → zaY x = true := by
 have hn := (zaO h).2.2.1
 unfold Mo.names at hn
 simp only [Bool.or_eq_false_iff, List.any_eq_false, zc1, Bool.not_eq_true', Bool.not_eq_true, Bool.not_eq_false', Bool.not_eq_false] at hn
 rintro x (hx | hx | hx)
 ·exact hn.1.1 x hx
 ·exact hn.1.2 x hx
 ·exact hn.2 x hx
abbrev rdT (s : S) (a : Nat) (T : List V) : O := .cells (.str s :: vi a :: T)
abbrev zec (a e : Int) : V := .iface 198 (.agg [vi a, vi e])
theorem zC {h : H} {R : AEnd → H → (Nat → Bool) → Prop} (b : Bool) (a e : Int)
 (h1 : b = true → R (.ret (.tup [])) h (fun _ => false)) (h2 : b = false → R (.pan (zec a e)) h (fun _ => false)) : zb TE 76 [.bool b, vi a, vi e] h R := by
 refine zi Tryz.func76 rfl (by simp [nts]) (vm ?_)
 cases b with
 | true =>
  simp only [wq.down, seval, Tryz.results76]
  exact h1 rfl
 | false =>
  simp only [wq.down, seval, Tryz.results76]
  exact ⟨nofun, h2 rfl⟩
theorem zij {k a : Nat} {s : S} {T : List V} {h : H} {R : AEnd → H → (Nat → Bool) → Prop} (c : UInt8) (hk : h[k]? = some (rdT s a T))
 (hr : R (.ret (.bool (zdj s a c))) h (fun _ => false)) : zb TE 141 [.lp k 0, vb c] h R := by
 refine zi Tryz.func141 rfl (by simp [nts]) (vm ?_)
 unfold zdj at hr
 by_cases hlt : a < s.length
 ·have e1 : decide ((a : Int) < (s.length : Int)) = true := by simpa using hlt
  have e2 : s.getD a 0 = s[a] := zt hlt
  rw [List.getElem?_eq_getElem hlt] at hr
  simp only [wq.down, seval, Tryz.results141, hk, e1, e2, zrw]
  refine ⟨by decide +kernel, ⟨by omega, by omega⟩, hr⟩
 ·have e1 : decide ((a : Int) < (s.length : Int)) = false := by simpa using hlt
  rw [List.getElem?_eq_none (by omega)] at hr
  simp only [wq.down, seval, Tryz.results141, hk, e1]
  exact ⟨by decide +kernel, hr⟩
theorem zdK {k a : Nat} {s : S} {T : List V} {h : H} {R : AEnd → H → (Nat → Bool) → Prop} (hs : s.length ≤ 100000) (hk : h[k]? = some (rdT s a T))
 (h1 : ∀ n b, zeN s a = .ok (n, b) → R (.ret (vi n)) (h.set k (rdT s b T)) (fun _ => false)) (h2 : zeN s a = .error (a, 3) → R (.pan (zec a 3)) h (fun _ => false)) : zb TE 142 [.lp k 0] h R := by
 have hG := zpe s a hs
 have hend : 0 ≤ (zfT s a).2.1 := by
  unfold zfT
  split
  ·exact Int.natCast_nonneg _
  ·split
   ·show 0 ≤ (a : Int) + _
    omega
   ·exact Int.natCast_nonneg _
 obtain ⟨r, hr⟩ : ∃ r, r = zfT s a := ⟨_, rfl⟩
 unfold zeN at h1 h2
 rw [← hr] at hG h1 h2 hend
 obtain ⟨b, hb⟩ : ∃ b : Nat, r.2.1 = b := ⟨r.2.1.toNat, by omega⟩
 refine zi Tryz.func142 rfl (by simp [nts]) (vm ?_)
 simp only [wq.down, seval, Tryz.results142, hk]
 refine ⟨by decide +kernel, zhw.mk hG rfl rfl ?_⟩
 simp only [wq.down, seval, hk, hb]
 by_cases he : r.2.2 = 0
 ·rw [if_pos he] at h1
  have hd : (r.2.2 == 0) = true := by simpa using he
  simp only [wq.down, hd]
  refine zC true a 3 (fun _ => ?_) (fun h => by cases h)
  have := h1 _ _ rfl
  rw [hb, Int.toNat_natCast] at this
  simp only [wq.down, seval, hk]
  exact this
 ·rw [if_neg he] at h2
  have hd : (r.2.2 == 0) = false := by simpa using he
  simp only [wq.down, hd]
  refine zC false a 3 (fun h => by cases h) (fun _ => ?_)
  simp only [wq.down, zY]
  exact h2 rfl
def zpr : Plan := .take 0 <| .take 1 <| .take 3 <| .take 4 <| .take 5 <| .alt 2 (.one 6 <| .one 7 <| .fin) (.one 6 (.one 2 <| .one 7 <| .fin))
theorem zfz {k a : Nat} {s : S} {T : List V} {h : H} {R : AEnd → H → (Nat → Bool) → Prop} (c : UInt8) (ha : s.length ≤ 1000000000) (hk : h[k]? = some (rdT s a T))
 (h1 : zdj s a c = true → R (.ret (.tup [])) (h.set k (rdT s (a + 1) T)) (fun _ => false)) (h2 : zdj s a c = false → R (.pan (zec a 2)) h (fun _ => false)) : zb TE 197 [.lp k 0, vb c] h R := by
 have hM : maxLen = 9223372036854775807 := rfl
 refine zi Tryz.func197 rfl (by simp [nts]) ?_
 refine za (zax mixed zpr (fun f' h' => zdj s a c = true ∧ f'.t 0 = .lp k 0 ∧ f'.d = [] ∧ (∀ j, f'.k j = false) ∧ h' = h) [] (fun v d kk t h' => d = [] ∧ (∀ j, kk j = false) ∧ zdj s a c = false ∧ v = zec a 2 ∧ h' = h) (by decide +kernel) (by decide +kernel) ?_ ?_ ?_)
 ·simp only [wq.down, seval, zpr, hk]
  repeat' apply And.intro
  all_goals
   refine zij c hk ?_
   simp only [wq.down, seval, hk]
   refine zC _ _ 2 (fun hb => ?_) (fun hb => ?_)
   ·simp only [wq.down, seval, zay]
    exact hb
   ·simp only [wq.down, zY, zby]
    exact hb
 ·rintro f h' ⟨hb, h0, hd, hkf, rfl⟩
  have hl := zfn hb
  have hw := zm (show a < maxLen by omega)
  refine vm ?_
  simp only [wq.down, seval, Tryz.results197, h0, hd, hk, hw]
  rw [show f.k = fun _ => false from funext hkf]
  exact h1 hb
 ·rintro v f h' ⟨hd, hkf, hb, rfl, rfl⟩
  simp only [XE.seq, zai]
  simp only [wq.down, hd]
  rw [show f.k = fun _ => false from funext hkf]
  exact h2 hb
theorem zk9 {k a : Nat} {s : S} {T : List V} {h : H} {R : AEnd → H → (Nat → Bool) → Prop} (ha : s.length ≤ 1000000000) (hk : h[k]? = some (rdT s a T))
 (h1 : zdj s a 10 = true → R (.ret (.tup [])) (h.set k (rdT s (a + 1) T)) (fun _ => false)) (h2 : zdj s a 10 = false → R (.pan (zec a 2)) h (fun _ => false)) : zb TE 143 [.lp k 0] h R := by
 refine zi Tryz.func143 rfl (by simp [nts]) (vm ?_)
 simp only [wq.down, seval, Tryz.results143]
 refine zfz 10 ha hk (fun hb => ?_) (fun hb => ?_)
 ·simp only [wq.down]
  exact h1 hb
 ·simp only [wq.down, zY]
  exact h2 hb
theorem zik {k a : Nat} {s : S} {T : List V} {h : H} {R : AEnd → H → (Nat → Bool) → Prop} (ha : s.length ≤ 1000000000) (hk : h[k]? = some (rdT s a T))
 (h1 : zdj s a 32 = true → R (.ret (.tup [])) (h.set k (rdT s (a + 1) T)) (fun _ => false)) (h2 : zdj s a 32 = false → R (.pan (zec a 2)) h (fun _ => false)) : zb TE 145 [.lp k 0] h R := by
 refine zi Tryz.func145 rfl (by simp [nts]) (vm ?_)
 simp only [wq.down, seval, Tryz.results145]
 refine zfz 32 ha hk (fun hb => ?_) (fun hb => ?_)
 ·simp only [wq.down]
  exact h1 hb
 ·simp only [wq.down, zY]
  exact h2 hb
abbrev usV (l : List Us) : List V := l.flatMap fun u => [vi u.1, vi u.2]
abbrev anV (l : List An) : List V := l.flatMap fun a => [vi a.lit, vi a.pos, vi a.p.1, vi a.p.2, vi a.q.1, vi a.q.2]
abbrev fiT (x : Fi) (mo : Int) : List V := [vi mo, .lm 2, .ls 4 1 0 x.ins.length x.ins.length, .ls 5 1 0 x.lats.length x.lats.length, .ls 6 2 0 x.next.length x.next.length, .ls 7 1 0 x.init.length x.init.length, .ls 8 2 0 x.outs.length x.outs.length, .ls 9 6 0 x.ands.length x.ands.length]
abbrev hF (b0 b1 : O) (s : S) (mo : Int) (x : Fi) (W : Cl) (Y : H) : H :=
 b0 :: b1 :: .map (x.D.map vi) (W.map vi) :: rdT s x.a (fiT x mo) :: .cells (x.ins.map vi) :: .cells (x.lats.map vi) :: .cells (usV x.next) :: .cells (x.init.map vi) :: .cells (usV x.outs) :: .cells (anV x.ands) :: Y
theorem zjk {s : S} {a b : Nat} {n : Int} (h : zeN s a = .ok (n, b)) : 0 ≤ n ∧ n ≤ 2147483647 := by
 unfold zeN at h
 split at h
 ·rename_i h1
  simp only [Except.ok.injEq, Prod.mk.injEq] at h
  rw [← h.1]
  revert h1
  unfold zfT
  split
  ·intro h1; cases h1
  ·split
   ·rename_i h2
    intro _
    have := h2.2.1
    show 0 ≤ ((zcl 0 ((s.drop (a : Int).toNat).takeWhile zP) : Nat) : Int) ∧ ((zcl 0 ((s.drop (a : Int).toNat).takeWhile zP) : Nat) : Int) ≤ 2147483647
    omega
   ·intro h1; cases h1
 ·cases h
abbrev fiG (x : Fi) (mo : Int) : List V := [vi mo, .lm 2, zr x.ins, zr x.lats, .ls 6 2 0 x.next.length x.next.length, zr x.init, .ls 8 2 0 x.outs.length x.outs.length, .ls 9 6 0 x.ands.length x.ands.length]
abbrev hG (b0 b1 : O) (s : S) (mo : Int) (x : Fi) (W : Cl) (Y : H) : H :=
 b0 :: b1 :: .map (x.D.map vi) (W.map vi) :: rdT s x.a (fiG x mo) :: .dead :: .dead :: .cells (usV x.next) :: .dead :: .cells (usV x.outs) :: .cells (anV x.ands) :: Y
structure FOk (x : Fi) : Prop where
 lin : ∀ n ∈ x.ins ++ x.lats, 0 ≤ n ∧ n ≤ 2147483647 ∧ n / 2 ∈ x.D
 an : ∀ a ∈ x.ands, 0 ≤ a.lit ∧ a.lit ≤ 2147483647 ∧ 0 ≤ a.p.1 ∧ a.p.1 ≤ 2147483647 ∧ 0 ≤ a.q.1 ∧ a.q.1 ≤ 2147483647 ∧ a.lit / 2 ∈ x.D
 nd : x.left.Nodup
 nx : ∀ u ∈ x.next, 0 ≤ u.1 ∧ u.1 ≤ 2147483647
 ou : ∀ u ∈ x.outs, 0 ≤ u.1 ∧ u.1 ≤ 2147483647
structure FLn (x : Fi) (n1 n2 n3 n4 : Nat) : Prop where
 l1 : x.ins.length = n1
 l2 : x.lats.length = n2
 l3 : x.next.length = n2
 l4 : x.init.length = n2
 l5 : x.outs.length = n3
 l6 : x.ands.length = n4
theorem FOk.a {x : Fi} (h : FOk x) {b : Nat} : FOk { x with a := b } := ⟨h.lin, h.an, h.nd, h.nx, h.ou⟩
theorem zg8 {l : Cl} (h : l.length ≤ 9) : (hd9 l).length = 9 := by unfold hd9; simp; omega
theorem zqm {l : Cl} {n : Int} (h : l.length < 9) : (hd9 l).set l.length n = hd9 (l ++ [n]) := by
 unfold hd9
 rw [List.set_append_right _ _ (Nat.le_refl _), Nat.sub_self, show 9 - l.length = (9 - (l.length + 1)) + 1 by omega, List.replicate_succ, List.set_cons_zero, List.length_append, List.length_singleton, List.append_assoc]
 rfl
theorem zm2 {l : Cl} (hl : ∀ n ∈ l, 0 ≤ n ∧ n ≤ 2147483647) : ∀ n ∈ hd9 l, 0 ≤ n ∧ n ≤ 2147483647 := fun n hn => by
 unfold hd9 at hn
 rcases List.mem_append.1 hn with h | h
 ·exact hl n h
 ·have := List.eq_of_mem_replicate h; omega
theorem zrN {l : Cl} (h : l.length = 9) : ∃ a0 a1 a2 a3 a4 a5 a6 a7 a8, l = [a0, a1, a2, a3, a4, a5, a6, a7, a8] := by
 match l, h with
 | [a0, a1, a2, a3, a4, a5, a6, a7, a8], _ => exact ⟨_, _, _, _, _, _, _, _, _, rfl⟩
theorem zm3 {s : S} {a b : Nat} {n : Int} (h : zeN s a = .ok (n, b)) : b ≤ s.length := by
 unfold zeN at h
 split at h
 ·rename_i h1
  simp only [Except.ok.injEq, Prod.mk.injEq] at h
  rw [← h.2]
  revert h1
  unfold zfT
  have hl : ((s.drop (a : Int).toNat).takeWhile zP).length ≤ (s.drop (a : Int).toNat).length := (List.takeWhile_sublist _).length_le
  rw [List.length_drop] at hl
  split
  ·intro h1; cases h1
  ·rename_i h0
   split
   ·intro _
    dsimp only
    omega
   ·intro h1; cases h1
 ·cases h
theorem zqn {l : Cl} {n : Int} (h : l.length < 9) : List.take (l.length * 1) ((hd9 l).map vi) ++ [vi n] ++ List.drop (l.length * 1 + 1) ((hd9 l).map vi) = (hd9 (l ++ [n])).map vi := by
 have hl := zg8 (l := l) (by omega)
 rw [← zqm h, List.map_set, List.set_eq_take_append_cons_drop, if_pos (by rw [List.length_map]; omega), Nat.mul_one]
 simp
theorem zj0 {s : S} : ∀ {k a : Nat} {l l' : Cl} {b : Nat}, zck s k a l = .ok (l', b) → (∀ n ∈ l, 0 ≤ n ∧ n ≤ 2147483647) → l.length + k ≤ 9 → (∀ n ∈ l', 0 ≤ n ∧ n ≤ 2147483647) ∧ l'.length ≤ 9
 | 0, a, l, l', b, h, hl, hk => by
  simp only [zck, Except.ok.injEq, Prod.mk.injEq] at h
  obtain ⟨rfl, rfl⟩ := h
  exact ⟨hl, by omega⟩
 | k + 1, a, l, l', b, h, hl, hk => by
  unfold zck at h
  split at h
  ·cases hn : zeN s (a + 1) with
   | error e => rw [hn] at h; cases h
   | ok v =>
    obtain ⟨n, c⟩ := v
    rw [hn] at h
    dsimp only at h
    have := zjk hn
    refine zj0 h (fun x hx => ?_) (by rw [List.length_append, List.length_singleton]; omega)
    rcases List.mem_append.1 hx with h | h
    ·exact hl x h
    ·rw [List.mem_singleton] at h; subst h; exact this
  ·simp only [Except.ok.injEq, Prod.mk.injEq] at h
   obtain ⟨rfl, rfl⟩ := h
   exact ⟨hl, by omega⟩
theorem zg9 {s magic : S} {l : Cl} {b : Nat} (h : zdI s magic = .ok (l, b)) : ∃ a0 a1 a2 a3 a4 a5 a6, l = [a0, a1, a2, a3, a4, a5, a6, 0, 0] ∧ 0 ≤ a0 ∧ 0 ≤ a1 ∧ 0 ≤ a2 ∧ 0 ≤ a3 ∧ 0 ≤ a4 ∧ 0 ≤ a5 ∧ 0 ≤ a6 ∧ a0 ≤ 4000 ∧ a1 + a2 + a4 ≤ a0 ∧ a3 + a5 + a6 ≤ 4000 := by
 unfold zdI at h
 split at h
 ·cases hL : zck s 9 magic.length [] with
  | error e => rw [hL] at h; cases h
  | ok v =>
   obtain ⟨l', a⟩ := v
   rw [hL] at h
   dsimp only at h
   obtain ⟨b1, b2⟩ := zj0 hL (fun n hn => by cases hn) (by decide)
   split at h
   ·cases hb : zbX s 10 a with
    | error e => rw [hb] at h; cases h
    | ok c =>
     rw [hb] at h
     dsimp only at h
     split at h
     ·rename_i h78
      split at h
      ·rename_i hlim
       simp only [Except.ok.injEq, Prod.mk.injEq] at h
       obtain ⟨rfl, rfl⟩ := h
       have h9 := zm2 b1
       obtain ⟨a0, a1, a2, a3, a4, a5, a6, a7, a8, hq⟩ := zrN (zg8 b2)
       rw [hq] at h78 hlim h9 ⊢
       have e7 : a7 = 0 := h78.1
       have e8 : a8 = 0 := h78.2
       subst e7 e8
       have hlim : (decide (a0 ≤ 4000) && decide (a1 + a2 + a4 ≤ a0) && decide (a3 + a5 + a6 ≤ 4000)) = true := hlim
       simp only [Bool.and_eq_true, decide_eq_true_eq] at hlim
       have c0 := h9 a0 (by simp); have c1 := h9 a1 (by simp); have c2 := h9 a2 (by simp); have c3 := h9 a3 (by simp); have c4 := h9 a4 (by simp); have c5 := h9 a5 (by simp); have c6 := h9 a6 (by simp)
       exact ⟨a0, a1, a2, a3, a4, a5, a6, rfl, by omega, by omega, by omega, by omega, by omega, by omega, by omega, by omega, by omega, by omega⟩
      ·cases h
     ·cases h
   ·cases h
 ·cases h
abbrev hR (k : Nat) (s : S) (a : Nat) (T : List V) (h X : H) : H := h.set k (rdT s a T) ++ X
theorem zjl {k a : Nat} {s : S} {T : List V} {h X : H} (hk : k < h.length) : (hR k s a T h X)[k]? = some (rdT s a T) := by
 rw [hR, List.getElem?_append_left (by simpa using hk), List.getElem?_set_self hk]
theorem zj1 {k a b : Nat} {s : S} {T : List V} {h X : H} (hk : k < h.length) : (hR k s a T h X).set k (rdT s b T) = hR k s b T h X := by
 rw [hR, hR, List.set_append_left _ _ (by simpa using hk), List.set_set]
theorem zc5 {k a : Nat} {s : S} {T : List V} {h : H} {o : O} : (hR k s a T h [o])[h.length]? = some o := by
 rw [hR, List.getElem?_append_right (by simp)]; simp
theorem zps {k a : Nat} {s : S} {T : List V} {h : H} {o q : O} : (hR k s a T h [o]).set h.length q = hR k s a T h [q] := by
 rw [hR, hR, List.set_append_right _ _ (by simp)]; simp
theorem zsr {k a : Nat} {s : S} {T : List V} {h X : H} (hk : h[k]? = some (rdT s a T)) : h ++ X = hR k s a T h X := by
 rw [hR, zgV hk]
set_option maxHeartbeats 4000000 in
theorem zil {k a0 : Nat} {s magic : S} {T : List V} {h : H} (hk : h[k]? = some (rdT s a0 T)) (hs : s.length ≤ 100000) {R : AEnd → H → (Nat → Bool) → Prop}
 (h1 : ∀ l b, zdI s magic = .ok (l, b) → R (.ret (.agg (l.map vi))) (hR k s b T h [.cells (l.map vi)]) (fun _ => false))
 (h2 : ∀ (w : Nat) (e : Int), zdI s magic = .error (w, e) → ∀ b X, R (.pan (zec w e)) (hR k s b T h X) (fun _ => false)) :
 zb TE 68 [.lp k 0, .str magic] h R := by
 have hM : maxLen = 9223372036854775807 := rfl
 have hkl : k < h.length := (List.getElem?_eq_some_iff.1 hk).1
 have hne : k ≠ h.length := by omega
 unfold zdI at h1 h2
 refine zb.kp (fun _ => false) ?_
 refine zi Tryz.func68 rfl (by simp [nts]) ?_
 refine za (vm ?_)
 simp only [wq.down, Nat.reduceLT, Tryz.results68]
 rw [zsr hk]
 refine za (vm ?_)
 simp only [wq.down, seval, zjl hkl]
 refine zb.ev (zmG s magic) rfl ?_
 simp only [wq.down, seval]
 refine zC _ 0 2 (fun hb => ?_) (fun hb => ?_)
 ·rw [if_pos hb] at h1 h2
  have hml : magic.length ≤ s.length := by rw [List.isPrefixOf_iff_prefix] at hb; exact hb.length_le
  simp only [wq.down]
  refine za (vm ?_)
  simp only [wq.down, seval, zjl hkl, zj1 hkl]
  refine za (vm ?_)
  simp only [wq.down, Nat.reduceLT]
  refine za (zK (Q := fun xe f h' => (xe = .normal ∧ ∃ l a, zck s 9 magic.length [] = .ok (l, a) ∧ a ≤ s.length ∧ l.length ≤ 9 ∧ (∀ n ∈ l, 0 ≤ n ∧ n ≤ 2147483647) ∧ f.t 0 = .lp k 0 ∧ f.t 4 = .lp h.length 0 ∧ f.t 5 = vi l.length ∧ f.d = [] ∧ (∀ j, f.k j = true → False) ∧ h' = hR k s a T h [.cells ((hd9 l).map vi)]) ∨ (∃ (w : Nat) (e : Int), xe = .pan (zec w e) ∧ zck s 9 magic.length [] = .error (w, e) ∧ f.d = [] ∧ (∀ j, f.k j = true → False) ∧ ∃ b X, h' = hR k s b T h X)) ?_ ?_)
  ·rintro xe f h' (⟨rfl, l, a, hL, has, hl9, hlb, t0, t4, t5, hd, hk', rfl⟩ | ⟨w, e, rfl, hL, hd, hk', b, X, rfl⟩)
   ·rw [hL] at h1 h2
    dsimp only at h1 h2
    show awp _ _ _ _ _ _ _
    refine za (vm ?_)
    simp only [wq.down, seval, t0, t5, zjl hkl]
    refine zC _ _ 2 (fun hb5 => ?_) (fun hb5 => ?_)
    ·have hb5' : 5 ≤ l.length := by have := of_decide_eq_true hb5; omega
     rw [if_pos hb5'] at h1 h2
     simp only [wq.down]
     refine za (vm ?_)
     simp only [wq.down, seval, t0]
     refine zk9 (by omega) (zjl hkl) (fun he => ?_) (fun he => ?_)
     ·unfold zbX at h1 h2
      rw [if_pos he] at h1 h2
      dsimp only at h1 h2
      rw [zj1 hkl]
      have h9 := zm2 hlb
      obtain ⟨a0, a1, a2, a3, a4, a5, a6, a7, a8, hq⟩ := zrN (zg8 hl9)
      rw [hq] at h1 h2 h9 ⊢
      have c0 := h9 a0 (by simp); have c1 := h9 a1 (by simp); have c2 := h9 a2 (by simp); have c3 := h9 a3 (by simp); have c4 := h9 a4 (by simp); have c5 := h9 a5 (by simp); have c6 := h9 a6 (by simp)
      simp only [wq.down]
      by_cases h7 : a7 = 0
      ·by_cases h8 : a8 = 0
       ·rw [if_pos ⟨h7, h8⟩] at h1 h2
        subst h7 h8
        refine za (vm ?_)
        simp only [wq.down, ↓reduceIte, Nat.reduceEqDiff, Nat.reduceLT, Nat.reduceLeDiff, Nat.reduceAdd, Nat.reduceSub, Int.reduceToNat, Nat.reduceDiv, Int.reduceLT, Int.reduceLE, Int.reduceNeg, Int.reduceBEq, Int.reduceBNe, Int.reduceAdd, Int.reduceSub, Nat.reduceBEq, reduceCtorEq, Nat.reduceMul, zg, Tryz.results68, t0, t4, t5, hd, zc5]
        refine ⟨by decide, by decide, zC true 0 9 (fun _ => ?_) (fun h => by cases h)⟩
        simp only [wq.down, ↓reduceIte, Nat.reduceEqDiff, Nat.reduceLT, Nat.reduceLeDiff, Nat.reduceAdd, Nat.reduceSub, Int.reduceToNat, Nat.reduceDiv, Int.reduceLT, Int.reduceLE, Int.reduceNeg, Int.reduceBEq, Int.reduceBNe, Int.reduceAdd, Int.reduceSub, Nat.reduceBEq, reduceCtorEq, Nat.reduceMul, zg, Tryz.results68, zam, t0, t4, t5, hd]
        have w1 : IntKind.i64.wrap (a1 + a2) = a1 + a2 := zJ (by omega) (by omega)
        have w2 : IntKind.i64.wrap (a1 + a2 + a4) = a1 + a2 + a4 := zJ (by omega) (by omega)
        have w3 : IntKind.i64.wrap (a3 + a5) = a3 + a5 := zJ (by omega) (by omega)
        have w4 : IntKind.i64.wrap (a3 + a5 + a6) = a3 + a5 + a6 := zJ (by omega) (by omega)
        rw [show zg5 [a0, a1, a2, a3, a4, a5, a6, 0, 0] = (decide (a0 ≤ 4000) && decide (a1 + a2 + a4 ≤ a0) && decide (a3 + a5 + a6 ≤ 4000)) from rfl] at h1 h2
        cases b0 : decide (a0 ≤ 4000) with
        | false =>
         rw [b0] at h2
         refine za (vm ?_)
         simp only [wq.down, ↓reduceIte, Nat.reduceEqDiff, Nat.reduceLT, Nat.reduceLeDiff, Nat.reduceAdd, Nat.reduceSub, Int.reduceToNat, Nat.reduceDiv, Int.reduceLT, Int.reduceLE, Int.reduceNeg, Int.reduceBEq, Int.reduceBNe, Int.reduceAdd, Int.reduceSub, Nat.reduceBEq, reduceCtorEq, Nat.reduceMul, zg, Tryz.results68, t0, t4, t5, hd, zc5, b0, w1, w2, w3, w4]
         refine ⟨by decide, zC false 0 8 (fun h => by cases h) (fun _ => ?_)⟩
         simp only [wq.down, ↓reduceIte, Nat.reduceEqDiff, Nat.reduceLT, Nat.reduceLeDiff, Nat.reduceAdd, Nat.reduceSub, Int.reduceToNat, Nat.reduceDiv, Int.reduceLT, Int.reduceLE, Int.reduceNeg, Int.reduceBEq, Int.reduceBNe, Int.reduceAdd, Int.reduceSub, Nat.reduceBEq, reduceCtorEq, Nat.reduceMul, zg, Tryz.results68, zY]
         simp only [XE.seq, zai]
         simp only [wq.down, ↓reduceIte, Nat.reduceEqDiff, Nat.reduceLT, Nat.reduceLeDiff, Nat.reduceAdd, Nat.reduceSub, Int.reduceToNat, Nat.reduceDiv, Int.reduceLT, Int.reduceLE, Int.reduceNeg, Int.reduceBEq, Int.reduceBNe, Int.reduceAdd, Int.reduceSub, Nat.reduceBEq, reduceCtorEq, Nat.reduceMul, zg, Tryz.results68, hd]
         exact ⟨hk', h2 _ _ rfl _ _⟩
        | true =>
         rw [b0] at h1 h2
         cases b1 : decide (a1 + a2 + a4 ≤ a0) with
         | false =>
          rw [b1] at h2
          refine za (vm ?_)
          simp only [wq.down, ↓reduceIte, Nat.reduceEqDiff, Nat.reduceLT, Nat.reduceLeDiff, Nat.reduceAdd, Nat.reduceSub, Int.reduceToNat, Nat.reduceDiv, Int.reduceLT, Int.reduceLE, Int.reduceNeg, Int.reduceBEq, Int.reduceBNe, Int.reduceAdd, Int.reduceSub, Nat.reduceBEq, reduceCtorEq, Nat.reduceMul, zg, Tryz.results68, t0, t4, t5, hd, zc5, b0, b1, w1, w2, w3, w4]
          refine ⟨by decide, by decide, by decide, by decide, by decide, zC false 0 8 (fun h => by cases h) (fun _ => ?_)⟩
          simp only [wq.down, ↓reduceIte, Nat.reduceEqDiff, Nat.reduceLT, Nat.reduceLeDiff, Nat.reduceAdd, Nat.reduceSub, Int.reduceToNat, Nat.reduceDiv, Int.reduceLT, Int.reduceLE, Int.reduceNeg, Int.reduceBEq, Int.reduceBNe, Int.reduceAdd, Int.reduceSub, Nat.reduceBEq, reduceCtorEq, Nat.reduceMul, zg, Tryz.results68, zY]
          simp only [XE.seq, zai]
          simp only [wq.down, ↓reduceIte, Nat.reduceEqDiff, Nat.reduceLT, Nat.reduceLeDiff, Nat.reduceAdd, Nat.reduceSub, Int.reduceToNat, Nat.reduceDiv, Int.reduceLT, Int.reduceLE, Int.reduceNeg, Int.reduceBEq, Int.reduceBNe, Int.reduceAdd, Int.reduceSub, Nat.reduceBEq, reduceCtorEq, Nat.reduceMul, zg, Tryz.results68, hd]
          exact ⟨hk', h2 _ _ rfl _ _⟩
         | true =>
          rw [b1] at h1 h2
          cases b2 : decide (a3 + a5 + a6 ≤ 4000) with
          | false =>
           rw [b2] at h2
           refine za (vm ?_)
           simp only [wq.down, ↓reduceIte, Nat.reduceEqDiff, Nat.reduceLT, Nat.reduceLeDiff, Nat.reduceAdd, Nat.reduceSub, Int.reduceToNat, Nat.reduceDiv, Int.reduceLT, Int.reduceLE, Int.reduceNeg, Int.reduceBEq, Int.reduceBNe, Int.reduceAdd, Int.reduceSub, Nat.reduceBEq, reduceCtorEq, Nat.reduceMul, zg, Tryz.results68, t0, t4, t5, hd, zc5, b0, b1, b2, w1, w2, w3, w4]
           refine ⟨by decide, by decide, by decide, by decide, by decide, by decide, by decide, by decide, zC false 0 8 (fun h => by cases h) (fun _ => ?_)⟩
           simp only [wq.down, ↓reduceIte, Nat.reduceEqDiff, Nat.reduceLT, Nat.reduceLeDiff, Nat.reduceAdd, Nat.reduceSub, Int.reduceToNat, Nat.reduceDiv, Int.reduceLT, Int.reduceLE, Int.reduceNeg, Int.reduceBEq, Int.reduceBNe, Int.reduceAdd, Int.reduceSub, Nat.reduceBEq, reduceCtorEq, Nat.reduceMul, zg, Tryz.results68, zY]
           simp only [XE.seq, zai]
           simp only [wq.down, ↓reduceIte, Nat.reduceEqDiff, Nat.reduceLT, Nat.reduceLeDiff, Nat.reduceAdd, Nat.reduceSub, Int.reduceToNat, Nat.reduceDiv, Int.reduceLT, Int.reduceLE, Int.reduceNeg, Int.reduceBEq, Int.reduceBNe, Int.reduceAdd, Int.reduceSub, Nat.reduceBEq, reduceCtorEq, Nat.reduceMul, zg, Tryz.results68, hd]
           exact ⟨hk', h2 _ _ rfl _ _⟩
          | true =>
           rw [b2] at h1
           refine za (vm ?_)
           simp only [wq.down, ↓reduceIte, Nat.reduceEqDiff, Nat.reduceLT, Nat.reduceLeDiff, Nat.reduceAdd, Nat.reduceSub, Int.reduceToNat, Nat.reduceDiv, Int.reduceLT, Int.reduceLE, Int.reduceNeg, Int.reduceBEq, Int.reduceBNe, Int.reduceAdd, Int.reduceSub, Nat.reduceBEq, reduceCtorEq, Nat.reduceMul, zg, Tryz.results68, t0, t4, t5, hd, zc5, b0, b1, b2, w1, w2, w3, w4]
           refine ⟨by decide, by decide, by decide, by decide, by decide, by decide, by decide, by decide, zC true 0 8 (fun _ => ?_) (fun h => by cases h)⟩
           simp only [wq.down]
           refine za (vm ?_)
           simp only [wq.down, seval, t4, zc5, zps]
           refine vm ?_
           simp only [wq.down, ↓reduceIte, Nat.reduceEqDiff, Nat.reduceAdd, reduceCtorEq, t4, hd, zc5]
           exact ⟨hk', h1 _ _ rfl⟩
       ·rw [if_neg (fun hh => h8 hh.2)] at h2
        have e8 : (a8 == 0) = false := by simpa using h8
        subst h7
        refine za (vm ?_)
        simp only [wq.down, ↓reduceIte, Nat.reduceEqDiff, Nat.reduceLT, Nat.reduceLeDiff, Nat.reduceAdd, Nat.reduceSub, Int.reduceToNat, Nat.reduceDiv, Int.reduceLT, Int.reduceLE, Int.reduceNeg, Int.reduceBEq, Int.reduceBNe, Int.reduceAdd, Int.reduceSub, Nat.reduceBEq, reduceCtorEq, Nat.reduceMul, zg, Tryz.results68, t0, t4, t5, hd, zc5, e8]
        refine ⟨by decide, by decide, zC false 0 9 (fun h => by cases h) (fun _ => ?_)⟩
        simp only [wq.down, zY]
        simp only [XE.seq, zai]
        simp only [wq.down, hd]
        exact ⟨hk', h2 _ _ rfl _ _⟩
      ·rw [if_neg (fun hh => h7 hh.1)] at h2
       have e7 : (a7 == 0) = false := by simpa using h7
       refine za (vm ?_)
       simp only [wq.down, ↓reduceIte, Nat.reduceEqDiff, Nat.reduceLT, Nat.reduceLeDiff, Nat.reduceAdd, Nat.reduceSub, Int.reduceToNat, Nat.reduceDiv, Int.reduceLT, Int.reduceLE, Int.reduceNeg, Int.reduceBEq, Int.reduceBNe, Int.reduceAdd, Int.reduceSub, Nat.reduceBEq, reduceCtorEq, Nat.reduceMul, zg, Tryz.results68, t0, t4, t5, hd, zc5, e7]
       refine ⟨by decide, zC false 0 9 (fun h => by cases h) (fun _ => ?_)⟩
       simp only [wq.down, zY]
       simp only [XE.seq, zai]
       simp only [wq.down, hd]
       exact ⟨hk', h2 _ _ rfl _ _⟩
     ·unfold zbX at h1 h2
      rw [if_neg (by rw [he]; decide)] at h1 h2
      simp only [wq.down, zY]
      simp only [XE.seq, zai]
      simp only [wq.down, hd]
      exact ⟨hk', h2 _ _ rfl _ _⟩
    ·have hb5' : ¬ 5 ≤ l.length := by have := of_decide_eq_false hb5; omega
     rw [if_neg hb5'] at h1 h2
     simp only [wq.down, zY]
     simp only [XE.seq, zai]
     simp only [wq.down, hd]
     exact ⟨hk', h2 _ _ rfl _ _⟩
   ·rw [hL] at h2
    simp only [XE.seq, zai]
    simp only [wq.down, hd]
    exact ⟨hk', h2 w e rfl b X⟩
  ·refine zu ?_
   refine zw (fun mm f h' => ∃ (l : Cl) (a : Nat), mm + l.length = 9 ∧ zck s 9 magic.length [] = zck s (9 - l.length) a l ∧ a ≤ s.length ∧ (∀ n ∈ l, 0 ≤ n ∧ n ≤ 2147483647) ∧ f.t 0 = .lp k 0 ∧ f.t 4 = .lp h.length 0 ∧ f.t 5 = vi l.length ∧ f.d = [] ∧ (∀ j, f.k j = true → False) ∧ h' = hR k s a T h [.cells ((hd9 l).map vi)]) 9 ⟨[], magic.length, rfl, rfl, hml, (fun n hn => by cases hn), by simp only [wq.down, seval], by simp only [wq.down, seval], rfl, rfl, (fun j hj => by cases hj), rfl⟩ ?_
   rintro mm f h' ⟨l, a, hm, hL, has, hlb, t0, t4, t5, hd, hk', rfl⟩
   by_cases hl9 : l.length < 9
   ·have e1 : decide ((l.length : Int) < 9) = true := by simp; omega
    obtain ⟨j, hj⟩ : ∃ j, 9 - l.length = j + 1 := ⟨8 - l.length, by omega⟩
    rw [hj, show zck s (j + 1) a l = (if zdj s a 32 = true then (match zeN s (a + 1) with
     | .ok (n, b) => zck s j b (l ++ [n])
     | .error e => .error e) else .ok (l, a)) from rfl] at hL
    refine za ?_
    refine vm ?_
    simp only [wq.down, seval, t0, t5, e1]
    refine zij 32 (zjl hkl) ?_
    simp only [wq.down, seval]
    cases hi : zdj s a 32 with
    | true =>
     have hlt := zfn hi
     have hw := zm (show a < maxLen by omega)
     have hwl := zm (show l.length < maxLen by omega)
     rw [if_pos hi] at hL
     simp only [wq.down]
     refine za (zu ?_)
     refine za (vm ?_)
     simp only [wq.down, seval, t0, zjl hkl, zj1 hkl, hw]
     refine vm ?_
     simp only [wq.down, seval, t0, t5]
     refine zdK hs (zjl hkl) (fun n b hn => ?_) (fun hn => ?_)
     ·rw [hn] at hL
      have hnn := zjk hn
      rw [zj1 hkl]
      have hb : b ≤ s.length := zm3 hn
      simp only [wq.down, seval, t4, zc5]
      refine ⟨⟨by omega, by omega⟩, by rw [zg8 (by omega)]; omega, ?_⟩
      refine vm ?_
      simp only [wq.down, seval, t5, hwl, zps]
      rw [zqn hl9]
      refine .inl ⟨mm - 1, by omega, l ++ [n], b, by rw [List.length_append, List.length_singleton]; omega, ?_, hb, ?_, by simp only [wq.down, seval, t0], by simp only [wq.down, seval, t4], by simp only [wq.down, ↓reduceIte], by simp only [wq.down, hd], hk', rfl⟩
      ·rw [hL, List.length_append, List.length_singleton, show 9 - (l.length + 1) = j by omega]
      ·intro x hx
       rcases List.mem_append.1 hx with h | h
       ·exact hlb x h
       ·rw [List.mem_singleton] at h; subst h; exact hnn
     ·rw [hn] at hL
      simp only [wq.down, zY, hd]
      simp only [XE.block, XE.seq]
      simp only [wq.down, seval, hd]
      exact .inr ⟨_, _, rfl, hL, hk', _, _, rfl⟩
    | false =>
     rw [if_neg (by rw [hi]; decide)] at hL
     simp only [wq.down, seval, t0, t4, t5, hd]
     exact .inl ⟨l, a, hL, has, by omega, hlb, rfl, hk', rfl⟩
   ·have e1 : decide ((l.length : Int) < 9) = false := by simp; omega
    have hl : l.length = 9 := by omega
    rw [hl] at hL
    refine za ?_
    refine vm ?_
    simp only [wq.down, seval, t0, t5, e1]
    refine ⟨.bool true, ?_⟩
    simp only [wq.down, seval, t0, t4, t5, hd]
    exact .inl ⟨l, a, hL, has, by omega, hlb, rfl, hk', rfl⟩
 ·rw [if_neg (by rw [hb]; decide)] at h2
  simp only [wq.down, zY]
  simp only [XE.seq, zai]
  simp only [wq.down]
  exact h2 _ _ rfl _ _
theorem zfA {s : S} {k : Nat} {h : H} {K : H → (Nat → Bool) → Prop} (hK : ∀ X, K (h ++ [X]) (fun _ => false)) : za2 TE 67 [.str s, .lp k 0] h K := by
 have hgE : ∀ x : O, (h ++ [x])[h.length]? = some x := fun x => by simp
 have hgS : ∀ x y : O, (h ++ [x]).set h.length y = h ++ [y] := fun x y => by simp
 refine zbR rfl Tryz.func67 rfl rfl (by simp [nts]) rfl (fun ev w => rfl) rfl (by decide) ?_
 simp only [nts]
 refine zag rfl rfl ?_
 refine zbx (x := .tmp 7) (t := 198) (q := ⟨.struct [(0, 3), (1, 31)], 2, 16, .agg [vi 0, vi 0]⟩) rfl (by simp only [wq.down]) (by simp only [wq.down, ↓reduceIte]) (by simp only [wq.down, ↓reduceIte]) ?_
 refine zj rfl rfl ?_
 simp only [wq.down, ↓reduceIte]
 refine zj rfl rfl ?_
 simp only [wq.down, seval]
 refine zj rfl rfl ?_
 simp only [wq.down, seval]
 refine zj rfl rfl ?_
 simp only [wq.down]
 refine zj rfl rfl ?_
 simp only [wq.down, seval, hgE, hgS]
 refine zj rfl rfl ?_
 simp only [wq.down, seval]
 refine zac ?_
 show awp _ _ _ _ _ _ _
 refine vm ?_
 simp only [wq.down, seval]
 exact hK _
theorem zfB {s : S} {k : Nat} {h : H} {d1 d2 d3 : V} {K : H → (Nat → Bool) → Prop} (a : Nat) (e : Int) (hs : s.length ≤ 1000000000) (hk : h[k]? = some (.cells [d1, d2, d3])) (hK : ∀ X, K (h.set k (.cells (zL s a e).vc) ++ [X]) (fun _ => false)) :
 zcd TE 67 [.str s, .lp k 0] (zec a e) h K := by
 have hgE : ∀ x : O, (h ++ [x])[h.length]? = some x := fun x => by simp
 have hgS : ∀ x y : O, (h ++ [x]).set h.length y = h ++ [y] := fun x y => by simp
 have hkl : k < h.length := (List.getElem?_eq_some_iff.1 hk).1
 have hgk : ∀ x : O, (h ++ [x])[k]? = some (.cells [d1, d2, d3]) := fun x => by rw [List.getElem?_append_left hkl]; exact hk
 have hsk : ∀ x y : O, (h ++ [x]).set k y = h.set k y ++ [x] := fun x y => by rw [List.set_append_left _ _ hkl]
 refine zbP rfl Tryz.func67 rfl rfl (by simp [nts]) rfl (fun ev w => rfl) rfl (by decide) ?_
 simp only [nts]
 refine zj rfl rfl ?_
 simp only [wq.down, ↓reduceIte]
 refine ⟨by decide, ?_⟩
 refine zj rfl rfl ?_
 simp only [wq.down, ↓reduceIte]
 refine zj rfl rfl ?_
 simp only [wq.down, seval]
 refine zj rfl rfl ?_
 simp only [wq.down, seval]
 refine zj rfl rfl ?_
 simp only [wq.down]
 refine zj rfl rfl ?_
 simp only [wq.down, seval, hgE, hgS]
 refine zj rfl rfl ?_
 simp only [wq.down, seval]
 refine zac ?_
 show awp _ _ _ _ _ _ _
 have hf : ∃ x y z, zL s a e = .agg [vi x, vi y, vi z] := by unfold zL; split <;> exact ⟨_, _, _, rfl⟩
 obtain ⟨x, y, z, hf⟩ := hf
 rw [hf] at hK
 have hsf := zjQ s a e hs
 rw [hf] at hsf
 refine za (vm ?_)
 simp only [wq.down, seval]
 refine vm ?_
 simp only [wq.down, seval, hgE]
 refine zb.ev hsf rfl ?_
 simp only [wq.down, seval, hgk, hsk]
 exact hK _
end Go.Proofs.YtboolnpmlmgpkaaGreatDoor
