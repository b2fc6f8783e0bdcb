/- Lemmas for the statement of this claim, part F11: they hold with no conditions but those that each one names. -/
import Derived.Test.YtboolnpmlmgpkaaGreatDoorF10
import Derived.Test.YtboolnpmlmgpkaaGreatDoorA11
set_option linter.unusedVariables false
set_option maxRecDepth 20000
set_option linter.unusedSimpArgs false
set_option linter.unnecessarySimpa false
namespace Go.Proofs.YtboolnpmlmgpkaaGreatDoor
open Go Go.Proofs Go.Abs
theorem zf2 {s : S} (h : zba s = true) : s ≠ [] ∧ ∀ c ∈ s, (c != 10) = true := by
 unfold zba at h
 simp only [Bool.and_eq_true, decide_eq_true_eq, List.all_eq_true] at h
 refine ⟨fun e => by rw [e] at h; simp at h, fun c hc => ?_⟩
 have := h.1 c hc
 cases hx : c != 10 with
 | true => rfl
 | false =>
  have hx : c = 10 := by simpa using hx
  subst hx
  exact absurd this (by decide)
theorem zsU {s : S} {a : Nat} {c : UInt8} {k i : Nat} {x r : S} {L : List (List S)} (h : s.drop a = c :: (Lib.itoa (i : Int) ++ 32 :: (x ++ 10 :: r))) (hc : znF c = some k) (hi : i < (L.getD k []).length) (hin : i ≤ 100000) (hx : zba x = true) (he : (L.getD k []).getD i [] = []) : ∃ b, zeF s L a = .ok (L.set k ((L.getD k []).set i x), b) ∧ s.drop b = r ∧ a < b := by
 obtain ⟨a1, a2, a3, a4, a5⟩ := zcC h
 obtain ⟨b, hb, hd, hbe⟩ := zfZ a2 (by omega) (by omega) zpG
 obtain ⟨b1, b2, _⟩ := zcC hd
 have htw : (s.drop (b + 1)).takeWhile (· != 10) = x := by rw [b2]; exact zpE (zf2 hx).2 (by decide)
 have hlen : b + 1 + x.length < s.length := by
  have := congrArg List.length b2
  simp only [List.length_drop, List.length_append, List.length_cons] at this
  omega
 refine ⟨b + 1 + x.length + 1, ?_, ?_, by omega⟩
 ·unfold zeF
  rw [a5, hc]
  dsimp only
  rw [hb]
  dsimp only
  unfold zfV
  rw [if_pos b1]
  dsimp only
  rw [htw, if_pos hlen, if_pos (by omega), if_pos hx, Int.toNat_natCast, if_pos he]
 ·rw [Nat.add_assoc, ← List.drop_drop, b2, show x ++ 10 :: r = (x ++ [10]) ++ r by simp, show x.length + 1 = (x ++ [10]).length by simp, List.drop_left]
theorem zwr {s : S} {a : Nat} {c : UInt8} {r : S} (h : s.drop a = c :: r) (hc : c ≠ 99) : zpD s a = false := by
 unfold zpD
 rw [h]
 have : (99 == c) = false := by simpa using fun e : (99 : UInt8) = c => hc e.symm
 have h2 : ((c :: r) == ([99] : S)) = false := by
  cases hh : ((c :: r) == ([99] : S)) with
  | false => rfl
  | true =>
   have := eq_of_beq hh
   simp only [List.cons.injEq] at this
   exact absurd this.1 hc
 rw [h2, Bool.or_false]
 simp [List.isPrefixOf, this]
theorem zhR {s : S} {c : UInt8} {k : Nat} (hc : znF c = some k) (h99 : c ≠ 99) : ∀ (l pre : List S) (f a : Nat) (L : List (List S)) (r : S), k < L.length → L.getD k [] = pre ++ List.replicate l.length [] → pre.length + l.length ≤ 100000 → (∀ x ∈ l, zba x = true) → l.length ≤ f → s.drop a = nmT c pre.length l ++ r →
 ∃ b, zeo s f L a = zeo s (f - l.length) (L.set k (pre ++ l)) b ∧ s.drop b = r ∧ a + l.length ≤ b
 | [], pre, f, a, L, r, hk, hL, hn, ho, hf, h => by
  refine ⟨a, ?_, h, Nat.le_refl _⟩
  have : L.set k (pre ++ []) = L := by
   rw [List.append_nil]
   simp only [List.length_nil, List.replicate_zero, List.append_nil] at hL
   rw [← hL, zA hk, List.set_getElem_self]
  rw [this, List.length_nil, Nat.sub_zero]
 | x :: l, pre, f, a, L, r, hk, hL, hn, ho, hf, h => by
  obtain ⟨f, rfl⟩ : ∃ j, f = j + 1 := ⟨f - 1, by simp at hf; omega⟩
  rw [List.length_cons] at hn hf hL
  have h' : s.drop a = c :: (Lib.itoa (pre.length : Int) ++ 32 :: (x ++ 10 :: (nmT c (pre.length + 1) l ++ r))) := by rw [h]; simp [nmT]
  have hll : (L.getD k []).length = pre.length + (l.length + 1) := by rw [hL]; simp
  obtain ⟨b, hb, hd, hab⟩ := zsU (L := L) (k := k) (i := pre.length) (x := x) h' hc (by omega) (by omega) (ho x (by simp)) (by
   rw [hL, List.getD_eq_getElem?_getD, List.getElem?_append_right (Nat.le_refl _), Nat.sub_self, List.replicate_succ]
   rfl)
  have hset : (L.getD k []).set pre.length x = (pre ++ [x]) ++ List.replicate l.length [] := by
   rw [hL, List.set_append_right _ _ (Nat.le_refl _), Nat.sub_self, List.replicate_succ, List.set_cons_zero, List.append_assoc]
   rfl
  rw [hset] at hb
  have hk2 : k < (L.set k ((pre ++ [x]) ++ List.replicate l.length [])).length := by simpa using hk
  obtain ⟨b2, e2, e3, e4⟩ := zhR hc h99 l (pre ++ [x]) f b (L.set k ((pre ++ [x]) ++ List.replicate l.length [])) r hk2 (by
   rw [zA hk2, List.getElem_set_self]) (by simp; omega) (fun y hy => ho y (by simp [hy])) (by omega) (by rw [hd]; simp)
  refine ⟨b2, ?_, e3, by rw [List.length_cons]; omega⟩
  have a3 := (zcC h').2.2.1
  rw [show zeo s (f + 1) L a = zeo s f (L.set k ((pre ++ [x]) ++ List.replicate l.length [])) b by
   show (if a < s.length ∧ zpD s a = false then _ else _) = _
   rw [if_pos ⟨a3, zwr h' h99⟩, hb], e2, List.set_set, List.length_cons]
  congr 1
  ·omega
  ·congr 1; simp
theorem zws : znF 105 = some 0 := by decide +kernel
theorem zwt : znF 108 = some 1 := by decide +kernel
theorem zwu : znF 111 = some 2 := by decide +kernel
theorem zfe {c : UInt8} : ∀ {l : List S} {i : Nat}, (∀ x ∈ l, zba x = true) → zbt c i l = l
 | [], i, _ => rfl
 | x :: l, i, h => by
  unfold zbt
  rw [if_neg (zf2 (h x (by simp))).1, zfe fun y hy => h y (by simp [hy])]
theorem zdP {c : UInt8} : ∀ {l : List S} {i : Nat}, l.length ≤ (nmT c i l).length
 | [], i => Nat.le_refl _
 | x :: l, i => by
  have := zdP (c := c) (l := l) (i := i + 1)
  simp only [nmT, List.length_cons, List.length_append]
  omega
def zxa (r : S) : Prop := r = [] ∨ ∃ t, r = 99 :: 10 :: t
theorem zpJ {s : S} {f a : Nat} {L : List (List S)} {r : S} (h : s.drop a = r) (hr : zxa r) : zeo s f L a = .ok L := by
 cases f with
 | zero => rfl
 | succ f =>
  unfold zeo
  rw [if_neg]
  rintro ⟨h1, h2⟩
  rcases hr with rfl | ⟨t, rfl⟩
  ·rw [List.drop_eq_nil_iff] at h; omega
  ·unfold zpD at h2
   rw [h] at h2
   simp [List.isPrefixOf] at h2
theorem zsV {s : S} {m : Mo} {n3 n4 : Nat} {a : Nat} {r : S} (hn : ∀ x, x ∈ m.ins ∨ x ∈ m.lat ∨ x ∈ m.out → zba x = true) (li : m.ins.length ≤ 4000) (ll : m.lat.length ≤ 4000) (lo : m.out.length ≤ 4000) (h : s.drop a = zb7 m ++ r) (hr : zxa r) :
 zgm s [(m.ins.length : Int), (m.lat.length : Int), (m.out.length : Int), 0, 0] a = .ok [m.ins, m.lat, m.out, [], []] := by
 have hm : zc7 [(m.ins.length : Int), (m.lat.length : Int), (m.out.length : Int), 0, 0] = [List.replicate m.ins.length [], List.replicate m.lat.length [], List.replicate m.out.length [], [], []] := by
  unfold zc7
  have e : ∀ n : Nat, n ≤ 4000 → (min (max (n : Int) 0) 4000).toNat = n := fun n hn => by omega
  simp only [List.map_cons, List.map_nil, e _ li, e _ ll, e _ lo]
  rfl
 unfold zgm
 rw [hm]
 have hlen := congrArg List.length h
 have q1 := zdP (c := 105) (l := m.ins) (i := 0)
 have q2 := zdP (c := 108) (l := m.lat) (i := 0)
 have q3 := zdP (c := 111) (l := m.out) (i := 0)
 simp only [List.length_drop, zb7, List.length_append] at hlen
 obtain ⟨b1, e1, d1, _⟩ := zhR (s := s) zws (by decide) m.ins [] (s.length + 1) a [List.replicate m.ins.length [], List.replicate m.lat.length [], List.replicate m.out.length [], [], []] (nmT 108 0 m.lat ++ (nmT 111 0 m.out ++ r)) (by simp) rfl (by simp; omega) (fun x hx => hn x (.inl hx)) (by omega) (by rw [h]; simp [zb7])
 obtain ⟨b2, e2, d2, _⟩ := zhR (s := s) zwt (by decide) m.lat [] (s.length + 1 - m.ins.length) b1 [m.ins, List.replicate m.lat.length [], List.replicate m.out.length [], [], []] (nmT 111 0 m.out ++ r) (by simp) rfl (by simp; omega) (fun x hx => hn x (.inr (.inl hx))) (by omega) d1
 obtain ⟨b3, e3, d3, _⟩ := zhR (s := s) zwu (by decide) m.out [] (s.length + 1 - m.ins.length - m.lat.length) b2 [m.ins, m.lat, List.replicate m.out.length [], [], []] r (by simp) rfl (by simp; omega) (fun x hx => hn x (.inr (.inr hx))) (by omega) d2
 have e1' : zeo s (s.length + 1) [List.replicate m.ins.length [], List.replicate m.lat.length [], List.replicate m.out.length [], [], []] a = zeo s (s.length + 1 - m.ins.length) [m.ins, List.replicate m.lat.length [], List.replicate m.out.length [], [], []] b1 := e1
 have e2' : zeo s (s.length + 1 - m.ins.length) [m.ins, List.replicate m.lat.length [], List.replicate m.out.length [], [], []] b1 = zeo s (s.length + 1 - m.ins.length - m.lat.length) [m.ins, m.lat, List.replicate m.out.length [], [], []] b2 := e2
 have e3' : zeo s (s.length + 1 - m.ins.length - m.lat.length) [m.ins, m.lat, List.replicate m.out.length [], [], []] b2 = zeo s (s.length + 1 - m.ins.length - m.lat.length - m.out.length) [m.ins, m.lat, m.out, [], []] b3 := e3
 rw [e1', e2', e3', zpJ d3 hr]
 dsimp only
 have f1 := zfe (c := 105) (l := m.ins) (i := 0) fun x hx => hn x (.inl hx)
 have f2 := zfe (c := 108) (l := m.lat) (i := 0) fun x hx => hn x (.inr (.inl hx))
 have f3 := zfe (c := 111) (l := m.out) (i := 0) fun x hx => hn x (.inr (.inr hx))
 show Except.ok [zbt 105 0 m.ins, zbt 108 0 m.lat, zbt 111 0 m.out, [], []] = _
 rw [f1, f2, f3]
def zwX (g : Gr) : RE (List (List S)) → RE Mo
 | .error e => .error e
 | .ok N => if Mo.chk ⟨g, N.getD 0 [], N.getD 1 [], N.getD 2 [] ++ (N.getD 3 [] ++ N.getD 4 [])⟩ = 0 then .ok ⟨g, N.getD 0 [], N.getD 1 [], N.getD 2 [] ++ (N.getD 3 [] ++ N.getD 4 [])⟩ else .error (0, Mo.chk ⟨g, N.getD 0 [], N.getD 1 [], N.getD 2 [] ++ (N.getD 3 [] ++ N.getD 4 [])⟩)
theorem zgP {s : S} {g : Gr} (hg : g.chk = 0) {r : S} (h : s = zdp g ++ r) : ∃ a, s.drop a = r ∧ zaX s = zwX g (zgm s [g.ins, (g.next.length : Int), (g.outs.length : Int), 0, 0] a) := by
 obtain ⟨_, i0, i1, i2, i3, i4, i5⟩ := zM hg
 have wf : g.first = 1 + g.ins + g.next.length := rfl
 obtain ⟨b, hb, hd⟩ := zsQ (s := s) (magic := [97, 97, 103]) (l := zaY g) (r := ztW g.ins.toNat ++ (zi9 g g.next.length ++ (zja g.outs g.outs.length ++ (zjb g g.ands.length ++ r)))) (by
  rw [h, ← zw9 (zaY g) (by simp [zaY])]
  simp [zdp]) (fun n hn => by
  simp only [zaY, List.mem_cons, List.not_mem_nil, or_false] at hn
  omega) (by simp [zaY]) (by simp [zaY]) (by
  have h0 : (hd9 (zaY g)).getD 0 0 = g.first - 1 + (g.ands.length : Int) := rfl
  have h1 : (hd9 (zaY g)).getD 1 0 = g.ins := rfl
  have h2 : (hd9 (zaY g)).getD 2 0 = (g.next.length : Int) := rfl
  have h3 : (hd9 (zaY g)).getD 3 0 = (g.outs.length : Int) := rfl
  have h4 : (hd9 (zaY g)).getD 4 0 = (g.ands.length : Int) := rfl
  have h5 : (hd9 (zaY g)).getD 5 0 = 0 := rfl
  have h6 : (hd9 (zaY g)).getD 6 0 = 0 := rfl
  unfold zhM
  rw [h0, h1, h2, h3, h4, h5, h6]
  simp only [Bool.and_eq_true, decide_eq_true_eq]
  omega)
 obtain ⟨x, hx, hp⟩ := zsS hg hd
 obtain ⟨k1, k2, k3, k4, k5⟩ := zsT hg hp
 have hxa : s.drop x.a = r := by have := hp.1; rwa [zeg, List.nil_append] at this
 refine ⟨x.a, hxa, ?_⟩
 unfold zaX
 rw [hb]
 dsimp only
 rw [hx]
 dsimp only
 show (match zgm s [g.ins, (g.next.length : Int), (g.outs.length : Int), 0, 0] x.a with
  | .error e => (.error e : RE Mo)
  | .ok N => zfY x N) = _
 unfold zwX
 cases zgm s [g.ins, (g.next.length : Int), (g.outs.length : Int), 0, 0] x.a with
 | error e => rfl
 | ok N =>
 dsimp only
 unfold zfY
 rw [zcE k1]
 dsimp only
 rw [zcE k2]
 dsimp only
 rw [zcE k3]
 dsimp only
 rw [k4]
 dsimp only
 rw [show x.ands.find? (fun a => decide (a.lit / 2 ∈ ([] : Cl))) = none by simp, k5]
theorem zc8 {m : Mo} (h : m.chk = 0) : ∀ x, x ∈ m.ins ∨ x ∈ m.lat ∨ x ∈ m.out → zba x = true := by
 have hn := (zaW h).2.2.1
 unfold Mo.names at hn
 simp only [Bool.or_eq_false_iff, List.any_eq_false, zdu, Bool.not_eq_true', Bool.not_eq_true, Bool.not_eq_false', Bool.not_eq_false] at hn
 rintro x (hx | hx | hx)
 ·exact hn.1.1 x hx
 ·exact hn.1.2 x hx
 ·exact hn.2 x hx
theorem zgQ {m : Mo} (h : m.chk = 0) {r : S} (hr : zxa r) : zaX (zbJ m ++ r) = .ok m := by
 obtain ⟨hg, hl, hn, ht, ho⟩ := zaW h
 obtain ⟨_, i0, i1, i2, i3, i4, i5⟩ := zM hg
 have hls : (m.ins.length : Int) = m.g.ins ∧ (m.lat.length : Int) = m.g.next.length ∧ (m.out.length : Int) = m.g.outs.length := by
  simpa [Mo.lens, Bool.or_eq_false_iff, and_assoc] using hl
 obtain ⟨l1, l2, l3⟩ := hls
 obtain ⟨a, ha, he⟩ := zgP (s := zbJ m ++ r) hg (r := zb7 m ++ r) (by simp [zbJ])
 rw [he]
 unfold zwX
 rw [← l1, ← l2, ← l3, zsV (m := m) (n3 := 0) (n4 := 0) (zc8 h) (by omega) (by omega) (by omega) ha hr]
 dsimp only
 show (if Mo.chk ⟨m.g, m.ins, m.lat, m.out ++ ([] ++ [])⟩ = 0 then Except.ok (⟨m.g, m.ins, m.lat, m.out ++ ([] ++ [])⟩ : Mo) else _) = _
 rw [List.append_nil, List.append_nil]
 show (if m.chk = 0 then Except.ok m else _) = _
 rw [if_pos h]
abbrev rdT (s : S) (a : Nat) (T : List V) : O := .cells (.str s :: vi a :: T)
abbrev zaR (a e : Int) : V := .iface 198 (.agg [vi a, vi e])
theorem zz {h : H} {R : AEnd → H → (Nat → Bool) → Prop} (b : Bool) (a e : Int)
 (h1 : b = true → R (.ret (.tup [])) h (fun _ => false)) (h2 : b = false → R (.pan (zaR a e)) h (fun _ => false)) : zb TE 76 [.bool b, vi a, vi e] h R := by
 refine zh Tryz.func76 rfl (by simp [nts]) (vm ?_)
 cases b with
 | true =>
  simp only [wq.down, seval, Tryz.results76]
  exact h1 rfl
 | false =>
  simp only [wq.down, seval, Tryz.results76]
  exact ⟨nofun, h2 rfl⟩
theorem zf3 {k a : Nat} {s : S} {T : List V} {h : H} {R : AEnd → H → (Nat → Bool) → Prop} (c : UInt8) (hk : h[k]? = some (rdT s a T))
 (hr : R (.ret (.bool (zfL s a c))) h (fun _ => false)) : zb TE 141 [.lp k 0, vb c] h R := by
 refine zh Tryz.func141 rfl (by simp [nts]) (vm ?_)
 unfold zfL at hr
 by_cases hlt : a < s.length
 ·have e1 : decide ((a : Int) < (s.length : Int)) = true := by simpa using hlt
  have e2 : s.getD a 0 = s[a] := zA hlt
  rw [List.getElem?_eq_getElem hlt] at hr
  simp only [wq.down, seval, Tryz.results141, hk, e1, e2, zw6]
  refine ⟨by decide +kernel, ⟨by omega, by omega⟩, hr⟩
 ·have e1 : decide ((a : Int) < (s.length : Int)) = false := by simpa using hlt
  rw [List.getElem?_eq_none (by omega)] at hr
  simp only [wq.down, seval, Tryz.results141, hk, e1]
  exact ⟨by decide +kernel, hr⟩
theorem za8 {k a : Nat} {s : S} {T : List V} {h : H} {R : AEnd → H → (Nat → Bool) → Prop} (hs : s.length ≤ 100000) (hk : h[k]? = some (rdT s a T))
 (h1 : ∀ n b, ze1 s a = .ok (n, b) → R (.ret (vi n)) (h.set k (rdT s b T)) (fun _ => false)) (h2 : ze1 s a = .error (a, 3) → R (.pan (zaR a 3)) h (fun _ => false)) : zb TE 142 [.lp k 0] h R := by
 have hG := zwf s a hs
 have hend : 0 ≤ (zh4 s a).2.1 := by
  unfold zh4
  split
  ·exact Int.natCast_nonneg _
  ·split
   ·show 0 ≤ (a : Int) + _
    omega
   ·exact Int.natCast_nonneg _
 obtain ⟨r, hr⟩ : ∃ r, r = zh4 s a := ⟨_, rfl⟩
 unfold ze1 at h1 h2
 rw [← hr] at hG h1 h2 hend
 obtain ⟨b, hb⟩ : ∃ b : Nat, r.2.1 = b := ⟨r.2.1.toNat, by omega⟩
 refine zh Tryz.func142 rfl (by simp [nts]) (vm ?_)
 simp only [wq.down, seval, Tryz.results142, hk]
 refine ⟨by decide +kernel, zjY.mk hG rfl rfl ?_⟩
 simp only [wq.down, seval, hk, hb]
 by_cases he : r.2.2 = 0
 ·rw [if_pos he] at h1
  have hd : (r.2.2 == 0) = true := by simpa using he
  simp only [wq.down, hd]
  refine zz true a 3 (fun _ => ?_) (fun h => by cases h)
  have := h1 _ _ rfl
  rw [hb, Int.toNat_natCast] at this
  simp only [wq.down, seval, hk]
  exact this
 ·rw [if_neg he] at h2
  have hd : (r.2.2 == 0) = false := by simpa using he
  simp only [wq.down, hd]
  refine zz false a 3 (fun h => by cases h) (fun _ => ?_)
  simp only [wq.down, zR]
  exact h2 rfl
def ztY : Plan := .take 0 <| .take 1 <| .take 3 <| .take 4 <| .take 5 <| .alt 2 (.one 6 <| .one 7 <| .fin) (.one 6 (.one 2 <| .one 7 <| .fin))
theorem zf4 {k a : Nat} {s : S} {T : List V} {h : H} {R : AEnd → H → (Nat → Bool) → Prop} (c : UInt8) (ha : s.length ≤ 1000000000) (hk : h[k]? = some (rdT s a T))
 (h1 : zfL s a c = true → R (.ret (.tup [])) (h.set k (rdT s (a + 1) T)) (fun _ => false)) (h2 : zfL s a c = false → R (.pan (zaR a 2)) h (fun _ => false)) : zb TE 197 [.lp k 0, vb c] h R := by
 have hM : maxLen = 9223372036854775807 := rfl
 refine zh Tryz.func197 rfl (by simp [nts]) ?_
 refine za (zbk mixed ztY (fun f' h' => zfL s a c = true ∧ f'.t 0 = .lp k 0 ∧ f'.d = [] ∧ (∀ j, f'.k j = false) ∧ h' = h) [] (fun v d kk t h' => d = [] ∧ (∀ j, kk j = false) ∧ zfL s a c = false ∧ v = zaR a 2 ∧ h' = h) (by decide +kernel) (by decide +kernel) ?_ ?_ ?_)
 ·simp only [wq.down, seval, ztY, hk]
  repeat' apply And.intro
  all_goals
   refine zf3 c hk ?_
   simp only [wq.down, seval, hk]
   refine zz _ _ 2 (fun hb => ?_) (fun hb => ?_)
   ·simp only [wq.down, seval, zbl]
    exact hb
   ·simp only [wq.down, zR, zc3]
    exact hb
 ·rintro f h' ⟨hb, h0, hd, hkf, rfl⟩
  have hl := zhE hb
  have hw := zi (show a < maxLen by omega)
  refine vm ?_
  simp only [wq.down, seval, Tryz.results197, h0, hd, hk, hw]
  rw [show f.k = fun _ => false from funext hkf]
  exact h1 hb
 ·rintro v f h' ⟨hd, hkf, hb, rfl, rfl⟩
  simp only [XE.seq, zO]
  simp only [wq.down, hd]
  rw [show f.k = fun _ => false from funext hkf]
  exact h2 hb
theorem zci {k a : Nat} {s : S} {T : List V} {h : H} {R : AEnd → H → (Nat → Bool) → Prop} (ha : s.length ≤ 1000000000) (hk : h[k]? = some (rdT s a T))
 (h1 : zfL s a 10 = true → R (.ret (.tup [])) (h.set k (rdT s (a + 1) T)) (fun _ => false)) (h2 : zfL s a 10 = false → R (.pan (zaR a 2)) h (fun _ => false)) : zb TE 143 [.lp k 0] h R := by
 refine zh Tryz.func143 rfl (by simp [nts]) (vm ?_)
 simp only [wq.down, seval, Tryz.results143]
 refine zf4 10 ha hk (fun hb => ?_) (fun hb => ?_)
 ·simp only [wq.down]
  exact h1 hb
 ·simp only [wq.down, zR]
  exact h2 hb
theorem zbV {k a : Nat} {s : S} {T : List V} {h : H} {R : AEnd → H → (Nat → Bool) → Prop} (ha : s.length ≤ 1000000000) (hk : h[k]? = some (rdT s a T))
 (h1 : zfL s a 32 = true → R (.ret (.tup [])) (h.set k (rdT s (a + 1) T)) (fun _ => false)) (h2 : zfL s a 32 = false → R (.pan (zaR a 2)) h (fun _ => false)) : zb TE 145 [.lp k 0] h R := by
 refine zh Tryz.func145 rfl (by simp [nts]) (vm ?_)
 simp only [wq.down, seval, Tryz.results145]
 refine zf4 32 ha hk (fun hb => ?_) (fun hb => ?_)
 ·simp only [wq.down]
  exact h1 hb
 ·simp only [wq.down, zR]
  exact h2 hb
theorem zeT (a : Int) : ∀ (ks : Cl), zbb (.int .i64) (vi a) (ks.map vi) = some (ks.findIdx? (· == a))
 | [] => rfl
 | k :: ks => by
  simp only [List.map_cons, zbb, keq, List.findIdx?_cons]
  by_cases h : k = a
  ·subst h; simp
  ·have h1 : (a == k) = false := by simpa using fun h' => h h'.symm
   have h2 : (k == a) = false := by simpa using h
   have h3 : (if True then some (a == k) else none) = some false := by rw [if_pos trivial, h1]
   simp only [h3, zeT a ks, h2]
   cases ks.findIdx? (· == a) <;> rfl
theorem zwv {a : Int} (h0 : 0 ≤ a) (h1 : a ≤ 1000000000000) : IntKind.i64.wrap ((BitVec.ofInt IntKind.i64.bits a &&& BitVec.ofInt IntKind.i64.bits 1).toNat : Int) = a % 2 := by
 obtain ⟨n, rfl⟩ : ∃ n : Nat, a = n := ⟨a.toNat, by omega⟩
 have e1 : (BitVec.ofInt IntKind.i64.bits (n : Int) &&& BitVec.ofInt IntKind.i64.bits 1).toNat = n % 2 := by
  show (BitVec.ofInt 64 (n : Int) &&& BitVec.ofInt 64 1).toNat = n % 2
  rw [BitVec.toNat_and]
  have : (BitVec.ofInt 64 (n : Int)).toNat = n := by simp; omega
  rw [this]
  show n &&& 1 = n % 2
  exact Nat.and_one_is_mod n
 rw [e1, z6 (by omega) (by omega)]
 omega
abbrev usV (l : List Us) : List V := l.flatMap fun u => [vi u.1, vi u.2]
abbrev anV (l : List An) : List V := l.flatMap fun a => [vi a.lit, vi a.pos, vi a.p.1, vi a.p.2, vi a.q.1, vi a.q.2]
abbrev fiT (x : Fi) (mo : Int) : List V := [vi mo, .lm 2, .ls 4 1 0 x.ins.length x.ins.length, .ls 5 1 0 x.lats.length x.lats.length, .ls 6 2 0 x.next.length x.next.length, .ls 7 1 0 x.init.length x.init.length, .ls 8 2 0 x.outs.length x.outs.length, .ls 9 6 0 x.ands.length x.ands.length]
abbrev hF (b0 b1 : O) (s : S) (mo : Int) (x : Fi) (W : Cl) (Y : H) : H :=
 b0 :: b1 :: .map (x.D.map vi) (W.map vi) :: rdT s x.a (fiT x mo) :: .cells (x.ins.map vi) :: .cells (x.lats.map vi) :: .cells (usV x.next) :: .cells (x.init.map vi) :: .cells (usV x.outs) :: .cells (anV x.ands) :: Y
def zB (x : Fi) : Cl := x.D.map fun _ => 0
theorem zdQ {s : S} {a b : Nat} {n : Int} (h : ze1 s a = .ok (n, b)) : 0 ≤ n ∧ n ≤ 2147483647 := by
 unfold ze1 at h
 split at h
 ·rename_i h1
  simp only [Except.ok.injEq, Prod.mk.injEq] at h
  rw [← h.1]
  revert h1
  unfold zh4
  split
  ·intro h1; cases h1
  ·split
   ·rename_i h2
    intro _
    have := h2.2.1
    show 0 ≤ ((zcQ 0 ((s.drop (a : Int).toNat).takeWhile zV) : Nat) : Int) ∧ ((zcQ 0 ((s.drop (a : Int).toNat).takeWhile zV) : Nat) : Int) ≤ 2147483647
    omega
   ·intro h1; cases h1
 ·cases h
theorem zf5 {D : Cl} {a : Int} : (D.findIdx? (· == a)).isSome = decide (a ∈ D) := by
 rw [Bool.eq_iff_iff, List.findIdx?_isSome]
 simp
theorem zbW {b0 b1 : O} {s : S} {mo : Int} {x : Fi} {Y : H} (hs : s.length ≤ 100000) {R : AEnd → H → (Nat → Bool) → Prop}
 (h1 : ∀ n y, zlq s mo x = .ok (n, y) → R (.ret (vi n)) (hF b0 b1 s mo y (zB y) Y) (fun _ => false))
 (h2 : ∀ (w : Nat) (e : Int) (y : Fi), zlq s mo x = .error (w, e) → R (.pan (zaR w e)) (hF b0 b1 s mo y (zB y) Y) (fun _ => false)) :
 zb TE 144 [.lp 3 0] (hF b0 b1 s mo x (zB x) Y) R := by
 have hM : maxLen = 9223372036854775807 := rfl
 unfold zlq at h1 h2
 refine zh Tryz.func144 rfl (by simp [nts]) ?_
 refine za (vm ?_)
 simp only [wq.down, Nat.reduceLT, Tryz.results144]
 refine za (vm ?_)
 simp only [wq.down, seval]
 refine za (vm ?_)
 simp only [wq.down, seval]
 refine za8 (k := 3) (a := x.a) (s := s) (T := fiT x mo) hs rfl (fun n b hn => ?_) (fun hn => ?_)
 ·rw [hn] at h1 h2
  dsimp only at h1 h2
  obtain ⟨n0, n1⟩ := zdQ hn
  have ha := zwv n0 (show n ≤ 1000000000000 by omega)
  simp only [wq.down, seval]
  have hsh := znV n
  have hfi := zeT (n / 2) x.D
  refine za (vm ?_)
  simp only [wq.down, seval, ha]
  refine zz _ _ 1 (fun hb => ?_) (fun hb => ?_)
  ·have hb' : n % 2 = 0 ∧ 2 ≤ n ∧ n ≤ mo := by
    simp only [Bool.and_eq_true, beq_iff_eq, decide_eq_true_eq] at hb
    omega
   rw [if_pos hb'] at h1 h2
   simp only [wq.down]
   cases hfx : x.D.findIdx? (· == n / 2) with
   | some i =>
    have hin : n / 2 ∈ x.D := by
     have := zf5 (D := x.D) (a := n / 2)
     rw [hfx] at this
     simpa using this.symm
    rw [hfx] at hfi
    rw [if_pos hin] at h2
    refine za (vm ?_)
    simp only [wq.down, seval, zgl, hfi, K.keyOk, hsh]
    refine za (vm ?_)
    simp only [wq.down, seval]
    refine zz false _ 5 (fun h => by cases h) (fun _ => ?_)
    simp only [wq.down, zR]
    simp only [XE.seq, zO]
    simp only [wq.down]
    exact h2 _ _ { x with a := b } rfl
   | none =>
    have hin : n / 2 ∉ x.D := by
     have := zf5 (D := x.D) (a := n / 2)
     rw [hfx] at this
     simpa using this.symm
    rw [hfx] at hfi
    rw [if_neg hin] at h1
    refine za (vm ?_)
    simp only [wq.down, seval, zgl, hfi, K.keyOk, hsh]
    refine za (vm ?_)
    simp only [wq.down, seval]
    refine zz true _ 5 (fun _ => ?_) (fun h => by cases h)
    simp only [wq.down]
    refine za (vm ?_)
    simp only [wq.down, seval, znU, hfi, K.keyOk, hsh]
    refine vm ?_
    simp only [wq.down, seval]
    have hz : zB { x with a := b, D := x.D ++ [n / 2] } = zB x ++ [0] := by simp [zB]
    have := h1 _ _ rfl
    rw [hz] at this
    simp only [hF, List.map_append, List.map_cons, List.map_nil] at this
    exact this
  ·have hb' : ¬ (n % 2 = 0 ∧ 2 ≤ n ∧ n ≤ mo) := by
    rintro ⟨c1, c2, c3⟩
    simp [c1, c2, c3] at hb
   rw [if_neg hb'] at h2
   simp only [wq.down, zR]
   simp only [XE.seq, zO]
   simp only [wq.down]
   exact h2 _ _ { x with a := b } rfl
 ·rw [hn] at h1 h2
  dsimp only at h1 h2
  simp only [wq.down, zR]
  simp only [XE.seq, zO]
  simp only [wq.down]
  exact h2 _ _ x rfl
theorem zcj {b0 b1 : O} {s : S} {mo : Int} {x : Fi} {W : Cl} {Y : H} (hs : s.length ≤ 100000) {R : AEnd → H → (Nat → Bool) → Prop}
 (h1 : ∀ u y, zh5 s mo x = .ok (u, y) → ∀ X, R (.ret (.agg [vi u.1, vi u.2])) (hF b0 b1 s mo y W (Y ++ X)) (fun _ => false))
 (h2 : ∀ (w : Nat) (e : Int) (y : Fi), zh5 s mo x = .error (w, e) → ∀ X, R (.pan (zaR w e)) (hF b0 b1 s mo y W (Y ++ X)) (fun _ => false)) :
 zb TE 146 [.lp 3 0] (hF b0 b1 s mo x W Y) R := by
 have hM : maxLen = 9223372036854775807 := rfl
 unfold zh5 at h1 h2
 refine zh Tryz.func146 rfl (by simp [nts]) ?_
 refine za (vm ?_)
 simp only [wq.down, Nat.reduceLT, Tryz.results146]
 refine za (vm ?_)
 simp only [wq.down, seval]
 refine za (vm ?_)
 simp only [wq.down, seval]
 refine za8 (k := 3) (a := x.a) (s := s) (T := fiT x mo) hs rfl (fun n b hn => ?_) (fun hn => ?_)
 ·rw [hn] at h1 h2
  dsimp only at h1 h2
  simp only [wq.down, seval]
  refine za (vm ?_)
  simp only [wq.down, seval]
  refine zz _ _ 1 (fun hb => ?_) (fun hb => ?_)
  ·have hb' : n ≤ mo := by simpa using hb
   rw [if_pos hb'] at h1
   simp only [wq.down]
   refine vm ?_
   simp only [wq.down, seval, gE0, gS0]
   exact h1 _ _ rfl _
  ·have hb' : ¬ n ≤ mo := by simpa using hb
   rw [if_neg hb'] at h2
   simp only [wq.down, zR]
   simp only [XE.seq, zO]
   simp only [wq.down]
   exact h2 _ _ { x with a := b } rfl _
 ·rw [hn] at h1 h2
  dsimp only at h1 h2
  simp only [wq.down, zR]
  simp only [XE.seq, zO]
  simp only [wq.down]
  exact h2 _ _ x rfl _
structure Qt (b0 b1 : O) (Y : H) : Prop where
 q0 : ∀ j, 4 ≤ j → j ≤ 9 → b0.drop (fun x => x == j) = b0
 q1 : ∀ j, 4 ≤ j → j ≤ 9 → b1.drop (fun x => x == j) = b1
 q2 : ∀ j, 4 ≤ j → j ≤ 9 → Y.map (O.drop (fun x => x == j)) = Y
def zcP : Nat → Bool := fun j => decide (4 ≤ j) && decide (j ≤ 9)
theorem zeH {s : S} {mo : Int} {x y : Fi} {n : Int} (h : zlq s mo x = .ok (n, y)) : (∃ b, y = { x with a := b, D := x.D ++ [n / 2] }) ∧ 0 ≤ n ∧ n ≤ 2147483647 ∧ n % 2 = 0 ∧ 2 ≤ n ∧ n ≤ mo ∧ n / 2 ∉ x.D := by
 unfold zlq at h
 cases hn : ze1 s x.a with
 | error e => rw [hn] at h; cases h
 | ok v =>
  obtain ⟨m, b⟩ := v
  rw [hn] at h
  dsimp only at h
  have := zdQ hn
  split at h
  ·rename_i hc
   split at h
   ·cases h
   ·rename_i hd
    simp only [Except.ok.injEq, Prod.mk.injEq] at h
    obtain ⟨rfl, rfl⟩ := h
    exact ⟨⟨b, rfl⟩, this.1, this.2, hc.1, hc.2.1, hc.2.2, hd⟩
  ·cases h
theorem zcF {s : S} {mo : Int} {x y : Fi} {u : Us} (h : zh5 s mo x = .ok (u, y)) : (∃ b, y = { x with a := b }) ∧ 0 ≤ u.1 ∧ u.1 ≤ 2147483647 ∧ u.1 ≤ mo ∧ u.2 = x.a := by
 unfold zh5 at h
 cases hn : ze1 s x.a with
 | error e => rw [hn] at h; cases h
 | ok v =>
  obtain ⟨m, b⟩ := v
  rw [hn] at h
  dsimp only at h
  have := zdQ hn
  split at h
  ·rename_i hc
   simp only [Except.ok.injEq, Prod.mk.injEq] at h
   obtain ⟨rfl, rfl⟩ := h
   exact ⟨⟨b, rfl⟩, this.1, this.2, hc, rfl⟩
  ·cases h
theorem zbu {p : Nat → Bool} : ∀ {l : List Us}, V.drops p (usV l) = usV l
 | [] => rfl
 | u :: l => by
  show V.drop p (vi u.1) :: V.drop p (vi u.2) :: V.drops p (usV l) = _
  rw [zbu]; rfl
theorem zbX {p : Nat → Bool} : ∀ {l : List An}, V.drops p (anV l) = anV l
 | [] => rfl
 | a :: l => by
  show V.drop p (vi a.lit) :: V.drop p (vi a.pos) :: V.drop p (vi a.p.1) :: V.drop p (vi a.p.2) :: V.drop p (vi a.q.1) :: V.drop p (vi a.q.2) :: V.drops p (anV l) = _
  rw [zbX]; rfl
theorem zgR : ∀ l : List Us, (usV l).length = l.length * 2
 | [] => rfl
 | a :: l => by show (usV l).length + 1 + 1 = _; rw [zgR l, List.length_cons]; omega
theorem zgS : ∀ l : List An, (anV l).length = l.length * 6
 | [] => rfl
 | a :: l => by show (anV l).length + 1 + 1 + 1 + 1 + 1 + 1 = _; rw [zgS l, List.length_cons]; omega
def zcN : Plan := .take 0 <| .take 1 <| .take 2 <| .take 3 <| .take 5 <| .alt 4 (.one 6 <| .one 7 <| .one 8 <| .take 9 <| .take 10 <| .one 11 <| .fin) (.one 6 (.alt 4 (.one 7 <| .one 8 <| .take 9 <| .take 10 <| .one 11 <| .fin) (.one 7 (.one 4 <| .one 8 <| .take 9 <| .take 10 <| .one 11 <| .fin))))
theorem zkI {b0 b1 : O} {s : S} {mo : Int} {x : Fi} {Y : H} (hq : Qt b0 b1 Y) (hs : s.length ≤ 100000) (hl : x.ins.length ≤ 4000) {R : AEnd → H → (Nat → Bool) → Prop}
 (h1 : ∀ y, za6 s mo x = .ok y → R (.ret (.tup [])) (hF b0 b1 s mo y (zB y) Y) zcP)
 (h2 : ∀ (w : Nat) (e : Int) (y : Fi), za6 s mo x = .error (w, e) → R (.pan (zaR w e)) (hF b0 b1 s mo y (zB y) Y) zcP) :
 zb TE 69 [.lp 3 0] (hF b0 b1 s mo x (zB x) Y) R := by
 have hM : maxLen = 9223372036854775807 := rfl
 have e0 := hq.q0 4 (by decide) (by decide)
 have e1 := hq.q1 4 (by decide) (by decide)
 have e2 := hq.q2 4 (by decide) (by decide)
 have dI : ∀ (p : Nat → Bool) (l : Cl), V.drops p (l.map vi) = l.map vi := fun p l => zD _
 have dU : ∀ (p : Nat → Bool) (l : List Us), V.drops p (usV l) = usV l := fun p l => zbu
 have dA : ∀ (p : Nat → Bool) (l : List An), V.drops p (anV l) = anV l := fun p l => zbX
 unfold za6 at h1 h2
 refine zb.kp zcP ?_
 refine zh Tryz.func69 rfl (by simp [nts]) ?_
 cases hdef : zlq s mo x with
 | error er =>
  obtain ⟨w, e⟩ := er
  rw [hdef] at h2
  refine za (zbk mixed zcN (fun f' h' => False) [] (fun v d kk t h' => d = [] ∧ (∀ j, kk j = true → j = 4) ∧ v = zaR w e ∧ ∃ y, h' = hF b0 b1 s mo y (zB y) Y) (by decide +kernel) (by decide +kernel) ?_ (fun _ _ h => h.elim) ?_)
  ·simp only [wq.down, seval, zcN]
   repeat' apply And.intro
   all_goals
    refine zbW hs (fun n y hn => by rw [hdef] at hn; cases hn) (fun w' e' y hn => ?_)
    rw [hdef] at hn
    cases hn
    simp only [wq.down, zR, zc3]
    exact ⟨y, rfl⟩
  ·rintro v f' h' ⟨kd, kk, rfl, y, rfl⟩
   simp only [XE.seq, zO]
   simp only [wq.down, kd]
   refine ⟨fun i hi => ?_, h2 w e y rfl⟩
   have := kk i hi
   subst this
   rfl
 | ok ny =>
  obtain ⟨n, y⟩ := ny
  rw [hdef] at h1 h2
  dsimp only at h1 h2
  obtain ⟨⟨b, rfl⟩, n0, n1, n2, n3, n4, n5⟩ := zeH hdef
  refine za (zbk mixed zcN (fun f' h' => f'.t 0 = .lp 3 0 ∧ f'.d = [] ∧ (∀ j, f'.k j = true → j = 4) ∧ h' = hF b0 b1 s mo { x with a := b, D := x.D ++ [n / 2], ins := x.ins ++ [n] } (zB { x with D := x.D ++ [n / 2] }) Y) [] (fun _ _ _ _ _ => False) (by decide +kernel) (by decide +kernel) ?_ ?_ (fun _ _ _ h => h.elim))
  ·simp only [wq.down, seval, zcN]
   repeat' apply And.intro
   all_goals
    refine zbW hs (fun n' y hn => ?_) (fun w' e' y hn => by rw [hdef] at hn; cases hn)
    rw [hdef] at hn
    cases hn
    simp only [wq.down, seval, dI, dU, dA, e0, e1, e2, zbl]
    repeat' apply And.intro
    all_goals first
     | rfl
     | decide
     | omega
     | exact fun j hj => by simpa using hj
     | simp only [hF, zB, rdT, fiT, List.map_append, List.map_cons, List.map_nil, List.length_append, List.length_singleton]
  ·rintro f' h' ⟨k0, kd, kk, rfl⟩
   have kr : ∀ j, (f'.k j || false) = true → zcP j = true := fun j hj => by
    have := kk j (by simpa using hj)
    subst this
    rfl
   refine vm ?_
   simp only [wq.down, seval, Tryz.results69, k0]
   refine zci (s := s) (a := b) (T := fiT { x with ins := x.ins ++ [n] } mo) (by omega) rfl (fun hb => ?_) (fun hb => ?_)
   ·simp only [wq.down, kd]
    refine ⟨fun i hi => kr i (by simpa using hi), ?_⟩
    have h1' := h1 { x with a := b + 1, D := x.D ++ [n / 2], ins := x.ins ++ [n] } (by unfold zaK; rw [if_pos hb])
    simp only [hF, zB, rdT, fiT, List.map_append, List.map_cons, List.map_nil, List.length_append, List.length_singleton, List.append_assoc] at h1' ⊢
    exact h1'
   ·simp only [wq.down, zR, kd]
    refine ⟨fun i hi => kr i (by simpa using hi), ?_⟩
    exact h2 b 2 { x with a := b, D := x.D ++ [n / 2], ins := x.ins ++ [n] } (by unfold zaK; rw [if_neg (by rw [hb]; decide)])
theorem zjc {b0 b1 : O} {s : S} {mo : Int} {x : Fi} {W : Cl} {Y : H} (hq : Qt b0 b1 Y) (hs : s.length ≤ 100000) (hl : x.outs.length ≤ 4000) {R : AEnd → H → (Nat → Bool) → Prop}
 (h1 : ∀ y, zap s mo x = .ok y → ∀ X, R (.ret (.tup [])) (hF b0 b1 s mo y W (Y ++ X)) zcP)
 (h2 : ∀ (w : Nat) (e : Int) (y : Fi), zap s mo x = .error (w, e) → ∀ X, R (.pan (zaR w e)) (hF b0 b1 s mo y W (Y ++ X)) zcP) :
 zb TE 71 [.lp 3 0] (hF b0 b1 s mo x W Y) R := by
 have hM : maxLen = 9223372036854775807 := rfl
 have e0 := hq.q0 8 (by decide) (by decide)
 have e1 := hq.q1 8 (by decide) (by decide)
 have e2 := hq.q2 8 (by decide) (by decide)
 have dI : ∀ (p : Nat → Bool) (l : Cl), V.drops p (l.map vi) = l.map vi := fun p l => zD _
 have dU : ∀ (p : Nat → Bool) (l : List Us), V.drops p (usV l) = usV l := fun p l => zbu
 have dA : ∀ (p : Nat → Bool) (l : List An), V.drops p (anV l) = anV l := fun p l => zbX
 have hul := zgR x.outs
 unfold zap at h1 h2
 refine zb.kp zcP ?_
 refine zh Tryz.func71 rfl (by simp [nts]) ?_
 cases hdef : zh5 s mo x with
 | error er =>
  obtain ⟨w, e⟩ := er
  rw [hdef] at h2
  refine za (zbk mixed zcN (fun f' h' => False) [] (fun v d kk t h' => d = [] ∧ (∀ j, kk j = true → j = 8) ∧ v = zaR w e ∧ ∃ y X, h' = hF b0 b1 s mo y W (Y ++ X)) (by decide +kernel) (by decide +kernel) ?_ (fun _ _ h => h.elim) ?_)
  ·simp only [wq.down, seval, zcN]
   repeat' apply And.intro
   all_goals
    refine zcj hs (fun n y hn => by rw [hdef] at hn; cases hn) (fun w' e' y hn X => ?_)
    rw [hdef] at hn
    cases hn
    simp only [wq.down, zR, zc3]
    exact ⟨y, X, rfl⟩
  ·rintro v f' h' ⟨kd, kk, rfl, y, X, rfl⟩
   simp only [XE.seq, zO]
   simp only [wq.down, kd]
   refine ⟨fun i hi => ?_, h2 w e y rfl X⟩
   have := kk i hi
   subst this
   rfl
 | ok ny =>
  obtain ⟨u, y⟩ := ny
  rw [hdef] at h1 h2
  dsimp only at h1 h2
  obtain ⟨⟨b, rfl⟩, n0, n1, n2, n3⟩ := zcF hdef
  refine za (zbk mixed zcN (fun f' h' => f'.t 0 = .lp 3 0 ∧ f'.d = [] ∧ (∀ j, f'.k j = true → j = 8) ∧ ∃ X, h' = hF b0 b1 s mo { x with a := b, outs := x.outs ++ [u] } W (Y ++ X)) [] (fun _ _ _ _ _ => False) (by decide +kernel) (by decide +kernel) ?_ ?_ (fun _ _ _ h => h.elim))
  ·simp only [wq.down, seval, zcN]
   repeat' apply And.intro
   all_goals
    refine zcj hs (fun n' y hn X => ?_) (fun w' e' y hn => by rw [hdef] at hn; cases hn)
    rw [hdef] at hn
    cases hn
    simp only [wq.down, seval, dI, dU, dA, e0, e1, e2, zbl]
    repeat' apply And.intro
    all_goals first
     | rfl
     | decide
     | omega
     | exact fun j hj => by simpa using hj
     | skip
    all_goals
     have eu : usV (x.outs ++ [u]) = usV x.outs ++ [vi u.1, vi u.2] := by simp [usV]
     refine ⟨X.map (O.drop fun x => x == 8), ?_⟩
     simp only [hF, rdT, fiT, eu, List.length_append, List.length_singleton]
     rfl
  ·rintro f' h' ⟨k0, kd, kk, X, rfl⟩
   have kr : ∀ j, (f'.k j || false) = true → zcP j = true := fun j hj => by
    have := kk j (by simpa using hj)
    subst this
    rfl
   refine vm ?_
   simp only [wq.down, seval, Tryz.results71, k0]
   refine zci (s := s) (a := b) (T := fiT { x with outs := x.outs ++ [u] } mo) (by omega) rfl (fun hb => ?_) (fun hb => ?_)
   ·simp only [wq.down, kd]
    refine ⟨fun i hi => kr i (by simpa using hi), ?_⟩
    have h1' := h1 { x with a := b + 1, outs := x.outs ++ [u] } (by unfold zaK; rw [if_pos hb]) X
    exact h1'
   ·simp only [wq.down, zR, kd]
    refine ⟨fun i hi => kr i (by simpa using hi), ?_⟩
    exact h2 b 2 { x with a := b, outs := x.outs ++ [u] } (by unfold zaK; rw [if_neg (by rw [hb]; decide)]) X
theorem zpK {k : Nat → Bool} {i : Nat} (h4 : 4 ≤ i) (h9 : i ≤ 9) (hk : ∀ j, k j = true → zcP j = true) : ∀ j, (k j || j == i) = true → zcP j = true := fun j hj => by
 cases hkj : k j with
 | true => exact hk j hkj
 | false =>
  rw [hkj] at hj
  have : j = i := by simpa using hj
  subst this
  unfold zcP
  simp only [Bool.and_eq_true, decide_eq_true_eq]
  omega
def zuY : Plan := .fin
theorem zsW : zg P (zo Tryz.f70 9) zuY 0 (bl 23 8388607) = true := by decide +kernel
def zuZ : Plan := .one 22 zuY
theorem zsX : zg P (zo Tryz.f70 9) zuZ 1 (bl 23 4194303) = true := okO zsW
def zu0 : Plan := .take 21 zuZ
theorem zsY : zg P (zo Tryz.f70 9) zu0 2 (bl 23 2097151) = true := okT zsX
def zu1 : Plan := .take 20 zu0
theorem zsZ : zg P (zo Tryz.f70 9) zu1 3 (bl 23 1048575) = true := okT zsY
def zu2 : Plan := .one 19 zu1
theorem zs0 : zg P (zo Tryz.f70 9) zu2 4 (bl 23 524287) = true := okO zsZ
def zu3 : Plan := .take 18 zu2
theorem zs1 : zg P (zo Tryz.f70 9) zu3 5 (bl 23 262143) = true := okT zs0
def zu4 : Plan := .take 17 zu3
theorem zs2 : zg P (zo Tryz.f70 9) zu4 6 (bl 23 131071) = true := okT zs1
def zpL : Plan := .one 16 zu4
theorem zhS : zg P (zo Tryz.f70 9) zpL 7 (bl 23 65535) = true := okO zs2
def zpM : Plan := .one 15 zpL
theorem zhT : zg P (zo Tryz.f70 9) zpM 8 (bl 23 32767) = true := okO zhS
def zs3 : Plan := .one 14 zpM
theorem zlt : zg P (zo Tryz.f70 9) zs3 9 (bl 23 16383) = true := okO zhT
def zlu : Plan := .one 12 zpL
theorem zjd : zg P (zo Tryz.f70 9) zlu 8 (bl 23 61439) = true := okO zhS
def zlv : Plan := .alt 12 zpM (.one 15 zlu)
theorem zje : zg P (zo Tryz.f70 9) zlv 9 (bl 23 28671) = true := okA zhT (alO zjd)
def zpN : Plan := .alt 12 zs3 (.one 14 zlv)
theorem zpO : zg P (zo Tryz.f70 9) zpN 10 (bl 23 12287) = true := okA zlt (alO zje)
def zgT : Plan := .one 8 zpL
theorem zej : zg P (zo Tryz.f70 9) zgT 8 (bl 23 65279) = true := okO zhS
def zgU : Plan := .alt 8 zpM (.one 15 zgT)
theorem zek : zg P (zo Tryz.f70 9) zgU 9 (bl 23 32511) = true := okA zhT (alO zej)
def zjf : Plan := .alt 8 zs3 (.one 14 zgU)
theorem zf6 : zg P (zo Tryz.f70 9) zjf 10 (bl 23 16127) = true := okA zlt (alO zek)
def zjg : Plan := .alt 8 zlu (.one 12 zgT)
theorem zf7 : zg P (zo Tryz.f70 9) zjg 9 (bl 23 61183) = true := okA zjd (alO zej)
def zjh : Plan := .alt 8 zlv (.alt 12 zgU (.one 15 zjg))
theorem zf8 : zg P (zo Tryz.f70 9) zjh 10 (bl 23 28415) = true := okA zje (alA zek (alO zf7))
def zlw : Plan := .alt 8 zpN (.alt 12 zjf (.one 14 zjh))
theorem zji : zg P (zo Tryz.f70 9) zlw 11 (bl 23 12031) = true := okA zpO (alA zf6 (alO zf8))
def zjj : Plan := .one 7 zgT
theorem zf9 : zg P (zo Tryz.f70 9) zjj 9 (bl 23 65151) = true := okO zej
def zjk : Plan := .alt 7 zgU (.one 15 zjj)
theorem zga : zg P (zo Tryz.f70 9) zjk 10 (bl 23 32383) = true := okA zek (alO zf9)
def zlx : Plan := .alt 7 zjf (.one 14 zjk)
theorem zjl : zg P (zo Tryz.f70 9) zlx 11 (bl 23 15999) = true := okA zf6 (alO zga)
def zly : Plan := .alt 7 zjg (.one 12 zjj)
theorem zjm : zg P (zo Tryz.f70 9) zly 10 (bl 23 61055) = true := okA zf7 (alO zf9)
def zlz : Plan := .alt 7 zjh (.alt 12 zjk (.one 15 zly))
theorem zjn : zg P (zo Tryz.f70 9) zlz 11 (bl 23 28287) = true := okA zf8 (alA zga (alO zjm))
def zpP : Plan := .alt 7 zlw (.alt 12 zlx (.one 14 zlz))
theorem zpQ : zg P (zo Tryz.f70 9) zpP 12 (bl 23 11903) = true := okA zji (alA zjl (alO zjn))
def zjo : Plan := .one 5 zgT
theorem zgb : zg P (zo Tryz.f70 9) zjo 9 (bl 23 65247) = true := okO zej
def zjp : Plan := .alt 5 zgU (.one 15 zjo)
theorem zgc : zg P (zo Tryz.f70 9) zjp 10 (bl 23 32479) = true := okA zek (alO zgb)
def zlA : Plan := .alt 5 zjf (.one 14 zjp)
theorem zjq : zg P (zo Tryz.f70 9) zlA 11 (bl 23 16095) = true := okA zf6 (alO zgc)
def zlB : Plan := .alt 5 zjg (.one 12 zjo)
theorem zjr : zg P (zo Tryz.f70 9) zlB 10 (bl 23 61151) = true := okA zf7 (alO zgb)
def zlC : Plan := .alt 5 zjh (.alt 12 zjp (.one 15 zlB))
theorem zjs : zg P (zo Tryz.f70 9) zlC 11 (bl 23 28383) = true := okA zf8 (alA zgc (alO zjr))
def zpR : Plan := .alt 5 zlw (.alt 12 zlA (.one 14 zlC))
theorem zpS : zg P (zo Tryz.f70 9) zpR 12 (bl 23 11999) = true := okA zji (alA zjq (alO zjs))
def zlD : Plan := .alt 5 zjj (.one 7 zjo)
theorem zjt : zg P (zo Tryz.f70 9) zlD 10 (bl 23 65119) = true := okA zf9 (alO zgb)
def zlE : Plan := .alt 5 zjk (.alt 7 zjp (.one 15 zlD))
theorem zju : zg P (zo Tryz.f70 9) zlE 11 (bl 23 32351) = true := okA zga (alA zgc (alO zjt))
def zpT : Plan := .alt 5 zlx (.alt 7 zlA (.one 14 zlE))
theorem zpU : zg P (zo Tryz.f70 9) zpT 12 (bl 23 15967) = true := okA zjl (alA zjq (alO zju))
def zpV : Plan := .alt 5 zly (.alt 7 zlB (.one 12 zlD))
theorem zpW : zg P (zo Tryz.f70 9) zpV 11 (bl 23 61023) = true := okA zjm (alA zjr (alO zjt))
def zpX : Plan := .alt 5 zlz (.alt 7 zlC (.alt 12 zlE (.one 15 zpV)))
theorem zpY : zg P (zo Tryz.f70 9) zpX 12 (bl 23 28255) = true := okA zjn (alA zjs (alA zju (alO zpW)))
def zpZ : Plan := .alt 5 zpP (.alt 7 zpR (.alt 12 zpT (.one 14 zpX)))
theorem zp0 : zg P (zo Tryz.f70 9) zpZ 13 (bl 23 11871) = true := okA zpQ (alA zpS (alA zpU (alO zpY)))
def zp1 : Plan := .take 13 zpZ
theorem zp2 : zg P (zo Tryz.f70 9) zp1 14 (bl 23 3679) = true := okT zp0
def zp3 : Plan := .take 11 zp1
theorem zp4 : zg P (zo Tryz.f70 9) zp3 15 (bl 23 1631) = true := okT zp2
def zp5 : Plan := .take 10 zp3
theorem zp6 : zg P (zo Tryz.f70 9) zp5 16 (bl 23 607) = true := okT zp4
def zp7 : Plan := .take 9 zp5
theorem zp8 : zg P (zo Tryz.f70 9) zp7 17 (bl 23 95) = true := okT zp6
def zp9 : Plan := .take 6 zp7
theorem zqa : zg P (zo Tryz.f70 9) zp9 18 (bl 23 31) = true := okT zp8
def zqb : Plan := .take 4 zp9
theorem zqc : zg P (zo Tryz.f70 9) zqb 19 (bl 23 15) = true := okT zqa
def zqd : Plan := .take 3 zqb
theorem zqe : zg P (zo Tryz.f70 9) zqd 20 (bl 23 7) = true := okT zqc
def zqf : Plan := .take 2 zqd
theorem zqg : zg P (zo Tryz.f70 9) zqf 21 (bl 23 3) = true := okT zqe
def zqh : Plan := .take 1 zqf
theorem zqi : zg P (zo Tryz.f70 9) zqh 22 (bl 23 1) = true := okT zqg
def zlF : Plan := .take 0 zqh
theorem zqj : zg P (zo Tryz.f70 9) zlF 23 #[false, false, false, false, false, false, false, false, false, false, false, false, false, false, false, false, false, false, false, false, false, false, false] = true := okT zqi
theorem zww : zg P (zo Tryz.f70 9) zlF (zo Tryz.f70 9).size (Array.replicate (zo Tryz.f70 9).size false) = true := zqj
set_option maxHeartbeats 16000000 in
set_option maxRecDepth 100000 in
theorem zkJ {b0 b1 : O} {s : S} {mo : Int} {x : Fi} {Y : H} (hq : Qt b0 b1 Y) (hs : s.length ≤ 100000) (hl : x.lats.length ≤ 4000) (hl2 : x.next.length ≤ 4000) (hl3 : x.init.length ≤ 4000) {R : AEnd → H → (Nat → Bool) → Prop}
 (h1 : ∀ y, za7 s mo x = .ok y → ∀ X, R (.ret (.tup [])) (hF b0 b1 s mo y (zB y) (Y ++ X)) zcP)
 (h2 : ∀ (w : Nat) (e : Int) (y : Fi), za7 s mo x = .error (w, e) → ∀ W X, R (.pan (zaR w e)) (hF b0 b1 s mo y W (Y ++ X)) zcP) :
 zb TE 70 [.lp 3 0] (hF b0 b1 s mo x (zB x) Y) R := by
 have hM : maxLen = 9223372036854775807 := rfl
 have dI : ∀ (p : Nat → Bool) (l : Cl), V.drops p (l.map vi) = l.map vi := fun p l => zD _
 have dU : ∀ (p : Nat → Bool) (l : List Us), V.drops p (usV l) = usV l := fun p l => zbu
 have dA : ∀ (p : Nat → Bool) (l : List An), V.drops p (anV l) = anV l := fun p l => zbX
 have hul := zgR x.next
 unfold za7 at h1 h2
 refine zb.kp zcP ?_
 refine zh Tryz.func70 rfl (by simp [nts]) ?_
 refine za (vm ?_)
 simp only [wq.down, seval, Tryz.results70]
 refine zbW hs (fun lit y hdef => ?_) (fun w e y hdef => ?_)
 ·rw [hdef] at h1 h2
  dsimp only at h1 h2
  obtain ⟨⟨b, rfl⟩, n0, n1, n2, n3, n4, n5⟩ := zeH hdef
  clear hdef
  obtain ⟨D2, hD2⟩ : ∃ D2, D2 = x.D ++ [lit / 2] := ⟨_, rfl⟩
  rw [← hD2] at h1 h2 ⊢
  obtain ⟨W, hW⟩ : ∃ W, W = zB { x with a := b, D := D2 } := ⟨_, rfl⟩
  rw [← hW]
  have hWy : ∀ y : Fi, y.D = D2 → zB y = W := fun y hy => by rw [hW]; unfold zB; rw [hy]
  simp only [wq.down, seval]
  refine za (vm ?_)
  simp only [wq.down, seval]
  refine zbV (k := 3) (s := s) (a := b) (T := fiT { x with a := b, D := D2 } mo) (by omega) rfl (fun hb => ?_) (fun hb => ?_)
  ·unfold zaK at h1 h2
   rw [if_pos hb] at h1 h2
   dsimp only at h1 h2
   simp only [wq.down]
   cases hdef : zh5 s mo { x with a := b + 1, D := D2 } with
   | error er =>
    obtain ⟨w, e⟩ := er
    rw [hdef] at h2
    refine za (zbk mixed zcN (fun f' h' => False) [] (fun v d kk t h' => d = [] ∧ (∀ j, kk j = true → zcP j = true) ∧ v = zaR w e ∧ ∃ y X, h' = hF b0 b1 s mo y W (Y ++ X)) (by decide +kernel) (by decide +kernel) ?_ (fun _ _ h => h.elim) ?_)
    ·simp only [wq.down, seval, zcN]
     repeat' apply And.intro
     all_goals
      refine zcj (x := { x with a := b + 1, D := D2 }) hs (fun n y hn => by rw [hdef] at hn; cases hn) (fun w' e' y hn X => ?_)
      rw [hdef] at hn
      cases hn
      simp only [wq.down, zR, zc3]
      exact ⟨y, X, rfl⟩
    ·rintro v f' h' ⟨kd, kk, rfl, y, X, rfl⟩
     simp only [XE.seq, zO]
     simp only [wq.down, kd]
     exact ⟨kk, h2 w e y rfl _ X⟩
   | ok ny =>
    obtain ⟨u, y⟩ := ny
    rw [hdef] at h1 h2
    dsimp only at h1 h2
    obtain ⟨⟨b2, rfl⟩, u0, u1, u2, u3⟩ := zcF hdef
    obtain ⟨NX, hNX⟩ : ∃ NX, NX = x.next ++ [u] := ⟨_, rfl⟩
    have eN : usV NX = usV x.next ++ [vi u.1, vi u.2] := by rw [hNX]; simp [usV]
    have lN : NX.length = x.next.length + 1 := by rw [hNX]; simp
    dsimp only at h1 h2
    rw [← hNX] at h1 h2
    have e0 := hq.q0 6 (by decide) (by decide)
    have e1 := hq.q1 6 (by decide) (by decide)
    have e2 := hq.q2 6 (by decide) (by decide)
    refine za (zbk mixed zcN (fun f' h' => f'.t 0 = .lp 3 0 ∧ f'.t 2 = vi lit ∧ f'.d = [] ∧ (∀ j, f'.k j = true → zcP j = true) ∧ ∃ X, h' = hF b0 b1 s mo { x with a := b2, D := D2, next := NX } W (Y ++ X)) [] (fun _ _ _ _ _ => False) (by decide +kernel) (by decide +kernel) ?_ ?_ (fun _ _ _ h => h.elim))
    ·simp only [wq.down, seval, zcN]
     repeat' apply And.intro
     all_goals
      refine zcj (x := { x with a := b + 1, D := D2 }) hs (fun n' y hn X => ?_) (fun w' e' y hn => by rw [hdef] at hn; cases hn)
      rw [hdef] at hn
      cases hn
      simp only [wq.down, seval, dI, dU, dA, e0, e1, e2, zbl]
      repeat' apply And.intro
      all_goals first
       | rfl
       | decide
       | omega
       | exact fun j hj => (by have := eq_of_beq hj; subst this; rfl)
       | skip
      all_goals
       refine ⟨X.map (O.drop fun x => x == 6), ?_⟩
       simp only [hF, rdT, fiT, eN, lN]
       rfl
    ·rintro f' h' ⟨k0, k2, kd, kk, X, rfl⟩
     show awp _ _ _ _ _ _ _
     refine za (vm ?_)
     simp only [wq.down, Nat.reduceLT]
     obtain ⟨x2, hx2⟩ : ∃ x2 : Fi, x2 = { x with a := b2, D := D2, next := NX } := ⟨_, rfl⟩
     have g1 : x2.D = D2 := by rw [hx2]
     have g2 : x2.lats.length ≤ 4000 := by rw [hx2]; exact hl
     have g3 : x2.init.length ≤ 4000 := by rw [hx2]; exact hl3
     rw [← hx2] at h1 h2 ⊢
     clear hx2
     refine za (zP (Q := fun xe f h' => (xe = .normal ∧ ∃ (n : Int) (b3 : Nat), zee s lit x2 = .ok (n, { x2 with a := b3 }) ∧ 0 ≤ n ∧ n ≤ 2147483647 ∧ f.t 0 = .lp 3 0 ∧ f.t 2 = vi lit ∧ f.t 3 = vi n ∧ f.d = [] ∧ (∀ j, f.k j = true → zcP j = true) ∧ h' = hF b0 b1 s mo { x2 with a := b3 } W (Y ++ X)) ∨ (∃ (w : Nat) (e : Int) (y : Fi), xe = .pan (zaR w e) ∧ zee s lit x2 = .error (w, e) ∧ f.d = [] ∧ (∀ j, f.k j = true → zcP j = true) ∧ h' = hF b0 b1 s mo y W (Y ++ X))) ?_ ?_)
     ·rintro xe f h' (⟨rfl, n, b3, hbr, m0, m1, k0, k2, k3, kd, kk, rfl⟩ | ⟨w, e, y, rfl, hbr, kd, kk, rfl⟩)
      ·rw [hbr] at h1 h2
       dsimp only at h1 h2
       show awp _ _ _ _ _ _ _
       have p5 := hq.q0 5 (by decide) (by decide)
       have p5' := hq.q1 5 (by decide) (by decide)
       have p5y := hq.q2 5 (by decide) (by decide)
       have p7 := hq.q0 7 (by decide) (by decide)
       have p7' := hq.q1 7 (by decide) (by decide)
       have p7y := hq.q2 7 (by decide) (by decide)
       refine za (zN mixed zlF (fun f' h' => f'.t 0 = .lp 3 0 ∧ f'.d = [] ∧ (∀ j, f'.k j = true → zcP j = true) ∧ ∃ X, h' = hF b0 b1 s mo { x2 with a := b3, lats := x2.lats ++ [lit], init := x2.init ++ [min n 2] } W (Y ++ X)) zww (by decide +kernel) ?_ ?_)
       ·simp only [wq.down, seval, zuY, zuZ, zu0, zu1, zu2, zu3, zu4, zpL, zpM, zs3, zlu, zlv, zpN, zgT, zgU, zjf, zjg, zjh, zlw, zjj, zjk, zlx, zly, zlz, zpP, zjo, zjp, zlA, zlB, zlC, zpR, zlD, zlE, zpT, zpV, zpX, zpZ, zp1, zp3, zp5, zp7, zp9, zqb, zqd, zqf, zqh, zlF, k0, k2, k3, kd, dI, dU, dA, p5, p5', p5y, p7, p7', p7y, mn]
        repeat' apply And.intro
        all_goals first
         | rfl
         | decide
         | omega
         | exact zpK (by decide) (by decide) (zpK (by decide) (by decide) kk)
         | skip
        all_goals
         refine ⟨(X.map (O.drop fun x => x == 5)).map (O.drop fun x => x == 7), ?_⟩
         simp only [hF, rdT, fiT, List.map_append, List.map_cons, List.map_nil, List.length_append, List.length_singleton, List.map_map]
         try rfl
       ·rintro f' h' ⟨k0, kd, kk, X, rfl⟩
        show awp _ _ _ _ _ _ _
        refine vm ?_
        simp only [wq.down, seval, k0]
        refine zci (k := 3) (s := s) (a := b3) (T := fiT { x2 with lats := x2.lats ++ [lit], init := x2.init ++ [min n 2] } mo) (by omega) rfl (fun hb => ?_) (fun hb => ?_)
        ·rw [if_pos hb] at h1
         simp only [wq.down, kd]
         refine ⟨fun i hi => kk i (by simpa using hi), ?_⟩
         have := h1 _ rfl X
         have hz : zB { x2 with a := b3 + 1, lats := x2.lats ++ [lit], init := x2.init ++ [min n 2] } = W := hWy _ g1
         rw [hz] at this
         try simp only [hF, rdT, fiT, List.map_append, List.map_cons, List.map_nil, List.length_append, List.length_singleton, List.append_assoc] at this ⊢
         exact this
        ·rw [if_neg (by rw [hb]; decide)] at h2
         simp only [wq.down, zR, kd]
         try simp only [zO]
         try simp only [wq.down, seval, zn, Tryz.results70, kd]
         have := h2 b3 2 { x2 with a := b3, lats := x2.lats ++ [lit], init := x2.init ++ [min n 2] } rfl W X
         try simp only [hF, rdT, fiT, List.map_append, List.map_cons, List.map_nil, List.length_append, List.length_singleton, List.append_assoc] at this ⊢
         exact ⟨kk, this⟩
      ·rw [hbr] at h2
       simp only [XE.seq, zO]
       simp only [wq.down, kd]
       exact ⟨kk, h2 w e y rfl _ X⟩
     ·refine za (vm ?_)
      simp only [wq.down, seval, k0]
      refine zf3 (k := 3) (a := x2.a) (s := s) (T := fiT x2 mo) 32 rfl ?_
      simp only [wq.down]
      unfold zee
      cases hi : zfL s x2.a 32 with
      | false =>
       refine vm ?_
       simp only [wq.down, seval, k0, k2, kd]
       exact .inl ⟨0, x2.a, rfl, by decide, by decide, rfl, kk, rfl⟩
      | true =>
       have hlt := zhE hi
       have hw := zi (show x2.a < maxLen by omega)
       rw [if_pos rfl]
       refine zbe (b := true) (by simp only [wq.down, ↓reduceIte]) (by simp only [wq.down, ↓reduceIte]) (fun _ => ?_) (fun h => by cases h)
       refine za (vm ?_)
       simp only [wq.down, seval, k0, hw]
       refine za (vm ?_)
       simp only [wq.down, seval, k0]
       refine za (vm ?_)
       simp only [wq.down, seval, k0]
       refine za8 (k := 3) (a := x2.a + 1) (s := s) (T := fiT x2 mo) hs rfl (fun n b3 hn => ?_) (fun hn => ?_)
       ·rw [hn]
        dsimp only
        obtain ⟨n0, n1⟩ := zdQ hn
        simp only [wq.down, seval]
        cases hc1 : decide (n < 2) with
        | true =>
         have hc1' : n < 2 := of_decide_eq_true hc1
         rw [if_pos (Or.inl hc1')]
         refine vm ?_
         simp only [wq.down, seval, k2, hc1]
         refine zz true _ 1 (fun _ => ?_) (fun h => by cases h)
         simp only [wq.down, seval, k0, k2, kd]
         exact .inl ⟨n, b3, rfl, n0, n1, rfl, kk, rfl⟩
        | false =>
         have hc1' : ¬ n < 2 := of_decide_eq_false hc1
         cases hc2 : (n == lit) with
         | true =>
          have hc2' : n = lit := eq_of_beq hc2
          rw [if_pos (Or.inr hc2')]
          refine vm ?_
          simp only [wq.down, seval, k2, hc1, hc2]
          refine zz true _ 1 (fun _ => ?_) (fun h => by cases h)
          simp only [wq.down, seval, k0, k2, kd]
          exact .inl ⟨n, b3, rfl, n0, n1, rfl, kk, rfl⟩
         | false =>
          have hc2' : n ≠ lit := by simpa using hc2
          rw [if_neg (fun h => h.elim hc1' hc2')]
          refine vm ?_
          simp only [wq.down, seval, k2, hc1, hc2]
          refine zz false _ 1 (fun h => by cases h) (fun _ => ?_)
          simp only [wq.down, seval, zR, k0, k2, kd]
          exact .inr ⟨_, _, { x2 with a := b3 }, rfl, rfl, kk, rfl⟩
       ·rw [hn]
        dsimp only
        simp only [wq.down, reduceCtorEq, zR, kd]
        simp only [XE.seq]
        simp only [wq.down, seval, kd]
        exact .inr ⟨_, _, { x2 with a := x2.a + 1 }, rfl, rfl, kk, rfl⟩
  ·unfold zaK at h2
   rw [if_neg (by rw [hb]; decide)] at h2
   simp only [wq.down, zR]
   simp only [XE.seq, zO]
   simp only [wq.down]
   have := h2 b 2 { x with a := b, D := D2 } rfl W []
   rw [List.append_nil] at this
   exact this
 ·rw [hdef] at h2
  dsimp only at h2
  simp only [wq.down, zR]
  simp only [XE.seq, zO]
  simp only [wq.down]
  have := h2 _ _ y rfl (zB y) []
  rw [List.append_nil] at this
  exact this
end Go.Proofs.YtboolnpmlmgpkaaGreatDoor
