/- Lemmas for the statement of this claim, part F11: they hold with no conditions but those that each one names. -/
import Derived.Test.YtboolnpmlmgpkaaGreatDoorF10
import Derived.Test.YtboolnpmlmgpkaaGreatDoorF03
import Derived.Test.YtboolnpmlmgpkaaGreatDoorA11
import Derived.Test.YtboolnpmlmgpkaaGreatDoorA9
set_option linter.unusedVariables false
set_option maxRecDepth 20000
set_option linter.unusedSimpArgs false
set_option linter.unnecessarySimpa false
namespace Go.Proofs.YtboolnpmlmgpkaaGreatDoor
open Go Go.Proofs Go.Abs
theorem zfV {k a : Nat} {s : S} {T : List V} {h : H} {R : AEnd → H → (Nat → Bool) → Prop} (ha : a ≤ s.length) (hk : h[k]? = some (rdT s a T))
 (hr : R (.ret (.bool (zm0 s a))) h (fun _ => false)) : zb TE 131 [.lp k 0] h R := by
 have hp := zmG (s.drop a) [99, 10]
 unfold zm0 at hr
 cases hb : ([99, 10] : S).isPrefixOf (s.drop a) with
 | true =>
  rw [hb] at hp hr
  refine zi Tryz.func131 rfl (by simp [nts]) (vm ?_)
  simp only [wq.down, seval, Tryz.results131, hk]
  refine ⟨by decide +kernel, ⟨by omega, by omega⟩, zhw.mk hp rfl rfl ?_⟩
  simp only [wq.down, seval, hk]
  exact hr
 | false =>
  rw [hb] at hp hr
  refine zi Tryz.func131 rfl (by simp [nts]) (vm ?_)
  simp only [wq.down, seval, Tryz.results131, hk]
  refine ⟨by decide +kernel, ⟨by omega, by omega⟩, zhw.mk hp rfl rfl ?_⟩
  simp only [wq.down, seval, hk]
  exact ⟨⟨by omega, by omega⟩, hr⟩
theorem zha (c : UInt8) : ∀ l : S, Lib.indexByte l c = (match l.findIdx? (· == c) with | some i => (i : Int) | none => -1)
 | [] => rfl
 | b :: l => by
  unfold Lib.indexByte
  rw [List.findIdx?_cons, zha c l]
  by_cases hb : (b == c) = true
  ·rw [if_pos hb, if_pos hb]
   rfl
  ·rw [if_neg hb, if_neg hb]
   cases h : l.findIdx? (· == c) with
   | none => rfl
   | some i =>
    show (if ((i : Int) == -1) = true then (-1 : Int) else (i : Int) + 1) = _
    rw [if_neg (by simp)]
    rfl
theorem zm4 {c : UInt8} (h : zk7 c = none) : Lib.indexByte [105, 108, 111, 98, 99] c = -1 := by
 unfold zk7 at h
 rw [zha, h]
theorem zim {c : UInt8} {k : Nat} (h : zk7 c = some k) : Lib.indexByte [105, 108, 111, 98, 99] c = k ∧ k < 5 := by
 unfold zk7 at h
 rw [zha, h]
 exact ⟨rfl, (List.findIdx?_eq_some_iff_getElem.1 h).1⟩
abbrev rwS (L : List (List S)) (k : Nat) : O := .cells ((L.getD k []).map V.str)
abbrev lsS (L : List (List S)) (k : Nat) : V := .ls (3 + k) 1 0 (L.getD k []).length (L.getD k []).length
abbrev hS (many : Cl) (s : S) (a : Nat) (L : List (List S)) : H :=
 [.cells (many.map vi), .cells [lsS L 0, lsS L 1, lsS L 2, lsS L 3, lsS L 4], .cells [vi 0, vi 0, vi 0], rwS L 0, rwS L 1, rwS L 2, rwS L 3, rwS L 4, rdT s a []]
theorem zrO {L : List (List S)} (h : L.length = 5) : ∃ l0 l1 l2 l3 l4, L = [l0, l1, l2, l3, l4] := by
 match L, h with
 | [l0, l1, l2, l3, l4], _ => exact ⟨_, _, _, _, _, rfl⟩
theorem zqo {L : List (List S)} {k : Nat} (hk : k < 5) : [lsS L 0, lsS L 1, lsS L 2, lsS L 3, lsS L 4].getD (k * 1) V.any = lsS L k := by
 rcases k with _|_|_|_|_|k <;> first | rfl | omega
theorem zpt {many : Cl} {s : S} {a : Nat} {L : List (List S)} {k : Nat} (hk : k < 5) : (hS many s a L)[3 + k]? = some (rwS L k) := by
 rcases k with _|_|_|_|_|k <;> first | rfl | omega
theorem zpu {many : Cl} {s : S} {a : Nat} {L : List (List S)} {k N : Nat} {nm : S} (hL : L.length = 5) (hk : k < 5) : (hS many s a L).set (3 + k) (.cells (((L.getD k []).set N nm).map V.str)) = hS many s a (L.set k ((L.getD k []).set N nm)) := by
 obtain ⟨l0, l1, l2, l3, l4, rfl⟩ := zrO hL
 rcases k with _|_|_|_|_|k
 ·simp [hS, lsS, rwS]
 ·simp [hS, lsS, rwS]
 ·simp [hS, lsS, rwS]
 ·simp [hS, lsS, rwS]
 ·simp [hS, lsS, rwS]
 ·omega
theorem zm5 {l : List S} {N : Nat} {nm : S} (h : N < l.length) : List.take (N * 1) (l.map V.str) ++ [V.str nm] ++ List.drop (N * 1 + 1) (l.map V.str) = (l.set N nm).map V.str := by
 rw [List.map_set, List.set_eq_take_append_cons_drop, if_pos (by rw [List.length_map]; omega), Nat.mul_one]
 simp
def zm6 : Plan := .take 0 <| .take 2 <| .take 3 <| .take 4 <| .alt 1 (.one 5 <| .one 6 <| .fin) (.one 5 (.one 1 <| .one 6 <| .fin))
set_option maxHeartbeats 4000000 in
theorem zjm {many : Cl} {s : S} {L : List (List S)} {a : Nat} (hL : L.length = 5) (hLb : ∀ l ∈ L, l.length ≤ 4000) (hs : s.length ≤ 100000) (ha : a < s.length) {R : AEnd → H → (Nat → Bool) → Prop}
 (h1 : ∀ L' b, zeb s L a = .ok (L', b) → R (.ret (.tup [])) (hS many s b L') (fun _ => false))
 (h2 : ∀ (w : Nat) (e : Int), zeb s L a = .error (w, e) → ∀ b, R (.pan (zec w e)) (hS many s b L) (fun _ => false)) : zb TE 132 [.lp 8 0, .lp 1 0] (hS many s a L) R := by
 have hM : maxLen = 9223372036854775807 := rfl
 have hga : s.getD a 0 = s[a] := zt ha
 have hib := zrz [105, 108, 111, 98, 99] (s[a].toNat) (UInt8.toNat_lt _)
 rw [UInt8.ofNat_toNat] at hib
 unfold zeb at h1 h2
 rw [hga] at h1 h2
 refine zb.kp (fun _ => false) ?_
 refine zi Tryz.func132 rfl (by simp [nts]) ?_
 refine za (vm ?_)
 simp only [wq.down, seval, Tryz.results132]
 refine za ?_
 refine vm ?_
 simp only [wq.down, seval, hga]
 refine ⟨by decide +kernel, ⟨by omega, by omega⟩, zhw.mk hib rfl rfl ?_⟩
 simp only [wq.down, seval]
 cases hk : zk7 s[a] with
 | none =>
  rw [hk] at h2
  rw [zm4 hk]
  refine za (vm ?_)
  simp only [wq.down, seval]
  refine zC false _ 2 (fun h => by cases h) (fun _ => ?_)
  simp only [wq.down, Int.reduceNeg, zY]
  simp only [XE.seq, zai]
  simp only [wq.down, Int.reduceNeg]
  exact h2 _ _ rfl _
 | some k =>
  rw [hk] at h1 h2
  dsimp only at h1 h2
  obtain ⟨hki, hk5⟩ := zim hk
  have hk0 : decide ((0 : Int) ≤ (k : Int)) = true := by simp
  have hw := zm (show a < maxLen by omega)
  rw [hki]
  refine za (vm ?_)
  simp only [wq.down, seval, hk0]
  refine zC true _ 2 (fun _ => ?_) (fun h => by cases h)
  simp only [wq.down]
  refine za (vm ?_)
  simp only [wq.down, seval, hw]
  refine za (vm ?_)
  simp only [wq.down, seval]
  refine za (vm ?_)
  simp only [wq.down, seval]
  refine zdK (k := 8) (a := a + 1) (s := s) (T := []) hs rfl (fun n b hn => ?_) (fun hn => ?_)
  ·rw [hn] at h1 h2
   dsimp only at h1 h2
   have hnn := zjk hn
   have hbl := zm3 hn
   simp only [wq.down, seval]
   refine za (vm ?_)
   simp only [wq.down, seval]
   refine zik (k := 8) (s := s) (a := b) (T := []) (by omega) rfl (fun hb => ?_) (fun hb => ?_)
   ·unfold zbX at h1 h2
    rw [if_pos hb] at h1 h2
    dsimp only at h1 h2
    have hblt := zfn hb
    have hcut := zrA (s.drop (b + 1)) 10 (by rw [List.length_drop]; omega)
    obtain ⟨nm, hnm⟩ : ∃ nm, nm = (s.drop (b + 1)).takeWhile (· != 10) := ⟨_, rfl⟩
    rw [← hnm] at h1 h2
    simp only [wq.down]
    refine za ?_
    refine vm ?_
    simp only [wq.down, seval]
    rcases zfl 10 (s.drop (b + 1)) with ⟨m1, m2, m3⟩ | ⟨m1, m2⟩
    ·have hcv : zpf (s.drop (b + 1)) 10 = .tup [.str (s.drop (b + 1)), .str [], .bool false] := by unfold zpf; rw [if_pos (by omega)]
     rw [hcv] at hcut
     rw [← hnm] at m3
     have hge : ¬ b + 1 + nm.length < s.length := by rw [m3, List.length_drop]; omega
     rw [if_neg hge] at h2
     refine ⟨by decide +kernel, ⟨by omega, by omega⟩, zhw.mk hcut rfl rfl ?_⟩
     simp only [wq.down, seval]
     refine za (vm ?_)
     simp only [wq.down, seval]
     refine zC false _ 2 (fun h => by cases h) (fun _ => ?_)
     simp only [wq.down, zY]
     simp only [XE.seq, zai]
     simp only [wq.down]
     exact h2 _ _ rfl _
    ·have hcv : zpf (s.drop (b + 1)) 10 = .tup [.str nm, .str ((s.drop (b + 1)).drop (nm.length + 1)), .bool true] := by unfold zpf; rw [if_neg (by omega), hnm]
     rw [hcv] at hcut
     rw [← hnm] at m1 m2
     rw [List.length_drop] at m2
     have hlt : b + 1 + nm.length < s.length := by omega
     rw [if_pos hlt] at h1 h2
     refine ⟨by decide +kernel, ⟨by omega, by omega⟩, zhw.mk hcut rfl rfl ?_⟩
     simp only [wq.down, seval]
     refine za (vm ?_)
     simp only [wq.down, seval]
     refine zC true _ 2 (fun _ => ?_) (fun h => by cases h)
     simp only [wq.down]
     obtain ⟨N, rfl⟩ : ∃ N : Nat, n = N := ⟨n.toNat, by omega⟩
     have hls := zqo (L := L) hk5
     have hrw := zpt (many := many) (s := s) (a := b + 1) (L := L) hk5
     have hset := zpu (many := many) (s := s) (a := b + 1) (L := L) (N := N) (nm := nm) hL hk5
     obtain ⟨l, hl⟩ : ∃ l, l = L.getD k [] := ⟨_, rfl⟩
     have hll : l.length ≤ 4000 := by
      rw [hl, zt (by omega)]; exact hLb _ (List.getElem_mem _)
     unfold rwS at hrw
     unfold lsS at hls
     rw [← hl] at h1 h2 hls hrw hset
     obtain ⟨H, hH⟩ : ∃ H, H = hS many s (b + 1) L := ⟨_, rfl⟩
     have H1 : H[1]? = some (.cells [lsS L 0, lsS L 1, lsS L 2, lsS L 3, lsS L 4]) := by rw [hH]; rfl
     have H8 : H[8]? = some (rdT s (b + 1) []) := by rw [hH]; rfl
     show awp _ _ _ _ _ _ (hS many s (b + 1) L)
     rw [← hH] at hrw hset ⊢
     by_cases hnl : N < l.length
     ·have hnl' : decide ((N : Int) < (l.length : Int)) = true := by simpa using hnl
      rw [if_pos (by omega)] at h1 h2
      rw [Int.toNat_natCast] at h1 h2
      have hsn : (l.map V.str).getD (N * 1) V.any = V.str l[N] := by rw [Nat.mul_one]; simp [List.getD_eq_getElem?_getD, hnl]
      have hgN : l.getD N [] = l[N] := zt hnl
      refine za (vm ?_)
      simp only [wq.down, seval, H1, hls, hnl']
      refine ⟨⟨by omega, by omega⟩, by omega, ?_⟩
      refine zC true _ 1 (fun _ => ?_) (fun h => by cases h)
      simp only [wq.down]
      have hnmE := zjL nm
      refine za (zax mixed zm6 (fun f' h' => zaY nm = true ∧ f'.t 0 = .lp 8 0 ∧ f'.t 1 = .lp 1 0 ∧ f'.t 4 = vi a ∧ f'.t 5 = vi k ∧ f'.t 7 = vi N ∧ f'.t 8 = .str nm ∧ f'.d = [] ∧ (∀ j, f'.k j = true → False) ∧ h' = H) [] (fun v d kk t h' => d = [] ∧ (∀ j, kk j = true → False) ∧ zaY nm = false ∧ v = zec ((b + 1 : Nat) : Int) 4 ∧ h' = H) (by decide +kernel) (by decide +kernel) ?_ ?_ ?_)
      ·simp only [wq.down, seval, zm6, H8]
       repeat' apply And.intro
       all_goals
        refine zb.ev hnmE rfl ?_
        simp only [wq.down, seval, H8]
        refine zC _ _ 4 (fun hb => ?_) (fun hb => ?_)
        ·simp only [wq.down, seval, zay]
         exact hb
        ·simp only [wq.down, zY, zby]
         exact hb
      ·rintro f' h' ⟨hok, t0, t1, t4, t5, t7, t8, hd, hkk, rfl⟩
       show awp _ _ _ _ _ _ _
       rw [if_pos hok, hgN] at h1 h2
       refine za (vm ?_)
       simp only [wq.down, seval, H1, hls, hrw, hsn, t1, t4, t5, t7]
       refine ⟨⟨by omega, by omega⟩, by omega, ⟨by omega, by omega⟩, by omega, zC _ _ 5 (fun hb => ?_) (fun hb => ?_)⟩
       ·have hb' : l[N] = [] := eq_of_beq hb
        rw [if_pos hb'] at h1
        simp only [wq.down]
        refine za (vm ?_)
        simp only [wq.down, seval, H1, hls, hrw, t1, t5, t7, t8]
        refine ⟨⟨by omega, by omega⟩, by omega, ⟨by omega, by omega⟩, by omega, ?_⟩
        rw [zm5 hnl, hset]
        have w1 := zm (show nm.length < maxLen by omega)
        have w2 : IntKind.i64.wrap (((b + 1 : Nat) : Int) + ((nm.length + 1 : Nat) : Int)) = ((b + 1 + nm.length + 1 : Nat) : Int) := by rw [zJ (by omega) (by omega)]; omega
        refine vm ?_
        simp only [wq.down, seval, t0, t8, hd, w1, w2]
        exact ⟨hkk, h1 _ _ rfl⟩
       ·have hb' : l[N] ≠ [] := by simpa using hb
        rw [if_neg hb'] at h2
        simp only [wq.down, zY]
        simp only [XE.seq, zai]
        simp only [wq.down, hd]
        refine ⟨hkk, ?_⟩
        rw [hH]
        exact h2 _ _ rfl _
      ·rintro v f' h' ⟨hd, hkk, hok, rfl, rfl⟩
       rw [if_neg (by rw [hok]; decide)] at h2
       simp only [XE.seq, zai]
       simp only [wq.down, hd]
       refine ⟨hkk, ?_⟩
       rw [hH]
       exact h2 _ _ rfl _
     ·have hnl' : decide ((N : Int) < (l.length : Int)) = false := by simpa using hnl
      rw [if_neg (by omega)] at h2
      refine za (vm ?_)
      simp only [wq.down, seval, H1, hls, hnl']
      refine ⟨⟨by omega, by omega⟩, by omega, ?_⟩
      refine zC false _ 1 (fun h => by cases h) (fun _ => ?_)
      simp only [wq.down, zY]
      simp only [XE.seq, zai]
      simp only [wq.down]
      rw [hH]
      exact h2 _ _ rfl _
   ·unfold zbX at h2
    rw [if_neg (by rw [hb]; decide)] at h2
    simp only [wq.down, zY]
    simp only [XE.seq, zai]
    simp only [wq.down]
    exact h2 _ _ rfl _
  ·rw [hn] at h2
   simp only [wq.down, zY]
   simp only [XE.seq, zai]
   simp only [wq.down]
   exact h2 _ _ rfl _
theorem zgg {e : Int} {d2 d3 : V} {cs : List V} {h : H} {K : H → (Nat → Bool) → Prop} (h1 : h[1]? = some (.cells cs)) (hc : cs.length = 5) (h2 : h[2]? = some (.cells [vi e, d2, d3]))
 (hK0 : e = 0 → K h (fun _ => false)) (hK1 : e ≠ 0 → K (h.set 1 (.cells [.nils, .nils, .nils, .nils, .nils])) (fun _ => false)) : za2 TE 130 [.lp 2 0, .lp 1 0] h K := by
 refine zev rfl Tryz.func130 rfl rfl (by simp [nts]) ?_
 simp only [nts]
 by_cases he : e = 0
 ·have he' : (e != 0) = false := by simpa using he
  refine vm ?_
  simp only [wq.down, seval, h2, he']
  exact hK0 he
 ·have he' : (e != 0) = true := by simpa using he
  refine vm ?_
  simp only [wq.down, seval, h2, h1, he']
  refine ⟨by omega, ?_⟩
  rw [List.drop_eq_nil_of_le (by omega)]
  exact hK1 he
theorem zqp {s : S} {a b : Nat} {n : Int} (h : zeN s a = .ok (n, b)) : a ≤ b := by
 unfold zeN at h
 split at h
 ·rename_i h1
  simp only [Except.ok.injEq, Prod.mk.injEq] at h
  rw [← h.2]
  revert h1
  unfold zfT
  split
  ·intro h1; cases h1
  ·split
   ·intro _
    dsimp only
    omega
   ·intro h1; cases h1
 ·cases h
theorem zj2 {s : S} {L L' : List (List S)} {a b : Nat} (h : zeb s L a = .ok (L', b)) (hL : L.length = 5) (hLb : ∀ l ∈ L, l.length ≤ 4000) : a < b ∧ b ≤ s.length ∧ L'.length = 5 ∧ ∀ l ∈ L', l.length ≤ 4000 := by
 unfold zeb at h
 cases hk : zk7 (s.getD a 0) with
 | none => rw [hk] at h; cases h
 | some k =>
  obtain ⟨_, hk5⟩ := zim hk
  rw [hk] at h
  dsimp only at h
  cases hn : zeN s (a + 1) with
  | error e => rw [hn] at h; cases h
  | ok nb =>
   obtain ⟨n, b1⟩ := nb
   rw [hn] at h
   dsimp only at h
   have hge := zqp hn
   unfold zbX at h
   split at h
   ·cases h
   ·rename_i b2 hb
    split at hb
    ·cases hb
     split at h
     ·split at h
      ·split at h
       ·split at h
        ·simp only [Except.ok.injEq, Prod.mk.injEq] at h
         obtain ⟨rfl, rfl⟩ := h
         refine ⟨by omega, by omega, by rw [List.length_set]; exact hL, fun l hl => ?_⟩
         rcases List.mem_or_eq_of_mem_set hl with h | h
         ·exact hLb l h
         ·rw [h, List.length_set, zt (by omega)]
          exact hLb _ (List.getElem_mem _)
        ·cases h
       ·cases h
      ·cases h
     ·cases h
    ·cases hb
theorem zj3 {s : S} {a w : Nat} {e : Int} (h : zeN s a = .error (w, e)) : w = a ∧ e = 3 := by
 unfold zeN at h
 split at h
 ·cases h
 ·simp only [Except.error.injEq, Prod.mk.injEq] at h
  exact ⟨h.1.symm, h.2.symm⟩
theorem zin {s : S} {L : List (List S)} {a w : Nat} {e : Int} (h : zeb s L a = .error (w, e)) : e ≠ 0 := by
 unfold zeb at h
 cases hk : zk7 (s.getD a 0) with
 | none => rw [hk] at h; simp only [Except.error.injEq, Prod.mk.injEq] at h; omega
 | some k =>
  rw [hk] at h
  dsimp only at h
  cases hn : zeN s (a + 1) with
  | error e =>
   obtain ⟨w', e'⟩ := e
   rw [hn] at h
   have := zj3 hn
   simp only [Except.error.injEq, Prod.mk.injEq] at h
   omega
  | ok nb =>
   obtain ⟨n, b1⟩ := nb
   rw [hn] at h
   dsimp only at h
   unfold zbX at h
   repeat' split at h
   all_goals first
    | cases h; done
    | (simp only [Except.error.injEq, Prod.mk.injEq] at h; omega)
    | (rename_i hb; split at hb <;> first | cases hb; done | (simp only [Except.error.injEq] at hb h; subst hb; simp only [Prod.mk.injEq] at h; omega))
def zgh (k : Nat) : UInt8 := [(105 : UInt8), 108, 111, 98, 99].getD k 0
theorem z8 {c : UInt8} : ∀ {l : List S} {i : Nat}, (zbl c i l).length = l.length
 | [], i => rfl
 | x :: l, i => by unfold zbl; rw [List.length_cons, z8, List.length_cons]
theorem zj4 {c : UInt8} : ∀ {l : List S} {b i : Nat} (h : i < l.length), (zbl c b l)[i]'(by rw [z8]; exact h) = if l[i] = [] then c :: Lib.itoa ((b + i : Nat) : Int) else l[i]
 | x :: l, b, 0, h => rfl
 | x :: l, b, i + 1, h => by
  have := zj4 (c := c) (l := l) (b := b + 1) (i := i) (by simpa using h)
  unfold zbl
  simp only [List.getElem_cons_succ]
  rw [this, show b + 1 + i = b + (i + 1) by omega]
def zbm (c : UInt8) (i : Nat) (l : List S) : List S := (zbl c 0 l).take i ++ l.drop i
theorem zqq {c : UInt8} {l : List S} : zbm c 0 l = l := by simp [zbm]
theorem zm7 {c : UInt8} {l : List S} : zbm c l.length l = zbl c 0 l := by
 unfold zbm
 rw [List.drop_length, List.append_nil, List.take_of_length_le (by rw [z8]; exact Nat.le_refl _)]
theorem zio {c : UInt8} {i : Nat} {l : List S} (h : i ≤ l.length) : (zbm c i l).length = l.length := by
 unfold zbm
 rw [List.length_append, List.length_take, List.length_drop, z8]; omega
theorem zj5 {c : UInt8} {i : Nat} {l : List S} (h : i < l.length) : (zbm c i l)[i]'(by rw [zio (by omega)]; exact h) = l[i] := by
 unfold zbm
 rw [List.getElem_append_right (by rw [List.length_take, z8]; omega)]
 simp [List.length_take, z8, Nat.min_eq_left (Nat.le_of_lt h)]
theorem zgi {c : UInt8} {i : Nat} {l : List S} (h : i < l.length) : zbm c (i + 1) l = (zbm c i l).set i (if l[i] = [] then c :: Lib.itoa (i : Int) else l[i]) := by
 have hf := zj4 (c := c) (b := 0) h
 rw [Nat.zero_add] at hf
 unfold zbm
 rw [List.take_add_one, List.getElem?_eq_getElem (by rw [z8]; exact h), hf, List.set_append_right _ _ (by rw [List.length_take, z8]; omega), List.length_take, z8, Nat.min_eq_left (by omega), Nat.sub_self, List.drop_eq_getElem_cons h, List.set_cons_zero, Option.toList_some, List.append_assoc]
 rfl
def Lk (L : List (List S)) (k : Nat) : List (List S) := (List.range 5).map fun j => if j < k then zbl (zgh j) 0 (L.getD j []) else L.getD j []
theorem zm8 {L : List (List S)} {k : Nat} : (Lk L k).length = 5 := by simp [Lk]
theorem zrP {L : List (List S)} {k : Nat} (h : k < 5) : (Lk L k).getD k [] = L.getD k [] := by
 unfold Lk
 rw [List.getD_eq_getElem?_getD, List.getElem?_map, List.getElem?_range h]
 simp
theorem zsQ {L : List (List S)} (h : L.length = 5) : Lk L 0 = L := by
 obtain ⟨l0, l1, l2, l3, l4, rfl⟩ := zrO h
 rfl
theorem zsR {L : List (List S)} : Lk L 5 = zk8 L := rfl
theorem zqr {L : List (List S)} {k : Nat} (h : k < 5) : (Lk L k).set k (zbl (zgh k) 0 (L.getD k [])) = Lk L (k + 1) := by
 rcases k with _|_|_|_|_|k
 ·rfl
 ·rfl
 ·rfl
 ·rfl
 ·rfl
 ·omega
theorem zrQ {L : List (List S)} {k : Nat} {r : List S} (h : k < L.length) : (L.set k r).getD k [] = r := by
 rw [List.getD_eq_getElem?_getD, List.getElem?_set_self h]; rfl
theorem zla {k : Nat} (h : k < 5) : (([105, 108, 111, 98, 99] : S).drop k).take (k + 1 - k) = [zgh k] := by
 rcases k with _|_|_|_|_|k
 ·rfl
 ·rfl
 ·rfl
 ·rfl
 ·rfl
 ·omega
def zpv : Plan := .take 0 <| .take 1 <| .take 3 <| .take 4 <| .take 5 <| .take 6 <| .take 7 <| .take 8 <| .alt 2 (.one 9 <| .one 10 <| .take 11 <| .one 12 <| .fin) (.one 9 (.alt 2 (.one 10 <| .take 11 <| .one 12 <| .fin) (.one 10 (.one 2 <| .take 11 <| .one 12 <| .fin))))
def zm9 (s : S) (many : Cl) (a : Nat) : V := match ziD s many a with
 | .error (w, e) => .tup [.agg [zU [], zU [], zU [], zU [], zU []], zL s w e]
 | .ok N => .tup [.agg [zU (N.getD 0 []), zU (N.getD 1 []), zU (N.getD 2 []), zU (N.getD 3 []), zU (N.getD 4 [])], .agg [vi 0, vi 0, vi 0]]
def hMk (many : Cl) (L : List (List S)) : Nat → H
 | 0 => [.cells (many.map vi), .cells [.nils, .nils, .nils, .nils, .nils], .cells [vi 0, vi 0, vi 0]]
 | 1 => [.cells (many.map vi), .cells [lsS L 0, .nils, .nils, .nils, .nils], .cells [vi 0, vi 0, vi 0], rwS L 0]
 | 2 => [.cells (many.map vi), .cells [lsS L 0, lsS L 1, .nils, .nils, .nils], .cells [vi 0, vi 0, vi 0], rwS L 0, rwS L 1]
 | 3 => [.cells (many.map vi), .cells [lsS L 0, lsS L 1, lsS L 2, .nils, .nils], .cells [vi 0, vi 0, vi 0], rwS L 0, rwS L 1, rwS L 2]
 | 4 => [.cells (many.map vi), .cells [lsS L 0, lsS L 1, lsS L 2, lsS L 3, .nils], .cells [vi 0, vi 0, vi 0], rwS L 0, rwS L 1, rwS L 2, rwS L 3]
 | _ => [.cells (many.map vi), .cells [lsS L 0, lsS L 1, lsS L 2, lsS L 3, lsS L 4], .cells [vi 0, vi 0, vi 0], rwS L 0, rwS L 1, rwS L 2, rwS L 3, rwS L 4]
set_option maxHeartbeats 8000000 in
theorem zlb (s : S) (many : Cl) (a : Nat) (hm : many.length = 5) (hs : s.length ≤ 100000) : Ev TE 54 [.str s, vi a, .agg (many.map vi)] (zm9 s many a) := by
 have hM : maxLen = 9223372036854775807 := rfl
 obtain ⟨m0, m1, m2, m3, m4, rfl⟩ : ∃ m0 m1 m2 m3 m4, many = [m0, m1, m2, m3, m4] := by
  match many, hm with
  | [m0, m1, m2, m3, m4], _ => exact ⟨_, _, _, _, _, rfl⟩
 refine za0 ?_
 refine za7 rfl Tryz.func54 rfl (by simp [nts]) fun ok pl0 w0 => ?_
 simp only [nts]
 refine zdv (Q := fun _ _ _ => False) ?_ (fun _ _ _ h => by obtain ⟨_, _, _, _, _, _, h⟩ := h; exact h.elim)
 refine vm ?_
 simp only [wq.down, seval]
 have hsc : ∀ (tl : List Deferred) (x : Operand), x ∈ #[Operand.tmp 15, Operand.tmp 7] → (Fr.ev { TE with tl := tl } ((((((Fr.init [V.str s, vi a, V.agg ([m0, m1, m2, m3, m4].map vi)]).put (some 5) (.lp 0 0)).put (some 6) (.lp 1 0)).put (some 7) (.lp 2 0)).put (some 14) (.fn (.func 130) [] [.lp 2 0, .lp 1 0])).put (some 15) (.str s)) x).sc := fun tl x hx => by
  simp only [List.mem_toArray, List.mem_cons, List.not_mem_nil, or_false] at hx
  rcases hx with rfl | rfl
  ·simp only [wq.down, ↓reduceIte]
  ·simp only [wq.down, seval]
 refine zmj (fn := Tryz.f54) (q := 130) (q2 := 67) (avs := [.lp 2 0, .lp 1 0]) (avs2 := [.str s, .lp 2 0]) (F2 := (((((Fr.init [V.str s, vi a, V.agg ([m0, m1, m2, m3, m4].map vi)]).put (some 5) (.lp 0 0)).put (some 6) (.lp 1 0)).put (some 7) (.lp 2 0)).put (some 14) (.fn (.func 130) [] [.lp 2 0, .lp 1 0])).put (some 15) (.str s)) rfl ⟨rfl, by simp only [wq.down, Nat.reduceLT], by simp only [wq.down, seval], rfl, rfl, rfl, ⟨.tmp 14, #[], #[], [.lp 2 0, .lp 1 0], rfl, by simp only [wq.down, seval], by simp only [wq.down, seval], by simp, by simp only [wq.down, seval]⟩, by simp only [wq.down]⟩ rfl rfl (fun tl => ⟨rfl, by simp only [wq.down, Nat.reduceLT], by simp only [wq.down, seval], rfl, rfl, rfl, ⟨.func 67, #[.tmp 15, .tmp 7], _, [], rfl, by simp only [wq.down], by simp only [wq.down], hsc tl, by simp only [wq.down, seval]⟩, by simp only [wq.down, seval]⟩) rfl fun d d2 => ?_
 obtain ⟨ee, hee⟩ : ∃ ee : E, ee = { TE with tl := [d2, d] } := ⟨_, rfl⟩
 have hP : ee.P = P := by rw [hee]; rfl
 have hmix : ee.P.follows .mixedOrders = true := by rw [hP]; exact mixed
 have hT : ∀ {g : FuncId} {args : List V} {h : H} {R : AEnd → H → (Nat → Bool) → Prop}, zb TE g args h R → zb ee g args h R := fun hc => by rw [hee]; exact hc.tl _
 rw [← hee]
 obtain ⟨QP, eQP⟩ : ∃ QP : XE → Fr → H → Prop, QP = LV TE Tryz.f54 (fun ae h x => match ae with | AEnd.ret v => zo TE h v (zm9 s [m0, m1, m2, m3, m4] a) | AEnd.pan v => False) [(67, [V.str s, V.lp 2 0]), (130, [V.lp 2 0, V.lp 1 0])] := ⟨_, rfl⟩
 refine zK (Q := QP) (fun xe f' h' hq => by rw [eQP] at hq; exact hq) ?_
 have hkd : ∀ {f' : Fr}, (∀ j, f'.k j = true → False) → ∀ x ∈ [((67 : FuncId), [V.str s, V.lp 2 0]), (130, [V.lp 2 0, V.lp 1 0])], V.drops f'.k x.2 = x.2 := fun {f'} h x hx => by
  have z : ∀ j, f'.k j = false := fun j => by
   cases hj : f'.k j with
   | false => rfl
   | true => exact (h j hj).elim
  simp only [List.mem_cons, List.not_mem_nil, or_false] at hx
  rcases hx with rfl | rfl
  ·simp [V.drops, V.drop, z]
  ·simp [V.drops, V.drop, z]
 have hpan : ∀ {w : Nat} {e : Int} {f' : Fr} {h : H} {cs : List V}, ziD s [m0, m1, m2, m3, m4] a = .error (w, e) → e ≠ 0 → f'.d = [] → (∀ j, f'.k j = true → False) → f'.t 6 = .lp 1 0 → f'.t 7 = .lp 2 0 → h[1]? = some (.cells cs) → cs.length = 5 → h[2]? = some (.cells [vi 0, vi 0, vi 0]) → QP (.pan (zec w e)) f' h := by
  intro w e f' h cs hp he hd hk t6 t7 g1 gl g2
  have l1 : 1 < h.length := (List.getElem?_eq_some_iff.1 g1).1
  have l2 : 2 < h.length := (List.getElem?_eq_some_iff.1 g2).1
  have hv : zm9 s [m0, m1, m2, m3, m4] a = .tup [.agg [zU [], zU [], zU [], zU [], zU []], zL s w e] := by unfold zm9; rw [hp]
  have hf : zL s w e = .agg [vi e, vi (zV s w).1, vi (zV s w).2] := by unfold zL; rw [if_neg he]
  rw [eQP, hv]
  refine ⟨hd, hkd hk, ?_⟩
  refine zfB w e (by omega) g2 fun X => ⟨fun y hy => ?_, ?_⟩
  ·rw [List.mem_singleton] at hy; subst hy; rfl
  refine zgg (e := e) (d2 := vi (zV s w).1) (d3 := vi (zV s w).2) (cs := cs) ?_ gl ?_ (fun h0 => absurd h0 he) (fun _ => ⟨fun y hy => (by cases hy), ?_⟩)
  ·rw [List.getElem?_append_left (by rw [List.length_set]; exact l1), List.getElem?_set_ne (by decide)]; exact g1
  ·rw [List.getElem?_append_left (by rw [List.length_set]; exact l2), List.getElem?_set_self l2, hf]; rfl
  have r1 : ((h.set 2 (.cells (zL s w e).vc) ++ [X]).set 1 (.cells [.nils, .nils, .nils, .nils, .nils]))[1]? = some (.cells [.nils, .nils, .nils, .nils, .nils]) := by
   rw [List.getElem?_set_self (by rw [List.length_append, List.length_set]; omega)]
  have r2 : ((h.set 2 (.cells (zL s w e).vc) ++ [X]).set 1 (.cells [.nils, .nils, .nils, .nils, .nils]))[2]? = some (.cells [vi e, vi (zV s w).1, vi (zV s w).2]) := by
   rw [List.getElem?_set_ne (by decide), List.getElem?_append_left (by rw [List.length_set]; exact l2), List.getElem?_set_self l2, hf]; rfl
  obtain ⟨h3, eh3⟩ : ∃ h3, h3 = (h.set 2 (.cells (zL s w e).vc) ++ [X]).set 1 (.cells [.nils, .nils, .nils, .nils, .nils]) := ⟨_, rfl⟩
  rw [← eh3] at r1 r2 ⊢
  unfold LVr
  simp only [Tryz.results54, nts]
  simp only [wq.down, seval, hd, t6, t7, r1, r2]
  rw [hf]
  exact zo.tup (zl.cons (zo.agg (zl.cons zo.nils (zl.cons zo.nils (zl.cons zo.nils (zl.cons zo.nils (zl.cons zo.nils zl.nil)))))) (zl.cons (zo.dat rfl) zl.nil))
 have hret : ∀ {L : List (List S)} {b : Nat} {f' : Fr}, ziD s [m0, m1, m2, m3, m4] a = .ok L → f'.d = [] → (∀ j, f'.k j = true → False) → f'.t 6 = .lp 1 0 → f'.t 7 = .lp 2 0 → QP .ret f' (hS [m0, m1, m2, m3, m4] s b L) := by
  intro L b f' hp hd hk t6 t7
  have hv : zm9 s [m0, m1, m2, m3, m4] a = .tup [.agg [zU (L.getD 0 []), zU (L.getD 1 []), zU (L.getD 2 []), zU (L.getD 3 []), zU (L.getD 4 [])], .agg [vi 0, vi 0, vi 0]] := by unfold zm9; rw [hp]
  rw [eQP, hv]
  refine ⟨hd, hkd hk, ?_⟩
  refine zfA fun X => ⟨fun y hy => ?_, ?_⟩
  ·rw [List.mem_singleton] at hy; subst hy; rfl
  refine zgg (e := 0) (d2 := vi 0) (d3 := vi 0) (cs := [lsS L 0, lsS L 1, lsS L 2, lsS L 3, lsS L 4]) rfl rfl rfl (fun _ => ⟨fun y hy => (by cases hy), ?_⟩) (fun h0 => absurd rfl h0)
  unfold LVr
  simp only [Tryz.results54, nts]
  simp only [wq.down, seval, hd, t6, t7]
  exact zo.tup (zl.cons (zo.agg (zl.cons (zaw rfl rfl) (zl.cons (zaw rfl rfl) (zl.cons (zaw rfl rfl) (zl.cons (zaw rfl rfl) (zl.cons (zaw rfl rfl) zl.nil)))))) (zl.cons (zo.dat rfl) zl.nil))
 obtain ⟨L0, hL0⟩ : ∃ L0, L0 = zeA [m0, m1, m2, m3, m4] := ⟨_, rfl⟩
 have hL05 : L0.length = 5 := by rw [hL0]; unfold zeA; rfl
 refine za ?_
 refine za (zz hmix _ _ _ _ ?_)
 simp only [wq.down, seval, hP]
 refine zu ?_
 refine zw (fun mm f h' => ∃ k, mm + k = 5 ∧ f.t 0 = .str s ∧ f.t 1 = vi a ∧ f.t 6 = .lp 1 0 ∧ f.t 7 = .lp 2 0 ∧ f.t 16 = .agg ([m0, m1, m2, m3, m4].map vi) ∧ f.t 17 = vi k ∧ f.d = [] ∧ (∀ j, f.k j = true → False) ∧ h' = hMk [m0, m1, m2, m3, m4] L0 k) 5 ⟨0, rfl, by simp only [wq.down, seval], by simp only [wq.down, seval], by simp only [wq.down, seval], by simp only [wq.down, seval], by simp only [wq.down, seval], rfl, rfl, fun j hj => (by cases hj), rfl⟩ ?_
 rintro mm f h' ⟨k, hmk, t0, t1, t6, t7, t16, t17, hd, hk, rfl⟩
 refine za (zz hmix _ _ _ _ ?_)
 simp only [wq.down, Nat.reduceLT, hP, t17]
 refine za (zz hmix _ _ _ _ ?_)
 simp only [wq.down, ↓reduceIte, Nat.reduceEqDiff, Nat.reduceLT, Nat.reduceLeDiff, Nat.reduceAdd, Nat.reduceSub, Int.reduceToNat, Nat.reduceDiv, Int.reduceLT, Int.reduceLE, Int.reduceNeg, Int.reduceBEq, Int.reduceBNe, Int.reduceAdd, Int.reduceSub, Nat.reduceBEq, reduceCtorEq, Nat.reduceMul, zg, Tryz.results54, hP, t0, t1, t6, t7, t16, t17, hd]
 refine vcB.mk (fun hlt => ?_) (fun hlt => ?_)
 ·have hlt : k < 5 := by
   have := of_decide_eq_true hlt
   omega
  refine za (zu ?_)
  rcases k with _|_|_|_|_|k
  ·show awp _ _ _ _ _ _ [.cells [vi m0, vi m1, vi m2, vi m3, vi m4], .cells [.nils, .nils, .nils, .nils, .nils], .cells [vi 0, vi 0, vi 0]]
   refine za (zz hmix _ _ _ _ ?_)
   simp only [wq.down, ↓reduceIte, Nat.reduceEqDiff, Nat.reduceLT, Nat.reduceLeDiff, Nat.reduceAdd, Nat.reduceSub, Int.reduceToNat, Nat.reduceDiv, Int.reduceLT, Int.reduceLE, Int.reduceNeg, Int.reduceBEq, Int.reduceBNe, Int.reduceAdd, Int.reduceSub, Nat.reduceBEq, reduceCtorEq, Nat.reduceMul, zg, Tryz.results54, hP, t0, t1, t6, t7, t16, t17, hd]
   refine ⟨by decide, ?_⟩
   refine zz hmix _ _ _ _ ?_
   simp only [wq.down, ↓reduceIte, Nat.reduceEqDiff, Nat.reduceLT, Nat.reduceLeDiff, Nat.reduceAdd, Nat.reduceSub, Int.reduceToNat, Nat.reduceDiv, Int.reduceLT, Int.reduceLE, Int.reduceNeg, Int.reduceBEq, Int.reduceBNe, Int.reduceAdd, Int.reduceSub, Nat.reduceBEq, reduceCtorEq, Nat.reduceMul, zg, Tryz.results54, hP, t0, t1, t6, t7, t16, t17, hd, mx, mn]
   refine ⟨⟨by omega, by omega⟩, by decide, ?_⟩
   refine zz hmix _ _ _ _ ?_
   simp only [wq.down, seval, hP, t17]
   refine .inl ⟨mm - 1, by omega, 1, by omega, by simp only [wq.down, seval, t0], by simp only [wq.down, seval, t1], by simp only [wq.down, seval, t6], by simp only [wq.down, seval, t7], by simp only [wq.down, seval, t16], rfl, by simp only [wq.down, ↓reduceIte, Nat.reduceEqDiff, Nat.reduceLT, Nat.reduceLeDiff, Nat.reduceAdd, Nat.reduceSub, Int.reduceToNat, Nat.reduceDiv, Int.reduceLT, Int.reduceLE, Int.reduceNeg, Int.reduceBEq, Int.reduceBNe, Int.reduceAdd, Int.reduceSub, Nat.reduceBEq, reduceCtorEq, Nat.reduceMul, zg, Tryz.results54, hd], fun j hj => hk j hj, ?_⟩
   rw [hL0]
   simp [hMk, zeA, lsS, rwS]
  ·show awp _ _ _ _ _ _ [.cells [vi m0, vi m1, vi m2, vi m3, vi m4], .cells [lsS L0 0, .nils, .nils, .nils, .nils], .cells [vi 0, vi 0, vi 0], rwS L0 0]
   refine za (zz hmix _ _ _ _ ?_)
   simp only [wq.down, ↓reduceIte, Nat.reduceEqDiff, Nat.reduceLT, Nat.reduceLeDiff, Nat.reduceAdd, Nat.reduceSub, Int.reduceToNat, Nat.reduceDiv, Int.reduceLT, Int.reduceLE, Int.reduceNeg, Int.reduceBEq, Int.reduceBNe, Int.reduceAdd, Int.reduceSub, Nat.reduceBEq, reduceCtorEq, Nat.reduceMul, zg, Tryz.results54, hP, t0, t1, t6, t7, t16, t17, hd]
   refine ⟨by decide, ?_⟩
   refine zz hmix _ _ _ _ ?_
   simp only [wq.down, ↓reduceIte, Nat.reduceEqDiff, Nat.reduceLT, Nat.reduceLeDiff, Nat.reduceAdd, Nat.reduceSub, Int.reduceToNat, Nat.reduceDiv, Int.reduceLT, Int.reduceLE, Int.reduceNeg, Int.reduceBEq, Int.reduceBNe, Int.reduceAdd, Int.reduceSub, Nat.reduceBEq, reduceCtorEq, Nat.reduceMul, zg, Tryz.results54, hP, t0, t1, t6, t7, t16, t17, hd, mx, mn]
   refine ⟨⟨by omega, by omega⟩, by decide, ?_⟩
   refine zz hmix _ _ _ _ ?_
   simp only [wq.down, seval, hP, t17]
   refine .inl ⟨mm - 1, by omega, 2, by omega, by simp only [wq.down, seval, t0], by simp only [wq.down, seval, t1], by simp only [wq.down, seval, t6], by simp only [wq.down, seval, t7], by simp only [wq.down, seval, t16], rfl, by simp only [wq.down, ↓reduceIte, Nat.reduceEqDiff, Nat.reduceLT, Nat.reduceLeDiff, Nat.reduceAdd, Nat.reduceSub, Int.reduceToNat, Nat.reduceDiv, Int.reduceLT, Int.reduceLE, Int.reduceNeg, Int.reduceBEq, Int.reduceBNe, Int.reduceAdd, Int.reduceSub, Nat.reduceBEq, reduceCtorEq, Nat.reduceMul, zg, Tryz.results54, hd], fun j hj => hk j hj, ?_⟩
   rw [hL0]
   simp [hMk, zeA, lsS, rwS]
  ·show awp _ _ _ _ _ _ [.cells [vi m0, vi m1, vi m2, vi m3, vi m4], .cells [lsS L0 0, lsS L0 1, .nils, .nils, .nils], .cells [vi 0, vi 0, vi 0], rwS L0 0, rwS L0 1]
   refine za (zz hmix _ _ _ _ ?_)
   simp only [wq.down, ↓reduceIte, Nat.reduceEqDiff, Nat.reduceLT, Nat.reduceLeDiff, Nat.reduceAdd, Nat.reduceSub, Int.reduceToNat, Nat.reduceDiv, Int.reduceLT, Int.reduceLE, Int.reduceNeg, Int.reduceBEq, Int.reduceBNe, Int.reduceAdd, Int.reduceSub, Nat.reduceBEq, reduceCtorEq, Nat.reduceMul, zg, Tryz.results54, hP, t0, t1, t6, t7, t16, t17, hd]
   refine ⟨by decide, ?_⟩
   refine zz hmix _ _ _ _ ?_
   simp only [wq.down, ↓reduceIte, Nat.reduceEqDiff, Nat.reduceLT, Nat.reduceLeDiff, Nat.reduceAdd, Nat.reduceSub, Int.reduceToNat, Nat.reduceDiv, Int.reduceLT, Int.reduceLE, Int.reduceNeg, Int.reduceBEq, Int.reduceBNe, Int.reduceAdd, Int.reduceSub, Nat.reduceBEq, reduceCtorEq, Nat.reduceMul, zg, Tryz.results54, hP, t0, t1, t6, t7, t16, t17, hd, mx, mn]
   refine ⟨⟨by omega, by omega⟩, by decide, ?_⟩
   refine zz hmix _ _ _ _ ?_
   simp only [wq.down, seval, hP, t17]
   refine .inl ⟨mm - 1, by omega, 3, by omega, by simp only [wq.down, seval, t0], by simp only [wq.down, seval, t1], by simp only [wq.down, seval, t6], by simp only [wq.down, seval, t7], by simp only [wq.down, seval, t16], rfl, by simp only [wq.down, ↓reduceIte, Nat.reduceEqDiff, Nat.reduceLT, Nat.reduceLeDiff, Nat.reduceAdd, Nat.reduceSub, Int.reduceToNat, Nat.reduceDiv, Int.reduceLT, Int.reduceLE, Int.reduceNeg, Int.reduceBEq, Int.reduceBNe, Int.reduceAdd, Int.reduceSub, Nat.reduceBEq, reduceCtorEq, Nat.reduceMul, zg, Tryz.results54, hd], fun j hj => hk j hj, ?_⟩
   rw [hL0]
   simp [hMk, zeA, lsS, rwS]
  ·show awp _ _ _ _ _ _ [.cells [vi m0, vi m1, vi m2, vi m3, vi m4], .cells [lsS L0 0, lsS L0 1, lsS L0 2, .nils, .nils], .cells [vi 0, vi 0, vi 0], rwS L0 0, rwS L0 1, rwS L0 2]
   refine za (zz hmix _ _ _ _ ?_)
   simp only [wq.down, ↓reduceIte, Nat.reduceEqDiff, Nat.reduceLT, Nat.reduceLeDiff, Nat.reduceAdd, Nat.reduceSub, Int.reduceToNat, Nat.reduceDiv, Int.reduceLT, Int.reduceLE, Int.reduceNeg, Int.reduceBEq, Int.reduceBNe, Int.reduceAdd, Int.reduceSub, Nat.reduceBEq, reduceCtorEq, Nat.reduceMul, zg, Tryz.results54, hP, t0, t1, t6, t7, t16, t17, hd]
   refine ⟨by decide, ?_⟩
   refine zz hmix _ _ _ _ ?_
   simp only [wq.down, ↓reduceIte, Nat.reduceEqDiff, Nat.reduceLT, Nat.reduceLeDiff, Nat.reduceAdd, Nat.reduceSub, Int.reduceToNat, Nat.reduceDiv, Int.reduceLT, Int.reduceLE, Int.reduceNeg, Int.reduceBEq, Int.reduceBNe, Int.reduceAdd, Int.reduceSub, Nat.reduceBEq, reduceCtorEq, Nat.reduceMul, zg, Tryz.results54, hP, t0, t1, t6, t7, t16, t17, hd, mx, mn]
   refine ⟨⟨by omega, by omega⟩, by decide, ?_⟩
   refine zz hmix _ _ _ _ ?_
   simp only [wq.down, seval, hP, t17]
   refine .inl ⟨mm - 1, by omega, 4, by omega, by simp only [wq.down, seval, t0], by simp only [wq.down, seval, t1], by simp only [wq.down, seval, t6], by simp only [wq.down, seval, t7], by simp only [wq.down, seval, t16], rfl, by simp only [wq.down, ↓reduceIte, Nat.reduceEqDiff, Nat.reduceLT, Nat.reduceLeDiff, Nat.reduceAdd, Nat.reduceSub, Int.reduceToNat, Nat.reduceDiv, Int.reduceLT, Int.reduceLE, Int.reduceNeg, Int.reduceBEq, Int.reduceBNe, Int.reduceAdd, Int.reduceSub, Nat.reduceBEq, reduceCtorEq, Nat.reduceMul, zg, Tryz.results54, hd], fun j hj => hk j hj, ?_⟩
   rw [hL0]
   simp [hMk, zeA, lsS, rwS]
  ·show awp _ _ _ _ _ _ [.cells [vi m0, vi m1, vi m2, vi m3, vi m4], .cells [lsS L0 0, lsS L0 1, lsS L0 2, lsS L0 3, .nils], .cells [vi 0, vi 0, vi 0], rwS L0 0, rwS L0 1, rwS L0 2, rwS L0 3]
   refine za (zz hmix _ _ _ _ ?_)
   simp only [wq.down, ↓reduceIte, Nat.reduceEqDiff, Nat.reduceLT, Nat.reduceLeDiff, Nat.reduceAdd, Nat.reduceSub, Int.reduceToNat, Nat.reduceDiv, Int.reduceLT, Int.reduceLE, Int.reduceNeg, Int.reduceBEq, Int.reduceBNe, Int.reduceAdd, Int.reduceSub, Nat.reduceBEq, reduceCtorEq, Nat.reduceMul, zg, Tryz.results54, hP, t0, t1, t6, t7, t16, t17, hd]
   refine ⟨by decide, ?_⟩
   refine zz hmix _ _ _ _ ?_
   simp only [wq.down, ↓reduceIte, Nat.reduceEqDiff, Nat.reduceLT, Nat.reduceLeDiff, Nat.reduceAdd, Nat.reduceSub, Int.reduceToNat, Nat.reduceDiv, Int.reduceLT, Int.reduceLE, Int.reduceNeg, Int.reduceBEq, Int.reduceBNe, Int.reduceAdd, Int.reduceSub, Nat.reduceBEq, reduceCtorEq, Nat.reduceMul, zg, Tryz.results54, hP, t0, t1, t6, t7, t16, t17, hd, mx, mn]
   refine ⟨⟨by omega, by omega⟩, by decide, ?_⟩
   refine zz hmix _ _ _ _ ?_
   simp only [wq.down, seval, hP, t17]
   refine .inl ⟨mm - 1, by omega, 5, by omega, by simp only [wq.down, seval, t0], by simp only [wq.down, seval, t1], by simp only [wq.down, seval, t6], by simp only [wq.down, seval, t7], by simp only [wq.down, seval, t16], rfl, by simp only [wq.down, hd], fun j hj => hk j hj, ?_⟩
   rw [hL0]
   simp [hMk, zeA, lsS, rwS]
  ·omega
 ·have hk5 : k = 5 := by
   have := of_decide_eq_false hlt
   omega
  subst hk5
  simp only [wq.down]
  refine za (zz hmix _ _ _ _ ?_)
  simp only [wq.down, seval, hP, t0, t1, hMk]
  have hsR : ziD s [m0, m1, m2, m3, m4] a = (match zdR s (s.length + 1) L0 a with | .error e => .error e | .ok L => .ok (zk8 L)) := by rw [hL0]; rfl
  have e0 : decide ((0 : Int) ≤ (a : Int)) = true := by simp
  refine za (zK (Q := fun xe f h' => (xe = .normal ∧ ∃ L b, ziD s [m0, m1, m2, m3, m4] a = .ok (zk8 L) ∧ L.length = 5 ∧ (∀ l ∈ L, l.length ≤ 4000) ∧ f.t 6 = .lp 1 0 ∧ f.t 7 = .lp 2 0 ∧ f.d = [] ∧ (∀ j, f.k j = true → False) ∧ h' = hS [m0, m1, m2, m3, m4] s b L) ∨ (xe ≠ .normal ∧ QP xe f h')) ?_ ?_)
  ·rintro xe f h' (⟨rfl, L, b, hsy, hL5, hLb, t6, t7, hd, hk, rfl⟩ | ⟨hx, hq⟩)
   ·show awp _ _ _ _ _ _ _
    have hLt : ∀ j, (L.getD j []).length ≤ 4000 := fun j => by
     by_cases hj : j < L.length
     ·rw [zt hj]; exact hLb _ (List.getElem_mem hj)
     ·rw [List.getD_eq_getElem?_getD, List.getElem?_eq_none (by omega)]; exact Nat.zero_le _
    refine za ?_
    refine za ?_
    refine zz hmix _ _ _ _ ?_
    simp only [wq.down, Nat.reduceLT, hP]
    refine zu ?_
    refine zw (fun mm f h' => ∃ k, mm + k = 5 ∧ f.t 6 = .lp 1 0 ∧ f.t 7 = .lp 2 0 ∧ f.t 50 = vi k ∧ f.d = [] ∧ (∀ j, f.k j = true → False) ∧ h' = hS [m0, m1, m2, m3, m4] s b (Lk L k)) 5 ⟨0, rfl, by simp only [wq.down, seval, t6], by simp only [wq.down, seval, t7], rfl, by simp only [wq.down, hd], fun j hj => hk j hj, by rw [zsQ hL5]⟩ ?_
    clear t6 t7 hd hk
    rintro mm f h' ⟨k, hmk, t6, t7, t50, hd, hk, rfl⟩
    refine za (zz hmix _ _ _ _ ?_)
    simp only [wq.down, Nat.reduceLT, hP, t50]
    refine za (zz hmix _ _ _ _ ?_)
    simp only [wq.down, ↓reduceIte]
    refine vcB.mk (fun hlt => ?_) (fun hlt => ?_)
    ·have hk5 : k < 5 := by
      have := of_decide_eq_true hlt
      omega
     have hls := zqo (L := Lk L k) hk5
     unfold lsS at hls
     rw [zrP hk5] at hls
     obtain ⟨l, hl⟩ : ∃ l, l = L.getD k [] := ⟨_, rfl⟩
     have hll := hLt k
     rw [← hl] at hls hll
     obtain ⟨H, hH⟩ : ∃ H, H = hS [m0, m1, m2, m3, m4] s b (Lk L k) := ⟨_, rfl⟩
     have H1 : H[1]? = some (.cells [lsS (Lk L k) 0, lsS (Lk L k) 1, lsS (Lk L k) 2, lsS (Lk L k) 3, lsS (Lk L k) 4]) := by rw [hH]; rfl
     rw [← hH]
     refine za (zu ?_)
     refine za (zz hmix _ _ _ _ ?_)
     simp only [wq.down, seval, hP, t50]
     refine za (zz hmix _ _ _ _ ?_)
     simp only [wq.down, seval, hP, t6, H1, hls]
     refine ⟨⟨by omega, by omega⟩, by omega, ?_⟩
     rw [hH]
     refine zu ?_
     refine zw (fun mq f h' => ∃ i, mq + i = l.length ∧ f.t 6 = .lp 1 0 ∧ f.t 7 = .lp 2 0 ∧ f.t 11 = vi k ∧ f.t 50 = vi k ∧ f.t 55 = .ls (3 + k) 1 0 l.length l.length ∧ f.t 56 = vi l.length ∧ f.t 57 = vi i ∧ f.d = [] ∧ (∀ j, f.k j = true → False) ∧ h' = hS [m0, m1, m2, m3, m4] s b ((Lk L k).set k (zbm (zgh k) i l))) l.length ⟨0, by simp, by simp only [wq.down, seval, t6], by simp only [wq.down, seval, t7], by simp only [wq.down, seval], by simp only [wq.down, seval, t50], by simp only [wq.down, seval], by simp only [wq.down, seval], rfl, by simp only [wq.down, hd], fun j hj => hk j hj, by rw [zqq, hl, ← zrP hk5, zt (by rw [zm8]; exact hk5), List.set_getElem_self]⟩ ?_
     clear t6 t7 t50 hd hk
     rintro mq f h' ⟨i, hm2, t6, t7, t11, t50, t55, t56, t57, hd, hk, rfl⟩
     refine za (zz hmix _ _ _ _ ?_)
     simp only [wq.down, Nat.reduceLT, hP, t56, t57]
     refine za (zz hmix _ _ _ _ ?_)
     simp only [wq.down, ↓reduceIte]
     obtain ⟨L2, hL2⟩ : ∃ L2, L2 = (Lk L k).set k (zbm (zgh k) i l) := ⟨_, rfl⟩
     have hL25 : L2.length = 5 := by rw [hL2, List.length_set, zm8]
     refine vcB.mk (fun hlt2 => ?_) (fun hlt2 => ?_)
     ·have hil : i < l.length := by
       have := of_decide_eq_true hlt2
       omega
      have hLk : L2.getD k [] = zbm (zgh k) i l := by rw [hL2, zrQ (by rw [zm8]; exact hk5)]
      have hfl : (zbm (zgh k) i l).length = l.length := zio (by omega)
      have hrw2 := zpt (many := [m0, m1, m2, m3, m4]) (s := s) (a := b) (L := L2) hk5
      have hls2 := zqo (L := L2) hk5
      unfold lsS at hls2
      unfold rwS at hrw2
      rw [hLk] at hrw2 hls2
      rw [hfl] at hls2
      have hsi : ((zbm (zgh k) i l).map V.str).getD (i * 1) .any = .str l[i] := by
       rw [Nat.mul_one, List.getD_eq_getElem?_getD, List.getElem?_map, List.getElem?_eq_getElem (by rw [hfl]; exact hil), zj5 hil]; rfl
      have hset2 : ∀ x : S, (if l[i] = [] then zgh k :: Lib.itoa (i : Int) else l[i]) = x → (hS [m0, m1, m2, m3, m4] s b L2).set (3 + k) (.cells (((zbm (zgh k) i l).set i x).map V.str)) = hS [m0, m1, m2, m3, m4] s b ((Lk L k).set k (zbm (zgh k) (i + 1) l)) := fun x hx => by
       rw [zgi hil, hx, ← hLk, zpu hL25 hk5, hLk, hL2, List.set_set]
      have hw := zm (show i < maxLen by omega)
      have hwk := zm (show k < maxLen by omega)
      obtain ⟨H, hH⟩ : ∃ H, H = hS [m0, m1, m2, m3, m4] s b L2 := ⟨_, rfl⟩
      have H1 : H[1]? = some (.cells [lsS L2 0, lsS L2 1, lsS L2 2, lsS L2 3, lsS L2 4]) := by rw [hH]; rfl
      rw [← hL2, ← hH]
      rw [← hH] at hset2 hrw2
      refine za (zu ?_)
      refine za (zz hmix _ _ _ _ ?_)
      simp only [wq.down, seval, hP, t55, t57, hrw2, hsi, hfl]
      refine ⟨⟨by omega, by omega⟩, by omega, ?_⟩
      refine za (zz hmix _ _ _ _ ?_)
      simp only [wq.down, seval, hP]
      by_cases hli : l[i] = []
      ·have hb : (l[i] == ([] : S)) = true := by rw [hli]; rfl
       refine zT (b := true) (by simp only [wq.down, ↓reduceIte, hb]) (by simp only [wq.down, ↓reduceIte, hb]) (fun _ => ?_) (fun h => by cases h)
       refine zO hmix zpv (fun f' h' => f'.t 6 = .lp 1 0 ∧ f'.t 7 = .lp 2 0 ∧ f'.t 11 = vi k ∧ f'.t 50 = vi k ∧ f'.t 55 = .ls (3 + k) 1 0 l.length l.length ∧ f'.t 56 = vi l.length ∧ f'.t 57 = vi i ∧ f'.d = [] ∧ (∀ j, f'.k j = true → False) ∧ h' = hS [m0, m1, m2, m3, m4] s b ((Lk L k).set k (zbm (zgh k) (i + 1) l))) (by rw [hP]; decide +kernel) (by decide +kernel) ?_ ?_
       ·simp only [wq.down, seval, zpv, hP, t6, t11, H1, hls2, hwk, zla hk5]
        have hil2 := zdB (i : Int) (by omega) (by omega)
        have hpu : List.take (i * 1) ((zbm (zgh k) i l).map V.str) ++ [V.str (zgh k :: Lib.itoa (i : Int))] ++ List.drop (i * 1 + 1) ((zbm (zgh k) i l).map V.str) = ((zbm (zgh k) i l).set i (zgh k :: Lib.itoa (i : Int))).map V.str := zm5 (by rw [hfl]; exact hil)
        have hse := hset2 _ (if_pos hli)
        repeat' apply And.intro
        all_goals first
         | omega
         | skip
        all_goals
         refine hT (zb.ev (zgX (i : Int) (by omega) (by omega)) rfl ?_)
         simp only [wq.down, seval, hP, t6, t7, t11, t50, t55, t56, t57, hd, H1, hls2, hrw2, hfl]
        repeat' apply And.intro
        all_goals first
         | omega
         | exact fun j hj => hk j hj
         | (rw [hpu]; exact hse)
       ·rintro f h' ⟨t6, t7, t11, t50, t55, t56, t57, hd, hk, rfl⟩
        simp only [wq.down]
        refine zz hmix _ _ _ _ ?_
        simp only [wq.down, seval, hP, t57, hw]
        exact .inl ⟨mq - 1, by omega, i + 1, by omega, by simp only [wq.down, seval, t6], by simp only [wq.down, seval, t7], by simp only [wq.down, seval, t11], by simp only [wq.down, seval, t50], by simp only [wq.down, seval, t55], by simp only [wq.down, seval, t56], rfl, by simp only [wq.down, hd], fun j hj => hk j hj, rfl⟩
      ·have hb : (l[i] == ([] : S)) = false := by simpa using hli
       have hsame : zbm (zgh k) (i + 1) l = zbm (zgh k) i l := by
        rw [zgi hil, if_neg hli]
        conv => lhs; rw [← zj5 (c := zgh k) hil]
        exact List.set_getElem_self _
       refine zT (b := false) (by simp only [wq.down, ↓reduceIte, hb]) (by simp only [wq.down, ↓reduceIte, hb]) (fun h => by cases h) (fun _ => ?_)
       refine zz hmix _ _ _ _ ?_
       simp only [wq.down]
       refine zz hmix _ _ _ _ ?_
       simp only [wq.down, seval, hP, t57, hw]
       exact .inl ⟨mq - 1, by omega, i + 1, by omega, by simp only [wq.down, seval, t6], by simp only [wq.down, seval, t7], by simp only [wq.down, seval, t11], by simp only [wq.down, seval, t50], by simp only [wq.down, seval, t55], by simp only [wq.down, seval, t56], rfl, by simp only [wq.down, hd], fun j hj => hk j hj, by rw [hsame, ← hL2, hH]⟩
     ·have hil : i = l.length := by
       have := of_decide_eq_false hlt2
       omega
      subst hil
      have hw := zm (show k < maxLen by omega)
      rw [zm7, hl, zqr hk5]
      simp only [wq.down]
      refine zz hmix _ _ _ _ ?_
      simp only [wq.down, seval, hP, t50, hw]
      exact .inl ⟨mm - 1, by omega, k + 1, by omega, by simp only [wq.down, seval, t6], by simp only [wq.down, seval, t7], rfl, by simp only [wq.down, hd], fun j hj => hk j hj, rfl⟩
    ·have hk5 : k = 5 := by
      have := of_decide_eq_false hlt
      omega
     subst hk5
     rw [zsR]
     simp only [wq.down]
     refine za (zz hmix _ _ _ _ ?_)
     simp only [wq.down, seval, hP, t6, t7]
     refine zz hmix _ _ _ _ ?_
     simp only [wq.down]
     exact hret (L := zk8 L) (b := b) hsy (by simp only [wq.down, hd]) (fun j hj => hk j hj) (by simp only [wq.down, seval, t6]) (by simp only [wq.down, seval, t7])
   ·cases xe with
    | normal => exact absurd rfl hx
    | _ => exact hq
  ·refine zu ?_
   refine zw (fun kk f h' => ∃ (L : List (List S)) (b : Nat), zdR s (s.length + 1) L0 a = zdR s kk L b ∧ s.length < kk + b ∧ L.length = 5 ∧ (∀ l ∈ L, l.length ≤ 4000) ∧ f.t 0 = .str s ∧ f.t 1 = vi a ∧ f.t 6 = .lp 1 0 ∧ f.t 7 = .lp 2 0 ∧ f.t 10 = .lp 8 0 ∧ f.d = [] ∧ (∀ j, f.k j = true → False) ∧ h' = hS [m0, m1, m2, m3, m4] s b L) (s.length + 1) ⟨L0, a, rfl, by omega, hL05, ?_, by simp only [wq.down, seval, t0], by simp only [wq.down, seval, t1], by simp only [wq.down, seval, t6], by simp only [wq.down, seval, t7], by simp only [wq.down, ↓reduceIte], by simp only [wq.down, hd], fun j hj => hk j hj, rfl⟩ ?_
   ·rw [hL0]
    intro l hl
    obtain ⟨m, _, rfl⟩ := List.mem_map.1 hl
    rw [List.length_replicate]
    omega
   ·clear t0 t1 t6 t7 hd hk
    rintro kk f h' ⟨L, b, hsy, hkb, hL5, hLb, t0, t1, t6, t7, t10, hd, hk, rfl⟩
    by_cases hbl : b < s.length
    ·have e1 : decide ((b : Int) < (s.length : Int)) = true := by simpa using hbl
     obtain ⟨j, rfl⟩ : ∃ j, kk = j + 1 := ⟨kk - 1, by omega⟩
     refine za ?_
     refine zz hmix _ _ _ _ ?_
     simp only [wq.down, seval, hP, t0, t1, t10, e0, e1]
     refine hT (zfV (k := 8) (a := b) (s := s) (T := []) (by omega) rfl ?_)
     simp only [wq.down, seval, hP]
     cases hcm : zm0 s b with
     | true =>
      have hst : zdR s (j + 1) L b = .ok L := by
       rw [show zdR s (j + 1) L b = (if b < s.length ∧ zm0 s b = false then _ else .ok L) from rfl, if_neg (by rw [hcm]; simp)]
      rw [hst] at hsy
      rw [hsy] at hsR
      simp only [wq.down, seval, t6, t7, hd]
      exact .inl ⟨L, b, hsR, hL5, hLb, hk, rfl⟩
     | false =>
      have hst : zdR s (j + 1) L b = (match zeb s L b with | .error e => .error e | .ok (L, b) => zdR s j L b) := by
       rw [show zdR s (j + 1) L b = (if b < s.length ∧ zm0 s b = false then _ else .ok L) from rfl, if_pos ⟨hbl, hcm⟩]
       rfl
      rw [hst] at hsy
      simp only [wq.down]
      refine zu ?_
      refine zz hmix _ _ _ _ ?_
      simp only [wq.down, seval, hP, t6, t10]
      refine hT (zjm hL5 hLb hs hbl (fun L' b' hn => ?_) (fun w e hn b' => ?_))
      ·rw [hn] at hsy
       dsimp only at hsy
       obtain ⟨g1, g2, g3, g4⟩ := zj2 hn hL5 hLb
       simp only [wq.down]
       exact .inl ⟨j, by omega, L', b', hsy, by omega, g3, g4, by simp only [wq.down, seval, t0], by simp only [wq.down, seval, t1], by simp only [wq.down, seval, t6], by simp only [wq.down, seval, t7], by simp only [wq.down, seval, t10], by simp only [wq.down, hd], fun j hj => hk j hj, rfl⟩
      ·rw [hn] at hsy
       dsimp only at hsy
       rw [hsy] at hsR
       have hne := zin hn
       simp only [wq.down, zY, hd]
       simp only [XE.block, XE.seq]
       exact .inr ⟨fun h => (by cases h), hpan (cs := [lsS L 0, lsS L 1, lsS L 2, lsS L 3, lsS L 4]) hsR hne (by simp only [wq.down, hd]) (fun j hj => hk j (by have h2 : (f.k j || false) = true := hj; simpa using h2)) (by simp only [wq.down, seval, t6]) (by simp only [wq.down, seval, t7]) rfl rfl rfl⟩
    ·have e1 : decide ((b : Int) < (s.length : Int)) = false := by simpa using hbl
     have hst : zdR s kk L b = .ok L := by
      cases kk with
      | zero => rfl
      | succ j => rw [show zdR s (j + 1) L b = (if b < s.length ∧ zm0 s b = false then _ else .ok L) from rfl, if_neg (fun h => hbl h.1)]
     rw [hst] at hsy
     rw [hsy] at hsR
     refine za ?_
     refine zz hmix _ _ _ _ ?_
     simp only [wq.down, seval, hP, t0, t1, t10, e0, e1]
     refine ⟨.bool true, ?_⟩
     simp only [wq.down, seval, t6, t7, hd]
     exact .inl ⟨L, b, hsR, hL5, hLb, hk, rfl⟩
structure G13 (s : S) (f f0 : Fr) : Prop where
 t0 : f.t 0 = .str s
 t2 : f.t 2 = f0.t 2
 t3 : f.t 3 = f0.t 3
 t4 : f.t 4 = .lp 3 0
 t5 : f.t 5 = .lp 11 0
 d : f.d = f0.d
 k : f.k = f0.k
theorem G13.put {s : S} {f f0 : Fr} (g : G13 s f f0) {d : Nat} {v : V} (hd : d ∉ [0, 2, 3, 4, 5]) : G13 s (f.put (some d) v) f0 := by
 simp only [List.mem_cons, List.not_mem_nil, or_false, not_or] at hd
 obtain ⟨h0, h2, h3, h4, h5⟩ := hd
 exact ⟨by simpa [Fr.put, Ne.symm h0] using g.t0, by simpa [Fr.put, Ne.symm h2] using g.t2, by simpa [Fr.put, Ne.symm h3] using g.t3, by simpa [Fr.put, Ne.symm h4] using g.t4, by simpa [Fr.put, Ne.symm h5] using g.t5, g.d, g.k⟩
def N13 (L : Array Bool) (B X : H) (f : Fr) (ia is d p : Nat) (zc uc : List V) : Prop := L.getD ia false = true → f.t d = .lp p 0 ∧ B.length ≤ p ∧ (B ++ X)[p]? = some (.cells (if L.getD is false = true then uc else zc))
theorem N13.put {L : Array Bool} {B X : H} {f : Fr} {ia is d p i d' : Nat} {v : V} {zc uc : List V} (hn : N13 L B X f ia is d p zc uc) (h1 : i ≠ ia) (h2 : i ≠ is) (h3 : d' ≠ d) : N13 (L.setIfInBounds i true) B X (f.put (some d') v) ia is d p zc uc := by
 intro hl
 rw [getD_set_ne false h1] at hl
 rw [getD_set_ne false h2]
 obtain ⟨q1, q2, q3⟩ := hn hl
 exact ⟨by simpa [Fr.put, Ne.symm h3] using q1, q2, q3⟩
theorem N13.lt {L : Array Bool} {B X : H} {f : Fr} {ia is d p : Nat} {zc uc : List V} (hn : N13 L B X f ia is d p zc uc) (hl : L.getD ia false = true) : p < B.length + X.length := by
 have := (List.getElem?_eq_some_iff.1 (hn hl).2.2).1
 simpa using this
theorem N13.new {L : Array Bool} {B X : H} {f : Fr} {ia is d : Nat} {zc uc : List V} (h : L.getD is false = false) (hne : ia ≠ is) : N13 (L.setIfInBounds ia true) B (X ++ [.cells zc]) (f.put (some d) (.lp (B.length + X.length) 0)) ia is d (B.length + X.length) zc uc := by
 intro _
 refine ⟨by simp [Fr.put], Nat.le_add_right _ _, ?_⟩
 rw [getD_set_ne false hne, h, if_neg (by decide), ← List.append_assoc, ← List.length_append]
 simp
theorem N13.store {L : Array Bool} {B X : H} {f : Fr} {ia is d p : Nat} {zc uc : List V} (hn : N13 L B X f ia is d p zc uc) (hl : L.getD ia false = true) (hs : is < L.size) : N13 (L.setIfInBounds is true) B (X.set (p - B.length) (.cells uc)) f ia is d p zc uc := by
 intro _
 obtain ⟨q1, q2, q3⟩ := hn hl
 refine ⟨q1, q2, ?_⟩
 have hp := (List.getElem?_eq_some_iff.1 q3).1
 rw [if_pos (by simp [Array.getD, hs]), ← List.set_append_right _ _ q2, List.getElem?_set_self hp]
theorem N13.other {L : Array Bool} {B X : H} {f : Fr} {ia is d p p' i : Nat} {o : O} {zc uc : List V} (hn : N13 L B X f ia is d p zc uc) (h1 : i ≠ ia) (h2 : i ≠ is) (hb : B.length ≤ p') (hp : L.getD ia false = true → p ≠ p') : N13 (L.setIfInBounds i true) B (X.set (p' - B.length) o) f ia is d p zc uc := by
 intro hl
 rw [getD_set_ne false h1] at hl
 rw [getD_set_ne false h2]
 obtain ⟨q1, q2, q3⟩ := hn hl
 refine ⟨q1, q2, ?_⟩
 rw [← List.set_append_right _ _ hb, List.getElem?_set_ne (Ne.symm (hp hl))]
 exact q3
structure G23 (p8 : Nat) (f f0 : Fr) : Prop where
 t2 : f.t 2 = f0.t 2
 t3 : f.t 3 = f0.t 3
 t4 : f.t 4 = .lp 3 0
 t8 : f.t 8 = .lp p8 0
 d : f.d = f0.d
 k : f.k = f0.k
theorem G23.put {p8 : Nat} {f f0 : Fr} (g : G23 p8 f f0) {d : Nat} {v : V} (hd : d ∉ [2, 3, 4, 8]) : G23 p8 (f.put (some d) v) f0 := by
 simp only [List.mem_cons, List.not_mem_nil, or_false, not_or] at hd
 obtain ⟨h2, h3, h4, h8⟩ := hd
 exact ⟨by simpa [Fr.put, Ne.symm h2] using g.t2, by simpa [Fr.put, Ne.symm h3] using g.t3, by simpa [Fr.put, Ne.symm h4] using g.t4, by simpa [Fr.put, Ne.symm h8] using g.t8, g.d, g.k⟩
def ziq : V := .agg [vi 0, zr [], zr [], prs [], zr [], zU [], zU [], zU []]
abbrev bM : O := .cells [vi 0, .nils, .nils, .nils, .nils, .nils, .nils, .nils]
abbrev bF : O := .cells [vi 0, vi 0, vi 0]
theorem zqs {s : S} {many : Cl} {a : Nat} {N : List (List S)} (h : ziD s many a = .ok N) : zm9 s many a = .tup [.agg [zU (N.getD 0 []), zU (N.getD 1 []), zU (N.getD 2 []), zU (N.getD 3 []), zU (N.getD 4 [])], .agg [vi 0, vi 0, vi 0]] := by unfold zm9; rw [h]
theorem zqt {s : S} {many : Cl} {a w : Nat} {e : Int} (h : ziD s many a = .error (w, e)) : zm9 s many a = .tup [.agg [zU [], zU [], zU [], zU [], zU []], zL s w e] := by unfold zm9; rw [h]
theorem zj6 {s : S} : ∀ {k : Nat} {L : List (List S)} {a w : Nat} {e : Int}, zdR s k L a = .error (w, e) → e ≠ 0
 | 0, L, a, w, e, h => by cases h
 | k + 1, L, a, w, e, h => by
  unfold zdR at h
  split at h
  ·cases hn : zeb s L a with
   | error er => rw [hn] at h; cases h; exact zin hn
   | ok r => rw [hn] at h; exact zj6 h
  ·cases h
theorem zoE {s : S} {many : Cl} {a w : Nat} {e : Int} (h : ziD s many a = .error (w, e)) : e ≠ 0 := by
 unfold ziD at h
 split at h
 ·rename_i heq
  cases h
  exact zj6 heq
 ·cases h
theorem zj7 {s : S} : ∀ {k : Nat} {L L' : List (List S)} {a : Nat}, zdR s k L a = .ok L' → L.length = 5 → (∀ l ∈ L, l.length ≤ 4000) → ∀ l ∈ L', l.length ≤ 4000
 | 0, L, L', a, h, h5, hb => by cases h; exact hb
 | k + 1, L, L', a, h, h5, hb => by
  unfold zdR at h
  split at h
  ·cases hn : zeb s L a with
   | error er => rw [hn] at h; cases h
   | ok r =>
    rw [hn] at h
    obtain ⟨_, _, h1, h2⟩ := zj2 hn h5 hb
    exact zj7 h h1 h2
  ·cases h; exact hb
theorem zoF {s : S} {many : Cl} {a : Nat} {N : List (List S)} (hm : many.length = 5) (h : ziD s many a = .ok N) : ∀ i, (N.getD i []).length ≤ 4000 := by
 unfold ziD at h
 split at h
 ·cases h
 ·rename_i L heq
  cases h
  have hb := zj7 heq (by unfold zeA; simpa using hm) (fun l hl => by
   unfold zeA at hl
   obtain ⟨n, _, rfl⟩ := List.mem_map.1 hl
   rw [List.length_replicate]
   omega)
  have hg : ∀ j, (L.getD j []).length ≤ 4000 := fun j => by
   rw [List.getD_eq_getElem?_getD]
   cases hj : L[j]? with
   | none => simp
   | some l => exact hb l (List.mem_of_getElem? hj)
  intro i
  unfold zk8
  rcases i with _|_|_|_|_|i
  ·show (zbl _ _ _).length ≤ _; rw [z8]; exact hg _
  ·show (zbl _ _ _).length ≤ _; rw [z8]; exact hg _
  ·show (zbl _ _ _).length ≤ _; rw [z8]; exact hg _
  ·show (zbl _ _ _).length ≤ _; rw [z8]; exact hg _
  ·show (zbl _ _ _).length ≤ _; rw [z8]; exact hg _
  ·show ([] : List S).length ≤ _; simp
def st1 (s : S) (mo : Int) (b N1 : Nat) : RE Fi := zsn (zrG s mo) N1 (.start b)
def st2 (s : S) (mo : Int) (b N1 N2 : Nat) : RE Fi := match st1 s mo b N1 with
 | .error e => .error e
 | .ok x => zsn (zrI s mo) N2 x
end Go.Proofs.YtboolnpmlmgpkaaGreatDoor
