/- Functions of the program, part 05. -/
import Derived.Test.YtboolnpmlmgpkaaGreatDoorF04
import Derived.Test.YtboolnpmlmgpkaaGreatDoorA9
import Derived.Shelf.Sort.Plain
import Derived.Shelf.Strings.Count
import Derived.Shelf.Strings.LastIndex
import Derived.Shelf.Small.Strs
import Derived.Shelf.Strings.OnBuilder
set_option linter.unusedVariables false
set_option maxRecDepth 20000
set_option linter.unusedSimpArgs false
set_option linter.unnecessarySimpa false
namespace Go.Proofs.YtboolnpmlmgpkaaGreatDoor
open Go Go.Proofs Go.Abs

/-! ### A reader -/
abbrev rd (s : S) (a : Nat) : O := .cells [.str s, vi a]
/-- What is wrong, and where. -/
abbrev wfail (a : Nat) (e : Int) : V := .iface 171 (.agg [vi a, vi e])
theorem wneed_calls {k a : Nat} {s : S} {h : H} {R : AEnd → H → (Nat → Bool) → Prop} (b : Bool) (e : Int) (hk : h[k]? = some (rd s a))
    (h1 : b = true → R (.ret (.tup [])) h (fun _ => false)) (h2 : b = false → R (.pan (wfail a e)) h (fun _ => false)) : ACalls TE 121 [.lp k 0, .bool b, vi e] h R := by
  refine ACalls.of_awp Tryz.func121 rfl (by simp [nts]) (vc_ok mixed _ _ _ _ ?_)
  cases b with
  | true =>
    simp only [sz.down, ↓reduceIte, Nat.reduceLT, TEP, nts, Tryz.results121]
    exact h1 rfl
  | false =>
    simp only [sz.down, ↓reduceIte, Nat.reduceEqDiff, Nat.reduceLT, Nat.reduceLeDiff, Nat.reduceAdd, reduceCtorEq, TEP, tis, nts, Tryz.results121, hk]
    exact ⟨nofun, h2 rfl⟩

/-- Does a byte stand there? -/
def isAt (s : S) (a : Nat) (c : UInt8) : Bool := s[a]? == some c
theorem u8_eq (x c : UInt8) : ((x.toNat : Int) == (c.toNat : Int)) = (x == c) := by
  rw [Bool.eq_iff_iff]
  simp only [beq_iff_eq, Int.natCast_inj, UInt8.toNat_inj]
theorem wis_calls {k a : Nat} {s : S} {h : H} {R : AEnd → H → (Nat → Bool) → Prop} (c : UInt8) (hk : h[k]? = some (rd s a))
    (hr : R (.ret (.bool (isAt s a c))) h (fun _ => false)) : ACalls TE 123 [.lp k 0, vb c] h R := by
  refine ACalls.of_awp Tryz.func123 rfl (by simp [nts]) (vc_ok mixed _ _ _ _ ?_)
  unfold isAt at hr
  by_cases hlt : a < s.length
  · have e1 : decide ((a : Int) < (s.length : Int)) = true := by simpa using hlt
    have e2 : s.getD a 0 = s[a] := getD_at hlt
    rw [List.getElem?_eq_getElem hlt] at hr
    simp only [sz.down, ↓reduceIte, Nat.reduceEqDiff, Nat.reduceLT, Nat.reduceLeDiff, Nat.reduceAdd, reduceCtorEq, TEP, tis, nts, Tryz.results123, hk, e1, e2, u8_eq]
    refine ⟨by decide +kernel, ⟨by omega, by omega⟩, hr⟩
  · have e1 : decide ((a : Int) < (s.length : Int)) = false := by simpa using hlt
    rw [List.getElem?_eq_none (by omega)] at hr
    simp only [sz.down, ↓reduceIte, Nat.reduceEqDiff, Nat.reduceLT, Nat.reduceLeDiff, Nat.reduceAdd, reduceCtorEq, TEP, tis, nts, Tryz.results123, hk, e1]
    exact ⟨by decide +kernel, hr⟩

/-- How much of a text stands ahead of another one. -/
def mt : S → S → Nat
  | c :: t, d :: l => if c = d then mt t l + 1 else 0
  | _, _ => 0
theorem mt_le : ∀ t l : S, mt t l ≤ t.length
  | [], _ => Nat.le_refl _
  | c :: t, [] => Nat.zero_le _
  | c :: t, d :: l => by
    simp only [mt]
    split
    · have := mt_le t l; simp; omega
    · exact Nat.zero_le _
theorem mt_full : ∀ t l : S, mt t l = t.length ↔ t <+: l
  | [], l => by simp [mt]
  | c :: t, [] => by simp [mt]
  | c :: t, d :: l => by
    simp only [mt]
    split
    · rename_i h; subst h
      rw [List.length_cons, Nat.add_right_cancel_iff, mt_full t l]
      simp [List.cons_prefix_cons]
    · rename_i h
      simp only [List.length_cons, List.cons_prefix_cons, h, false_and, iff_false]
      omega
/-- So much stands there, and the next byte does, or not. -/
theorem mt_step {t s : S} {a i : Nat} (hi : i < t.length) (h : i ≤ mt t (s.drop a)) : (isAt s (a + i) t[i] = true → i + 1 ≤ mt t (s.drop a)) ∧ (isAt s (a + i) t[i] = false → mt t (s.drop a) = i) := by
  have gen : ∀ (t l : S) (i : Nat) (hi : i < t.length), i ≤ mt t l → (l[i]? = some t[i] → i + 1 ≤ mt t l) ∧ (l[i]? ≠ some t[i] → mt t l = i) := by
    intro t
    induction t with
    | nil => intro l i hi; simp at hi
    | cons c t ih =>
      intro l i hi hm
      cases l with
      | nil => simp [mt] at hm ⊢; omega
      | cons d l =>
        simp only [mt] at hm ⊢
        cases i with
        | zero =>
          simp only [List.getElem?_cons_zero, List.getElem_cons_zero, Option.some.injEq]
          refine ⟨fun h => ?_, fun h => ?_⟩
          · rw [if_pos h.symm]; omega
          · rw [if_neg fun h' => h (congrArg some h'.symm)]
        | succ i =>
          by_cases hcd : c = d
          · rw [if_pos hcd] at hm ⊢
            have := ih l i (by simpa using hi) (by omega)
            simp only [List.getElem?_cons_succ, List.getElem_cons_succ]
            exact ⟨fun h => by have := this.1 h; omega, fun h => by have := this.2 h; omega⟩
          · rw [if_neg hcd] at hm; omega
  have := gen t (s.drop a) i hi h
  rw [List.getElem?_drop] at this
  simp only [isAt, beq_iff_eq, beq_eq_false_iff_ne]
  exact this

theorem wtext_calls {k a : Nat} {s t : S} {h : H} {R : AEnd → H → (Nat → Bool) → Prop} (hk : h[k]? = some (rd s a)) (ha : a + t.length ≤ 1000000000)
    (h1 : mt t (s.drop a) = t.length → R (.ret (.tup [])) (h.set k (rd s (a + t.length))) (fun _ => false)) (h2 : ∀ j, j < t.length → mt t (s.drop a) = j → R (.pan (wfail (a + j) 2)) (h.set k (rd s (a + j))) (fun _ => false)) : ACalls TE 119 [.lp k 0, .str t] h R := by
  have hM : maxLen = 9223372036854775807 := rfl
  have hkl : k < h.length := (List.getElem?_eq_some_iff.1 hk).1
  refine ACalls.of_awp Tryz.func119 rfl (by simp [nts]) (vc_ok mixed _ _ _ _ ?_)
  simp only [sz.down, ↓reduceIte, Nat.reduceLT, TEP, tis, nts, Tryz.results119]
  refine awp_loop (fun m f h' => ∃ i, m + i = t.length ∧ f.t 0 = .lp k 0 ∧ f.t 1 = .str t ∧ f.t 6 = vi t.length ∧ f.t 7 = vi i ∧ f.d = [] ∧ (∀ j, f.k j = false) ∧ h' = h.set k (rd s (a + i)) ∧ i ≤ mt t (s.drop a)) t.length ⟨0, by simp, by simp only [sz.down, ↓reduceIte, reduceCtorEq], by simp only [sz.down, ↓reduceIte, Nat.reduceEqDiff], by simp only [sz.down, ↓reduceIte, Nat.reduceEqDiff], by first | ((simp only [sz.down, ↓reduceIte]); rfl) | (simp only [sz.down, ↓reduceIte, Nat.reduceEqDiff, Nat.reduceLT, Nat.reduceLeDiff, Nat.reduceAdd, Nat.reduceSub, Int.reduceToNat, Nat.reduceDiv, Int.reduceLT, Int.reduceLE, Int.reduceNeg, Int.reduceBEq, Int.reduceBNe, Int.reduceAdd, Int.reduceSub, Nat.reduceBEq, reduceCtorEq, Nat.reduceMul, sp.down, pvNilI, Tryz.results119]), by simp only [sz.down], fun _ => rfl, (set_same hk).symm, Nat.zero_le _⟩ ?_
  rintro m f h' ⟨i, hm, h0, h1', h6, h7, hd, hfk, rfl, hmt⟩
  have hget : ∀ x : O, (h.set k x)[k]? = some x := fun x => by simp [hkl]
  refine vc_ok mixed _ _ _ _ ?_
  simp only [sz.down, ↓reduceIte, Nat.reduceLT, TEP, h6, h7]
  refine vcB.mk (fun hlt => ?_) (fun hlt => ?_)
  · simp only [decide_eq_true_eq, Int.ofNat_lt] at hlt
    have hg : t.getD i 0 = t[i] := getD_at hlt
    have hst := mt_step hlt hmt
    have hw := wrap_succ (show i < maxLen by omega)
    have hw2 : IntKind.i64.wrap (((a + i : Nat) : Int) + 1) = ((a + (i + 1) : Nat) : Int) := wrap_succ (show a + i < maxLen by omega)
    simp only [sz.down, ↓reduceIte, Nat.reduceEqDiff, Nat.reduceLT, reduceCtorEq, TEP, tis, ens, h0, h1', h7, hg]
    refine ⟨⟨by omega, by omega⟩, wis_calls t[i] (hget _) ?_⟩
    simp only [sz.down, ↓reduceIte, Nat.reduceEqDiff, Nat.reduceLT, TEP, ens]
    refine wneed_calls _ 2 (hget _) (fun hb => ?_) (fun hb => ?_)
    · simp only [sz.down, ↓reduceIte, Nat.reduceEqDiff, Nat.reduceLT, Nat.reduceAdd, reduceCtorEq, TEP, tis, h0, h7, hget, List.set_set, hw]
      refine .inl ⟨m - 1, by omega, i + 1, by omega, by simp only [sz.down, ↓reduceIte, reduceCtorEq, h0], by simp only [sz.down, ↓reduceIte, Nat.reduceEqDiff, h1'], by simp only [sz.down, ↓reduceIte, Nat.reduceEqDiff, h6], rfl, by simp only [sz.down, hd], fun j => by simp only [sz.down, hfk], by rw [hw2], hst.1 hb⟩
    · have hfk' : f.k = fun _ => false := funext hfk
      simp only [sz.down, callK, hd]
      simp only [XE.seq, XE.block, fnPost]
      simp only [sz.down, hd]
      rw [hfk']
      exact h2 i hlt (hst.2 hb)
  · simp only [decide_eq_false_iff_not, Int.ofNat_lt] at hlt
    have hfk' : f.k = fun _ => false := funext hfk
    simp only [sz.down, hd]
    have hi : i = t.length := by omega
    have := mt_le t (s.drop a)
    rw [hfk', hi]
    exact h1 (by omega)

end Go.Proofs.YtboolnpmlmgpkaaGreatDoor

set_option linter.unusedVariables false
set_option maxRecDepth 20000
set_option linter.unusedSimpArgs false
namespace Go.Proofs.YtboolnpmlmgpkaaGreatDoor
open Go Go.Proofs Go.Abs Go.RowKit Go.Shelf Go.Lib Go.Sort

/-! What more of the library's functions are called by here. -/
def indexByteRen : Go.Shelf.Ren := ⟨fun | 137 => 187 | 217 => 218 | 266 => 240 | n => n, fun | 9 => 9 | 5 => 5 | 3 => 3 | n => n, fun | n => n⟩
theorem indexByteL : Go.Proofs.Lays.n137 Tryz.prog indexByteRen where
  mixed := by kernel_rfl
  f137 := Tryz.func187.trans (congrArg some (by kernel_rfl))
  f217 := Tryz.func218.trans (congrArg some (by kernel_rfl))
  f266 := Tryz.func240.trans (congrArg some (by kernel_rfl))
  t3 := Tryz.underlying3
  a3 := Tryz.isAgg3
  z3 := Tryz.sizeOf3
  v3 := Tryz.zeroValue3
  t5 := Tryz.underlying5
  a5 := Tryz.isAgg5
  z5 := Tryz.sizeOf5
  v5 := Tryz.zeroValue5
  t9 := Tryz.underlying9
  a9 := Tryz.isAgg9
  z9 := Tryz.sizeOf9
  v9 := Tryz.zeroValue9
def countRen : Go.Shelf.Ren := ⟨fun | 138 => 229 | 195 => 250 | 218 => 251 | 143 => 252 | 219 => 241 | 217 => 218 | 225 => 273 | 224 => 274 | 267 => 275 | 266 => 240 | 314 => 289 | n => n, fun | 9 => 9 | 3 => 3 | 4 => 4 | 5 => 5 | 0 => 0 | 46 => 192 | 146 => 327 | 51 => 294 | n => n, fun | 1 => 3 | n => n⟩
theorem countL : Go.Proofs.Lays.n138 Tryz.prog countRen where
  mixed := by kernel_rfl
  f138 := Tryz.func229.trans (congrArg some (by kernel_rfl))
  f143 := Tryz.func252.trans (congrArg some (by kernel_rfl))
  f195 := Tryz.func250.trans (congrArg some (by kernel_rfl))
  f217 := Tryz.func218.trans (congrArg some (by kernel_rfl))
  f218 := Tryz.func251.trans (congrArg some (by kernel_rfl))
  f219 := Tryz.func241.trans (congrArg some (by kernel_rfl))
  f224 := Tryz.func274.trans (congrArg some (by kernel_rfl))
  f225 := Tryz.func273.trans (congrArg some (by kernel_rfl))
  f266 := Tryz.func240.trans (congrArg some (by kernel_rfl))
  f267 := Tryz.func275.trans (congrArg some (by kernel_rfl))
  f314 := Tryz.func289.trans (congrArg some (by kernel_rfl))
  t0 := Tryz.underlying0
  a0 := Tryz.isAgg0
  z0 := Tryz.sizeOf0
  v0 := Tryz.zeroValue0
  t3 := Tryz.underlying3
  a3 := Tryz.isAgg3
  z3 := Tryz.sizeOf3
  v3 := Tryz.zeroValue3
  t4 := Tryz.underlying4
  a4 := Tryz.isAgg4
  z4 := Tryz.sizeOf4
  v4 := Tryz.zeroValue4
  t5 := Tryz.underlying5
  a5 := Tryz.isAgg5
  z5 := Tryz.sizeOf5
  v5 := Tryz.zeroValue5
  t9 := Tryz.underlying9
  a9 := Tryz.isAgg9
  z9 := Tryz.sizeOf9
  v9 := Tryz.zeroValue9
  t46 := Tryz.underlying192
  a46 := Tryz.isAgg192
  z46 := Tryz.sizeOf192
  v46 := Tryz.zeroValue192
  t51 := Tryz.underlying294
  a51 := Tryz.isAgg294
  z51 := Tryz.sizeOf294
  v51 := Tryz.zeroValue294
  t146 := Tryz.underlying327
  a146 := Tryz.isAgg327
  z146 := Tryz.sizeOf327
  v146 := Tryz.zeroValue327
  g1 := by kernel_rfl
def lastIndexRen : Go.Shelf.Ren := ⟨fun | 148 => 230 | 222 => 253 | 223 => 254 | 269 => 279 | n => n, fun | 9 => 9 | 3 => 3 | 4 => 4 | 5 => 5 | 146 => 327 | 51 => 294 | 46 => 192 | n => n, fun | n => n⟩
theorem lastIndexL : Go.Proofs.Lays.n148 Tryz.prog lastIndexRen where
  mixed := by kernel_rfl
  f148 := Tryz.func230.trans (congrArg some (by kernel_rfl))
  f222 := Tryz.func253.trans (congrArg some (by kernel_rfl))
  f223 := Tryz.func254.trans (congrArg some (by kernel_rfl))
  f269 := Tryz.func279.trans (congrArg some (by kernel_rfl))
  t3 := Tryz.underlying3
  a3 := Tryz.isAgg3
  z3 := Tryz.sizeOf3
  v3 := Tryz.zeroValue3
  t4 := Tryz.underlying4
  a4 := Tryz.isAgg4
  z4 := Tryz.sizeOf4
  v4 := Tryz.zeroValue4
  t5 := Tryz.underlying5
  a5 := Tryz.isAgg5
  z5 := Tryz.sizeOf5
  v5 := Tryz.zeroValue5
  t9 := Tryz.underlying9
  a9 := Tryz.isAgg9
  z9 := Tryz.sizeOf9
  v9 := Tryz.zeroValue9
  t46 := Tryz.underlying192
  a46 := Tryz.isAgg192
  z46 := Tryz.sizeOf192
  v46 := Tryz.zeroValue192
  t51 := Tryz.underlying294
  a51 := Tryz.isAgg294
  z51 := Tryz.sizeOf294
  v51 := Tryz.zeroValue294
  t146 := Tryz.underlying327
  a146 := Tryz.isAgg327
  z146 := Tryz.sizeOf327
  v146 := Tryz.zeroValue327
def sortRen : Go.Shelf.Ren := ⟨fun | 190 => 213 | 125 => 233 | 258 => 232 | 128 => 264 | 129 => 245 | 302 => 255 | 303 => 256 | 304 => 257 | 305 => 258 | 306 => 259 | 307 => 260 | 308 => 261 | 309 => 262 | 310 => 263 | 333 => 280 | 329 => 281 | 330 => 282 | 334 => 283 | 335 => 284 | 336 => 285 | 344 => 290 | n => n, fun | 31 => 26 | 9 => 9 | 3 => 3 | 46 => 192 | 0 => 0 | 51 => 294 | 53 => 267 | 4 => 4 | 183 => 300 | 182 => 299 | 131 => 203 | 5 => 5 | 218 => 329 | 222 => 333 | 228 => 343 | 229 => 222 | n => n, fun | n => n⟩
theorem sortL : Go.Proofs.Lays.n190 Tryz.prog sortRen where
  mixed := by kernel_rfl
  f125 := Tryz.func233.trans (congrArg some (by kernel_rfl))
  f128 := Tryz.func264.trans (congrArg some (by kernel_rfl))
  f129 := Tryz.func245.trans (congrArg some (by kernel_rfl))
  f190 := Tryz.func213.trans (congrArg some (by kernel_rfl))
  f258 := Tryz.func232.trans (congrArg some (by kernel_rfl))
  f302 := Tryz.func255.trans (congrArg some (by kernel_rfl))
  f303 := Tryz.func256.trans (congrArg some (by kernel_rfl))
  f304 := Tryz.func257.trans (congrArg some (by kernel_rfl))
  f305 := Tryz.func258.trans (congrArg some (by kernel_rfl))
  f306 := Tryz.func259.trans (congrArg some (by kernel_rfl))
  f307 := Tryz.func260.trans (congrArg some (by kernel_rfl))
  f308 := Tryz.func261.trans (congrArg some (by kernel_rfl))
  f309 := Tryz.func262.trans (congrArg some (by kernel_rfl))
  f310 := Tryz.func263.trans (congrArg some (by kernel_rfl))
  f329 := Tryz.func281.trans (congrArg some (by kernel_rfl))
  f330 := Tryz.func282.trans (congrArg some (by kernel_rfl))
  f333 := Tryz.func280.trans (congrArg some (by kernel_rfl))
  f334 := Tryz.func283.trans (congrArg some (by kernel_rfl))
  f335 := Tryz.func284.trans (congrArg some (by kernel_rfl))
  f336 := Tryz.func285.trans (congrArg some (by kernel_rfl))
  f344 := Tryz.func290.trans (congrArg some (by kernel_rfl))
  t0 := Tryz.underlying0
  a0 := Tryz.isAgg0
  z0 := Tryz.sizeOf0
  v0 := Tryz.zeroValue0
  t3 := Tryz.underlying3
  a3 := Tryz.isAgg3
  z3 := Tryz.sizeOf3
  v3 := Tryz.zeroValue3
  t4 := Tryz.underlying4
  a4 := Tryz.isAgg4
  z4 := Tryz.sizeOf4
  v4 := Tryz.zeroValue4
  t5 := Tryz.underlying5
  a5 := Tryz.isAgg5
  z5 := Tryz.sizeOf5
  v5 := Tryz.zeroValue5
  t9 := Tryz.underlying9
  a9 := Tryz.isAgg9
  z9 := Tryz.sizeOf9
  v9 := Tryz.zeroValue9
  t31 := Tryz.underlying26
  a31 := Tryz.isAgg26
  z31 := Tryz.sizeOf26
  v31 := Tryz.zeroValue26
  t46 := Tryz.underlying192
  a46 := Tryz.isAgg192
  z46 := Tryz.sizeOf192
  v46 := Tryz.zeroValue192
  t51 := Tryz.underlying294
  a51 := Tryz.isAgg294
  z51 := Tryz.sizeOf294
  v51 := Tryz.zeroValue294
  t53 := Tryz.underlying267
  a53 := Tryz.isAgg267
  z53 := Tryz.sizeOf267
  v53 := Tryz.zeroValue267
  t131 := Tryz.underlying203
  a131 := Tryz.isAgg203
  z131 := Tryz.sizeOf203
  v131 := Tryz.zeroValue203
  t182 := Tryz.underlying299
  a182 := Tryz.isAgg299
  z182 := Tryz.sizeOf299
  v182 := Tryz.zeroValue299
  t183 := Tryz.underlying300
  a183 := Tryz.isAgg300
  z183 := Tryz.sizeOf300
  v183 := Tryz.zeroValue300
  t218 := Tryz.underlying329
  a218 := Tryz.isAgg329
  z218 := Tryz.sizeOf329
  v218 := Tryz.zeroValue329
  t222 := Tryz.underlying333
  a222 := Tryz.isAgg333
  z222 := Tryz.sizeOf333
  v222 := Tryz.zeroValue333
  t228 := Tryz.underlying343
  a228 := Tryz.isAgg343
  z228 := Tryz.sizeOf343
  v228 := Tryz.zeroValue343
  t229 := Tryz.underlying222
  a229 := Tryz.isAgg222
  z229 := Tryz.sizeOf222
  v229 := Tryz.zeroValue222
def joinRen : Go.Shelf.Ren := ⟨fun | 156 => 152 | 165 => 199 | 166 => 58 | 169 => 60 | 240 => 134 | 241 => 227 | 276 => 192 | 277 => 249 | n => n, fun | 31 => 26 | 9 => 9 | 3 => 3 | 4 => 4 | 0 => 0 | 20 => 20 | 72 => 98 | 76 => 103 | 70 => 95 | 37 => 96 | 75 => 102 | 127 => 194 | 164 => 242 | 5 => 5 | 80 => 107 | n => n, fun | n => n⟩
theorem joinL : Go.Proofs.Lays.n156 Tryz.prog joinRen where
  mixed := by kernel_rfl
  f156 := Tryz.func152.trans (congrArg some (by kernel_rfl))
  f165 := Tryz.func199.trans (congrArg some (by kernel_rfl))
  f166 := Tryz.func58.trans (congrArg some (by kernel_rfl))
  f169 := Tryz.func60.trans (congrArg some (by kernel_rfl))
  f240 := Tryz.func134.trans (congrArg some (by kernel_rfl))
  f241 := Tryz.func227.trans (congrArg some (by kernel_rfl))
  f276 := Tryz.func192.trans (congrArg some (by kernel_rfl))
  f277 := Tryz.func249.trans (congrArg some (by kernel_rfl))
  t0 := Tryz.underlying0
  a0 := Tryz.isAgg0
  z0 := Tryz.sizeOf0
  v0 := Tryz.zeroValue0
  t3 := Tryz.underlying3
  a3 := Tryz.isAgg3
  z3 := Tryz.sizeOf3
  v3 := Tryz.zeroValue3
  t4 := Tryz.underlying4
  a4 := Tryz.isAgg4
  z4 := Tryz.sizeOf4
  v4 := Tryz.zeroValue4
  t9 := Tryz.underlying9
  a9 := Tryz.isAgg9
  z9 := Tryz.sizeOf9
  v9 := Tryz.zeroValue9
  t20 := Tryz.underlying20
  a20 := Tryz.isAgg20
  z20 := Tryz.sizeOf20
  v20 := Tryz.zeroValue20
  t31 := Tryz.underlying26
  a31 := Tryz.isAgg26
  z31 := Tryz.sizeOf26
  v31 := Tryz.zeroValue26
  t37 := Tryz.underlying96
  a37 := Tryz.isAgg96
  z37 := Tryz.sizeOf96
  v37 := Tryz.zeroValue96
  t70 := Tryz.underlying95
  a70 := Tryz.isAgg95
  z70 := Tryz.sizeOf95
  v70 := Tryz.zeroValue95
  t72 := Tryz.underlying98
  a72 := Tryz.isAgg98
  z72 := Tryz.sizeOf98
  v72 := Tryz.zeroValue98
  t75 := Tryz.underlying102
  a75 := Tryz.isAgg102
  z75 := Tryz.sizeOf102
  v75 := Tryz.zeroValue102
  t76 := Tryz.underlying103
  a76 := Tryz.isAgg103
  z76 := Tryz.sizeOf103
  v76 := Tryz.zeroValue103
  t127 := Tryz.underlying194
  a127 := Tryz.isAgg194
  z127 := Tryz.sizeOf194
  v127 := Tryz.zeroValue194
  t164 := Tryz.underlying242
  a164 := Tryz.isAgg242
  z164 := Tryz.sizeOf242
  v164 := Tryz.zeroValue242

theorem str_of {c : C} {l : S} {x : Value} (h : VRel c (.str l) x) : x = .string ⟨l.toArray⟩ := by
  simp only [VRel] at h
  obtain ⟨s, rfl, h, _⟩ := h
  congr 1
  rw [← h]
theorem ev_sib (s : S) (n : Nat) (hn : n < 256) : Ev TE 187 [.str s, .int .u8 n] (vi (Lib.indexByte s (UInt8.ofNat n))) := by
  intro ok w vs hs hl
  simp only [VList, VRel] at hl
  obtain ⟨y, ys, rfl, ⟨b, rfl, hb, _⟩, y2, ys2, rfl, rfl, rfl⟩ := hl
  refine Calls.mono (Any.strings_IndexByte indexByteL b n w) ?_
  rintro en w' ⟨rfl, rfl⟩
  refine ⟨_, rfl, WExt.refl _, ?_⟩
  simp only [VRel]
  rw [hb]
  rfl
theorem ev_scount (s : S) (c : UInt8) : Ev TE 229 [.str s, .str [c]] (vi (s.count c : Nat)) := by
  intro ok w vs hs hl
  simp only [VList] at hl
  obtain ⟨y, ys, rfl, h1, y2, ys2, rfl, h2, rfl⟩ := hl
  have := str_of h1; subst this
  have := str_of h2; subst this
  refine Calls.mono (Any.strings_Count_one countL ⟨s.toArray⟩ c w) ?_
  rintro en w' ⟨rfl, rfl⟩
  exact ⟨_, rfl, WExt.refl _, by simp only [VRel]; rfl⟩
theorem ev_slast (s : S) (c : UInt8) (hs0 : s.length ≤ 1000000000) : Ev TE 230 [.str s, .str [c]] (vi (Lib.lastIndexByte ⟨s.toArray⟩ c.toNat)) := by
  intro ok w vs hs hl
  simp only [VList] at hl
  obtain ⟨y, ys, rfl, h1, y2, ys2, rfl, h2, rfl⟩ := hl
  have := str_of h1; subst this
  have := str_of h2; subst this
  refine Calls.mono (Any.strings_LastIndex_one lastIndexL ⟨s.toArray⟩ ⟨#[c]⟩ rfl (by show s.toArray.size < _; simp; omega) w) ?_
  rintro en w' ⟨rfl, rfl⟩
  exact ⟨_, rfl, WExt.refl _, by simp only [VRel]; rfl⟩

theorem vals_str {c : C} : ∀ {l : List S} {xs : List Value}, VList c (l.map V.str) xs → xs = l.map encStr
  | [], xs, h => by simpa only [List.map_nil, VList] using h
  | a :: l, xs, h => by
    simp only [List.map_cons, VList] at h
    obtain ⟨y, ys, rfl, h1, h2⟩ := h
    rw [vals_str h2, str_of h1]; rfl
theorem str_vals {c : C} : ∀ {l : List S}, (∀ s ∈ l, s.length ≤ maxLen) → VList c (l.map V.str) (l.map encStr)
  | [], _ => by simp only [List.map_nil, VList]
  | a :: l, h => by
    simp only [List.map_cons, VList, VRel]
    exact ⟨_, _, rfl, ⟨_, rfl, by simp, h a (by simp)⟩, str_vals fun s hs => h s (by simp [hs])⟩

theorem ssort_calls (l : List S) (hm : ∀ s ∈ l, s.length ≤ maxLen) (hne : l ≠ []) (hlen : l.length ≤ 1000000000) (id cap : Nat) (h : H) (hh : h[id]? = some (.cells (l.map V.str))) (R : AEnd → H → (Nat → Bool) → Prop)
    (hr : R (.ret (.tup [])) (h.set id (.cells ((l.mergeSort fun x y => decide (x ≤ y)).map V.str))) (fun _ => false)) : ACalls TE 213 [.ls id 1 0 l.length cap] h R := by
  intro ok pl w vs hs hl
  simp only [VList, VRel] at hl
  obtain ⟨y, ys, rfl, ⟨a, cp, rfl, h1, h2, h3, h4⟩, rfl⟩ := hl
  have hpos : 0 < l.length := List.length_pos_iff.2 hne
  rcases h4 with h4 | ⟨b, arr, el, fz, hb, rfl, harr, hsz⟩
  · omega
  obtain ⟨o, ho, hat⟩ := hs.obj id b hb
  rw [hh] at ho; cases ho
  obtain ⟨arr2, el2, fz2, g1, g2, g3, g4⟩ := hat
  have harr' : w.heap[b]? = some (.cells arr el fz) := harr
  have g1' : w.heap[b]? = some (.cells arr2 el2 fz2) := g1
  rw [harr'] at g1'; cases g1'
  have hv := vals_str g4
  have hln : (l.map V.str).length = l.length := by simp
  rw [hln] at hv g3
  have hget : ∀ j, j < l.toArray.size → arr[j]? = some (encStr l.toArray[j]!) := by
    intro j hj
    have hj' : j < l.length := by simpa using hj
    have e1 : (arr.toList.take l.length)[j]? = some (encStr l.toArray[j]!) := by
      rw [hv, List.getElem?_map, List.getElem?_eq_getElem hj', getElem!_pos l.toArray j hj]
      rfl
    rw [List.getElem?_take, if_pos (by omega)] at e1
    simpa using e1
  have hH : Go.Sort.Holds encStr w b 0 l.toArray := by
    intro j hj
    refine ⟨?_, ?_⟩
    · simp only [World.cell?, harr', Nat.zero_add]
      exact hget j hj
    · simp only [World.frozen?, harr', Nat.zero_add]
      have hj' : j < l.length := by simpa using hj
      have := g2 j (by omega)
      simpa using this
  refine Calls.mono (Any.slices_Sort_string sortL b 0 cp l w hH (Abs.lt_of_heap harr') (by omega)) ?_
  rintro en w' ⟨rfl, n, os, rfl⟩
  have hml : (l.mergeSort fun x y => decide (x ≤ y)).length = l.length := List.length_mergeSort l
  obtain ⟨s1, s2⟩ := row_world hs hb harr' g2 encStr (l.mergeSort fun x y => decide (x ≤ y)).toArray (by simp [hml]; omega) (cs' := (l.mergeSort fun x y => decide (x ≤ y)).map V.str) (str_vals fun s hs => hm s ((List.mergeSort_perm l _).mem_iff.1 hs)) n os
  exact ⟨fun _ => false, pl, _, .ret (.tup []), s1, s2, by show VRel _ _ _; simp only [VRel, VList]; exact ⟨#[], rfl, rfl⟩, hr⟩

end Go.Proofs.YtboolnpmlmgpkaaGreatDoor

set_option linter.unusedVariables false
set_option maxRecDepth 20000
set_option linter.unusedSimpArgs false
set_option linter.unnecessarySimpa false
namespace Go.Proofs.YtboolnpmlmgpkaaGreatDoor
open Go Go.Proofs Go.Abs

/-! ### A line of values -/
def isSg (c : UInt8) : Bool := c == 48 || c == 49 || c == 120
def sgv (c : UInt8) : Int := Lib.indexByte [48, 49, 120] c
theorem sgv_neg (c : UInt8) : decide (sgv c < 0) = !isSg c := by
  unfold sgv isSg
  simp only [Lib.indexByte]
  by_cases h0 : c = 48
  · subst h0; rfl
  by_cases h1 : c = 49
  · subst h1; rfl
  by_cases h2 : c = 120
  · subst h2; rfl
  have a0 : (48 == c) = false := by simpa using fun h => h0 h.symm
  have a1 : (49 == c) = false := by simpa using fun h => h1 h.symm
  have a2 : (120 == c) = false := by simpa using fun h => h2 h.symm
  have b0 : (c == 48) = false := by simpa using h0
  have b1 : (c == 49) = false := by simpa using h1
  have b2 : (c == 120) = false := by simpa using h2
  simp only [a0, a1, a2, b0, b1, b2]
  rfl
def lineS (s : S) (a : Nat) : S := (s.drop a).takeWhile isSg
def lineV (s : S) (a : Nat) : Cl := (lineS s a).map sgv
theorem tw_at {p : UInt8 → Bool} {l : S} {i : Nat} (hi : i ≤ l.length) (h1 : ∀ x ∈ l.take i, p x = true) (h2 : ∀ h : i < l.length, p l[i] = false) : l.takeWhile p = l.take i := by
  induction l generalizing i with
  | nil => simp
  | cons x l ih =>
    cases i with
    | zero =>
      have := h2 (by simp)
      simp only [List.getElem_cons_zero] at this
      simp [this]
    | succ i =>
      have hx := h1 x (by simp)
      rw [List.takeWhile_cons_of_pos hx, List.take_succ_cons, ih (by simpa using hi) (fun y hy => h1 y (by simp [hy])) (fun h => h2 (by simpa using h))]

theorem mt_nl (l : S) : mt [10] l = 1 ↔ l[0]? = some 10 := by
  cases l with
  | nil => simp [mt]
  | cons d l =>
    simp only [mt, List.getElem?_cons_zero, Option.some.injEq]
    by_cases h : (10 : UInt8) = d
    · subst h; simp
    · rw [if_neg h]
      constructor
      · intro h'; cases h'
      · intro h'; exact absurd h'.symm h
theorem isAt_nl (s : S) (a : Nat) : isAt s a 10 = (mt [10] (s.drop a) == 1) := by
  rw [Bool.eq_iff_iff]
  simp only [isAt, beq_iff_eq, mt_nl, List.getElem?_drop, Nat.add_zero]
theorem conv_i32u8 (h : H) (n : Int) : pvConv P h 21 5 (.int .i32 n) = (True, .int .u8 (IntKind.u8.wrap n)) := by
  unfold pvConv
  simp only [sz.down, tis]
/-- Behind the signs. -/
inductive VQ (k : Nat) (h : H) (L : S) : Fr → H → Prop
  | mk (f : Fr) (X : O) (i : Nat) (h0 : f.t 0 = .lp k 0) (h3 : f.t 3 = .ls (h.length + 1) 1 0 i i) (hd : f.d = []) (hfk : ∀ j, j < h.length → f.k j = false) (hil : i ≤ L.length) (htw : L.takeWhile isSg = L.take i) : VQ k h L f (h ++ [X, .cells (((L.take i).map sgv).map vi)])
def planRV : Plan := .take 0 <| .take 1 <| .take 2 <| .take 4 <| .take 5 <| .take 6 <| .alt 3 (.one 7 <| .take 8 <| .one 9 <| .fin) (.one 7 (.one 3 <| .take 8 <| .one 9 <| .fin))
set_option maxHeartbeats 8000000 in
theorem wvalues_calls {k a : Nat} {s : S} {h : H} {R : AEnd → H → (Nat → Bool) → Prop} (hk : h[k]? = some (rd s a)) (hcl : Closed h) (ha : a ≤ s.length) (hs : s.length ≤ 100000000)
    (h1 : isAt s (a + (lineS s a).length) 10 = true → R (.ret (ints (lineV s a))) (h.set k (rd s (a + (lineS s a).length + 1))) (from_ h.length))
    (h2 : isAt s (a + (lineS s a).length) 10 = false → R (.pan (wfail (a + (lineS s a).length) 2)) (h.set k (rd s (a + (lineS s a).length))) (from_ h.length)) : ACalls TE 122 [.lp k 0] h R := by
  have hM : maxLen = 9223372036854775807 := rfl
  have hkl : k < h.length := (List.getElem?_eq_some_iff.1 hk).1
  have hkA : ∀ Y : H, (h ++ Y)[k]? = some (rd s a) := fun Y => by rw [List.getElem?_append_left hkl]; exact hk
  refine ACalls.kp (from_ h.length) ?_
  refine ACalls.of_awp Tryz.func122 rfl (by simp [nts]) ?_
  
  refine awp_seq (vc_ok mixed _ _ _ _ ?_)
  simp only [sz.down, Nat.reduceLT, TEP, nts, Tryz.results122]
  refine awp_seq (vc_ok mixed _ _ _ _ ?_)
  simp only [sz.down, Nat.reduceLT, TEP]
  refine awp_seq (vc_ok mixed _ _ _ _ ?_)
  refine awp_plan mixed planRV (fun f' h' => f'.t 0 = .lp k 0 ∧ f'.t 3 = .nils ∧ f'.t 16 = .lp h.length 0 ∧ f'.d = [] ∧ (∀ j, f'.k j = false) ∧ h' = h ++ [.misc (.siter (s.drop a) 0)]) (by decide +kernel) (by decide +kernel) ?_ ?_
  · simp only [sz.down, ↓reduceIte, Nat.reduceEqDiff, Nat.reduceLT, Nat.reduceLeDiff, Nat.reduceAdd, reduceCtorEq, TEP, tis, planRV, hk]
    exact ⟨by omega, by omega⟩
  · rintro f h' ⟨h0, h3, h16, hd, hfk, rfl⟩
    simp only [sz.down]
    refine awp_bareAt 3 1 h3 ?_
    rw [List.append_assoc, List.singleton_append]
    generalize hL : s.drop a = L at *
    have hLl : L.length = s.length - a := by rw [← hL, List.length_drop]
    refine awp_mono (Q := fun xe f' h' => xe = .exit 0 ∧ VQ k h L f' h') ?_ ?_
    · rintro xe f' h' ⟨rfl, X, i, h0, h3, hd, hfk, hil, htw⟩
      have hll : (lineS s a).length = i := by unfold lineS; rw [hL, htw, List.length_take]; omega
      have hlv : lineV s a = (L.take i).map sgv := by unfold lineV lineS; rw [hL, htw]
      simp only [sz.down]
      refine awp_popTo (h0 := h) (Y := [X, .cells (((L.take i).map sgv).map vi)]) 3 (ints ((L.take i).map sgv)) (by simp only [sz.down, hd]) ?_ ?_ ?_
      · have h8 : (!from_ h.length (h.length + 1)) = false := by simp [from_]
        simp only [sz.down, ↓reduceIte, h3, h8]
      · rw [h3]
        exact reif_ints ((keepP_at 1 rfl).trans (by rw [drops_vi])) (by simp; omega)
      rw [hcl.from_, hcl.from_]
      have hk0 : from_ h.length k = false := by simp [from_]; omega
      have hw : IntKind.i64.wrap ((a : Int) + (i : Int)) = ((a + i : Nat) : Int) := by rw [wrapn (by omega) (by omega)]; omega
      have hlen : (L.take i).length = i := by rw [List.length_take]; omega
      have hget : ∀ x : O, (h.set k x)[k]? = some x := fun x => by simp [hkl]
      have hisat := isAt_nl s (a + i)
      have hai : a + i ≤ 100000000 := by omega
      have hkp : ∀ j, (f'.k j || from_ h.length j || from_ h.length j) = true → from_ h.length j = true := fun j hj => by
        by_cases hjl : j < h.length
        · simp [hfk j hjl, from_] at hj; omega
        · simp [from_]; omega
      refine awp_seq (vc_ok mixed _ _ _ _ ?_)
      simp only [sz.down, ↓reduceIte, Nat.reduceEqDiff, Nat.reduceLT, Nat.reduceAdd, reduceCtorEq, TEP, tis, h0, hd, hk0, hk, hlen, hw]
      refine awp_seq (vc_ok mixed _ _ _ _ ?_)
      simp only [sz.down, ↓reduceIte, Nat.reduceLT, Nat.reduceLeDiff, reduceCtorEq, TEP, ens, h0, hk0]
      refine wtext_calls (hget _) (by show a + i + 1 ≤ _; omega) (fun hm => ?_) (fun j hj hm => ?_)
      · simp only [sz.down]
        refine vc_ok mixed _ _ _ _ ?_
        simp only [sz.down, ↓reduceIte, Nat.reduceEqDiff, Nat.reduceLT, TEP, List.set_set]
        refine ⟨hkp, ?_⟩
        rw [hll, hlv] at h1
        exact h1 (by rw [hisat, hm]; rfl)
      · simp only [sz.down, callK]
        simp only [XE.seq, fnPost]
        simp only [sz.down, List.set_set]
        refine ⟨fun q hq => hkp q (by simpa using hq), ?_⟩
        have hj0 : j = 0 := by simpa using hj
        subst hj0
        rw [hll] at h2
        exact h2 (by rw [hisat, hm]; rfl)
    · refine awp_loop (fun m f' h' => ∃ i, m + i = L.length + 1 ∧ i ≤ L.length ∧ f'.t 0 = .lp k 0 ∧ f'.t 16 = .lp h.length 0 ∧ f'.t 3 = .ls (h.length + 1) 1 0 i i ∧ f'.d = [] ∧ (∀ j, j < h.length → f'.k j = false) ∧ (∀ x ∈ L.take i, isSg x = true) ∧ h' = h ++ [.misc (.siter L i), .cells (((L.take i).map sgv).map vi)]) (L.length + 1) ⟨0, by simp, Nat.zero_le _, by simp only [sz.down, ↓reduceIte, reduceCtorEq, h0], by simp only [sz.down, ↓reduceIte, Nat.reduceEqDiff, h16], by simp only [sz.down, ↓reduceIte], by simp only [sz.down, hd], fun j _ => by simp only [sz.down, hfk], by simp, rfl⟩ ?_
      rintro m f' h' ⟨i, hm, hil, h0, h16, h3, hd, hfk, hall, rfl⟩
      have hit : (h ++ [O.misc (.siter L i), .cells (((L.take i).map sgv).map vi)])[h.length]? = some (.misc (.siter L i)) := by simp
      refine vc_ok mixed _ _ _ _ ?_
      simp only [sz.down, Nat.reduceLT, h16, hit]
      have hit2 : ∀ X Y : O, (h ++ [X, Y])[h.length + 1]? = some Y := fun X Y => by rw [List.getElem?_append_right (by omega)]; simp
      have hset1 : ∀ X Y Z : O, (h ++ [X, Y]).set h.length Z = h ++ [Z, Y] := fun X Y Z => by simp
      have hset2 : ∀ X Y Z : O, (h ++ [X, Y]).set (h.length + 1) Z = h ++ [X, Z] := fun X Y Z => by rw [List.set_append_right _ _ (by omega)]; simp
      have stop : (∀ hc : i < L.length, isSg L[i] = false) → L.takeWhile isSg = L.take i := fun hh => tw_at hil hall hh
      refine vcNext.mk (fun hc => ?_) (fun hc => ?_)
      · simp only [decide_eq_true_eq] at hc
        by_cases h128 : L[i].toNat < 128
        · simp only [sz.down, ↓reduceIte, Nat.reduceEqDiff, Nat.reduceLT, Nat.reduceAdd, TEP, vcNext, decV_ok hc h128, hset1]
          refine vcB.mk (fun hb => ?_) (fun hb => ?_)
          · simp only [decide_eq_true_eq] at hb
            have hno : isSg L[i] = false := by
              unfold isSg
              simp only [Bool.or_eq_false_iff, beq_eq_false_iff_ne, ne_eq, ← UInt8.toNat_inj]
              refine ⟨⟨?_, ?_⟩, ?_⟩ <;> (show ¬ L[i].toNat = _; intro h'; rw [h'] at hb; revert hb; decide)
            simp only [sz.down, Nat.reduceBEq]
            exact .mk _ _ i (by simp only [sz.down, ↓reduceIte, reduceCtorEq, h0]) (by simp only [sz.down, ↓reduceIte, Nat.reduceEqDiff, h3]) (by simp only [sz.down, hd]) (fun j hj => by simp only [sz.down, hfk j hj]) hil (stop fun _ => hno)
          · have hwr : IntKind.u8.wrap (L[i].toNat : Int) = (L[i].toNat : Int) := by
              rw [IntKind.wrap_u8]; have := L[i].toNat_lt; omega
            simp only [sz.down, ↓reduceIte, Nat.reduceEqDiff, Nat.reduceLT, Nat.reduceLeDiff, Nat.reduceAdd, TEP, ens, conv_i32u8, hwr]
            refine ACalls.ev (ev_sib [48, 49, 120] L[i].toNat L[i].toNat_lt) rfl ?_
            have hsg : Lib.indexByte [48, 49, 120] (UInt8.ofNat L[i].toNat) = sgv L[i] := by rw [UInt8.ofNat_toNat]; rfl
            rw [hsg]
            simp only [sz.down, ↓reduceIte, Nat.reduceLT, TEP]
            refine vcB.mk (fun hn => ?_) (fun hn => ?_)
            · rw [sgv_neg] at hn
              have hno : isSg L[i] = false := by simpa using hn
              simp only [sz.down, Nat.reduceBEq]
              exact .mk _ _ i (by simp only [sz.down, ↓reduceIte, reduceCtorEq, h0]) (by simp only [sz.down, ↓reduceIte, Nat.reduceEqDiff, h3]) (by simp only [sz.down, hd]) (fun j hj => by simp only [sz.down, hfk j hj]) hil (stop fun _ => hno)
            · rw [sgv_neg] at hn
              have hyes : isSg L[i] = true := by simpa using hn
              have hsucc : L.take (i + 1) = L.take i ++ [L[i]] := by rw [List.take_add_one]; simp [hc]
              have hdm : ∀ Y : H, (h ++ Y).map (O.drop fun x => x == h.length + 1) = h ++ Y.map (O.drop fun x => x == h.length + 1) := fun Y => by rw [List.map_append, hcl.one (by omega)]
              have hlk : (h ++ [O.misc (Misc.siter L (i + 1)), O.cells (List.map vi (List.map sgv (List.take i L)))])[h.length + 1]? = some (O.cells (List.map vi (List.map sgv (List.take i L)))) := hit2 _ _
              have hne : (h.length == h.length + 1) = false := by simp
              simp only [sz.down, ↓reduceIte, Nat.reduceEqDiff, Nat.reduceLT, reduceCtorEq, Nat.reduceMul, TEP, tis, h3, hd, hlk, drops_vi]
              have hkn : (k == h.length + 1) = false := by simp; omega
              rw [hcl.one (by omega), hset2]
              refine ⟨⟨rfl, by decide⟩, ⟨by rw [List.length_take]; omega, by omega, by omega⟩, .inl ⟨m - 1, by omega, i + 1, by omega, by omega, by simp only [sz.down, ↓reduceIte, reduceCtorEq, h0, hkn], by simp only [sz.down, ↓reduceIte, Nat.reduceEqDiff, h16, hne], rfl, by simp only [sz.down, hd], fun j hj => ?_, mem_take_succ hc hall hyes, ?_⟩⟩
              · have hjn : (j == h.length + 1) = false := by simp; omega
                simp only [sz.down, hfk j hj, hjn]
              · rw [hsucc, List.map_append, List.map_append]; rfl
        · have hbig := decV_big hc h128
          have hbt : decide ((120 : Int) < ((decV L i).1 : Int)) = true := by simp only [decide_eq_true_eq]; omega
          have hno : isSg L[i] = false := by
            unfold isSg
            simp only [Bool.or_eq_false_iff, beq_eq_false_iff_ne, ne_eq, ← UInt8.toNat_inj]
            refine ⟨⟨?_, ?_⟩, ?_⟩ <;> (show ¬ L[i].toNat = _; intro h'; rw [h'] at h128; exact h128 (by decide))
          simp only [sz.down, ↓reduceIte, Nat.reduceEqDiff, Nat.reduceLT, Nat.reduceAdd, Nat.reduceBEq, TEP, vcNext, hset1, hbt]
          exact .mk _ _ i (by simp only [sz.down, ↓reduceIte, reduceCtorEq, h0]) (by simp only [sz.down, ↓reduceIte, Nat.reduceEqDiff, h3]) (by simp only [sz.down, hd]) (fun j hj => by simp only [sz.down, hfk j hj]) hil (stop fun _ => hno)
      · simp only [decide_eq_false_iff_not] at hc
        simp only [sz.down, ↓reduceIte, Nat.reduceLT, TEP, vcNext]
        exact .mk _ _ i (by simp only [sz.down, ↓reduceIte, reduceCtorEq, h0]) (by simp only [sz.down, ↓reduceIte, Nat.reduceEqDiff, h3]) (by simp only [sz.down, hd]) (fun j hj => by simp only [sz.down, hfk j hj]) hil (stop fun h => absurd h hc)

end Go.Proofs.YtboolnpmlmgpkaaGreatDoor

set_option linter.unusedVariables false
set_option maxRecDepth 20000
set_option linter.unusedSimpArgs false
set_option linter.unnecessarySimpa false
namespace Go.Proofs.YtboolnpmlmgpkaaGreatDoor
open Go Go.Proofs Go.Abs

/-! ### Where something is in a text -/
theorem lastIdx_rng (s : ByteArray) (c : Int) : ∀ k : Nat, -1 ≤ Lib.lastIdx s c k ∧ Lib.lastIdx s c k < k
  | 0 => by simp [Lib.lastIdx]
  | k + 1 => by
    have := lastIdx_rng s c k
    unfold Lib.lastIdx
    split <;> omega
def spOver (a b : Int) (s : S) : Int × Int := if s.count 10 = 0 then (a, b + s.length) else (a + (s.count 10 : Nat), s.length - Lib.lastIndexByte ⟨s.toArray⟩ 10)
def planOV : Plan := .take 0 <| .take 2 <| .take 4 <| .take 6 <| .alt 1 (.alt 3 (.alt 5 (.one 7 <| .one 8 <| .one 9 <| .one 10 <| .fin) (.one 7 (.one 5 <| .one 8 <| .one 9 <| .one 10 <| .fin))) (.alt 5 (.alt 3 (.one 7 <| .one 8 <| .one 9 <| .one 10 <| .fin) (.one 7 (.alt 3 (.one 8 <| .one 9 <| .one 10 <| .fin) (.one 8 (.one 3 <| .one 9 <| .one 10 <| .fin))))) (.one 7 (.alt 3 (.one 5 <| .one 8 <| .one 9 <| .one 10 <| .fin) (.one 5 (.alt 3 (.one 8 <| .one 9 <| .one 10 <| .fin) (.one 8 (.one 3 <| .one 9 <| .one 10 <| .fin)))))))) (.alt 5 (.alt 1 (.alt 3 (.one 7 <| .one 8 <| .one 9 <| .one 10 <| .fin) (.one 7 (.alt 3 (.one 8 <| .one 9 <| .one 10 <| .fin) (.one 8 (.one 3 <| .one 9 <| .one 10 <| .fin))))) (.one 7 (.alt 1 (.alt 3 (.one 8 <| .one 9 <| .one 10 <| .fin) (.one 8 (.one 3 <| .one 9 <| .one 10 <| .fin))) (.one 8 (.one 1 <| .one 3 <| .one 9 <| .one 10 <| .fin))))) (.one 7 (.alt 1 (.alt 3 (.one 5 <| .one 8 <| .one 9 <| .one 10 <| .fin) (.one 5 (.alt 3 (.one 8 <| .one 9 <| .one 10 <| .fin) (.one 8 (.one 3 <| .one 9 <| .one 10 <| .fin))))) (.one 5 (.alt 1 (.alt 3 (.one 8 <| .one 9 <| .one 10 <| .fin) (.one 8 (.one 3 <| .one 9 <| .one 10 <| .fin))) (.one 8 (.one 1 <| .one 3 <| .one 9 <| .one 10 <| .fin)))))))
theorem ev_sover (a b : Int) (s : S) (ha : 0 ≤ a ∧ a ≤ 1000000000) (hb : 0 ≤ b ∧ b ≤ 1000000000) (hs : s.length ≤ 1000000000) : Ev TE 208 [.agg [vi a, vi b], .str s] (.agg [vi (spOver a b s).1, vi (spOver a b s).2]) := by
  have hc : s.count 10 ≤ s.length := List.count_le_length
  have hl := lastIdx_rng ⟨s.toArray⟩ 10 s.length
  have hl' : Lib.lastIndexByte ⟨s.toArray⟩ 10 = Lib.lastIdx ⟨s.toArray⟩ 10 s.length := rfl
  refine Ev.of_awp Tryz.func208 rfl (by simp [nts]) ?_
  
  refine awp_seq (vc_ok mixed _ _ _ _ ?_)
  simp only [sz.down, Nat.reduceLT, TEP, tis, nts, Tryz.results208]
  refine awp_seq (vc_ok mixed _ _ _ _ ?_)
  simp only [sz.down, ↓reduceIte, Nat.reduceEqDiff, Nat.reduceLT, Nat.reduceLeDiff, TEP, ens]
  refine ACalls.ev (ev_scount s 10) rfl ?_
  simp only [sz.down, ↓reduceIte, Nat.reduceLT, TEP]
  refine awp_seq (vc_ok mixed _ _ _ _ ?_)
  simp only [sz.down, ↓reduceIte, Nat.reduceLT, TEP]
  refine vcB.mk (fun h0 => ?_) (fun h0 => ?_)
  · have h0 : s.count 10 = 0 := by simpa using h0
    have w1 : IntKind.i64.wrap (b + (s.length : Int)) = b + s.length := wrapn (by omega) (by omega)
    simp only [sz.down, ↓reduceIte, Nat.reduceEqDiff, Nat.reduceLT, Nat.reduceLeDiff, Nat.reduceAdd, Int.reduceToNat, Int.reduceLE, reduceCtorEq, Nat.reduceMul, TEP, tis, w1]
    unfold spOver
    rw [if_pos h0]
    exact ⟨by decide, by decide, Reif.dat rfl⟩
  · have h0 : s.count 10 ≠ 0 := by simpa using h0
    have w1 : IntKind.i64.wrap (a + ((s.count 10 : Nat) : Int)) = a + (s.count 10 : Nat) := wrapn (by omega) (by omega)
    have w2 : IntKind.i64.wrap ((s.length : Int) - Lib.lastIndexByte ⟨s.toArray⟩ 10) = s.length - Lib.lastIndexByte ⟨s.toArray⟩ 10 := wrapn (by omega) (by omega)
    simp only [sz.down]
    refine awp_seq ?_
    refine awp_plan mixed planOV (fun f' h' => f'.t 4 = .lp 1 0 ∧ f'.d = [] ∧ h' = [.cells [vi a, vi b], .cells [vi (a + (s.count 10 : Nat)), vi (s.length - Lib.lastIndexByte ⟨s.toArray⟩ 10)]]) (by decide +kernel) (by decide +kernel) ?_ ?_
    · have hten : ((10 : UInt8).toNat : Int) = 10 := rfl
      simp only [sz.down, ↓reduceIte, Nat.reduceEqDiff, Nat.reduceLT, Nat.reduceLeDiff, Nat.reduceAdd, Int.reduceLE, Nat.reduceMul, TEP, tis, ens, planOV]
      repeat' apply And.intro
      all_goals try (first | decide | rfl)
      all_goals (refine ACalls.ev (ev_slast s 10 hs) rfl ?_)
      all_goals (simp only [sz.down, ↓reduceIte, Nat.reduceEqDiff, Nat.reduceLT, Nat.reduceLeDiff, Nat.reduceAdd, Nat.reduceMul, TEP, tis, w1, w2, hten])
      all_goals trace_state
    · rintro f h ⟨h4, hd, rfl⟩
      simp only [sz.down]
      refine vc_ok mixed _ _ _ _ ?_
      simp only [sz.down, Nat.reduceEqDiff, Nat.reduceAdd, reduceCtorEq, TEP, tis, h4, hd]
      unfold spOver
      rw [if_neg h0]
      exact Reif.dat rfl

theorem mx (a b : Int) : pvMax [vi a, vi b] = (True, vi (max a b)) := by
  simp only [pvMax, Int.max_def]
  split <;> split <;> first | rfl | (congr 2; omega)
theorem mn (a b : Int) : pvMin [vi a, vi b] = (True, vi (min a b)) := by
  simp only [pvMin, Int.min_def]
  split <;> split <;> first | rfl | (congr 2; omega)
def spPlace (s : S) (a : Int) : Int × Int := spOver 1 1 (s.take (min (max a 0) (s.length : Int)).toNat)
def planPL2 : Plan := .take 0 <| .take 2 <| .alt 1 (.take 4 <| .one 3 <| .take 5 <| .fin) (.one 3 (.one 1 <| .take 4 <| .take 5 <| .fin))
def planPL : Plan := .take 1 <| .take 2 <| .take 4 <| .alt 0 (.alt 3 (.alt 5 (.alt 6 (.take 7 <| .alt 8 (.one 9 <| .one 10 <| .fin) (.one 9 (.one 8 <| .one 10 <| .fin))) (.one 9 (.one 6 <| .take 7 <| .one 8 <| .one 10 <| .fin))) (.one 9 (.one 5 <| .one 6 <| .take 7 <| .one 8 <| .one 10 <| .fin))) (.alt 5 (.alt 3 (.alt 6 (.take 7 <| .alt 8 (.one 9 <| .one 10 <| .fin) (.one 9 (.one 8 <| .one 10 <| .fin))) (.one 9 (.one 6 <| .take 7 <| .one 8 <| .one 10 <| .fin))) (.one 9 (.one 3 <| .one 6 <| .take 7 <| .one 8 <| .one 10 <| .fin))) (.one 9 (.alt 3 (.one 5 <| .one 6 <| .take 7 <| .one 8 <| .one 10 <| .fin) (.one 5 (.one 3 <| .one 6 <| .take 7 <| .one 8 <| .one 10 <| .fin)))))) (.alt 3 (.alt 0 (.alt 5 (.alt 6 (.take 7 <| .alt 8 (.one 9 <| .one 10 <| .fin) (.one 9 (.one 8 <| .one 10 <| .fin))) (.one 9 (.one 6 <| .take 7 <| .one 8 <| .one 10 <| .fin))) (.one 9 (.one 5 <| .one 6 <| .take 7 <| .one 8 <| .one 10 <| .fin))) (.alt 5 (.alt 0 (.alt 6 (.take 7 <| .alt 8 (.one 9 <| .one 10 <| .fin) (.one 9 (.one 8 <| .one 10 <| .fin))) (.one 9 (.one 6 <| .take 7 <| .one 8 <| .one 10 <| .fin))) (.alt 6 (.take 7 <| .alt 0 (.alt 8 (.one 9 <| .one 10 <| .fin) (.one 9 (.one 8 <| .one 10 <| .fin))) (.one 9 (.one 0 <| .one 8 <| .one 10 <| .fin))) (.one 9 (.alt 0 (.one 6 <| .take 7 <| .one 8 <| .one 10 <| .fin) (.one 6 (.take 7 <| .one 0 <| .one 8 <| .one 10 <| .fin)))))) (.one 9 (.alt 0 (.one 5 <| .one 6 <| .take 7 <| .one 8 <| .one 10 <| .fin) (.one 5 (.alt 0 (.one 6 <| .take 7 <| .one 8 <| .one 10 <| .fin) (.one 6 (.take 7 <| .one 0 <| .one 8 <| .one 10 <| .fin)))))))) (.alt 5 (.alt 0 (.alt 3 (.alt 6 (.take 7 <| .alt 8 (.one 9 <| .one 10 <| .fin) (.one 9 (.one 8 <| .one 10 <| .fin))) (.one 9 (.one 6 <| .take 7 <| .one 8 <| .one 10 <| .fin))) (.one 9 (.one 3 <| .one 6 <| .take 7 <| .one 8 <| .one 10 <| .fin))) (.alt 3 (.alt 0 (.alt 6 (.take 7 <| .alt 8 (.one 9 <| .one 10 <| .fin) (.one 9 (.one 8 <| .one 10 <| .fin))) (.one 9 (.one 6 <| .take 7 <| .one 8 <| .one 10 <| .fin))) (.alt 6 (.take 7 <| .alt 0 (.alt 8 (.one 9 <| .one 10 <| .fin) (.one 9 (.one 8 <| .one 10 <| .fin))) (.one 9 (.one 0 <| .one 8 <| .one 10 <| .fin))) (.one 9 (.alt 0 (.one 6 <| .take 7 <| .one 8 <| .one 10 <| .fin) (.one 6 (.take 7 <| .one 0 <| .one 8 <| .one 10 <| .fin)))))) (.one 9 (.alt 0 (.one 3 <| .one 6 <| .take 7 <| .one 8 <| .one 10 <| .fin) (.one 3 (.alt 0 (.one 6 <| .take 7 <| .one 8 <| .one 10 <| .fin) (.one 6 (.take 7 <| .one 0 <| .one 8 <| .one 10 <| .fin)))))))) (.one 9 (.alt 0 (.alt 3 (.one 5 <| .one 6 <| .take 7 <| .one 8 <| .one 10 <| .fin) (.one 5 (.one 3 <| .one 6 <| .take 7 <| .one 8 <| .one 10 <| .fin))) (.alt 3 (.alt 0 (.one 5 <| .one 6 <| .take 7 <| .one 8 <| .one 10 <| .fin) (.one 5 (.alt 0 (.one 6 <| .take 7 <| .one 8 <| .one 10 <| .fin) (.one 6 (.take 7 <| .one 0 <| .one 8 <| .one 10 <| .fin))))) (.one 5 (.alt 0 (.one 3 <| .one 6 <| .take 7 <| .one 8 <| .one 10 <| .fin) (.one 3 (.alt 0 (.one 6 <| .take 7 <| .one 8 <| .one 10 <| .fin) (.one 6 (.take 7 <| .one 0 <| .one 8 <| .one 10 <| .fin)))))))))))
set_option maxHeartbeats 8000000 in
theorem ev_splace (s : S) (a : Int) (hs : s.length ≤ 1000000000) : Ev TE 170 [.str s, vi a] (.tup [vi (spPlace s a).1, vi (spPlace s a).2]) := by
  refine Ev.of_awp Tryz.func170 rfl (by simp [nts]) ?_
  
  refine awp_seq (vc_ok mixed _ _ _ _ ?_)
  simp only [sz.down, Nat.reduceLT, TEP, nts, Tryz.results170]
  refine awp_seq (vc_ok mixed _ _ _ _ ?_)
  refine awp_plan mixed planPL (fun f' h' => f'.t 6 = .lp 0 0 ∧ f'.d = [] ∧ h' = [.cells [vi (spPlace s a).1, vi (spPlace s a).2]]) (by decide +kernel) (by decide +kernel) ?_ ?_
  · have hm : 0 ≤ min (max a 0) (s.length : Int) ∧ min (max a 0) (s.length : Int) ≤ s.length := by omega
    have hov := ev_sover 1 1 (s.take (min (max a 0) (s.length : Int)).toNat) (by decide) (by decide) (by rw [List.length_take]; omega)
    simp only [sz.down, ↓reduceIte, Nat.reduceEqDiff, Nat.reduceLT, Nat.reduceAdd, Int.reduceLE, reduceCtorEq, TEP, tis, ens, planPL, gl0, ev_global, mx, mn]
    repeat' apply And.intro
    all_goals try omega
    all_goals (refine ACalls.ev hov rfl ?_)
    all_goals (simp only [sz.down, ↓reduceIte, Nat.reduceEqDiff, Nat.reduceLT, Nat.reduceAdd, TEP, tis])
    all_goals rfl
  · rintro f h ⟨h6, hd, rfl⟩
    refine awp_seq ?_
    refine awp_plan mixed planPL2 (fun f' h' => f'.t 4 = vi (spPlace s a).1 ∧ f'.t 5 = vi (spPlace s a).2 ∧ f'.d = []) (by decide +kernel) (by decide +kernel) ?_ ?_
    · simp only [sz.down, ↓reduceIte, Nat.reduceEqDiff, Nat.reduceLT, Nat.reduceLeDiff, Nat.reduceAdd, Int.reduceToNat, Int.reduceLE, Nat.reduceMul, TEP, tis, planPL2, h6, hd]
      exact ⟨by decide, by decide⟩
    · rintro f h ⟨h4, h5, hd⟩
      simp only [sz.down]
      refine vc_ok mixed _ _ _ _ ?_
      simp only [sz.down, TEP, h4, h5, hd]
      exact Reif.dat rfl

def spFail (s : S) (a e : Int) : V := if e = 0 then .agg [vi 0, vi 0, vi 0] else .agg [vi e, vi (spPlace s a).1, vi (spPlace s a).2]
theorem ev_sfail (s : S) (a e : Int) (hs : s.length ≤ 1000000000) : Ev TE 97 [.str s, vi a, vi e] (spFail s a e) := by
  unfold spFail
  refine Ev.of_awp Tryz.func97 rfl (by simp [nts]) (vc_ok mixed _ _ _ _ ?_)
  simp only [sz.down, ↓reduceIte, Nat.reduceEqDiff, Nat.reduceLT, TEP, tis, nts, Tryz.results97]
  refine vcB.mk (fun hc => ?_) (fun hc => ?_)
  · have hc : e = 0 := by simpa using hc
    simp only [sz.down, ↓reduceIte, Nat.reduceEqDiff, Nat.reduceLT, Nat.reduceAdd, reduceCtorEq, TEP, tis]
    rw [if_pos hc]
    exact Reif.dat rfl
  · have hc : e ≠ 0 := by simpa using hc
    simp only [sz.down, ↓reduceIte, Nat.reduceEqDiff, Nat.reduceLT, reduceCtorEq, TEP, ens]
    refine ACalls.ev (ev_splace s a hs) rfl ?_
    simp only [sz.down, ↓reduceIte, Nat.reduceEqDiff, Nat.reduceLT, Nat.reduceLeDiff, Nat.reduceAdd, reduceCtorEq, TEP, tis]
    rw [if_neg hc]
    exact Reif.dat rfl

/-- Errors at places are compared number by number. -/
theorem ia_fail : IntAgg P 38 [.i64, .i64, .i64] := by
  refine ⟨by kernel_rfl, fun w xs ys hx hy => ?_⟩
  match xs, hx with
  | [a, b, c], _ =>
  match ys, hy with
  | [a', b', c'], _ =>
  have p0 : ∀ (x y z : Value), (part 31 #[x, y, z] 0).run P w = .ok x w := fun x y z => part_int Tryz.underlying31 (by simp)
  have p1 : ∀ (x y z : Value), (part 3 #[x, y, z] 1).run P w = .ok y w := fun x y z => part_int Tryz.underlying3 (by simp)
  have p2 : ∀ (x y z : Value), (part 3 #[x, y, z] 2).run P w = .ok z w := fun x y z => part_int Tryz.underlying3 (by simp)
  have hso : P.stoodInHeld 38 = false := by kernel_rfl
  show (Op.equalIn 10000 38 (.agg #[.int .i64 a, .int .i64 b, .int .i64 c]) (.agg #[.int .i64 a', .int .i64 b', .int .i64 c'])).run P w = .ok ([a, b, c] == [a', b', c']) w
  rw [Op.equalIn]
  have e31 := equal_int (P := P) (w := w) Tryz.underlying31 9998
  have e3 := equal_int (P := P) (w := w) Tryz.underlying3 9998
  simp only [Sem.run_bind, run_underlying Tryz.underlying38, Result.andThen]
  by_cases ha : a = a'
  · subst ha
    by_cases hb : b = b'
    · subst hb
      by_cases hc : c = c'
      · subst hc
        simp [hso, p0, p1, p2, e31, e3, Sem.run_bind, Result.andThen]
      · have hc' : (c == c') = false := by simpa using hc
        simp [hso, p0, p1, p2, e31, e3, Sem.run_bind, Result.andThen, hc']
    · have hb' : (b == b') = false := by simpa using hb
      simp [hso, p0, p1, e31, e3, Sem.run_bind, Result.andThen, hb']
  · have ha' : (a == a') = false := by simpa using ha
    simp [hso, p0, e31, Sem.run_bind, Result.andThen, ha']

end Go.Proofs.YtboolnpmlmgpkaaGreatDoor
