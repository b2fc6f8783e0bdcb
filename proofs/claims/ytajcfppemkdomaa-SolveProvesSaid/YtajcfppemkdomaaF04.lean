/- Functions of the program, part 04. -/
import Derived.Test.YtajcfppemkdomaaF03
import Derived.Test.YtajcfppemkdomaaA9
set_option linter.unusedVariables false
set_option linter.unusedSimpArgs false
set_option linter.unnecessarySimpa false
namespace Go.Proofs.Ytajcfppemkdomaa
open Go Go.Proofs Go.Abs

theorem callK_p {dst : Option Tmp} {Kn : Fr → H → Prop} {Q : XE → Fr → H → Prop} {f : Fr} {v : V} {h : H} {p : Nat → Bool} : callK dst Kn Q f (.ret v) h p = ((∀ i ∈ f.d, p i = false) ∧ Kn ((f.drop p).put dst v) h) := rfl

/-! ### A heap that stands for a search's state -/
/-- What a local object is there for. -/
inductive Ro where
  | s | v | m | t | l | x | g
  | c (j : Nat)
  | w (a : Int)
  | k (i : Nat)
  | e (o : O)

/-- Where all stands. -/
structure Lay where
  s : Nat
  v : Nat
  m : Nat
  t : Nat
  l : Nat
  x : Nat
  g : Nat
  c : Nat → Nat
  w : Int → Option Nat
  k : Nat → Nat
  ro : Nat → Option Ro

def rowV (o : Option Nat) (k len : Nat) : V := match o with | none => .nils | some id => .ls id k 0 len len
def RowAt (h : H) (L : Lay) (r : Ro) (o : Option Nat) (cs : List V) : Prop := match o with | none => cs = [] | some id => h[id]? = some (.cells cs) ∧ L.ro id = some r

def clV (L : Lay) (S : St) (j : Nat) : V := .ls (L.c j) 1 0 (S.cl j).length (S.cl j).length
def reV (L : Lay) (S : St) (r : Option Nat) : V := match r with | none => .nils | some j => clV L S j
def vcell (L : Lay) (S : St) (x : VS) : List V := [vi x.value, vi x.level, reV L S x.reason, vi x.last, vi x.score]
def vcells (L : Lay) (S : St) (n : Nat) : List V := (List.range (n + 1)).flatMap fun i => vcell L S (S.v i)
def nxcells (nx : List (Int × Int)) : List V := nx.flatMap fun t => [vi t.1, vi t.2]
def lnV (L : Lay) (S : St) (i : Nat) : V := .ls (L.k i) 1 0 (S.ln.getD i []).length (S.ln.getD i []).length
def solcells (n : Nat) (bud : Int) (L : Lay) (S : St) : List V :=
  [.ls L.v 5 0 (n + 1) (n + 1), .lm L.m, .ls L.t 1 0 S.tr.length S.tr.length, vi S.hd, .ls L.l 1 0 S.lv.length S.lv.length, .ls L.x 2 0 S.nx.length S.nx.length, .ls L.g 1 0 S.ln.length S.ln.length, vi bud]
def lvcells (lv : List Nat) : List V := lv.map fun (x : Nat) => vi (x : Int)

/-- An object beside the search's own ones: it is not touched. -/
def Ext (L : Lay) (o : O) : Prop := ∀ p : Nat → Bool, (∀ q r, L.ro q = some r → p q = true → r = .t ∨ r = .l ∨ r = .x ∨ r = .g ∨ ∃ a, r = .w a) → o.drop p = o
theorem Ext.mono {L L' : Lay} {o : O} (h : Ext L o) (hl : ∀ i r, L.ro i = some r → L'.ro i = some r) : Ext L' o := fun p hp => h p fun q r hq => hp q r (hl q r hq)

structure HR (n : Nat) (L : Lay) (S : St) (h : H) : Prop where
  var : h[L.v]? = some (.cells (vcells L S n))
  map : ∃ ks : List Int, h[L.m]? = some (.map (ks.map vi) (ks.map fun a => rowV (L.w a) 1 (S.wt a).length)) ∧ ks.Nodup ∧ ∀ a, ¬ a ∈ ks → L.w a = none ∧ S.wt a = []
  trl : h[L.t]? = some (.cells (S.tr.map vi))
  lvl : h[L.l]? = some (.cells (lvcells S.lv))
  nxl : h[L.x]? = some (.cells (nxcells S.nx))
  lnl : h[L.g]? = some (.cells ((List.range S.ln.length).map (lnV L S)))
  lnk : ∀ i, i < S.ln.length → h[L.k i]? = some (.cells ((S.ln.getD i []).map vi)) ∧ L.ro (L.k i) = some (.k i)
  cla : ∀ j, j < S.nc → h[L.c j]? = some (.cells ((S.cl j).map vi)) ∧ L.ro (L.c j) = some (.c j)
  wat : ∀ a, RowAt h L (.w a) (L.w a) ((S.wt a).map (clV L S))
  fre : ∀ i, i ≤ n → ∀ j, (S.v i).reason = some j → j < S.nc
  fwt : ∀ a, ∀ j ∈ S.wt a, j < S.nc
  rs : L.ro L.s = some .s
  rv : L.ro L.v = some .v
  rm : L.ro L.m = some .m
  rt : L.ro L.t = some .t
  rl : L.ro L.l = some .l
  rx : L.ro L.x = some .x
  rg : L.ro L.g = some .g
  rlt : ∀ i r, L.ro i = some r → i < h.length
  ext : ∀ i o, L.ro i = some (.e o) → h[i]? = some o ∧ Ext L o

structure HS (n : Nat) (bud : Int) (L : Lay) (S : St) (h : H) : Prop extends HR n L S h where
  sol : h[L.s]? = some (.cells (solcells n bud L S))

section
variable {n : Nat} {bud : Int} {L : Lay} {S : St} {h : H}

theorem vcells_len : (vcells L S n).length = 5 * (n + 1) := by
  unfold vcells
  generalize n + 1 = m
  induction m with
  | zero => rfl
  | succ m ih => rw [List.range_succ, List.flatMap_append, List.length_append, ih]; simp [vcell]; omega

theorem flat_getD {α : Type} (f : Nat → List α) (k : Nat) (hk : ∀ i, (f i).length = k) (d : α) : ∀ (m i j : Nat), i < m → j < k → ((List.range m).flatMap f).getD (i * k + j) d = (f i).getD j d
  | 0, i, j, hi, _ => by omega
  | m + 1, i, j, hi, hj => by
    have hlen : ∀ m, ((List.range m).flatMap f).length = m * k := by
      intro m
      induction m with
      | zero => simp
      | succ m ih => rw [List.range_succ, List.flatMap_append, List.length_append, ih]; simp [hk, Nat.succ_mul]
    rw [List.range_succ, List.flatMap_append, List.getD_eq_getElem?_getD]
    by_cases h : i < m
    · have : i * k + j < m * k := by
        have := Nat.mul_le_mul_right k (show i + 1 ≤ m by omega)
        rw [Nat.succ_mul] at this; omega
      rw [List.getElem?_append_left (by rw [hlen]; exact this), ← List.getD_eq_getElem?_getD]
      exact flat_getD f k hk d m i j h hj
    · have : i = m := by omega
      subst this
      rw [List.getElem?_append_right (by rw [hlen]; omega), hlen, show i * k + j - i * k = j by omega]
      simp [List.getD_eq_getElem?_getD]

theorem vcells_get {i j : Nat} (hi : i ≤ n) (hj : j < 5) : (vcells L S n).getD (i * 5 + j) .any = (vcell L S (S.v i)).getD j .any :=
  flat_getD (fun i => vcell L S (S.v i)) 5 (fun _ => rfl) .any (n + 1) i j (by omega) hj

theorem maxI {n : Nat} {a : Int} (hn : n ≤ 20000) (h1 : a.natAbs ≤ n) : pvMax [vi a, .int .i64 (IntKind.i64.wrap (0 - a))] = (True, vi (a.natAbs : Int)) := by
  rw [wrap64 (by omega) (by omega)]
  simp only [pvMax]
  split
  · rw [show 0 - a = (a.natAbs : Int) by omega]
  · rw [show a = (a.natAbs : Int) by omega]; rfl

/-- The variable's place. -/
theorem of_calls (hs : HS n bud L S h) (hn : n ≤ 20000) {a : Int} (h1 : a.natAbs ≤ n) {R : AEnd → H → (Nat → Bool) → Prop} (hr : R (.ret (.lp L.v (a.natAbs * 5))) h (fun _ => false)) : ACalls TE 63 [.lp L.s 0, vi a] h R := by
  have hsol := hs.sol
  refine ACalls.of_awp Try.func63 rfl (by simp [nts]) (vc_ok mixed _ _ _ _ ?_)
  simp only [sz.down, ↓reduceIte, Nat.reduceEqDiff, Nat.reduceLT, Nat.reduceLeDiff, Nat.reduceAdd, reduceCtorEq, TEP, tis, nts, Try.results63, hsol, solcells, maxI hn h1]
  exact ⟨⟨by omega, by omega⟩, hr⟩

theorem vc0 {i : Nat} (hi : i ≤ n) : (vcells L S n).getD (i * 5) .any = vi (S.v i).value := vcells_get hi (j := 0) (by omega)
theorem vc1 {i : Nat} (hi : i ≤ n) : (vcells L S n).getD (i * 5 + 1) .any = vi (S.v i).level := vcells_get hi (by omega)
theorem vc2 {i : Nat} (hi : i ≤ n) : (vcells L S n).getD (i * 5 + 2) .any = reV L S (S.v i).reason := vcells_get hi (by omega)
theorem vc3 {i : Nat} (hi : i ≤ n) : (vcells L S n).getD (i * 5 + 3) .any = vi (S.v i).last := vcells_get hi (by omega)
theorem vc4 {i : Nat} (hi : i ≤ n) : (vcells L S n).getD (i * 5 + 4) .any = vi (S.v i).score := vcells_get hi (by omega)

/-- A literal's value. -/
theorem value_calls (hs : HS n bud L S h) (hn : n ≤ 20000) {a : Int} (h1 : a.natAbs ≤ n) (hv : -1 ≤ (S.v a.natAbs).value ∧ (S.v a.natAbs).value ≤ 1) {R : AEnd → H → (Nat → Bool) → Prop} (hr : R (.ret (vi (lval S a))) h (fun _ => false)) : ACalls TE 44 [.lp L.s 0, vi a] h R := by
  have hvar := hs.var
  have hw : IntKind.i64.wrap (0 - (S.v a.natAbs).value) = -(S.v a.natAbs).value := by rw [wrap64 (by omega) (by omega)]; omega
  refine ACalls.of_awp Try.func44 rfl (by simp [nts]) (vc_ok mixed _ _ _ _ ?_)
  simp only [sz.down, ↓reduceIte, Nat.reduceEqDiff, Nat.reduceLT, TEP, nts, Try.results44]
  refine vcB.mk (fun hc => ?_) (fun hc => ?_)
  · have hl : lval S a = -(S.v a.natAbs).value := by unfold lval; rw [if_pos (by simpa using hc)]
    simp only [sz.down, ↓reduceIte, Nat.reduceEqDiff, Nat.reduceLT, reduceCtorEq, TEP, ens]
    refine of_calls hs hn h1 ?_
    simp only [sz.down, ↓reduceIte, Nat.reduceLT, TEP, tis, hvar, vcells_len, vc0 h1, hw]
    rw [hl] at hr
    exact ⟨by omega, hr⟩
  · have hl : lval S a = (S.v a.natAbs).value := by unfold lval; rw [if_neg (by simpa using hc)]
    simp only [sz.down, ↓reduceIte, Nat.reduceEqDiff, Nat.reduceLT, reduceCtorEq, TEP, ens]
    refine of_calls hs hn h1 ?_
    simp only [sz.down, ↓reduceIte, Nat.reduceLT, TEP, tis, hvar, vcells_len, vc0 h1]
    rw [hl] at hr
    exact ⟨by omega, hr⟩
end

end Go.Proofs.Ytajcfppemkdomaa

set_option linter.unusedVariables false
set_option linter.unusedSimpArgs false
set_option linter.unnecessarySimpa false
namespace Go.Proofs.Ytajcfppemkdomaa
open Go Go.Proofs Go.Abs

section
variable {n : Nat} {bud : Int} {L : Lay} {S : St} {h : H}

theorem ro_ne (L : Lay) {i j : Nat} {r q : Ro} (hi : L.ro i = some r) (hj : L.ro j = some q) (hne : r ≠ q) : i ≠ j := fun e => hne (by
  rw [e, hj] at hi
  exact (Option.some.inj hi).symm)

theorem fold_set {cs : List V} {i : Nat} {v : V} (h : i < cs.length) : List.take i cs ++ [v] ++ List.drop (i + 1) cs = cs.set i v := by
  rw [List.append_assoc, List.singleton_append]
  exact ((List.set_eq_take_append_cons_drop).trans (if_pos h)).symm
theorem fold0 {k : Nat} (hk : k ≤ n) (cs : List V) (v : V) (h : cs.length = 5 * (n + 1)) : List.take (k * 5) cs ++ [v] ++ List.drop (k * 5 + 1) cs = cs.set (k * 5) v := fold_set (by omega)
theorem fold1 {k : Nat} (hk : k ≤ n) (cs : List V) (v : V) (h : cs.length = 5 * (n + 1)) : List.take (k * 5 + 1) cs ++ [v] ++ List.drop (k * 5 + 2) cs = cs.set (k * 5 + 1) v := fold_set (by omega)
theorem fold2 {k : Nat} (hk : k ≤ n) (cs : List V) (v : V) (h : cs.length = 5 * (n + 1)) : List.take (k * 5 + 2) cs ++ [v] ++ List.drop (k * 5 + 3) cs = cs.set (k * 5 + 2) v := fold_set (by omega)
theorem fold3 {k : Nat} (hk : k ≤ n) (cs : List V) (v : V) (h : cs.length = 5 * (n + 1)) : List.take (k * 5 + 3) cs ++ [v] ++ List.drop (k * 5 + 4) cs = cs.set (k * 5 + 3) v := fold_set (by omega)
theorem fold4 {k : Nat} (hk : k ≤ n) (cs : List V) (v : V) (h : cs.length = 5 * (n + 1)) : List.take (k * 5 + 4) cs ++ [v] ++ List.drop (k * 5 + 5) cs = cs.set (k * 5 + 4) v := fold_set (by omega)

def vrow (f : Nat → List V) (n : Nat) : List V := (List.range (n + 1)).flatMap f
theorem vcells_row : vcells L S n = vrow (fun i => vcell L S (S.v i)) n := rfl
theorem vrow_set {f : Nat → List V} (hf : ∀ i, (f i).length = 5) {k j : Nat} {v : V} (hk : k ≤ n) (hj : j < 5) : (vrow f n).set (k * 5 + j) v = vrow (upd f k ((f k).set j v)) n := by
  have hlen : ∀ m, ((List.range m).flatMap f).length = m * 5 := by
    intro m
    induction m with
    | zero => simp
    | succ m ih => rw [List.range_succ, List.flatMap_append, List.length_append, ih]; simp [hf, Nat.succ_mul]
  have key : ∀ m, k < m → ((List.range m).flatMap f).set (k * 5 + j) v = (List.range m).flatMap (upd f k ((f k).set j v)) := by
    intro m
    induction m with
    | zero => intro h; omega
    | succ m ih =>
      intro h
      rw [List.range_succ, List.flatMap_append, List.flatMap_append]
      by_cases hkm : k < m
      · rw [List.set_append_left _ _ (by rw [hlen]; omega), ih hkm]
        simp only [List.flatMap_cons, List.flatMap_nil, List.append_nil, upd_other (show m ≠ k by omega)]
      · have : k = m := by omega
        subst this
        rw [List.set_append_right _ _ (by rw [hlen]; omega), hlen, show k * 5 + j - k * 5 = j by omega]
        have e : (List.range k).flatMap f = (List.range k).flatMap (upd f k ((f k).set j v)) := by
          rw [List.flatMap_def, List.flatMap_def]
          congr 1
          refine List.map_congr_left fun x hx => ?_
          rw [upd_other (by have := List.mem_range.1 hx; omega)]
        rw [← e]
        simp only [List.flatMap_cons, List.flatMap_nil, List.append_nil, upd_same]
  exact key (n + 1) (by omega)
theorem vrow_congr {f g : Nat → List V} (h : ∀ i, i ≤ n → f i = g i) : vrow f n = vrow g n := by
  unfold vrow
  rw [List.flatMap_def, List.flatMap_def]
  congr 1
  exact List.map_congr_left fun x hx => h x (by have := List.mem_range.1 hx; omega)
theorem upd_len {f : Nat → List V} (hf : ∀ i, (f i).length = 5) {k : Nat} {l : List V} (hl : l.length = 5) : ∀ i, (upd f k l i).length = 5 := by
  intro i
  unfold upd
  split
  · exact hl
  · exact hf i

theorem reV_cases (L : Lay) (S : St) (r : Option Nat) : reV L S r = .nils ∨ ∃ id len, reV L S r = .ls id 1 0 len len := by
  cases r with
  | none => exact .inl rfl
  | some j => exact .inr ⟨_, _, rfl⟩

/-! ### How the heap turns -/
theorem get_set {i j : Nat} {o : O} {r q : Ro} (hi : L.ro i = some r) (hj : L.ro j = some q) (hne : r ≠ q) : (h.set i o)[j]? = h[j]? := List.getElem?_set_ne (ro_ne L hi hj hne)

theorem HR.setS (k : HR n L S h) (o : O) : HR n L S (h.set L.s o) where
  var := by rw [get_set k.rs k.rv (by simp)]; exact k.var
  map := by
    obtain ⟨ks, h1, h2⟩ := k.map
    exact ⟨ks, by rw [get_set k.rs k.rm (by simp)]; exact h1, h2⟩
  trl := by rw [get_set k.rs k.rt (by simp)]; exact k.trl
  lvl := by rw [get_set k.rs k.rl (by simp)]; exact k.lvl
  nxl := by rw [get_set k.rs k.rx (by simp)]; exact k.nxl
  lnl := by rw [get_set k.rs k.rg (by simp)]; exact k.lnl
  lnk i hi := by
    obtain ⟨h1, h2⟩ := k.lnk i hi
    exact ⟨by rw [get_set k.rs h2 (by simp)]; exact h1, h2⟩
  cla j hj := by
    obtain ⟨h1, h2⟩ := k.cla j hj
    exact ⟨by rw [get_set k.rs h2 (by simp)]; exact h1, h2⟩
  wat a := by
    have := k.wat a
    unfold RowAt at this ⊢
    cases hw : L.w a with
    | none => rw [hw] at this; exact this
    | some id =>
      rw [hw] at this
      exact ⟨by rw [get_set k.rs this.2 (by simp)]; exact this.1, this.2⟩
  fre := k.fre
  fwt := k.fwt
  rs := k.rs
  rv := k.rv
  rm := k.rm
  rt := k.rt
  rl := k.rl
  rx := k.rx
  rg := k.rg
  rlt i r hr := by rw [List.length_set]; exact k.rlt i r hr
  ext i o ho := ⟨by rw [get_set k.rs ho (by simp)]; exact (k.ext i o ho).1, (k.ext i o ho).2⟩

theorem HR.setV (k : HR n L S h) (v' : Nat → VS) (hv : ∀ i, i ≤ n → ∀ j, (v' i).reason = some j → j < S.nc) : HR n L { S with v := v' } (h.set L.v (.cells (vcells L { S with v := v' } n))) where
  var := List.getElem?_set_self (k.rlt _ _ k.rv)
  map := by
    obtain ⟨ks, h1, h2⟩ := k.map
    exact ⟨ks, by rw [get_set k.rv k.rm (by simp)]; exact h1, h2⟩
  trl := by rw [get_set k.rv k.rt (by simp)]; exact k.trl
  lvl := by rw [get_set k.rv k.rl (by simp)]; exact k.lvl
  nxl := by rw [get_set k.rv k.rx (by simp)]; exact k.nxl
  lnl := by rw [get_set k.rv k.rg (by simp)]; exact k.lnl
  lnk i hi := by
    obtain ⟨h1, h2⟩ := k.lnk i hi
    exact ⟨by rw [get_set k.rv h2 (by simp)]; exact h1, h2⟩
  cla j hj := by
    obtain ⟨h1, h2⟩ := k.cla j hj
    exact ⟨by rw [get_set k.rv h2 (by simp)]; exact h1, h2⟩
  wat a := by
    have := k.wat a
    unfold RowAt at this ⊢
    cases hw : L.w a with
    | none => rw [hw] at this; exact this
    | some id =>
      rw [hw] at this
      exact ⟨by rw [get_set k.rv this.2 (by simp)]; exact this.1, this.2⟩
  fre := hv
  fwt := k.fwt
  rs := k.rs
  rv := k.rv
  rm := k.rm
  rt := k.rt
  rl := k.rl
  rx := k.rx
  rg := k.rg
  rlt i r hr := by rw [List.length_set]; exact k.rlt i r hr
  ext i o ho := ⟨by rw [get_set k.rv ho (by simp)]; exact (k.ext i o ho).1, (k.ext i o ho).2⟩

/-- The rows of the trail, of levels, of what may be tried, of what was learned. -/
theorem HR.setRow (k : HR n L S h) {id : Nat} {cs : List V} {r : Ro} (hid : L.ro id = some r) (tr : Cl) (lv : List Nat) (nx : List (Int × Int))
    (hr : (r = .t ∧ cs = tr.map vi ∧ lv = S.lv ∧ nx = S.nx ∧ id = L.t) ∨ (r = .l ∧ cs = lvcells lv ∧ tr = S.tr ∧ nx = S.nx ∧ id = L.l) ∨ (r = .x ∧ cs = nxcells nx ∧ tr = S.tr ∧ lv = S.lv ∧ id = L.x)) :
    HR n L { S with tr := tr, lv := lv, nx := nx } (h.set id (.cells cs)) := by
  have hlt := k.rlt _ _ hid
  have oth : ∀ {j : Nat} {q : Ro}, L.ro j = some q → q ≠ .t → q ≠ .l → q ≠ .x → (h.set id (.cells cs))[j]? = h[j]? := by
    intro j q hj h1 h2 h3
    rcases hr with ⟨rfl, _⟩ | ⟨rfl, _⟩ | ⟨rfl, _⟩
    · exact get_set hid hj (Ne.symm h1)
    · exact get_set hid hj (Ne.symm h2)
    · exact get_set hid hj (Ne.symm h3)
  refine { var := ?_, map := ?_, trl := ?_, lvl := ?_, nxl := ?_, lnl := ?_, lnk := ?_, cla := ?_, wat := ?_, fre := k.fre, fwt := k.fwt, rs := k.rs, rv := k.rv, rm := k.rm, rt := k.rt, rl := k.rl, rx := k.rx, rg := k.rg, rlt := fun i q hq => by rw [List.length_set]; exact k.rlt i q hq, ext := fun i o ho => ⟨by rw [oth ho (by simp) (by simp) (by simp)]; exact (k.ext i o ho).1, (k.ext i o ho).2⟩ }
  · rw [oth k.rv (by simp) (by simp) (by simp)]; exact k.var
  · obtain ⟨ks, h1, h2⟩ := k.map
    exact ⟨ks, by rw [oth k.rm (by simp) (by simp) (by simp)]; exact h1, h2⟩
  · show (h.set id (.cells cs))[L.t]? = some (.cells (tr.map vi))
    rcases hr with ⟨rfl, h1, h2, h3, rfl⟩ | ⟨rfl, h1, h2, h3, rfl⟩ | ⟨rfl, h1, h2, h3, rfl⟩
    · rw [List.getElem?_set_self hlt, h1]
    · rw [get_set k.rl k.rt (by simp), h2]; exact k.trl
    · rw [get_set k.rx k.rt (by simp), h2]; exact k.trl
  · show (h.set id (.cells cs))[L.l]? = some (.cells (lvcells lv))
    rcases hr with ⟨rfl, h1, h2, h3, rfl⟩ | ⟨rfl, h1, h2, h3, rfl⟩ | ⟨rfl, h1, h2, h3, rfl⟩
    · rw [get_set k.rt k.rl (by simp), h2]; exact k.lvl
    · rw [List.getElem?_set_self hlt, h1]
    · rw [get_set k.rx k.rl (by simp), h3]; exact k.lvl
  · show (h.set id (.cells cs))[L.x]? = some (.cells (nxcells nx))
    rcases hr with ⟨rfl, h1, h2, h3, rfl⟩ | ⟨rfl, h1, h2, h3, rfl⟩ | ⟨rfl, h1, h2, h3, rfl⟩
    · rw [get_set k.rt k.rx (by simp), h3]; exact k.nxl
    · rw [get_set k.rl k.rx (by simp), h3]; exact k.nxl
    · rw [List.getElem?_set_self hlt, h1]
  · rw [oth k.rg (by simp) (by simp) (by simp)]; exact k.lnl
  · intro i hi
    obtain ⟨h1, h2⟩ := k.lnk i hi
    exact ⟨by rw [oth h2 (by simp) (by simp) (by simp)]; exact h1, h2⟩
  · intro j hj
    obtain ⟨h1, h2⟩ := k.cla j hj
    exact ⟨by rw [oth h2 (by simp) (by simp) (by simp)]; exact h1, h2⟩
  · intro a
    have := k.wat a
    unfold RowAt at this ⊢
    cases hw : L.w a with
    | none => rw [hw] at this; exact this
    | some id2 =>
      rw [hw] at this
      exact ⟨by rw [oth this.2 (by simp) (by simp) (by simp)]; exact this.1, this.2⟩

theorem drops_id {p : Nat → Bool} : ∀ {vs : List V}, (∀ v ∈ vs, v.drop p = v) → V.drops p vs = vs
  | [], _ => by rw [V.drops]
  | v :: vs, h => by rw [V.drops, h v (by simp), drops_id fun u hu => h u (by simp [hu])]
theorem drop_ls {p : Nat → Bool} {i k o l c : Nat} (h : p i = false) : V.drop p (.ls i k o l c) = .ls i k o l c := by rw [V.drop, h]; rfl
theorem drop_vi {p : Nat → Bool} {a : Int} : V.drop p (vi a) = vi a := by simp only [V.drop]

/-- What refers to some rows is dropped: nothing else turns. -/
theorem HR.drop (k : HR n L S h) {p : Nat → Bool} (hp : ∀ i r, L.ro i = some r → p i = true → r = .t ∨ r = .l ∨ r = .x ∨ r = .g) : HR n L S (h.map (O.drop p)) := by
  have hcl := k.fre
  have hwt := k.fwt
  have pc : ∀ j, j < S.nc → p (L.c j) = false := fun j hj => by
    cases hpp : p (L.c j) with
    | false => rfl
    | true => have := hp _ _ (k.cla j hj).2 hpp; simp at this
  have pk : ∀ i, i < S.ln.length → p (L.k i) = false := fun i hi => by
    cases hpp : p (L.k i) with
    | false => rfl
    | true => have := hp _ _ (k.lnk i hi).2 hpp; simp at this
  have pw : ∀ a id, L.w a = some id → p id = false := fun a id hw => by
    have := k.wat a
    unfold RowAt at this
    rw [hw] at this
    cases hpp : p id with
    | false => rfl
    | true => have := hp _ _ this.2 hpp; simp at this
  have get : ∀ {j : Nat} {cs : List V}, h[j]? = some (.cells cs) → (∀ v ∈ cs, v.drop p = v) → (h.map (O.drop p))[j]? = some (.cells cs) := by
    intro j cs hj hv
    rw [List.getElem?_map, hj, Option.map_some, O.drop_cells, drops_id hv]
  have gi : ∀ {j : Nat} {c : Cl}, h[j]? = some (.cells (c.map vi)) → (h.map (O.drop p))[j]? = some (.cells (c.map vi)) := fun hj => get hj fun v hv => by
    obtain ⟨a, _, rfl⟩ := List.mem_map.1 hv
    exact drop_vi
  refine { var := ?_, map := ?_, trl := gi k.trl, lvl := ?_, nxl := ?_, lnl := ?_, lnk := fun i hi => ⟨gi (k.lnk i hi).1, (k.lnk i hi).2⟩, cla := fun j hj => ⟨gi (k.cla j hj).1, (k.cla j hj).2⟩, wat := ?_, fre := k.fre, fwt := k.fwt, rs := k.rs, rv := k.rv, rm := k.rm, rt := k.rt, rl := k.rl, rx := k.rx, rg := k.rg, rlt := fun i q hq => by rw [List.length_map]; exact k.rlt i q hq, ext := fun i o ho => ⟨by rw [List.getElem?_map, (k.ext i o ho).1, Option.map_some, (k.ext i o ho).2 p fun q r hq hpq => (hp q r hq hpq).imp id (.imp id (.imp id .inl))], (k.ext i o ho).2⟩ }
  · refine get k.var fun v hv => ?_
    unfold vcells at hv
    obtain ⟨i, hi, hv⟩ := List.mem_flatMap.1 hv
    have hi : i ≤ n := by have := List.mem_range.1 hi; omega
    simp only [vcell, List.mem_cons, List.not_mem_nil, or_false] at hv
    rcases hv with rfl | rfl | rfl | rfl | rfl <;> try exact drop_vi
    cases hr : (S.v i).reason with
    | none => simp only [reV, V.drop]
    | some j => exact drop_ls (pc j (hcl i hi j hr))
  · obtain ⟨ks, h1, h2, h3⟩ := k.map
    refine ⟨ks, ?_, h2, h3⟩
    rw [List.getElem?_map, h1, Option.map_some, O.drop_map, drops_id (fun v hv => ?_), drops_id (fun v hv => ?_)]
    · obtain ⟨a, _, rfl⟩ := List.mem_map.1 hv
      cases hw : L.w a with
      | none => simp only [rowV, V.drop]
      | some id => exact drop_ls (pw a id hw)
    · obtain ⟨a, _, rfl⟩ := List.mem_map.1 hv
      exact drop_vi
  · refine get k.lvl fun v hv => ?_
    obtain ⟨a, _, rfl⟩ := List.mem_map.1 hv
    exact drop_vi
  · refine get k.nxl fun v hv => ?_
    obtain ⟨t, _, hv⟩ := List.mem_flatMap.1 hv
    simp only [List.mem_cons, List.not_mem_nil, or_false] at hv
    rcases hv with rfl | rfl <;> exact drop_vi
  · refine get k.lnl fun v hv => ?_
    obtain ⟨i, hi, rfl⟩ := List.mem_map.1 hv
    exact drop_ls (pk i (List.mem_range.1 hi))
  · intro a
    have := k.wat a
    unfold RowAt at this ⊢
    cases hw : L.w a with
    | none => rw [hw] at this; exact this
    | some id =>
      rw [hw] at this
      refine ⟨get this.1 fun v hv => ?_, this.2⟩
      obtain ⟨j, hj, rfl⟩ := List.mem_map.1 hv
      exact drop_ls (pc j (hwt a j hj))

theorem letS_cells {a : Int} {r : Option Nat} (h1 : a.natAbs ≤ n) (neg : Bool) (hneg : neg = decide (a < 0)) :
    (bif neg then ((((vcells L S n).set (a.natAbs * 5) (vi 1)).set (a.natAbs * 5 + 1) (vi S.lv.length)).set (a.natAbs * 5 + 2) (reV L S r)).set (a.natAbs * 5) (vi (-1))
      else (((vcells L S n).set (a.natAbs * 5) (vi 1)).set (a.natAbs * 5 + 1) (vi S.lv.length)).set (a.natAbs * 5 + 2) (reV L S r)) = vcells L { S with v := (letS S a r).v } n := by
  subst hneg
  have hf : ∀ i, (vcell L S (S.v i)).length = 5 := fun _ => rfl
  rw [vcells_row, vcells_row]
  have e0 := vrow_set (n := n) (k := a.natAbs) (j := 0) (v := vi 1) hf h1 (by omega)
  rw [Nat.add_zero] at e0
  have hf1 := upd_len hf (k := a.natAbs) (l := (vcell L S (S.v a.natAbs)).set 0 (vi 1)) rfl
  have e1 := vrow_set (n := n) (k := a.natAbs) (j := 1) (v := vi S.lv.length) hf1 h1 (by omega)
  have hf2 := upd_len hf1 (k := a.natAbs) (l := (upd (fun i => vcell L S (S.v i)) a.natAbs ((vcell L S (S.v a.natAbs)).set 0 (vi 1)) a.natAbs).set 1 (vi S.lv.length)) (by rw [upd_same]; rfl)
  have e2 := vrow_set (n := n) (k := a.natAbs) (j := 2) (v := reV L S r) hf2 h1 (by omega)
  rw [e0, e1, e2]
  have hf3 := upd_len hf2 (k := a.natAbs) (l := (upd (upd (fun i => vcell L S (S.v i)) a.natAbs ((vcell L S (S.v a.natAbs)).set 0 (vi 1))) a.natAbs ((upd (fun i => vcell L S (S.v i)) a.natAbs ((vcell L S (S.v a.natAbs)).set 0 (vi 1)) a.natAbs).set 1 (vi S.lv.length)) a.natAbs).set 2 (reV L S r)) (by simp only [upd_same]; rfl)
  have e3 := vrow_set (n := n) (k := a.natAbs) (j := 0) (v := vi (-1)) hf3 h1 (by omega)
  rw [Nat.add_zero] at e3
  rw [e3]
  by_cases ha : a < 0
  · simp only [ha, decide_true, cond_true]
    refine vrow_congr fun i hi => ?_
    by_cases he : i = a.natAbs
    · subst he
      simp only [upd_same]
      show _ = vcell L S ((letS S a r).v a.natAbs)
      rw [letS_at, if_pos ha]
      rfl
    · simp only [upd_other he]
      show _ = vcell L S ((letS S a r).v i)
      rw [letS_v he]
  · simp only [ha, decide_false, cond_false]
    refine vrow_congr fun i hi => ?_
    by_cases he : i = a.natAbs
    · subst he
      simp only [upd_same]
      show _ = vcell L S ((letS S a r).v a.natAbs)
      rw [letS_at, if_neg ha]
      rfl
    · simp only [upd_other he]
      show _ = vcell L S ((letS S a r).v i)
      rw [letS_v he]

theorem dropT (L : Lay) {id : Nat} {r0 : Ro} (hid : L.ro id = some r0) (h0 : r0 = .t ∨ r0 = .l ∨ r0 = .x ∨ r0 = .g) : ∀ i r, L.ro i = some r → (fun x => x == id) i = true → r = .t ∨ r = .l ∨ r = .x ∨ r = .g := by
  intro i r hi hp
  have : i = id := by simpa using hp
  subst this
  rw [hid] at hi
  cases hi
  exact h0

/-- After a literal is let hold. -/
theorem HS.letS (hs : HS n bud L S h) {a : Int} {r : Option Nat} (hr : ∀ j, r = some j → j < S.nc) (h1 : a.natAbs ≤ n) :
    HS n bud L (letS S a r) (((List.map (O.drop fun x => x == L.t) (h.set L.v (.cells (vcells L { S with v := (letS S a r).v } n)))).set L.t (.cells (List.map vi S.tr ++ [vi a]))).set L.s
      (.cells [.ls L.v 5 0 (n + 1) (n + 1), .lm L.m, .ls L.t 1 0 (S.tr.length + 1) (S.tr.length + 1), vi S.hd, .ls L.l 1 0 S.lv.length S.lv.length, .ls L.x 2 0 S.nx.length S.nx.length, .ls L.g 1 0 S.ln.length S.ln.length, vi bud])) := by
  have k1 := hs.toHR.setV (Go.Proofs.Ytajcfppemkdomaa.letS S a r).v (fun i hi j hj => by
    by_cases he : i = a.natAbs
    · subst he
      rw [letS_at] at hj
      exact hr j hj
    · rw [letS_v he] at hj
      exact hs.fre i hi j hj)
  have k2 := k1.drop (p := fun x => x == L.t) (dropT L hs.rt (.inl rfl))
  have k3 := k2.setRow (cs := List.map vi S.tr ++ [vi a]) hs.rt (S.tr ++ [a]) S.lv S.nx (.inl ⟨rfl, by simp, rfl, rfl, rfl⟩)
  have k4 := k3.setS (.cells [.ls L.v 5 0 (n + 1) (n + 1), .lm L.m, .ls L.t 1 0 (S.tr.length + 1) (S.tr.length + 1), vi S.hd, .ls L.l 1 0 S.lv.length S.lv.length, .ls L.x 2 0 S.nx.length S.nx.length, .ls L.g 1 0 S.ln.length S.ln.length, vi bud])
  refine ⟨k4, ?_⟩
  rw [List.getElem?_set_self (by simpa using hs.rlt _ _ hs.rs)]
  have e : (Go.Proofs.Ytajcfppemkdomaa.letS S a r).tr.length = S.tr.length + 1 := by show (S.tr ++ [a]).length = _; simp
  unfold solcells
  rw [e]
  rfl

theorem slet_calls (hs : HS n bud L S h) (hn : n ≤ 20000) {a : Int} (h1 : a.natAbs ≤ n) (htr : S.tr.length ≤ 20000) (r : Option Nat) (hr : ∀ j, r = some j → j < S.nc) {R : AEnd → H → (Nat → Bool) → Prop}
    (hk : ∀ h' p, HS n bud L (letS S a r) h' → (∀ i, p i = true → i = L.t) → h.length ≤ h'.length → R (.ret (.tup [])) h' p) : ACalls TE 45 [.lp L.s 0, vi a, reV L S r] h R := by
  have hM : maxLen = 9223372036854775807 := rfl
  have hvar := hs.var
  have hsol := hs.sol
  have htrl := hs.trl
  have hvs : L.v ≠ L.s := ro_ne L hs.rv hs.rs (by simp)
  have hvt : L.v ≠ L.t := ro_ne L hs.rv hs.rt (by simp)
  have hst : L.s ≠ L.t := ro_ne L hs.rs hs.rt (by simp)
  have hts := hst.symm
  have hsv : L.s ≠ L.v := hvs.symm
  have hlv := hs.rlt _ _ hs.rv
  have hls := hs.rlt _ _ hs.rs
  have hlt := hs.rlt _ _ hs.rt
  have b1 : (L.s == L.t) = false := by simp [hst]
  have b2 : (L.v == L.t) = false := by simp [hvt]
  have b3 : (L.m == L.t) = false := by simp [ro_ne L hs.rm hs.rt (by simp)]
  have b4 : (L.l == L.t) = false := by simp [ro_ne L hs.rl hs.rt (by simp)]
  have b5 : (L.x == L.t) = false := by simp [ro_ne L hs.rx hs.rt (by simp)]
  have b6 : (L.g == L.t) = false := by simp [ro_ne L hs.rg hs.rt (by simp)]
  have hdv : V.drops (fun x => x == L.t) (S.tr.map vi) = S.tr.map vi := drops_vi _
  have hcells := letS_cells (L := L) (S := S) (r := r) h1 (decide (a < 0)) rfl
  have hS := hs.letS (r := r) hr h1
  rcases reV_cases L S r with e | ⟨id, len, e⟩
  all_goals
    rw [e] at hcells ⊢
    refine ACalls.of_awp Try.func45 rfl (by simp [nts]) (vc_ok mixed _ _ _ _ ?_)
    simp only [sz.down, ↓reduceIte, Nat.reduceEqDiff, Nat.reduceLT, Int.reduceNeg, TEP, ens, nts, Try.results45]
    refine of_calls hs hn h1 ?_
    simp only [sz.down, ↓reduceIte, Nat.reduceEqDiff, Nat.reduceLT, Nat.reduceLeDiff, Nat.reduceAdd, Int.reduceNeg, reduceCtorEq, TEP, tis, hsol, solcells, hvar, vcells_len, List.getElem?_set_self, List.length_set, hlv, fold0 h1, fold1 h1, fold2 h1]
    refine ⟨by omega, by omega, by omega, vcB.mk (fun hc => ?_) (fun hc => ?_)⟩
    all_goals
      simp only [sz.down, ↓reduceIte, Nat.reduceEqDiff, Nat.reduceLT, Nat.reduceLeDiff, Nat.reduceAdd, Int.reduceNeg, reduceCtorEq, Nat.reduceMul, TEP, tis, hsol, solcells, vcells_len, List.getElem?_set_self, List.length_set, hlv, fold0 h1, List.getElem?_set_ne, hvs, hvt, hts, ne_eq, not_false_eq_true, htrl, List.set_set, b1, b2, b3, b4, b5, b6, hdv, List.getElem?_map]
      rw [hc] at hcells
      simp only [cond_true, cond_false] at hcells
      rw [hcells]
      first
        | exact ⟨by omega, ⟨rfl, by decide⟩, ⟨by omega, by omega, by omega⟩, hk _ _ hS (fun i hi => by simpa using hi) (by simp)⟩
        | exact ⟨⟨rfl, by decide⟩, ⟨by omega, by omega, by omega⟩, hk _ _ hS (fun i hi => by simpa using hi) (by simp)⟩
end

end Go.Proofs.Ytajcfppemkdomaa

set_option linter.unusedVariables false
set_option linter.unusedSimpArgs false
set_option linter.unnecessarySimpa false
namespace Go.Proofs.Ytajcfppemkdomaa
open Go Go.Proofs Go.Abs

section
variable {n : Nat} {bud : Int} {L : Lay} {S : St} {h : H}

/-- After a variable's score has grown. -/
theorem HS.bump (hs : HS n bud L S h) {k : Nat} (hk : k ≤ n) {s : Int} : HS n bud L (bumpS S k s) (h.set L.v (.cells ((vcells L S n).set (k * 5 + 4) (vi s)))) := by
  have e : (vcells L S n).set (k * 5 + 4) (vi s) = vcells L { S with v := (bumpS S k s).v } n := by
    rw [vcells_row, vcells_row, vrow_set (fun _ => rfl) hk (by omega)]
    refine vrow_congr fun i hi => ?_
    by_cases he : i = k
    · subst he
      rw [upd_same]
      show _ = vcell L S (upd S.v i _ i)
      rw [upd_same]; rfl
    · rw [upd_other he]
      show _ = vcell L S (upd S.v k _ i)
      rw [upd_other he]
  rw [e]
  have k1 := hs.toHR.setV (bumpS S k s).v (fun i hi j hj => hs.fre i hi j (((bumpS_v i).2.2.1).symm.trans hj))
  refine ⟨k1, ?_⟩
  rw [get_set hs.rv hs.rs (by simp)]
  exact hs.sol

theorem bump_calls (hs : HS n bud L S h) (hn : n ≤ 20000) {k : Nat} (hk : k ≤ n) (hv : (S.v k).value ≠ 0) {R : AEnd → H → (Nat → Bool) → Prop}
    (hr : ∀ h', HS n bud L (bumpS S k (IntKind.i64.wrap ((S.v k).score + 1))) h' → h'.length = h.length → R (.ret (.tup [])) h' (fun _ => false)) : ACalls TE 73 [.lp L.s 0, vi k] h R := by
  have hM : maxLen = 9223372036854775807 := rfl
  have hvar := hs.var
  have hsol := hs.sol
  have hvs : L.v ≠ L.s := ro_ne L hs.rv hs.rs (by simp)
  have hlv := hs.rlt _ _ hs.rv
  have hB := hs.bump hk (s := IntKind.i64.wrap ((S.v k).score + 1))
  have hz : ((S.v k).value == 0) = false := by simpa using hv
  have g0 : ((vcells L S n).set (k * 5 + 4) (vi (IntKind.i64.wrap ((S.v k).score + 1)))).getD (k * 5) .any = vi (S.v k).value := by
    rw [List.getD_eq_getElem?_getD, List.getElem?_set_ne (by omega), ← List.getD_eq_getElem?_getD]
    exact vc0 hk
  refine ACalls.of_awp Try.func73 rfl (by simp [nts]) (vc_ok mixed _ _ _ _ ?_)
  simp only [sz.down, ↓reduceIte, Nat.reduceEqDiff, Nat.reduceLT, Nat.reduceLeDiff, Nat.reduceAdd, reduceCtorEq, TEP, tis, nts, Try.results73, hsol, solcells, hvar, vcells_len, List.getElem?_set_self, List.length_set, hlv, fold4 hk, vc4 hk, List.getElem?_set_ne, hvs, ne_eq, not_false_eq_true, g0, hz]
  exact ⟨⟨by omega, by omega⟩, by omega, ⟨by omega, by omega⟩, by omega, ⟨by omega, by omega⟩, by omega, hr _ hB (by simp)⟩

/-! ### The heap of what may be tried -/
def sw {α : Type} (l : List α) (i k : Nat) (d : α) : List α := (l.set i (l.getD k d)).set k (l.getD i d)
theorem set_perm {α : Type} : ∀ {l : List α} {i : Nat} (h : i < l.length) (x : α), (x :: l).Perm (l[i] :: l.set i x)
  | [], i, h, _ => by simp at h
  | a :: l, 0, h, x => List.Perm.swap _ _ _
  | a :: l, i + 1, h, x => by
    have hh : i < l.length := by simpa using h
    have := set_perm hh x
    show (x :: a :: l).Perm (l[i] :: a :: l.set i x)
    exact (List.Perm.swap _ _ _).trans ((List.Perm.cons a this).trans (List.Perm.swap _ _ _))
theorem sw_perm {α : Type} {l : List α} {i k : Nat} {d : α} (hi : i < l.length) (hk : k < l.length) : (sw l i k d).Perm l := by
  unfold sw
  rw [show l.getD k d = l[k] by simp [List.getD_eq_getElem?_getD, hk], show l.getD i d = l[i] by simp [List.getD_eq_getElem?_getD, hi]]
  by_cases he : i = k
  · subst he
    rw [List.set_set]
    simp
  · have h1 := set_perm hi l[k]
    have h2 := set_perm (l := l.set i l[k]) (i := k) (by simpa using hk) l[i]
    have e : (l.set i l[k])[k]'(by simpa using hk) = l[k] := by rw [List.getElem_set_ne he]
    rw [e] at h2
    exact ((List.perm_cons _).1 (h1.trans h2)).symm

theorem len_calls {x len : Nat} (R : AEnd → H → (Nat → Bool) → Prop) (hr : R (.ret (vi len)) h (fun _ => false)) : ACalls TE 68 [.ls x 2 0 len len] h R := by
  refine ACalls.of_awp Try.func68 rfl (by simp [nts]) (vc_ok mixed _ _ _ _ ?_)
  simp only [sz.down, ↓reduceIte, Nat.reduceLT, reduceCtorEq, TEP, tis, nts, Try.results68]
  exact hr

theorem nxcells_len : ∀ {nx : List (Int × Int)}, (nxcells nx).length = 2 * nx.length
  | [] => rfl
  | t :: nx => by
    have := nxcells_len (nx := nx)
    simp only [nxcells] at this
    simp only [nxcells, List.flatMap_cons, List.length_append, List.length_cons, List.length_nil]
    omega
theorem nx0 : ∀ {nx : List (Int × Int)} {i : Nat} (h : i < nx.length), (nxcells nx).getD (i * 2) .any = vi nx[i].1
  | [], i, h => by simp at h
  | t :: nx, 0, h => rfl
  | t :: nx, i + 1, h => by
    have := nx0 (nx := nx) (i := i) (by simpa using h)
    rw [show (i + 1) * 2 = i * 2 + 1 + 1 by omega]
    simpa [nxcells] using this
theorem nx1 : ∀ {nx : List (Int × Int)} {i : Nat} (h : i < nx.length), (nxcells nx).getD (i * 2 + 1) .any = vi nx[i].2
  | [], i, h => by simp at h
  | t :: nx, 0, h => rfl
  | t :: nx, i + 1, h => by
    have := nx1 (nx := nx) (i := i) (by simpa using h)
    rw [show (i + 1) * 2 + 1 = i * 2 + 1 + 1 + 1 by omega]
    simpa [nxcells] using this

theorem less_calls {x : Nat} {nx : List (Int × Int)} (hx : h[x]? = some (.cells (nxcells nx))) {i k : Nat} (hi : i < nx.length) (hk : k < nx.length) {R : AEnd → H → (Nat → Bool) → Prop} (hr : ∀ b, R (.ret (.bool b)) h (fun _ => false)) :
    ACalls TE 100 [.ls x 2 0 nx.length nx.length, vi i, vi k] h R := by
  refine ACalls.of_awp Try.func100 rfl (by simp [nts]) (vc_ok mixed _ _ _ _ ?_)
  simp only [sz.down, ↓reduceIte, Nat.reduceEqDiff, Nat.reduceLT, reduceCtorEq, TEP, tis, nts, Try.results100, hx, nxcells_len, nx1 hi, nx1 hk]
  refine ⟨by decide +kernel, ⟨by omega, by omega⟩, by omega, ⟨by omega, by omega⟩, by omega, vcB.mk (fun hc => ?_) (fun hc => ?_)⟩
  all_goals
    simp only [sz.down, ↓reduceIte, Nat.reduceEqDiff, Nat.reduceLT, reduceCtorEq, TEP, tis, hx, nxcells_len, nx0 hi, nx1 hi, nx0 hk, nx1 hk]
    exact ⟨by decide +kernel, ⟨by omega, by omega⟩, by omega, ⟨by omega, by omega⟩, by omega, hr _⟩
end

end Go.Proofs.Ytajcfppemkdomaa

set_option linter.unusedVariables false
set_option linter.unusedSimpArgs false
set_option linter.unnecessarySimpa false
namespace Go.Proofs.Ytajcfppemkdomaa
open Go Go.Proofs Go.Abs

/-! ### The methods of what may be tried -/
theorem methPush {h : H} {s off : Nat} : Meth TE h 58 (.lp s off) "Push" 103 (.lp s off) := by
  intro ok pl w x hs hx
  have hx' := hx
  simp only [VRel] at hx
  obtain ⟨b, hb, rfl⟩ := hx
  exact ⟨_, by kernel_rfl, hx'⟩
theorem methPop {h : H} {s off : Nat} : Meth TE h 58 (.lp s off) "Pop" 102 (.lp s off) := by
  intro ok pl w x hs hx
  have hx' := hx
  simp only [VRel] at hx
  obtain ⟨b, hb, rfl⟩ := hx
  exact ⟨_, by kernel_rfl, hx'⟩

theorem methLoad (b off : Nat) (w : World) : ∀ (name : String) (g : FuncId), (name = "Len" ∧ g = 68) ∨ (name = "Less" ∧ g = 100) ∨ (name = "Swap" ∧ g = 101) →
    (Go.method (TE.P.types.size + Made.depth) 58 (.pointer (some ⟨b, off, none⟩)) name).run TE.P w = (do let v ← Instr.loadAt 49 (.pointer (some ⟨b, off, none⟩)); pure (g, v) : Sem (FuncId × Value)).run TE.P w := by
  rintro name g (⟨rfl, rfl⟩ | ⟨rfl, rfl⟩ | ⟨rfl, rfl⟩) <;> kernel_rfl

theorem meth_val {h : H} {s off x len : Nat} {cs : List V} (hc : h[s]? = some (.cells cs)) (ho : cs[off]? = some (.ls x 2 0 len len)) {name : String} {g : FuncId}
    (hn : (name = "Len" ∧ g = 68) ∨ (name = "Less" ∧ g = 100) ∨ (name = "Swap" ∧ g = 101)) : Meth TE h 58 (.lp s off) name g (.ls x 2 0 len len) := by
  intro ok pl w v hs hx
  have hl := pvLoad_ok (P := TE.P) hs (t := 49) hx
  have hp : pvLoad TE.P h 49 (.lp s off) = ((off + 1 ≤ cs.length ∧ (true = true)), .ls x 2 0 len len) := by
    have hh : hcells h s = cs := by simp only [hcells, hc]
    have hg : cs.getD off .any = .ls x 2 0 len len := by rw [List.getD_eq_getElem?_getD, ho]; rfl
    simp only [pvLoad, TEP, tis, hh, V.sub, TI.agg, hg, cond_false, implies_true]
  rw [hp] at hl
  obtain ⟨y, h1, h2⟩ := hl ⟨(List.getElem?_eq_some_iff.1 ho).1, rfl⟩
  simp only [VRel] at hx
  obtain ⟨b, hb, rfl⟩ := hx
  refine ⟨y, ?_, h2⟩
  rw [methLoad b off w name g hn]
  simp only [Sem.run_bind]
  have h1' : (Instr.loadAt 49 (.pointer (some ⟨b, off, none⟩))).run TE.P w = .ok y w := h1
  rw [h1']
  rfl

end Go.Proofs.Ytajcfppemkdomaa

set_option linter.unusedVariables false
set_option linter.unusedSimpArgs false
set_option linter.unnecessarySimpa false
namespace Go.Proofs.Ytajcfppemkdomaa
open Go Go.Proofs Go.Abs

section
variable {n : Nat} {bud : Int} {L : Lay} {S : St} {h : H}

theorem nx_two : ∀ {nx : List (Int × Int)} {i : Nat} (h : i < nx.length), List.take 2 (List.drop (i * 2) (nxcells nx)) = [vi nx[i].1, vi nx[i].2]
  | [], i, h => by simp at h
  | t :: nx, 0, h => rfl
  | t :: nx, i + 1, h => by
    have := nx_two (nx := nx) (i := i) (by simpa using h)
    rw [show (i + 1) * 2 = i * 2 + 1 + 1 by omega]
    simpa [nxcells] using this
theorem nx_set : ∀ {nx : List (Int × Int)} {i : Nat} (h : i < nx.length) (t : Int × Int), List.take (i * 2) (nxcells nx) ++ [vi t.1, vi t.2] ++ List.drop (i * 2 + 2) (nxcells nx) = nxcells (nx.set i t)
  | [], i, h, t => by simp at h
  | u :: nx, 0, h, t => by simp [nxcells]
  | u :: nx, i + 1, h, t => by
    have := nx_set (nx := nx) (i := i) (by simpa using h) t
    rw [show (i + 1) * 2 = i * 2 + 1 + 1 by omega]
    simp only [nxcells, List.flatMap_cons, List.cons_append, List.nil_append, List.take_succ_cons, List.drop_succ_cons, List.set_cons_succ] at this ⊢
    rw [← this]

def planSw : Plan := .take 0 <| .take 1 <| .take 2 <| .take 3 <| .take 4 <| .take 5 <| .take 6 <| .take 8 <| .take 9 <| .take 10 <| .alt 7 (.one 11 <| .take 12 <| .one 13 <| .take 14 <| .one 15 <| .fin) (.one 11 (.one 7 <| .take 12 <| .one 13 <| .take 14 <| .one 15 <| .fin))

theorem swap_calls {x : Nat} {nx : List (Int × Int)} (hx : h[x]? = some (.cells (nxcells nx))) {i k : Nat} (hi : i < nx.length) (hk : k < nx.length) {R : AEnd → H → (Nat → Bool) → Prop}
    (hr : R (.ret (.tup [])) (h.set x (.cells (nxcells (sw nx i k (0, 0))))) (fun _ => false)) : ACalls TE 101 [.ls x 2 0 nx.length nx.length, vi i, vi k] h R := by
  have hxl : x < h.length := (List.getElem?_eq_some_iff.1 hx).1
  have e1 : nx.getD k (0, 0) = nx[k] := by simp [List.getD_eq_getElem?_getD, hk]
  have e2 : nx.getD i (0, 0) = nx[i] := by simp [List.getD_eq_getElem?_getD, hi]
  have n1 := nx_set hi nx[k]
  have n2 := nx_set (nx := nx.set i nx[k]) (i := k) (by simpa using hk) nx[i]
  have l1 := nxcells_len (nx := nx)
  have l2 := nxcells_len (nx := nx.set i nx[k])
  rw [List.length_set] at l2
  refine ACalls.of_awp Try.func101 rfl (by simp [nts]) (vc_ok mixed _ _ _ _ ?_)
  simp only [sz.down, TEP, nts, Try.results101]
  refine awp_plan mixed planSw (fun f' h' => f'.d = [] ∧ (∀ j, f'.k j = false) ∧ h' = h.set x (.cells (nxcells (sw nx i k (0, 0))))) (by decide +kernel) (by decide +kernel) ?_ ?_
  · simp only [sz.down, ↓reduceIte, Nat.reduceEqDiff, Nat.reduceLT, Nat.reduceAdd, reduceCtorEq, TEP, tis, planSw, hx, nx_two hi, nx_two hk, n1, n2, l1, l2, List.getElem?_set_self, hxl, List.set_set]
    have hsw : (nx.set i nx[k]).set k nx[i] = sw nx i k (0, 0) := by unfold sw; rw [e1, e2]
    rw [hsw]
    and_intros <;> first | omega | rfl
  · rintro f h ⟨hd, hkf, rfl⟩
    simp only [sz.down, hd]
    have : f.k = fun _ => false := funext hkf
    rw [this]
    exact hr

/-- The row of what may be tried, in a heap that stands for a state. -/
theorem HS.setX (hs : HS n bud L S h) {nx : List (Int × Int)} (hl : nx.length = S.nx.length) : HS n bud L (nxS S nx) (h.set L.x (.cells (nxcells nx))) := by
  have k := hs.toHR.setRow (id := L.x) (cs := nxcells nx) hs.rx S.tr S.lv nx (.inr (.inr ⟨rfl, rfl, rfl, rfl, rfl⟩))
  refine ⟨k, ?_⟩
  rw [get_set hs.rx hs.rs (by simp), hs.sol]
  simp only [solcells, nxS, hl]

theorem sol5 (hs : HS n bud L S h) : (solcells n bud L S)[5]? = some (.ls L.x 2 0 S.nx.length S.nx.length) := rfl

/-- Something goes up. -/
theorem up_calls (hs : HS n bud L S h) (hb : S.nx.length ≤ 1000000000000) : ∀ {k : Nat} (hk : k < S.nx.length) {R : AEnd → H → (Nat → Bool) → Prop}
    (hr : ∀ nx h', nx.Perm S.nx → HS n bud L (nxS S nx) h' → h'.length = h.length → R (.ret (.tup [])) h' (fun _ => false)), ACalls TE 41 [.iface 58 (.lp L.s 5), vi k] h R := by
  intro k hk R hr
  have hM : maxLen = 9223372036854775807 := rfl
  refine ACalls.of_awp Try.func41 rfl (by simp [nts]) (vc_ok mixed _ _ _ _ ?_)
  simp only [sz.down, TEP, nts, Try.results41]
  refine awp_loop (fun m f h' => ∃ (nx : List (Int × Int)) (k : Nat), m = k ∧ k < S.nx.length ∧ f.t 0 = .iface 58 (.lp L.s 5) ∧ f.t 1 = vi k ∧ f.d = [] ∧ (∀ j, f.k j = false) ∧ nx.Perm S.nx ∧ HS n bud L (nxS S nx) h' ∧ h'.length = h.length) k
    ⟨S.nx, k, rfl, hk, rfl, rfl, rfl, fun _ => rfl, List.Perm.refl _, hs, rfl⟩ ?_
  rintro m f h' ⟨nx, k, rfl, hk, h0, h1, hd, hkf, hp, hs', hlen⟩
  have hl := hp.length_eq
  refine vc_ok mixed _ _ _ _ ?_
  by_cases hm : m = 0
  · subst hm
    have hq : IntKind.i64.wrap ((IntKind.i64.wrap (((0 : Nat) : Int) - 1)).tdiv 2) = 0 := by decide
    have hz : ((0 : Int) == ((0 : Nat) : Int)) = true := rfl
    simp only [sz.down, ↓reduceIte, Nat.reduceEqDiff, Nat.reduceLT, reduceCtorEq, TEP, h0, h1, hq, hz]
    refine ⟨by decide, .bool false, ?_⟩
    simp only [sz.down, Nat.reduceBEq, hd]
    have : f.k = fun _ => false := funext hkf
    rw [this]
    exact hr nx h' hp hs' hlen
  · have hq : IntKind.i64.wrap ((IntKind.i64.wrap ((m : Int) - 1)).tdiv 2) = (((m - 1) / 2 : Nat) : Int) := by
      rw [wrap64 (n := (m : Int) - 1) (by omega) (by omega), show (m : Int) - 1 = ((m - 1 : Nat) : Int) by omega, show ((m - 1 : Nat) : Int).tdiv 2 = (((m - 1) / 2 : Nat) : Int) from rfl, wrap64 (by omega) (by omega)]
    have hne : ((((m - 1) / 2 : Nat) : Int) == (m : Int)) = false := by rw [beq_eq_false_iff_ne]; omega
    simp only [sz.down, ↓reduceIte, Nat.reduceEqDiff, Nat.reduceLT, reduceCtorEq, TEP, h0, h1, hq, hne]
    refine ⟨by decide, ?_⟩
    refine eff_invoke rfl (t := 58) (v := .lp L.s 5) (v' := .ls L.x 2 0 nx.length nx.length) (g := 100) (by simp only [sz.down, ↓reduceIte, Nat.reduceEqDiff]) (by simp only [sz.down, ↓reduceIte, Nat.reduceEqDiff, callSc, allSc]) (meth_val hs'.sol (sol5 hs') (.inr (.inl ⟨rfl, rfl⟩))) (by simp only [sz.down, TEP, ens]) ?_
    simp only [sz.down, ↓reduceIte, Nat.reduceEqDiff]
    refine less_calls hs'.nxl (by show m < nx.length; omega) (by show (m - 1) / 2 < nx.length; omega) fun b => ?_
    cases b with
    | false =>
      simp only [sz.down, ↓reduceIte, Nat.reduceEqDiff, Nat.reduceLT, Nat.reduceBEq, TEP, hd]
      have : f.k = fun _ => false := funext hkf
      rw [this]
      exact hr nx h' hp hs' hlen
    | true =>
      simp only [sz.down, ↓reduceIte, Nat.reduceEqDiff, Nat.reduceLT, reduceCtorEq, TEP, h0, h1]
      refine eff_invoke rfl (t := 58) (v := .lp L.s 5) (v' := .ls L.x 2 0 nx.length nx.length) (g := 101) (by simp only [sz.down, ↓reduceIte, Nat.reduceEqDiff]) (by simp only [sz.down, ↓reduceIte, Nat.reduceEqDiff, callSc, allSc]) (meth_val hs'.sol (sol5 hs') (.inr (.inr ⟨rfl, rfl⟩))) (by simp only [sz.down, TEP, ens]) ?_
      simp only [sz.down, ↓reduceIte, Nat.reduceEqDiff]
      refine swap_calls (nx := nx) hs'.nxl (by show (m - 1) / 2 < nx.length; omega) (by show m < nx.length; omega) ?_
      have hsp := sw_perm (l := nx) (i := (m - 1) / 2) (k := m) (d := ((0 : Int), (0 : Int))) (by omega) (by omega)
      have hs2 := hs'.setX (nx := sw nx ((m - 1) / 2) m (0, 0)) hsp.length_eq
      simp only [sz.down, ↓reduceIte, Nat.reduceEqDiff, Nat.reduceLT, TEP]
      exact .inl ⟨(m - 1) / 2, by omega, sw nx ((m - 1) / 2) m (0, 0), (m - 1) / 2, rfl, by omega, by simp only [sz.down, ↓reduceIte, reduceCtorEq, h0], by simp only [sz.down, ↓reduceIte], by simp only [sz.down, hd], hkf, hsp.trans hp, hs2, by rw [List.length_set]; exact hlen⟩
end

end Go.Proofs.Ytajcfppemkdomaa

set_option linter.unusedVariables false
set_option linter.unusedSimpArgs false
set_option linter.unnecessarySimpa false
namespace Go.Proofs.Ytajcfppemkdomaa
open Go Go.Proofs Go.Abs

section
variable {n : Nat} {bud : Int} {L : Lay} {S : St} {h : H}

theorem sw_other {α : Type} {l : List α} {i k q : Nat} {d : α} (h1 : q ≠ i) (h2 : q ≠ k) : (sw l i k d).getD q d = l.getD q d := by
  unfold sw
  rw [List.getD_eq_getElem?_getD, List.getElem?_set_ne (Ne.symm h2), List.getElem?_set_ne (Ne.symm h1), ← List.getD_eq_getElem?_getD]

/-- Something goes down. -/
theorem down_calls (hs : HS n bud L S h) (hb : S.nx.length ≤ 1000000000000) {m : Nat} (hm : m ≤ S.nx.length) {R : AEnd → H → (Nat → Bool) → Prop}
    (hr : ∀ nx h' b, nx.Perm S.nx → HS n bud L (nxS S nx) h' → h'.length = h.length → (∀ i, m ≤ i → nx.getD i (0, 0) = S.nx.getD i (0, 0)) → R (.ret (.bool b)) h' (fun _ => false)) : ACalls TE 74 [.iface 58 (.lp L.s 5), vi 0, vi m] h R := by
  have hM : maxLen = 9223372036854775807 := rfl
  refine ACalls.of_awp Try.func74 rfl (by simp [nts]) (vc_ok mixed _ _ _ _ ?_)
  simp only [sz.down, ↓reduceIte, Nat.reduceEqDiff, Nat.reduceLT, TEP, nts, Try.results74]
  refine awp_loop (fun k f h' => ∃ (nx : List (Int × Int)) (i : Nat), k = m - i ∧ f.t 0 = .iface 58 (.lp L.s 5) ∧ f.t 1 = vi 0 ∧ f.t 2 = vi m ∧ f.t 7 = vi i ∧ i ≤ m ∧ f.d = [] ∧ (∀ j, f.k j = false) ∧ nx.Perm S.nx ∧ HS n bud L (nxS S nx) h' ∧ h'.length = h.length ∧ ∀ i, m ≤ i → nx.getD i (0, 0) = S.nx.getD i (0, 0)) m
    ⟨S.nx, 0, rfl, rfl, rfl, rfl, rfl, Nat.zero_le _, rfl, fun _ => rfl, List.Perm.refl _, hs, rfl, fun _ _ => rfl⟩ ?_
  rintro k f h' ⟨nx, i, hk, h0, h1, h2, h7, hi, hd, hkf, hp, hs', hlen, hsame⟩
  have hl := hp.length_eq
  have hkf' : f.k = fun _ => false := funext hkf
  have w1 : IntKind.i64.wrap (2 * (i : Int)) = ((2 * i : Nat) : Int) := by rw [wrap64 (by omega) (by omega)]; omega
  have w2 : IntKind.i64.wrap (((2 * i : Nat) : Int) + 1) = ((2 * i + 1 : Nat) : Int) := by rw [wrap64 (by omega) (by omega)]; omega
  have w3 : IntKind.i64.wrap (((2 * i + 1 : Nat) : Int) + 1) = ((2 * i + 2 : Nat) : Int) := by rw [wrap64 (by omega) (by omega)]; omega
  have z1 : decide (((2 * i + 1 : Nat) : Int) < 0) = false := by rw [decide_eq_false_iff_not]; omega
  /- behind the choice of a child -/
  have fin : ∀ b : Bool, R (.ret (.bool b)) h' f.k := fun b => by rw [hkf']; exact hr nx h' b hp hs' hlen hsame
  refine vc_ok mixed _ _ _ _ ?_
  by_cases hge : m ≤ 2 * i + 1
  · have e1 : decide ((m : Int) ≤ ((2 * i + 1 : Nat) : Int)) = true := by rw [decide_eq_true_eq]; omega
    simp only [sz.down, ↓reduceIte, Nat.reduceEqDiff, Nat.reduceLT, Nat.reduceBEq, reduceCtorEq, TEP, h1, h2, h7, hd, w1, w2, e1]
    exact fin _
  · have e1 : decide ((m : Int) ≤ ((2 * i + 1 : Nat) : Int)) = false := by rw [decide_eq_false_iff_not]; omega
    /- what follows when the child is told -/
    by_cases hlt : 2 * i + 2 < m
    · have e2 : decide (((2 * i + 2 : Nat) : Int) < (m : Int)) = true := by rw [decide_eq_true_eq]; omega
      simp only [sz.down, ↓reduceIte, Nat.reduceEqDiff, Nat.reduceLT, reduceCtorEq, TEP, h0, h2, h7, w1, w2, w3, e1, z1, e2]
      refine eff_invoke rfl (t := 58) (v := .lp L.s 5) (v' := .ls L.x 2 0 nx.length nx.length) (g := 100) (by simp only [sz.down, ↓reduceIte, Nat.reduceEqDiff]) (by simp only [sz.down, ↓reduceIte, Nat.reduceEqDiff, callSc, allSc]) (meth_val hs'.sol (sol5 hs') (.inr (.inl ⟨rfl, rfl⟩))) (by simp only [sz.down, TEP, ens]) ?_
      simp only [sz.down, ↓reduceIte, Nat.reduceEqDiff]
      refine less_calls hs'.nxl (by show 2 * i + 2 < nx.length; omega) (by show 2 * i + 1 < nx.length; omega) fun b => ?_
      cases b with
      | true =>
        simp only [sz.down, ↓reduceIte, Nat.reduceEqDiff, Nat.reduceLT, reduceCtorEq, TEP, h0, h7]
        refine eff_invoke rfl (t := 58) (v := .lp L.s 5) (v' := .ls L.x 2 0 nx.length nx.length) (g := 100) (by simp only [sz.down, ↓reduceIte, Nat.reduceEqDiff]) (by simp only [sz.down, ↓reduceIte, Nat.reduceEqDiff, callSc, allSc]) (meth_val hs'.sol (sol5 hs') (.inr (.inl ⟨rfl, rfl⟩))) (by simp only [sz.down, TEP, ens]) ?_
        simp only [sz.down, ↓reduceIte, Nat.reduceEqDiff]
        refine less_calls hs'.nxl (by show 2 * i + 2 < nx.length; omega) (by show i < nx.length; omega) fun b => ?_
        cases b with
        | false =>
          simp only [sz.down, ↓reduceIte, Nat.reduceEqDiff, Nat.reduceLT, Nat.reduceBEq, TEP, h1, h7, hd]
          exact fin _
        | true =>
          simp only [sz.down, ↓reduceIte, Nat.reduceEqDiff, Nat.reduceLT, reduceCtorEq, TEP, h0, h7]
          refine eff_invoke rfl (t := 58) (v := .lp L.s 5) (v' := .ls L.x 2 0 nx.length nx.length) (g := 101) (by simp only [sz.down, ↓reduceIte, Nat.reduceEqDiff]) (by simp only [sz.down, ↓reduceIte, Nat.reduceEqDiff, callSc, allSc]) (meth_val hs'.sol (sol5 hs') (.inr (.inr ⟨rfl, rfl⟩))) (by simp only [sz.down, TEP, ens]) ?_
          simp only [sz.down, ↓reduceIte, Nat.reduceEqDiff]
          refine swap_calls (nx := nx) hs'.nxl (by show i < nx.length; omega) (by show 2 * i + 2 < nx.length; omega) ?_
          have hsp := sw_perm (l := nx) (i := i) (k := 2 * i + 2) (d := ((0 : Int), (0 : Int))) (by omega) (by omega)
          have hs2 := hs'.setX (nx := sw nx i (2 * i + 2) (0, 0)) hsp.length_eq
          simp only [sz.down, ↓reduceIte, Nat.reduceEqDiff, Nat.reduceLT, TEP]
          exact .inl ⟨m - (2 * i + 2), by omega, sw nx i (2 * i + 2) (0, 0), 2 * i + 2, rfl, by simp only [sz.down, ↓reduceIte, reduceCtorEq, h0], by simp only [sz.down, ↓reduceIte, Nat.reduceEqDiff, h1], by simp only [sz.down, ↓reduceIte, Nat.reduceEqDiff, h2], by simp only [sz.down, ↓reduceIte], by omega, by simp only [sz.down, hd], hkf, hsp.trans hp, hs2, by rw [List.length_set]; exact hlen, fun q hq => by rw [sw_other (by omega) (by omega)]; exact hsame q hq⟩
      | false =>
        simp only [sz.down, ↓reduceIte, Nat.reduceEqDiff, Nat.reduceLT, reduceCtorEq, TEP, h0, h7]
        refine eff_invoke rfl (t := 58) (v := .lp L.s 5) (v' := .ls L.x 2 0 nx.length nx.length) (g := 100) (by simp only [sz.down, ↓reduceIte, Nat.reduceEqDiff]) (by simp only [sz.down, ↓reduceIte, Nat.reduceEqDiff, callSc, allSc]) (meth_val hs'.sol (sol5 hs') (.inr (.inl ⟨rfl, rfl⟩))) (by simp only [sz.down, TEP, ens]) ?_
        simp only [sz.down, ↓reduceIte, Nat.reduceEqDiff]
        refine less_calls hs'.nxl (by show 2 * i + 1 < nx.length; omega) (by show i < nx.length; omega) fun b => ?_
        cases b with
        | false =>
          simp only [sz.down, ↓reduceIte, Nat.reduceEqDiff, Nat.reduceLT, Nat.reduceBEq, TEP, h1, h7, hd]
          exact fin _
        | true =>
          simp only [sz.down, ↓reduceIte, Nat.reduceEqDiff, Nat.reduceLT, reduceCtorEq, TEP, h0, h7]
          refine eff_invoke rfl (t := 58) (v := .lp L.s 5) (v' := .ls L.x 2 0 nx.length nx.length) (g := 101) (by simp only [sz.down, ↓reduceIte, Nat.reduceEqDiff]) (by simp only [sz.down, ↓reduceIte, Nat.reduceEqDiff, callSc, allSc]) (meth_val hs'.sol (sol5 hs') (.inr (.inr ⟨rfl, rfl⟩))) (by simp only [sz.down, TEP, ens]) ?_
          simp only [sz.down, ↓reduceIte, Nat.reduceEqDiff]
          refine swap_calls (nx := nx) hs'.nxl (by show i < nx.length; omega) (by show 2 * i + 1 < nx.length; omega) ?_
          have hsp := sw_perm (l := nx) (i := i) (k := 2 * i + 1) (d := ((0 : Int), (0 : Int))) (by omega) (by omega)
          have hs2 := hs'.setX (nx := sw nx i (2 * i + 1) (0, 0)) hsp.length_eq
          simp only [sz.down, ↓reduceIte, Nat.reduceEqDiff, Nat.reduceLT, TEP]
          exact .inl ⟨m - (2 * i + 1), by omega, sw nx i (2 * i + 1) (0, 0), 2 * i + 1, rfl, by simp only [sz.down, ↓reduceIte, reduceCtorEq, h0], by simp only [sz.down, ↓reduceIte, Nat.reduceEqDiff, h1], by simp only [sz.down, ↓reduceIte, Nat.reduceEqDiff, h2], by simp only [sz.down, ↓reduceIte], by omega, by simp only [sz.down, hd], hkf, hsp.trans hp, hs2, by rw [List.length_set]; exact hlen, fun q hq => by rw [sw_other (by omega) (by omega)]; exact hsame q hq⟩
    · have e2 : decide (((2 * i + 2 : Nat) : Int) < (m : Int)) = false := by rw [decide_eq_false_iff_not]; omega
      simp only [sz.down, ↓reduceIte, Nat.reduceEqDiff, Nat.reduceLT, reduceCtorEq, TEP, h0, h2, h7, w1, w2, w3, e1, z1, e2]
      refine ⟨.bool false, ?_⟩
      simp only [sz.down, ↓reduceIte, Nat.reduceEqDiff, Nat.reduceLT, reduceCtorEq, TEP, h0, h7]
      refine eff_invoke rfl (t := 58) (v := .lp L.s 5) (v' := .ls L.x 2 0 nx.length nx.length) (g := 100) (by simp only [sz.down, ↓reduceIte, Nat.reduceEqDiff]) (by simp only [sz.down, ↓reduceIte, Nat.reduceEqDiff, callSc, allSc]) (meth_val hs'.sol (sol5 hs') (.inr (.inl ⟨rfl, rfl⟩))) (by simp only [sz.down, TEP, ens]) ?_
      simp only [sz.down, ↓reduceIte, Nat.reduceEqDiff]
      refine less_calls hs'.nxl (by show 2 * i + 1 < nx.length; omega) (by show i < nx.length; omega) fun b => ?_
      cases b with
      | false =>
        simp only [sz.down, ↓reduceIte, Nat.reduceEqDiff, Nat.reduceLT, Nat.reduceBEq, TEP, h1, h7, hd]
        exact fin _
      | true =>
        simp only [sz.down, ↓reduceIte, Nat.reduceEqDiff, Nat.reduceLT, reduceCtorEq, TEP, h0, h7]
        refine eff_invoke rfl (t := 58) (v := .lp L.s 5) (v' := .ls L.x 2 0 nx.length nx.length) (g := 101) (by simp only [sz.down, ↓reduceIte, Nat.reduceEqDiff]) (by simp only [sz.down, ↓reduceIte, Nat.reduceEqDiff, callSc, allSc]) (meth_val hs'.sol (sol5 hs') (.inr (.inr ⟨rfl, rfl⟩))) (by simp only [sz.down, TEP, ens]) ?_
        simp only [sz.down, ↓reduceIte, Nat.reduceEqDiff]
        refine swap_calls (nx := nx) hs'.nxl (by show i < nx.length; omega) (by show 2 * i + 1 < nx.length; omega) ?_
        have hsp := sw_perm (l := nx) (i := i) (k := 2 * i + 1) (d := ((0 : Int), (0 : Int))) (by omega) (by omega)
        have hs2 := hs'.setX (nx := sw nx i (2 * i + 1) (0, 0)) hsp.length_eq
        simp only [sz.down, ↓reduceIte, Nat.reduceEqDiff, Nat.reduceLT, TEP]
        exact .inl ⟨m - (2 * i + 1), by omega, sw nx i (2 * i + 1) (0, 0), 2 * i + 1, rfl, by simp only [sz.down, ↓reduceIte, reduceCtorEq, h0], by simp only [sz.down, ↓reduceIte, Nat.reduceEqDiff, h1], by simp only [sz.down, ↓reduceIte, Nat.reduceEqDiff, h2], by simp only [sz.down, ↓reduceIte], by omega, by simp only [sz.down, hd], hkf, hsp.trans hp, hs2, by rw [List.length_set]; exact hlen, fun q hq => by rw [sw_other (by omega) (by omega)]; exact hsame q hq⟩
end

end Go.Proofs.Ytajcfppemkdomaa

set_option linter.unusedVariables false
set_option linter.unusedSimpArgs false
set_option linter.unnecessarySimpa false
namespace Go.Proofs.Ytajcfppemkdomaa
open Go Go.Proofs Go.Abs

section
variable {n : Nat} {bud : Int} {L : Lay} {S : St} {h : H}

theorem nxcells_app (nx : List (Int × Int)) (t : Int × Int) : nxcells nx ++ [vi t.1, vi t.2] = nxcells (nx ++ [t]) := by simp [nxcells]

theorem drops_nx {p : Nat → Bool} (nx : List (Int × Int)) : V.drops p (nxcells nx) = nxcells nx := drops_id fun v hv => by
  obtain ⟨t, _, hv⟩ := List.mem_flatMap.1 hv
  simp only [List.mem_cons, List.not_mem_nil, or_false] at hv
  rcases hv with rfl | rfl <;> exact drop_vi

theorem HS.pushX (hs : HS n bud L S h) (nx : List (Int × Int)) : HS n bud L (nxS S nx) (((h.map (O.drop fun x => x == L.x)).set L.x (.cells (nxcells nx))).set L.s
      (.cells [.ls L.v 5 0 (n + 1) (n + 1), .lm L.m, .ls L.t 1 0 S.tr.length S.tr.length, vi S.hd, .ls L.l 1 0 S.lv.length S.lv.length, .ls L.x 2 0 nx.length nx.length, .ls L.g 1 0 S.ln.length S.ln.length, vi bud])) := by
  have k2 := hs.toHR.drop (p := fun x => x == L.x) (dropT L hs.rx (.inr (.inr (.inl rfl))))
  have k3 := k2.setRow (id := L.x) (cs := nxcells nx) hs.rx S.tr S.lv nx (.inr (.inr ⟨rfl, rfl, rfl, rfl, rfl⟩))
  refine ⟨k3.setS _, ?_⟩
  rw [List.getElem?_set_self (by simpa using hs.rlt _ _ hs.rs)]
  rfl

def planPush : Plan := .take 0 <| .take 1 <| .take 2 <| .take 4 <| .alt 3 (.one 5 <| .one 6 <| .one 7 <| .take 8 <| .one 9 <| .fin) (.one 5 (.alt 3 (.one 6 <| .one 7 <| .take 8 <| .one 9 <| .fin) (.one 6 (.one 3 <| .one 7 <| .take 8 <| .one 9 <| .fin))))

theorem mpush_calls (hs : HS n bud L S h) (hb : S.nx.length ≤ 1000000000000) (a b : Int) {R : AEnd → H → (Nat → Bool) → Prop}
    (hr : ∀ h' p, HS n bud L (nxS S (S.nx ++ [(a, b)])) h' → h'.length = h.length → (∀ i, p i = true → i = L.x) → R (.ret (.tup [])) h' p) : ACalls TE 103 [.lp L.s 5, .iface 60 (.agg [vi a, vi b])] h R := by
  have hM : maxLen = 9223372036854775807 := rfl
  have hsol := hs.sol
  have hnx := hs.nxl
  have hls := hs.rlt _ _ hs.rs
  have hlx := hs.rlt _ _ hs.rx
  have hsx : L.s ≠ L.x := ro_ne L hs.rs hs.rx (by simp)
  have hxs := hsx.symm
  have b1 : (L.s == L.x) = false := by simp [hsx]
  have b2 : (L.v == L.x) = false := by simp [ro_ne L hs.rv hs.rx (by simp)]
  have b3 : (L.m == L.x) = false := by simp [ro_ne L hs.rm hs.rx (by simp)]
  have b4 : (L.l == L.x) = false := by simp [ro_ne L hs.rl hs.rx (by simp)]
  have b5 : (L.t == L.x) = false := by simp [ro_ne L hs.rt hs.rx (by simp)]
  have b6 : (L.g == L.x) = false := by simp [ro_ne L hs.rg hs.rx (by simp)]
  have hH := hs.pushX (S.nx ++ [(a, b)])
  have hne : nxcells S.nx ++ [vi a, vi b] = nxcells (S.nx ++ [(a, b)]) := nxcells_app S.nx (a, b)
  have hfm : List.flatMap V.vc [V.agg [vi a, vi b]] = [vi a, vi b] := rfl
  have hft : allFits [V.agg [vi a, vi b]] = true := rfl
  rw [List.length_append, List.length_singleton] at hH
  refine ACalls.of_awp Try.func103 rfl (by simp [nts]) (vc_ok mixed _ _ _ _ ?_)
  simp only [sz.down, TEP, nts, Try.results103]
  refine awp_plan mixed planPush (fun f' h' => f'.d = [] ∧ (∀ j, f'.k j = true → j = L.x) ∧ HS n bud L (nxS S (S.nx ++ [(a, b)])) h' ∧ h'.length = h.length) (by decide +kernel) (by decide +kernel) ?_ ?_
  · simp only [sz.down, ↓reduceIte, Nat.reduceEqDiff, Nat.reduceLT, Nat.reduceLeDiff, Nat.reduceAdd, reduceCtorEq, Nat.reduceMul, TEP, tis, planPush, hsol, solcells, hnx, List.length_set, List.getElem?_set_ne, hxs, ne_eq, not_false_eq_true, b1, b2, b3, b4, b5, b6, drops_nx, nxcells_len, List.getElem?_map, hne, hfm, hft]
    exact ⟨⟨rfl, by decide⟩, ⟨by omega, by omega, by omega⟩, fun j hj => by simpa using hj, hH⟩
  · rintro f h' ⟨hd, hkf, hs', hl⟩
    simp only [sz.down, hd]
    exact hr h' f.k hs' hl hkf

/-- Something is pushed. -/
theorem Push_calls (hs : HS n bud L S h) (hb : S.nx.length ≤ 100000000000) (a b : Int) {R : AEnd → H → (Nat → Bool) → Prop}
    (hr : ∀ nx h' p, nx.Perm (S.nx ++ [(a, b)]) → HS n bud L (nxS S nx) h' → h'.length = h.length → (∀ i, p i = true → i = L.x) → R (.ret (.tup [])) h' p) : ACalls TE 22 [.iface 58 (.lp L.s 5), .iface 60 (.agg [vi a, vi b])] h R := by
  have hM : maxLen = 9223372036854775807 := rfl
  have hsx : L.s ≠ L.x := ro_ne L hs.rs hs.rx (by simp)
  refine ACalls.of_awp Try.func22 rfl (by simp [nts]) (vc_ok mixed _ _ _ _ ?_)
  simp only [sz.down, ↓reduceIte, Nat.reduceEqDiff, Nat.reduceLT, TEP, nts, Try.results22]
  refine eff_invoke rfl (t := 58) (v := .lp L.s 5) (v' := .lp L.s 5) (g := 103) (by simp only [sz.down, ↓reduceIte, Nat.reduceEqDiff]) (by simp only [sz.down, ↓reduceIte, Nat.reduceEqDiff, callSc, allSc]) methPush (by simp only [sz.down, TEP, ens]) ?_
  refine mpush_calls hs (by omega) a b fun h1 p hs1 hl1 hp => ?_
  have hps : p L.s = false := by
    cases hps : p L.s with
    | false => rfl
    | true => exact absurd (hp _ hps) hsx
  simp only [sz.down, ↓reduceIte, Nat.reduceLT, reduceCtorEq, TEP, hps, callK_p]
  refine eff_invoke rfl (t := 58) (v := .lp L.s 5) (v' := .ls L.x 2 0 (S.nx.length + 1) (S.nx.length + 1)) (g := 68) (by simp only [sz.down, ↓reduceIte]) (by simp only [sz.down, ↓reduceIte, callSc]) (meth_val hs1.sol (by have := sol5 hs1; simpa [nxS] using this) (.inl ⟨rfl, rfl⟩)) (by simp only [sz.down, TEP, ens]) ?_
  simp only [sz.down]
  refine len_calls _ ?_
  have hw : IntKind.i64.wrap (((S.nx.length + 1 : Nat) : Int) - 1) = (S.nx.length : Int) := by rw [wrap64 (by omega) (by omega)]; omega
  simp only [sz.down, ↓reduceIte, Nat.reduceEqDiff, Nat.reduceLT, TEP, ens, hw]
  refine up_calls hs1 (by show (S.nx ++ [(a, b)]).length ≤ _; simp; omega) (k := S.nx.length) (by show _ < (S.nx ++ [(a, b)]).length; simp) fun nx h2 hp2 hs2 hl2 => ?_
  simp only [sz.down]
  exact hr nx h2 p (show nx.Perm (S.nx ++ [(a, b)]) from hp2) hs2 (hl2.trans hl1) hp
end

end Go.Proofs.Ytajcfppemkdomaa

set_option linter.unusedVariables false
set_option linter.unusedSimpArgs false
set_option linter.unnecessarySimpa false
namespace Go.Proofs.Ytajcfppemkdomaa
open Go Go.Proofs Go.Abs

section
variable {n : Nat} {bud : Int} {L : Lay} {S : St} {h : H}

/-- Only what has a role counts. -/
theorem HR.congr (k : HR n L S h) {h' : H} (he : ∀ i r, L.ro i = some r → r ≠ .s → h'[i]? = h[i]?) (hl : h.length ≤ h'.length) : HR n L S h' where
  var := by rw [he _ _ k.rv (by simp)]; exact k.var
  map := by
    obtain ⟨ks, h1, h2⟩ := k.map
    exact ⟨ks, by rw [he _ _ k.rm (by simp)]; exact h1, h2⟩
  trl := by rw [he _ _ k.rt (by simp)]; exact k.trl
  lvl := by rw [he _ _ k.rl (by simp)]; exact k.lvl
  nxl := by rw [he _ _ k.rx (by simp)]; exact k.nxl
  lnl := by rw [he _ _ k.rg (by simp)]; exact k.lnl
  lnk i hi := by
    obtain ⟨h1, h2⟩ := k.lnk i hi
    exact ⟨by rw [he _ _ h2 (by simp)]; exact h1, h2⟩
  cla j hj := by
    obtain ⟨h1, h2⟩ := k.cla j hj
    exact ⟨by rw [he _ _ h2 (by simp)]; exact h1, h2⟩
  wat a := by
    have := k.wat a
    unfold RowAt at this ⊢
    cases hw : L.w a with
    | none => rw [hw] at this; exact this
    | some id =>
      rw [hw] at this
      exact ⟨by rw [he _ _ this.2 (by simp)]; exact this.1, this.2⟩
  fre := k.fre
  fwt := k.fwt
  rs := k.rs
  rv := k.rv
  rm := k.rm
  rt := k.rt
  rl := k.rl
  rx := k.rx
  rg := k.rg
  rlt i r hr := Nat.lt_of_lt_of_le (k.rlt i r hr) hl
  ext i o ho := ⟨by rw [he _ _ ho (by simp)]; exact (k.ext i o ho).1, (k.ext i o ho).2⟩
theorem HS.app (hs : HS n bud L S h) (k : H) : HS n bud L S (h ++ k) :=
  ⟨hs.toHR.congr (fun i r hr _ => List.getElem?_append_left (hs.rlt i r hr)) (by simp), by rw [List.getElem?_append_left (hs.rlt _ _ hs.rs)]; exact hs.sol⟩

def planPop1 : Plan := .take 0 <| .take 1 <| .take 3 <| .take 4 <| .alt 2 (.alt 5 (.alt 6 (.take 7 <| .take 8 <| .alt 9 (.one 10 <| .one 11 <| .fin) (.one 10 (.one 9 <| .one 11 <| .fin))) (.one 10 (.one 6 <| .take 7 <| .take 8 <| .one 9 <| .one 11 <| .fin))) (.one 10 (.one 5 <| .one 6 <| .take 7 <| .take 8 <| .one 9 <| .one 11 <| .fin))) (.alt 5 (.alt 2 (.alt 6 (.take 7 <| .take 8 <| .alt 9 (.one 10 <| .one 11 <| .fin) (.one 10 (.one 9 <| .one 11 <| .fin))) (.one 10 (.one 6 <| .take 7 <| .take 8 <| .one 9 <| .one 11 <| .fin))) (.alt 6 (.take 7 <| .alt 2 (.take 8 <| .alt 9 (.one 10 <| .one 11 <| .fin) (.one 10 (.one 9 <| .one 11 <| .fin))) (.one 10 (.one 2 <| .take 8 <| .one 9 <| .one 11 <| .fin))) (.one 10 (.alt 2 (.one 6 <| .take 7 <| .take 8 <| .one 9 <| .one 11 <| .fin) (.one 6 (.take 7 <| .one 2 <| .take 8 <| .one 9 <| .one 11 <| .fin)))))) (.one 10 (.alt 2 (.one 5 <| .one 6 <| .take 7 <| .take 8 <| .one 9 <| .one 11 <| .fin) (.one 5 (.alt 2 (.one 6 <| .take 7 <| .take 8 <| .one 9 <| .one 11 <| .fin) (.one 6 (.take 7 <| .one 2 <| .take 8 <| .one 9 <| .one 11 <| .fin)))))))
def planPop2 : Plan := .take 0 <| .take 1 <| .take 2 <| .take 4 <| .take 5 <| .alt 3 (.one 6 <| .one 7 <| .take 8 <| .take 9 <| .take 10 <| .one 11 <| .fin) (.one 6 (.alt 3 (.one 7 <| .take 8 <| .take 9 <| .take 10 <| .one 11 <| .fin) (.one 7 (.take 8 <| .one 3 <| .take 9 <| .take 10 <| .one 11 <| .fin))))

theorem nxcells_take (nx : List (Int × Int)) (t : Int × Int) : List.take (2 * nx.length) (nxcells (nx ++ [t])) = nxcells nx := by
  rw [← nxcells_app, List.take_append_of_le_length (by rw [nxcells_len]; exact Nat.le_refl _), List.take_of_length_le (by rw [nxcells_len]; exact Nat.le_refl _)]

/-- The last one is taken away. -/
theorem mpop_calls (hs : HS n bud L S h) {nx : List (Int × Int)} {t : Int × Int} (hx : S.nx = nx ++ [t]) (hb : S.nx.length ≤ 1000000000000) {R : AEnd → H → (Nat → Bool) → Prop}
    (hr : ∀ h', HS n bud L (nxS S nx) h' → h.length ≤ h'.length → R (.ret (.iface 60 (.agg [vi t.1, vi t.2]))) h' (fun _ => false)) : ACalls TE 102 [.lp L.s 5] h R := by
  have hM : maxLen = 9223372036854775807 := rfl
  have hsol := hs.sol
  have hnx := hs.nxl
  have hls := hs.rlt _ _ hs.rs
  have hlx := hs.rlt _ _ hs.rx
  have hsx : L.s ≠ L.x := ro_ne L hs.rs hs.rx (by simp)
  have hlen : S.nx.length = nx.length + 1 := by rw [hx]; simp
  have hw : IntKind.i64.wrap (((nx.length + 1 : Nat) : Int) - 1) = (nx.length : Int) := by rw [wrap64 (by omega) (by omega)]; omega
  have ht2 : List.take 2 (List.drop (nx.length * 2) (nxcells S.nx)) = [vi t.1, vi t.2] := by
    have := nx_two (nx := S.nx) (i := nx.length) (by omega)
    rw [this]
    simp [hx]
  have e1 : ∀ o : O, (h ++ [o])[List.length h]? = some o := fun o => by simp
  have e2 : ∀ o o' : O, List.set (h ++ [o]) (List.length h) o' = h ++ [o'] := fun o o' => by rw [List.set_append_right _ _ (Nat.le_refl _)]; simp
  have e3 : ∀ o : O, (h ++ [o])[L.s]? = some (.cells (solcells n bud L S)) := fun o => by rw [List.getElem?_append_left hls]; exact hsol
  have e4 : ∀ o : O, (h ++ [o])[L.x]? = some (.cells (nxcells S.nx)) := fun o => by rw [List.getElem?_append_left hlx]; exact hnx
  refine ACalls.leH ?_
  refine ACalls.of_awp Try.func102 rfl (by simp [nts]) (vc_ok mixed _ _ _ _ ?_)
  simp only [sz.down, Nat.reduceLT, TEP, nts, Try.results102]
  refine awp_plan mixed planPop1 (fun f' h' => f'.t 0 = .lp L.s 5 ∧ f'.t 3 = .lp h.length 0 ∧ f'.d = [] ∧ (∀ j, f'.k j = false) ∧ h' = h ++ [.cells [vi t.1, vi t.2]]) (by decide +kernel) (by decide +kernel) ?_ ?_
  · simp only [sz.down, ↓reduceIte, Nat.reduceEqDiff, Nat.reduceLT, Nat.reduceLeDiff, Nat.reduceAdd, reduceCtorEq, TEP, tis, planPop1, hsol, solcells, hnx, hlen, hw, nxcells_len, ht2, e1, e2, e3, e4]
    and_intros <;> first | omega | rfl | trivial
  · rintro f h' ⟨h0, h3, hd, hkf, rfl⟩
    simp only [sz.down]
    refine awp_plan mixed planPop2 (fun f' h' => f'.t 3 = .lp h.length 0 ∧ f'.d = [] ∧ (∀ j, f'.k j = false) ∧ h' = (h ++ [O.cells [vi t.1, vi t.2]]).set L.s
      (O.cells [.ls L.v 5 0 (n + 1) (n + 1), .lm L.m, .ls L.t 1 0 S.tr.length S.tr.length, vi S.hd, .ls L.l 1 0 S.lv.length S.lv.length, .ls L.x 2 0 nx.length (nx.length + 1), .ls L.g 1 0 S.ln.length S.ln.length, vi bud])) (by decide +kernel) (by decide +kernel) ?_ ?_
    · simp only [sz.down, ↓reduceIte, Nat.reduceEqDiff, Nat.reduceLT, Nat.reduceLeDiff, Nat.reduceAdd, Int.reduceLE, reduceCtorEq, Nat.reduceMul, TEP, tis, planPop2, h0, h3, hd, solcells, hlen, hw, e3]
      exact ⟨⟨by omega, by omega⟩, hkf⟩
    · rintro f h' ⟨h3, hd, hkf, rfl⟩
      have hne : L.s ≠ List.length h := by omega
      simp only [sz.down, ↓reduceIte, Nat.reduceEqDiff, Nat.reduceLT, Nat.reduceAdd, reduceCtorEq, TEP, tis, h3, hd, List.getElem?_set_ne hne, e1]
      have hkf' : f.k = fun _ => false := funext hkf
      rw [hkf']
      have hls2 : L.s < (h ++ [O.cells [vi t.1, vi t.2]]).length := by simp; omega
      have hH := (hs.app [O.cells [vi t.1, vi t.2]])
      have kX := hH.toHR.setRow (id := L.x) (cs := nxcells nx) hs.rx S.tr S.lv nx (.inr (.inr ⟨rfl, rfl, rfl, rfl, rfl⟩))
      have kS := kX.setS (.cells (solcells n bud L (nxS S nx)))
      refine ⟨by simp, (((h ++ [O.cells [vi t.1, vi t.2]]).set L.x (.cells (nxcells nx))).set L.s (.cells (solcells n bud L (nxS S nx)))), ?_, hr _ ⟨kS, ?_⟩ ?_⟩
      · rw [List.set_comm _ _ hsx.symm]
        refine HLe.trans (HLe.set (i := L.s) (List.getElem?_set_self hls2) (o' := .cells (solcells n bud L (nxS S nx))) (OLe.cells (Nat.le_refl _) ?_)) ?_
        · simp only [solcells, nxS, List.length_cons, List.length_nil, List.take_succ_cons, List.take_nil]
          exact .cons (.refl _) <| .cons (.refl _) <| .cons (.refl _) <| .cons (.refl _) <| .cons (.refl _) <| .cons (VLe.cap (by omega)) <| .refl _
        · rw [List.set_set]
          refine HLe.set (o := .cells (nxcells S.nx)) ?_ ?_
          · rw [List.getElem?_set_ne hsx]; exact e4 _
          · have := OLe.take (nxcells S.nx) (2 * nx.length)
            rw [hx, nxcells_take] at this
            rwa [← hx] at this
      · exact List.getElem?_set_self (by simp; omega)
      · simp
theorem last_of {α : Type} {l : List α} {m : Nat} (h : l.length = m + 1) : ∃ l0 x, l = l0 ++ [x] ∧ l0.length = m := by
  have hne : l ≠ [] := by rintro rfl; simp at h
  exact ⟨l.dropLast, l.getLast hne, (List.dropLast_concat_getLast hne).symm, by simp [h]⟩

/-- The first one is taken. -/
theorem Pop_calls (hs : HS n bud L S h) (hb : S.nx.length ≤ 100000000000) (hne : S.nx ≠ []) {R : AEnd → H → (Nat → Bool) → Prop}
    (hr : ∀ nx t h', (nx ++ [t]).Perm S.nx → HS n bud L (nxS S nx) h' → h.length ≤ h'.length → R (.ret (.iface 60 (.agg [vi t.1, vi t.2]))) h' (fun _ => false)) : ACalls TE 69 [.iface 58 (.lp L.s 5)] h R := by
  have hM : maxLen = 9223372036854775807 := rfl
  obtain ⟨m, hm⟩ : ∃ m, S.nx.length = m + 1 := ⟨S.nx.length - 1, by have := List.length_pos_iff.2 hne; omega⟩
  have hw : IntKind.i64.wrap ((S.nx.length : Int) - 1) = (m : Int) := by rw [wrap64 (by omega) (by omega)]; omega
  refine ACalls.of_awp Try.func69 rfl (by simp [nts]) (vc_ok mixed _ _ _ _ ?_)
  simp only [sz.down, ↓reduceIte, Nat.reduceLT, reduceCtorEq, TEP, nts, Try.results69]
  refine eff_invoke rfl (t := 58) (v := .lp L.s 5) (v' := .ls L.x 2 0 S.nx.length S.nx.length) (g := 68) (by simp only [sz.down, ↓reduceIte]) (by simp only [sz.down, ↓reduceIte, callSc]) (meth_val hs.sol (sol5 hs) (.inl ⟨rfl, rfl⟩)) (by simp only [sz.down, TEP, ens]) ?_
  simp only [sz.down]
  refine len_calls _ ?_
  simp only [sz.down, ↓reduceIte, Nat.reduceEqDiff, Nat.reduceLT, reduceCtorEq, TEP, hw]
  refine eff_invoke rfl (t := 58) (v := .lp L.s 5) (v' := .ls L.x 2 0 S.nx.length S.nx.length) (g := 101) (by simp only [sz.down, ↓reduceIte, Nat.reduceEqDiff]) (by simp only [sz.down, ↓reduceIte, Nat.reduceEqDiff, callSc, allSc]) (meth_val hs.sol (sol5 hs) (.inr (.inr ⟨rfl, rfl⟩))) (by simp only [sz.down, TEP, ens]) ?_
  simp only [sz.down, ↓reduceIte]
  refine swap_calls (nx := S.nx) (i := 0) (k := m) hs.nxl (by omega) (by omega) ?_
  have hsp := sw_perm (l := S.nx) (i := 0) (k := m) (d := ((0 : Int), (0 : Int))) (by omega) (by omega)
  have hs1 := hs.setX (nx := sw S.nx 0 m (0, 0)) hsp.length_eq
  simp only [sz.down, ↓reduceIte, Nat.reduceEqDiff, Nat.reduceLT, reduceCtorEq, TEP, ens]
  refine down_calls hs1 (by show (sw S.nx 0 m (0, 0)).length ≤ _; rw [hsp.length_eq]; omega) (m := m) (by show m ≤ (sw S.nx 0 m (0, 0)).length; rw [hsp.length_eq]; omega) fun nx2 h2 b hp2 hs2 hl2 hsame => ?_
  have hp2' : nx2.Perm S.nx := hp2.trans hsp
  simp only [sz.down, ↓reduceIte, Nat.reduceLT, reduceCtorEq, TEP]
  refine eff_invoke rfl (t := 58) (v := .lp L.s 5) (v' := .lp L.s 5) (g := 102) (by simp only [sz.down, ↓reduceIte]) (by simp only [sz.down, ↓reduceIte, callSc]) methPop (by simp only [sz.down, TEP, ens]) ?_
  obtain ⟨nx, t, e, hl⟩ := last_of (l := nx2) (m := m) (by rw [hp2'.length_eq, hm])
  refine mpop_calls hs2 (nx := nx) (t := t) e (by show nx2.length ≤ _; rw [hp2'.length_eq]; omega) fun h3 hs3 hl3 => ?_
  simp only [sz.down, ↓reduceIte, Nat.reduceLT, TEP]
  exact hr nx t h3 (by rw [← e]; exact hp2') hs3 (by rw [List.length_set] at hl2; rw [← hl2]; exact hl3)
end

end Go.Proofs.Ytajcfppemkdomaa

set_option linter.unusedVariables false
set_option linter.unusedSimpArgs false
set_option linter.unnecessarySimpa false
namespace Go.Proofs.Ytajcfppemkdomaa
open Go Go.Proofs Go.Abs

section
variable {n : Nat} {bud : Int} {L : Lay} {S : St} {h : H}

/-! ### Watches -/
/-- A clause is watched by a literal. -/
def addW (S : St) (a : Int) (j : Nat) : St := { S with wt := fun b => if b = a then S.wt a ++ [j] else S.wt b }
def layW (L : Lay) (a : Int) (id : Nat) : Lay := { L with w := fun b => if b = a then some id else L.w b, ro := fun i => if i = id then some (.w a) else L.ro i }

/-- One layout goes on in another. -/
structure LX (nc : Nat) (L L' : Lay) : Prop where
  s : L'.s = L.s
  v : L'.v = L.v
  m : L'.m = L.m
  t : L'.t = L.t
  l : L'.l = L.l
  x : L'.x = L.x
  g : L'.g = L.g
  c : ∀ j, j < nc → L'.c j = L.c j
  w : ∀ a id, L.w a = some id → L'.w a = some id
  ro : ∀ i r, L.ro i = some r → L'.ro i = some r
theorem LX.refl (m : Nat) (L : Lay) : LX m L L := ⟨rfl, rfl, rfl, rfl, rfl, rfl, rfl, fun _ _ => rfl, fun _ _ h => h, fun _ _ h => h⟩
theorem LX.trans {m : Nat} {A B C : Lay} (p : LX m A B) (q : LX m B C) : LX m A C :=
  ⟨q.s.trans p.s, q.v.trans p.v, q.m.trans p.m, q.t.trans p.t, q.l.trans p.l, q.x.trans p.x, q.g.trans p.g, fun j hj => (q.c j hj).trans (p.c j hj), fun a id h => q.w a id (p.w a id h), fun i r h => q.ro i r (p.ro i r h)⟩
theorem layW_LX {a : Int} {id m : Nat} (h : (L.ro id = none ∧ L.w a = none) ∨ (L.ro id = some (.w a) ∧ L.w a = some id)) : LX m L (layW L a id) :=
  ⟨rfl, rfl, rfl, rfl, rfl, rfl, rfl, fun _ _ => rfl, fun b i hb => by
    show (if b = a then some id else L.w b) = some i
    split
    · rename_i e
      subst e
      rcases h with ⟨_, h⟩ | ⟨_, h⟩
      · rw [h] at hb; cases hb
      · rw [h] at hb; exact hb
    · exact hb, fun i r hi => by
    show (if i = id then some (Ro.w a) else L.ro i) = some r
    split
    · rename_i e
      subst e
      rcases h with ⟨h, _⟩ | ⟨h, _⟩
      · rw [h] at hi; cases hi
      · rw [h] at hi; exact hi
    · exact hi⟩

theorem HR.wstep (k : HR n L S h) {h' : H} {a : Int} {j id : Nat} (hj : j < S.nc) (hid0 : (L.ro id = none ∧ L.w a = none) ∨ (L.ro id = some (.w a) ∧ L.w a = some id))
    (get : ∀ i o, h[i]? = some o → o.drop (fun x => x == id) = o → L.ro i ≠ none → i ≠ id → i ≠ L.m → h'[i]? = some o)
    (hid : h'[id]? = some (.cells ((S.wt a).map (clV L S) ++ [clV L S j])))
    (hmap : ∃ ks : List Int, h'[L.m]? = some (.map (ks.map vi) (ks.map fun b => if b = a then .ls id 1 0 ((S.wt a).length + 1) ((S.wt a).length + 1) else rowV (L.w b) 1 (S.wt b).length)) ∧ ks.Nodup ∧ a ∈ ks ∧ ∀ b, ¬ b ∈ ks → L.w b = none ∧ S.wt b = [])
    (hl : h.length ≤ h'.length) (hil : id < h'.length) : HR n (layW L a id) (addW S a j) h' := by
  have ne : ∀ {i : Nat} {r : Ro}, L.ro i = some r → r ≠ .w a → i ≠ id := by
    rintro i r hi hr rfl
    rcases hid0 with h0 | ⟨h0, _⟩
    · rw [hi] at h0; simp at h0
    · rw [hi] at h0; cases h0; exact hr rfl
  have G : ∀ {i : Nat} {r : Ro} {cs : List V}, L.ro i = some r → r ≠ .w a → h[i]? = some (.cells cs) → (∀ v ∈ cs, v.drop (fun x => x == id) = v) → h'[i]? = some (.cells cs) :=
    fun hi hr hc hv => get _ _ hc (by rw [O.drop_cells, drops_id hv]) (by rw [hi]; simp) (ne hi hr) (fun e => by have := k.map; obtain ⟨ks, h1, _⟩ := this; rw [← e, hc] at h1; cases h1)
  have GI : ∀ {i : Nat} {r : Ro} {c : Cl}, L.ro i = some r → r ≠ .w a → h[i]? = some (.cells (c.map vi)) → h'[i]? = some (.cells (c.map vi)) :=
    fun hi hr hc => G hi hr hc fun v hv => by
      obtain ⟨a, _, rfl⟩ := List.mem_map.1 hv
      exact drop_vi
  have RO : ∀ {i : Nat} {r : Ro}, L.ro i = some r → r ≠ .w a → (layW L a id).ro i = some r := fun hi hr => by
    show (if _ = id then some (Ro.w a) else L.ro _) = _
    rw [if_neg (ne hi hr)]; exact hi
  have pc : ∀ q, q < S.nc → ((fun x => x == id) (L.c q)) = false := fun q hq => by simpa using ne (k.cla q hq).2 (by simp)
  have pk : ∀ q, q < S.ln.length → ((fun x => x == id) (L.k q)) = false := fun q hq => by simpa using ne (k.lnk q hq).2 (by simp)
  refine { var := G k.rv (by simp) k.var ?_, map := ?_, trl := GI k.rt (by simp) k.trl, lvl := G k.rl (by simp) k.lvl ?_, nxl := G k.rx (by simp) k.nxl ?_, lnl := G k.rg (by simp) k.lnl ?_, lnk := fun i hi => ⟨GI (k.lnk i hi).2 (by simp) (k.lnk i hi).1, RO (k.lnk i hi).2 (by simp)⟩, cla := fun q hq => ⟨GI (k.cla q hq).2 (by simp) (k.cla q hq).1, RO (k.cla q hq).2 (by simp)⟩, wat := ?_, fre := k.fre, fwt := ?_, rs := RO k.rs (by simp), rv := RO k.rv (by simp), rm := RO k.rm (by simp), rt := RO k.rt (by simp), rl := RO k.rl (by simp), rx := RO k.rx (by simp), rg := RO k.rg (by simp), rlt := ?_, ext := fun i o ho => ?_ }
  · intro v hv
    unfold vcells at hv
    obtain ⟨i, hi, hv⟩ := List.mem_flatMap.1 hv
    have hi : i ≤ n := by have := List.mem_range.1 hi; omega
    simp only [vcell, List.mem_cons, List.not_mem_nil, or_false] at hv
    rcases hv with rfl | rfl | rfl | rfl | rfl <;> try exact drop_vi
    show V.drop _ (reV L S (S.v i).reason) = reV L S (S.v i).reason
    cases hr : (S.v i).reason with
    | none => simp only [reV, V.drop]
    | some j => exact drop_ls (pc j (k.fre i hi j hr))
  · obtain ⟨ks, h1, h2, h3, h4⟩ := hmap
    refine ⟨ks, ?_, h2, fun b hb => ?_⟩
    · rw [show (layW L a id).m = L.m from rfl, h1]
      congr 2
      refine List.map_congr_left fun b hb => ?_
      by_cases he : b = a
      · subst he
        rw [if_pos rfl]
        show _ = rowV (if b = b then some id else L.w b) 1 (if b = b then S.wt b ++ [j] else S.wt b).length
        rw [if_pos rfl, if_pos rfl, List.length_append]; rfl
      · rw [if_neg he]
        show _ = rowV (if b = a then some id else L.w b) 1 (if b = a then S.wt a ++ [j] else S.wt b).length
        rw [if_neg he, if_neg he]
    · have he : b ≠ a := fun e => hb (e ▸ h3)
      refine ⟨?_, ?_⟩
      · show (if b = a then some id else L.w b) = none
        rw [if_neg he]; exact (h4 b hb).1
      · show (if b = a then S.wt a ++ [j] else S.wt b) = []
        rw [if_neg he]; exact (h4 b hb).2
  · intro v hv
    obtain ⟨a, _, rfl⟩ := List.mem_map.1 hv
    exact drop_vi
  · intro v hv
    obtain ⟨t, _, hv⟩ := List.mem_flatMap.1 hv
    simp only [List.mem_cons, List.not_mem_nil, or_false] at hv
    rcases hv with rfl | rfl <;> exact drop_vi
  · intro v hv
    obtain ⟨i, hi, rfl⟩ := List.mem_map.1 hv
    exact drop_ls (pk i (List.mem_range.1 hi))
  · intro b
    by_cases he : b = a
    · subst he
      unfold RowAt
      rw [show (layW L b id).w b = some id from if_pos rfl]
      show h'[id]? = some (.cells ((if b = b then S.wt b ++ [j] else S.wt b).map (clV L S))) ∧ (if id = id then some (Ro.w b) else L.ro id) = some (.w b)
      rw [if_pos rfl, List.map_append, if_pos rfl]
      exact ⟨hid, rfl⟩
    · have kw := k.wat b
      unfold RowAt at kw ⊢
      rw [show (layW L a id).w b = L.w b from if_neg he]
      cases hw : L.w b with
      | none =>
        rw [hw] at kw
        show (if b = a then S.wt a ++ [j] else S.wt b).map (clV L S) = []
        rw [if_neg he]; exact kw
      | some i =>
        rw [hw] at kw
        have hr : (Ro.w b) ≠ .w a := by simpa using he
        show h'[i]? = some (.cells ((if b = a then S.wt a ++ [j] else S.wt b).map (clV L S))) ∧ _
        rw [if_neg he]
        refine ⟨G kw.2 hr kw.1 fun v hv => ?_, RO kw.2 hr⟩
        obtain ⟨q, hq, rfl⟩ := List.mem_map.1 hv
        exact drop_ls (pc q (k.fwt b q hq))
  · intro b q hq
    by_cases he : b = a
    · subst he
      have hq : q ∈ (if b = b then S.wt b ++ [j] else S.wt b) := hq
      rw [if_pos rfl] at hq
      rcases List.mem_append.1 hq with hq | hq
      · exact k.fwt b q hq
      · rw [List.mem_singleton.1 hq]; exact hj
    · have hq : q ∈ (if b = a then S.wt a ++ [j] else S.wt b) := hq
      rw [if_neg he] at hq
      exact k.fwt b q hq
  · intro i r hi
    have hi : (if i = id then some (Ro.w a) else L.ro i) = some r := hi
    split at hi
    · rename_i e; rw [e]; exact hil
    · exact Nat.lt_of_lt_of_le (k.rlt i r hi) hl
  · have ho : (if i = id then some (Ro.w a) else L.ro i) = some (.e o) := ho
    split at ho
    · cases ho
    · rename_i hne
      obtain ⟨k1, k2⟩ := k.ext i o ho
      have hd : o.drop (fun x => x == id) = o := k2 _ fun q r hq hpq => by
        have e : q = id := by simpa using hpq
        subst e
        rcases hid0 with ⟨h0, _⟩ | ⟨h0, _⟩
        · rw [hq] at h0; cases h0
        · rw [hq] at h0; cases h0; exact .inr (.inr (.inr (.inr ⟨a, rfl⟩)))
      exact ⟨get i o k1 hd (by rw [ho]; simp) hne (ro_ne L ho k.rm (by simp)), k2.mono (layW_LX (m := 0) hid0).ro⟩

theorem mapk_get {ks : List Int} {f : Int → V} {zero : V} (a : Int) (hz : ¬ a ∈ ks → f a = zero) : mget (.int .i64) (vi a) (ks.map vi) (ks.map f) zero false = (True, f a) := by
  unfold mget
  rw [mfindI]
  cases hf : ks.findIdx? (· == a) with
  | none =>
    have : ¬ a ∈ ks := fun hm => by
      have := List.findIdx?_eq_none_iff.1 hf a hm
      simp at this
    simp only [cond_false, hz this]
  | some q =>
    obtain ⟨h1, h2, _⟩ := List.findIdx?_eq_some_iff_getElem.1 hf
    have h2 : ks[q] = a := by simpa using h2
    simp only [cond_false, List.getD_eq_getElem?_getD, List.getElem?_map, List.getElem?_eq_getElem h1, Option.map_some, Option.getD_some, h2]

theorem mapk_put {ks : List Int} (hn : ks.Nodup) (f : Int → V) (a : Int) (v : V) :
    ∃ ks' : List Int, mput (.int .i64) (vi a) v (ks.map vi) (ks.map f) = some (ks'.map vi, ks'.map fun b => if b = a then v else f b) ∧ ks'.Nodup ∧ a ∈ ks' ∧ ∀ b ∈ ks, b ∈ ks' := by
  unfold mput
  rw [mfindI]
  cases hf : ks.findIdx? (· == a) with
  | none =>
    have hm : ¬ a ∈ ks := fun hm => by
      have := List.findIdx?_eq_none_iff.1 hf a hm
      simp at this
    refine ⟨ks ++ [a], ?_, ?_, by simp, fun b hb => by simp [hb]⟩
    · simp only [List.map_append, List.map_cons, List.map_nil, if_true]
      congr 3
      exact List.map_congr_left fun b hb => (if_neg fun (e : b = a) => hm (e ▸ hb)).symm
    · rw [List.nodup_append]
      exact ⟨hn, by simp, fun x hx y hy => by rw [List.mem_singleton.1 hy]; exact fun e => hm (e ▸ hx)⟩
  | some q =>
    obtain ⟨h1, h2, _⟩ := List.findIdx?_eq_some_iff_getElem.1 hf
    have h2 : ks[q] = a := by simpa using h2
    refine ⟨ks, ?_, hn, h2 ▸ List.getElem_mem h1, fun b hb => hb⟩
    show some ((ks.map vi).set q (vi a), (ks.map f).set q v) = _
    congr 2
    · rw [← List.map_set, ← h2, List.set_getElem_self h1]
    · refine List.ext_getElem (by simp) fun i hi1 hi2 => ?_
      rw [List.getElem_set]
      simp only [List.getElem_map]
      have hik : i < ks.length := by simpa using hi2
      split
      · rename_i e; subst e; rw [if_pos h2]
      · rename_i e
        rw [if_neg fun e2 => e ?_]
        exact (List.getElem_inj (h₀ := h1) (h₁ := hik) hn).1 (h2.trans e2.symm)
end

end Go.Proofs.Ytajcfppemkdomaa
