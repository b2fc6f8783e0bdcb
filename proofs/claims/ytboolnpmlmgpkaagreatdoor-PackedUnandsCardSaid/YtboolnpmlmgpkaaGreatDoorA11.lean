/- Lemmas for the statement of this claim, part A11: they hold with no conditions but those that each one names. -/
import Derived.Test.YtboolnpmlmgpkaaGreatDoorA10
set_option linter.unusedVariables false
set_option linter.unusedSimpArgs false
namespace Go.Abs
open Go Go.RowKit
section
variable {e : E} {n : Nat} {r : Option Nat} {ops : Array Oper} {Q : XE → Fr → H → Prop} {ok : Nat → Prop} {pl0 : Nat → Option Nat} {w0 : World} {h : H}
def zce (o : Oper) : Bool := match o.op with | .alloc _ => true | _ => false
def zcj (e : E) (n : Nat) (ops : Array Oper) (h : H) (o : Oper) (v : V) (f : Fr) : Prop :=
 (zce o = true ∧ o.guard = none ∧ zbC n o.dst = true ∧ v = .any) ∨ (zce o = false ∧ zbT e n ops h o v f)
theorem zcj.put {o : Oper} {v : V} {f : Fr} (hy : zcj e n ops h o v f) {dst : Option Tmp} {u : V} (hd : ∀ d, dst = some d → d ∉ o.looksAt ops) : zcj e n ops h o v (f.put dst u) :=
 hy.imp id fun h => ⟨h.1, h.2.put hd⟩
theorem zcj.unput {o : Oper} {v : V} {f : Fr} {dst : Option Tmp} {u : V} (hy : zcj e n ops h o v (f.put dst u)) (hd : ∀ d, dst = some d → d ∉ o.looksAt ops) : zcj e n ops h o v f :=
 hy.imp id fun h => ⟨h.1, h.2.unput hd⟩
def zfQ (e : E) (n : Nat) (ops : Array Oper) (h : H) (i : Nat) (Kn : Fr → Prop) (f : Fr) : Prop :=
 match ops[i]? with
 | none => Kn f
 | some o => ∃ v, zcj e n ops h o v f ∧ Kn (f.put o.dst v)
theorem zkS {i : Nat} {f : Fr} {K K' : Fr → Prop} (hh : ∀ f, K f → K' f) (hq : zfQ e n ops h i K f) : zfQ e n ops h i K' f := by
 unfold zfQ at *
 split
 ·exact hh _ (by simpa [*] using hq)
 ·rename_i o ho
  simp only [ho] at hq
  obtain ⟨v, h1, h2⟩ := hq
  exact ⟨v, h1, hh _ h2⟩
theorem zme {j : Nat} {oi oj : Oper} {v : V} (hj : ops[j]? = some oj) (hap : oi.apart ops oj = true) {K : Fr → Prop} {f : Fr}
 (hy : zcj e n ops h oi v f) (hq : zfQ e n ops h j K (f.put oi.dst v)) :
 zfQ e n ops h j (fun f' => zcj e n ops h oi v f' ∧ K (f'.put oi.dst v)) f := by
 obtain ⟨h1, h2, h3⟩ := Oper.apart_spec hap
 unfold zfQ at *
 simp only [hj] at *
 obtain ⟨u, hu, hn⟩ := hq
 exact ⟨u, hu.unput h1, hy.put h3, by rw [← Fr.put_comm f v u h2]; exact hn⟩
def zgM (e : E) (n : Nat) (ops : Array Oper) (h : H) (Q : Fr → Prop) : List Oper → Fr → Prop
 | [], f => Q f
 | o :: rest, f => ∃ v, zcj e n ops h o v f ∧ zgM e n ops h Q rest (f.put o.dst v)
def zhN (e : E) (n : Nat) (ops : Array Oper) (h : H) (last : Nat) (Q : Fr → Prop) : Nat → Array Bool → Fr → Prop
 | 0, listed, f => Region.ready .any ops listed = [last] ∧ Q f
 | fuel + 1, listed, f => Region.ready .any ops listed ≠ [] ∧ (Region.ready .any ops listed = [last] → Q f) ∧
  ∀ i ∈ Region.ready .any ops listed, i ≠ last → zfQ e n ops h i (zhN e n ops h last Q fuel (listed.setIfInBounds i true)) f
theorem zhO {last : Nat} {Q : Fr → Prop} {i : Nat} {oi : Oper} {v : V} (hi : ops[i]? = some oi) (hil : i ≠ last) :
 ∀ (fuel : Nat) (listed : Array Bool) (f : Fr),
  (∀ j oj, ops[j]? = some oj → j ≠ i → listed.getD j true = false → (∀ e ∈ oj.after, Region.binds .any e = true → e.on ≠ i) → oi.apart ops oj = true) →
  i ∈ Region.ready .any ops listed → zcj e n ops h oi v f →
  zhN e n ops h last Q fuel (listed.setIfInBounds i true) (f.put oi.dst v) → zhN e n ops h last Q (fuel + 1) listed f := by
 have own : ∀ {K : Fr → Prop} {f : Fr}, zcj e n ops h oi v f → K (f.put oi.dst v) → zfQ e n ops h i K f := by
  intro K f hy hk
  unfold zfQ
  rw [hi]
  exact ⟨v, hy, hk⟩
 have one : ∀ {listed : Array Bool} {R : Prop}, i ∈ Region.ready .any ops listed → Region.ready .any ops listed = [last] → R := by
  intro listed R hr h
  rw [h] at hr
  exact absurd (by simpa using hr) hil
 intro fuel
 induction fuel with
 | zero =>
  intro listed f _ hr hy H
  refine ⟨fun h => (by rw [h] at hr; cases hr), fun h => one hr h, fun j hj hjl => ?_⟩
  by_cases hji : j = i
  ·subst hji; exact own hy H
  ·have := ready_mono hj hji
   rw [H.1] at this
   exact absurd (by simpa using this) hjl
 | succ fuel ih =>
  intro listed f hfree hr hy H
  refine ⟨fun h => (by rw [h] at hr; cases hr), fun h => one hr h, fun j hj hjl => ?_⟩
  by_cases hji : j = i
  ·subst hji; exact own hy H
  ·have h1 := H.2.2 j (ready_mono hj hji) hjl
   obtain ⟨hjun, oj, hoj, hall⟩ := mem_ready.1 hj
   have hnot : ∀ e ∈ oj.after, Region.binds .any e = true → e.on ≠ i := fun e he hb heq => by
    have h1 := hall e he hb
    have h0 := (mem_ready.1 hr).1
    rw [heq] at h1
    rcases Nat.lt_or_ge i listed.size with h' | h'
    ·simp [h'] at h0 h1; rw [h0] at h1; cases h1
    ·simp [Array.getElem?_eq_none h'] at h1
   have h2 := zme hoj (hfree j oj hoj hji hjun hnot) hy h1
   have hfree' : ∀ k ok, ops[k]? = some ok → k ≠ i → (listed.setIfInBounds j true).getD k true = false →
    (∀ e ∈ ok.after, Region.binds .any e = true → e.on ≠ i) → oi.apart ops ok = true := fun k ok hk hki hun hno => by
    refine hfree k ok hk hki ?_ hno
    by_cases hjk : j = k
    ·subst hjk; exact hjun
    ·rw [getD_set_ne true hjk] at hun; exact hun
   refine zkS (fun a' h3 => ih (listed.setIfInBounds j true) a' hfree' (ready_mono hr (Ne.symm hji)) h3.1 ?_) h2
   rw [Array.setIfInBounds_comm _ _ hji]
   exact h3.2
def zn3 (ops : Array Oper) (listed : Array Bool) : Prop := ∀ i o, ops[i]? = some o → listed.getD i false = true → ∀ e ∈ o.after, Region.binds .any e = true → listed.getD e.on false = true
theorem zn3.set {listed : Array Bool} (hc : zn3 ops listed) {i : Nat} (hi : i ∈ Region.ready .any ops listed) : zn3 ops (listed.setIfInBounds i true) := by
 intro j o ho hl e he hb
 refine getD_set_true ?_
 by_cases hji : j = i
 ·subst hji
  obtain ⟨_, o', ho', hall⟩ := mem_ready.1 hi
  rw [ho] at ho'
  cases ho'
  exact hall e he hb
 ·rw [getD_set_ne false (Ne.symm hji)] at hl
  exact hc j o ho hl e he hb
theorem zn3.none {m : Nat} : zn3 ops (Array.replicate m false) := by
 intro i o _ hl
 exfalso
 rcases Nat.lt_or_ge i m with h | h
 ·simp [h] at hl
 ·simp [h] at hl
theorem HSim.recx {ok ok' : Nat → Prop} {pl pl' : Nat → Option Nat} {h h' : H} {w w' : World} (hs : HSim e ok pl h w) (x : CExt (fun _ => false) (cx ok pl w) (cx ok' pl' w'))
 (fresh : ∀ b, w'.heap.size ≤ b → ok' b) (lt : ∀ i b, pl' i = some b → b < w'.heap.size) (okl : ∀ i b, pl' i = some b → ok' b) (inj : ∀ i j b, pl' i = some b → pl' j = some b → i = j)
 (obj : ∀ i b, pl' i = some b → ∃ o, h'[i]? = some o ∧ OAt (cx ok' pl' w') b o) (bare : ∀ i o, h'[i]? = some o → pl' i = none → o = .dead ∨ o = .cells []) : HSim e ok' pl' h' w' where
 fresh := fresh
 lt := lt
 okl := okl
 inj := inj
 obj := obj
 bare := bare
 glob g v hg := VRel.mono x _ _ (hs.glob g v hg)
 exa g cs hg := by
  obtain ⟨h1, cs', ty, fz, h2, h3⟩ := hs.exa g cs hg
  have := x.dat g (zA h2) h1
  exact ⟨this.1, cs', ty, fz, this.2.trans h2, h3⟩
structure Hid (e : E) (n : Nat) (ok : Nat → Prop) (pl0 : Nat → Option Nat) (w0 : World) (f : Fr) (h : H) (pl : Nat → Option Nat) (w : World) (a : Act) (d : Tmp) (cs : List V) (b : Nat) : Prop where
 s : SSim e n (fun x => ok x ∧ x ≠ b) pl0 w0 f h pl w a
 ptr : a.tmps.getD d undef = .pointer (some ⟨b, 0, none⟩)
 ob : OAt (cx ok (zH pl h.length b) w) b (.cells cs)
 ge : w0.heap.size ≤ b
 lt : b < w.heap.size
 okb : ok b
 npl : ∀ i, pl i ≠ some b
 dn : d < n
theorem Hid.cext {f : Fr} {pl : Nat → Option Nat} {w : World} {a : Act} {d : Tmp} {cs : List V} {b : Nat} (k : Hid e n ok pl0 w0 f h pl w a d cs b) {w' : World} (x : WExt w w') :
 CExt (fun _ => false) (cx (fun x => ok x ∧ x ≠ b) pl w) (cx ok (zH pl h.length b) w') := by
 refine ⟨fun b' hb' hok => ⟨⟨hok.1.1, fun i hi => ?_⟩, x.same b' hb'⟩, fun i b' _ hi => ?_, fun b' arr' el' fz hb' => ⟨arr', fz, (x.same b' (zA hb')).trans hb', rfl⟩⟩
 ·simp only [zH] at hi
  split at hi
  ·cases hi; exact hok.1.2 rfl
  ·exact hok.2 i hi
 ·have := k.s.hs.pl_lt hi
  simp only [cx, zH]; rw [if_neg (by omega)]; exact hi
theorem AQ.wpIn {o : Oper} {f : Fr} {v : V} {pl : Nat → Option Nat} {w : World} {a : Act} (hq : AQ e o (f.ev e) h v) (s : SSim e n ok pl0 w0 f h pl w a) {K' : Act → World → Prop} {Q' : Exit → Act → World → Prop}
 (hk : ∀ x w', WExt w w' → VRel (cx ok pl w') v x → K' (a.put o.dst x) w') : o.wpIn (RF r) 0 e.P a w K' Q' := by
 have := hq ok pl w a.eval s.hs s.evs
 refine ⟨fun g _ => zaP r g, ?_⟩
 have hnd : o.semAt (RF r).round a.eval = execOp a.eval o := by
  rw [zak]
  refine Oper.semAt_eq r a.eval o fun c hc => ?_
  unfold execOp at this
  rw [hc] at this
  simp only [Sem.run_bind] at this
  revert this
  cases (resolve a.eval c o.type).run e.P w <;> simp [zbD, Result.andThen]
 rw [hnd]
 revert this
 cases (execOp a.eval o).run e.P w with
 | halt x w' => simp [zbD]
 | ok nx w' =>
  cases nx <;> simp only [zbD, Oper.uponIn] <;> try (intro hf; exact hf.elim)
  case value x =>
   rintro ⟨hx, hv⟩
   exact hk _ _ hx hv
  case skip =>
   rintro ⟨hx, hv⟩
   exact hk _ _ hx hv
  case enter g args =>
   intro hc
   refine ⟨fun hd' => (by rw [zb7] at hd'; cases hd'), zau (hc.mono ?_)⟩
   rintro en w'' ⟨x, rfl, hx, hv⟩
   exact hk _ _ hx hv
structure AlOk (P : Program) (n : Nat) (ops : Array Oper) (ia : Nat) (d : Tmp) (q : TI) : Prop where
 op : ∃ o t, ops[ia]? = some o ∧ o.op = .alloc t ∧ o.guard = none ∧ o.dst = some d ∧ ti P t = some q
 fit : q.zero.fit = true
 ne : ia ≠ ops.size - 1
 dn : d < n
 oth : ∀ j o, ops[j]? = some o → j ≠ ia → zce o = false ∧ o.dst ≠ some d
def LSt (e : E) (n : Nat) (ok : Nat → Prop) (pl0 : Nat → Option Nat) (w0 : World) (h : H) (ia : Nat) (d : Tmp) (q : TI) (listed : Array Bool) (f : Fr) (pl : Nat → Option Nat) (w : World) (a : Act) : Prop :=
 (listed.getD ia false = false ∧ SSim e n ok pl0 w0 f h pl w a) ∨ (listed.getD ia false = true ∧ ∃ b, Hid e n ok pl0 w0 f h pl w a d q.zero.vc b)
theorem LSt.alloc {ia : Nat} {d : Tmp} {q : TI} (ha : AlOk e.P n ops ia d q) {listed : Array Bool} (hsz : ia < listed.size) {f : Fr} {pl : Nat → Option Nat} {w : World} {a : Act} (k : LSt e n ok pl0 w0 h ia d q listed f pl w a)
 (hun : listed.getD ia true = false) {K' : Act → World → Prop} {Q' : Exit → Act → World → Prop}
 (hk : ∀ a' w', LSt e n ok pl0 w0 h ia d q (listed.setIfInBounds ia true) (f.put (some d) .any) pl w' a' → K' a' w') : wpOpIn (RF r) 0 e.P ops Q' ia K' a w := by
 obtain ⟨o, t, ho, hop, hg, hdst, hq⟩ := ha.op
 have hl0 : listed.getD ia false = false := by
  simp only [Array.getD_eq_getD_getElem?, Array.getElem?_eq_getElem hsz, Option.getD_some] at hun ⊢
  exact hun
 have hl1 : (listed.setIfInBounds ia true).getD ia false = true := by
  simp [hsz]
 rcases k with ⟨_, s⟩ | ⟨hl, _⟩
 ·unfold wpOpIn
  rw [ho]
  dsimp only
  have hgd : gd ops f o = some true := by unfold gd; rw [hg]
  rw [if_pos (ze3 s.val hgd)]
  obtain ⟨i, d', z, hT⟩ := zq hq
  have hf := ha.fit
  have hz : VList (cx ok pl w) q.zero.vc z.cells.toList := by
   rw [hT.zv] at hf ⊢; exact (zZ _ z).vc hf
  obtain ⟨h1, h2⟩ := zeZ s.hs hz t (WExt.refl w)
  have hrun : (execOp a.eval o).run e.P w = .ok (.value (.pointer (some ⟨w.heap.size, 0, none⟩))) (w.alloc (.cells z.cells t)) := by
   have : (Instr.alloc t true (.tuple #[])).run e.P w = .ok (.pointer (some ⟨w.heap.size, 0, none⟩)) (w.alloc (.cells z.cells t)) := by
    unfold Instr.alloc
    simp only [Sem.run_bind, hT.run_zero, Result.andThen]
    rfl
   have h3 : execOp a.eval o = (do pure (Next.value (← Instr.alloc t true (.tuple #[])))) := by simp [execOp, hop]
   rw [h3]; exact zaA this
  have xw := WExt.alloc w (.cells z.cells t)
  refine ⟨fun g _ => zaP r g, ?_⟩
  have hnd : o.semAt (RF r).round a.eval = execOp a.eval o := by
   rw [zak]
   exact Oper.semAt_eq r a.eval o fun c hc => by rw [hop] at hc; cases hc
  rw [hnd, hrun]
  simp only [Oper.uponIn]
  refine hk _ _ (.inr ⟨hl1, w.heap.size, ?_⟩)
  rw [hdst]
  have npl : ∀ i, pl i ≠ some w.heap.size := fun i hi => by have := s.hs.lt i _ hi; omega
  have x : CExt (fun _ => false) (cx ok pl w) (cx (fun x => ok x ∧ x ≠ w.heap.size) pl (w.alloc (.cells z.cells t))) := by
   refine ⟨fun b' hb' hok => ⟨⟨⟨hok.1, ?_⟩, hok.2⟩, xw.same b' hb'⟩, fun i b' _ hi => hi, fun b' arr' el' fz hb' => ⟨arr', fz, (xw.same b' (zA hb')).trans hb', rfl⟩⟩
   have hb' : b' < w.heap.size := hb'
   omega
  have hsz2 : (w.alloc (.cells z.cells t)).heap.size = w.heap.size + 1 := by rw [World.alloc]; simp
  have hs' : HSim e (fun x => ok x ∧ x ≠ w.heap.size) pl h (w.alloc (.cells z.cells t)) := by
   refine s.hs.recx x (fun b' hb' => ⟨s.hs.fresh b' (by omega), by omega⟩) (fun i b' hi => by have := s.hs.lt i b' hi; omega) (fun i b' hi => ⟨s.hs.okl i b' hi, fun hh => npl i (by rw [hi, hh])⟩) s.hs.inj ?_ s.hs.bare
   intro i b' hi
   obtain ⟨o', h3, h4⟩ := s.hs.obj i b' hi
   exact ⟨o', h3, OAt.mono x (xw.same b' (s.hs.lt i b' hi)) h4⟩
  have kp' := s.kp.trans (xw.keeps s.hs)
  refine ⟨⟨hs', kp'.weaken (q := (f.put (some d) V.any).k) (fun i hi => by simpa [Fr.put] using hi), ?_, fun j => ?_, zks.mono (fun i b' hi => x.pl i b' rfl hi) s.dfr⟩, ?_, ?_, s.kp.size, by omega, s.hs.fresh _ (Nat.le_refl _), npl, ha.dn⟩
  ·have := s.size
   simpa [Act.put] using this
  ·by_cases hj : j = d
   ·subst hj
    have : (f.put (some j) V.any).t j = .any := by simp [Fr.put]
    rw [this]
    simp only [VRel]
   ·have e1 : (f.put (some d) V.any).t j = f.t j := by simp [Fr.put, hj]
    rw [e1]
    have e2 : (a.put (some d) (.pointer (some ⟨w.heap.size, 0, none⟩))).tmps.getD j undef = a.tmps.getD j undef := by
     simp [Act.put, Array.getElem?_setIfInBounds_ne (Ne.symm hj)]
    rw [e2]
    exact VRel.mono x _ _ (s.val j)
  ·have hdn : d < a.tmps.size := by rw [s.size]; exact ha.dn
   simp [Act.put, hdn]
  ·obtain ⟨o', h3, h4⟩ := h1.obj h.length w.heap.size (by simp [zH])
   have : o' = .cells q.zero.vc := by
    rw [List.getElem?_append_right (Nat.le_refl _)] at h3
    simpa using h3.symm
   subst this
   exact h4
 ·rw [hl0] at hl; cases hl
def zbI (e : E) (n : Nat) (ops : Array Oper) (h : H) (Q : Fr → Prop) : List Oper → Fr → Prop
 | [], f => Q f
 | o :: rest, f => match zce o with
  | true => o.guard = none ∧ zbC n o.dst = true ∧ zbI e n ops h Q rest (f.put o.dst .any)
  | false => match gd ops f o with
   | none => False
   | some g => zbC n o.dst = true ∧
    match zbM o.op with
    | true => match o.op with
     | .call { callee := .value fx, args, .. } => match zct e (f.ev e) fx args with
      | some (q, vs) => zhw e g q vs (zci (f.ev e) fx args) o.dst (zbI e n ops h Q rest) f
      | none => False
     | _ => False
    | false => goQ g (zeX e.P o (f.ev e) h) o.dst (zbI e n ops h Q rest) f
theorem za8 {Q : Fr → Prop} : ∀ (l : List Oper) (f : Fr), zbI e n ops h Q l f → zgM e n ops h Q l f
 | [], f, hv => hv
 | o :: rest, f, hv => by
  simp only [zbI] at hv
  cases hal : zce o with
  | true =>
   rw [hal] at hv
   obtain ⟨h1, h2, h3⟩ := hv
   exact ⟨_, .inl ⟨hal, h1, h2, rfl⟩, za8 rest _ h3⟩
  | false =>
   rw [hal] at hv
   dsimp only at hv
   cases hg : gd ops f o with
   | none => rw [hg] at hv; exact hv.elim
   | some g =>
    rw [hg] at hv
    obtain ⟨hd, hv⟩ := hv
    cases he : zbM o.op with
    | true =>
     rw [he] at hv
     dsimp only at hv
     split at hv
     ·rename_i fx args ts hop
      split at hv
      ·rename_i q vs hon
       obtain ⟨rv, h1, h2⟩ := hv
       exact ⟨_, .inr ⟨hal, hd, g, rv, hg, fun hgt => AQ.call hop hon (h1 hgt).1 (h1 hgt).2.1 (h1 hgt).2.2.1 (h1 hgt).2.2.2, rfl⟩, za8 rest _ h2⟩
      ·exact hv.elim
     ·exact hv.elim
    | false =>
     rw [he] at hv
     dsimp only at hv
     obtain ⟨h1, h2⟩ := hv
     exact ⟨_, .inr ⟨hal, hd, g, _, hg, fun hgt => zdb (h1 hgt), rfl⟩, za8 rest _ h2⟩
end
section
variable {e : E} {n : Nat} {r : Option Nat} {ops : Array Oper} {Q : XE → Fr → H → Prop} {ok : Nat → Prop} {pl0 : Nat → Option Nat} {w0 : World} {h : H}
def zra (ops : Array Oper) (last : Nat) : List Nat → Array Bool → Bool
 | [], listed => Region.ready .any ops listed == [last]
 | k :: ks, listed => (Region.ready .any ops listed).contains k && k != last && Region.free .any ops listed k && zra ops last ks (listed.setIfInBounds k true)
def ziX (ops : Array Oper) (ks : List Nat) : List Oper := ks.filterMap fun k => ops[k]?
theorem zfc {last : Nat} {Q : Fr → Prop} : ∀ (ks : List Nat) (listed : Array Bool) (f : Fr), zra ops last ks listed = true → zgM e n ops h Q (ziX ops ks) f → zhN e n ops h last Q ks.length listed f
 | [], _, _, hB, h => ⟨by simpa [zra] using hB, h⟩
 | k :: ks, listed, f, hB, hh => by
  simp only [zra, Bool.and_eq_true] at hB
  obtain ⟨⟨⟨hr, hne⟩, hf⟩, hB'⟩ := hB
  obtain ⟨_, o, h0, _⟩ := mem_ready.1 (show k ∈ Region.ready .any ops listed by simpa using hr)
  have e1 : ziX ops (k :: ks) = o :: ziX ops ks := by simp [ziX, h0]
  rw [e1] at hh
  obtain ⟨v, hy, hK⟩ := hh
  exact zhO h0 (by simpa using hne) ks.length listed f (Region.free_spec h0 hf) (by simpa using hr) hy (zfc ks _ _ hB' hK)
def dep (ops : Array Oper) (i j : Nat) : Bool := match ops[i]? with
 | some o => o.after.any fun e => Region.binds .any e && e.on == j
 | none => false
theorem zgN {i j : Nat} (h : dep ops i j = true) : ∃ o, ops[i]? = some o ∧ ∃ e ∈ o.after, Region.binds .any e = true ∧ e.on = j := by
 unfold dep at h
 split at h
 ·rename_i o ho
  rw [Array.any_eq_true] at h
  obtain ⟨q, hq, h3⟩ := h
  rw [Bool.and_eq_true, beq_iff_eq] at h3
  exact ⟨o, ho, _, Array.getElem_mem hq, h3.1, h3.2⟩
 ·cases h
def zgO (ops : Array Oper) (tk pre : List Nat) (last : Nat) : Bool :=
 (pre.all fun i => (last :: pre).any fun j => decide (i < j) && dep ops j i) && (List.range ops.size).all fun i => tk.contains i || pre.contains i || i == last || dep ops i last
structure LI (ops : Array Oper) (tk pre : List Nat) (last : Nat) (listed : Array Bool) : Prop where
 clos : zn3 ops listed
 size : listed.size = ops.size
 took : ∀ i ∈ tk, i < ops.size → listed.getD i false = true
 tail : ∀ i, i ∉ tk → i ∉ pre → listed.getD i false = false
theorem LI.all {tk pre : List Nat} {last : Nat} {listed : Array Bool} (k : LI ops tk pre last listed) (hB : zgO ops tk pre last = true) (hr : last ∈ Region.ready .any ops listed) : ∀ (m i : Nat), m = ops.size - i → i ∈ pre → listed.getD i false = true := by
 intro m
 induction m using Nat.strongRecOn with
 | _ m ih =>
  intro i hm hi
  unfold zgO at hB
  rw [Bool.and_eq_true] at hB
  have h1 := List.all_eq_true.1 hB.1 i hi
  obtain ⟨j, hj, h2⟩ := List.any_eq_true.1 h1
  rw [Bool.and_eq_true, decide_eq_true_eq] at h2
  obtain ⟨hij, h2⟩ := h2
  obtain ⟨o, ho, e, he, hb, hon⟩ := zgN h2
  have hjs := (Array.getElem?_eq_some_iff.1 ho).1
  rw [← hon]
  rcases List.mem_cons.1 hj with rfl | hj
  ·obtain ⟨_, o', ho', hall⟩ := mem_ready.1 hr
   rw [ho] at ho'
   cases ho'
   exact hall e he hb
  ·exact k.clos j o ho (ih (ops.size - j) (by omega) j rfl hj) e he hb
theorem zmf {listed : Array Bool} {i : Nat} (hi : i < listed.size) (d d' : Bool) : listed.getD i d = listed.getD i d' := by simp [hi]
theorem LI.one {tk pre : List Nat} {last : Nat} {listed : Array Bool} (k : LI ops tk pre last listed) (hB : zgO ops tk pre last = true) (hl : last ∉ tk ∧ last ∉ pre) (hr : last ∈ Region.ready .any ops listed) : Region.ready .any ops listed = [last] := by
 have hall : ∀ j ∈ Region.ready .any ops listed, j = last := by
  intro j hj
  obtain ⟨h0, o, ho, hdep⟩ := mem_ready.1 hj
  have hlt := (Array.getElem?_eq_some_iff.1 ho).1
  have hun : listed.getD j false = false := by rw [zmf (by rw [k.size]; exact hlt) false true]; exact h0
  have hB2 := hB
  unfold zgO at hB2
  rw [Bool.and_eq_true] at hB2
  have h2 := List.all_eq_true.1 hB2.2 j (by simpa using hlt)
  simp only [Bool.or_eq_true, List.contains_iff_mem, beq_iff_eq] at h2
  rcases h2 with ((h2 | h2) | h2) | h2
  ·rw [k.took j h2 hlt] at hun; cases hun
  ·rw [k.all hB hr _ j rfl h2] at hun; cases hun
  ·exact h2
  ·obtain ⟨o', ho', e, he, hb, hon⟩ := zgN h2
   rw [ho] at ho'
   cases ho'
   have := hdep e he hb
   rw [hon, k.tail last hl.1 hl.2] at this
   cases this
 have hnd : (Region.ready .any ops listed).Nodup := by
  unfold Region.ready
  exact List.Pairwise.filter _ List.nodup_range
 match hm : Region.ready .any ops listed with
 | [] => rw [hm] at hr; cases hr
 | [x] => rw [hall x (by rw [hm]; simp)]
 | x :: y :: l =>
  exfalso
  rw [hm] at hnd
  have h1 := hall x (by rw [hm]; simp)
  have h2 := hall y (by rw [hm]; simp)
  simp [h1, h2] at hnd
def zqK (ops : Array Oper) (tk pre : List Nat) : Array Bool := ((List.range ops.size).map fun i => tk.contains i || pre.contains i).toArray
theorem LI.mid {tk pre : List Nat} {last : Nat} {listed : Array Bool} (k : LI ops tk pre last listed) (hB : zgO ops tk pre last = true) (hr : last ∈ Region.ready .any ops listed) : listed = zqK ops tk pre := by
 apply Array.ext
 ·simp [zqK, k.size]
 ·intro i h1 h2
  have hi : i < ops.size := by rw [← k.size]; exact h1
  have e1 : (zqK ops tk pre)[i] = (tk.contains i || pre.contains i) := by simp [zqK]
  have e2 : listed[i] = listed.getD i false := by simp [h1]
  rw [e1, e2]
  by_cases ht : i ∈ tk
  ·rw [k.took i ht hi]; simp [ht]
  ·by_cases hp : i ∈ pre
   ·rw [k.all hB hr _ i rfl hp]; simp [hp]
   ·rw [k.tail i ht hp]; simp [ht, hp]
theorem zaz {P : Program} : ∀ (p : Plan) (fuel k : Nat) (listed : Array Bool), (zI P ops p fuel listed = true → zI P ops p (fuel + k) listed = true) ∧ (zI.planAlts P ops p fuel listed = true → zI.planAlts P ops p (fuel + k) listed = true)
 | .fin, fuel, k, listed => by
  refine ⟨fun h => ?_, fun h => ?_⟩
  ·simpa [zI] using h
  ·simp [zI.planAlts] at h
 | .take i p, fuel, k, listed => by
  refine ⟨fun h => ?_, fun h => ?_⟩
  ·cases fuel with
   | zero => simp [zI] at h
   | succ fuel =>
    rw [show fuel + 1 + k = (fuel + k) + 1 by omega]
    simp only [zI] at h ⊢
    cases ho : ops[i]? with
    | none => rw [ho] at h; simp at h
    | some o =>
     rw [ho] at h
     dsimp only at h ⊢
     rw [Bool.and_eq_true] at h ⊢
     exact ⟨h.1, (zaz p fuel k _).1 h.2⟩
  ·simp [zI.planAlts] at h
 | .one i p, fuel, k, listed => by
  refine ⟨fun h => ?_, fun h => ?_⟩
  ·cases fuel with
   | zero => simp [zI] at h
   | succ fuel =>
    rw [show fuel + 1 + k = (fuel + k) + 1 by omega]
    simp only [zI] at h ⊢
    rw [Bool.and_eq_true] at h ⊢
    exact ⟨h.1, (zaz p fuel k _).1 h.2⟩
  ·simp only [zI.planAlts] at h ⊢
   exact (zaz p fuel k _).1 h
 | .alt i p q, fuel, k, listed => by
  refine ⟨fun h => ?_, fun h => ?_⟩
  ·cases fuel with
   | zero => simp [zI] at h
   | succ fuel =>
    rw [show fuel + 1 + k = (fuel + k) + 1 by omega]
    simp only [zI] at h ⊢
    rw [Bool.and_eq_true, Bool.and_eq_true] at h ⊢
    exact ⟨⟨h.1.1, (zaz p fuel k _).1 h.1.2⟩, (zaz q fuel k _).2 h.2⟩
  ·simp only [zI.planAlts] at h ⊢
   rw [Bool.and_eq_true] at h ⊢
   exact ⟨(zaz p fuel k _).1 h.1, (zaz q fuel k _).2 h.2⟩
theorem LI.step {tk pre : List Nat} {last : Nat} {listed : Array Bool} (k : LI ops tk pre last listed) (hB : zgO ops tk pre last = true) (hl : last ∉ tk ∧ last ∉ pre) {i : Nat} (hi : i ∈ Region.ready .any ops listed) (hil : i ≠ last) : LI ops tk pre last (listed.setIfInBounds i true) := by
 obtain ⟨h0, o, ho, hdep⟩ := mem_ready.1 hi
 have hlt := (Array.getElem?_eq_some_iff.1 ho).1
 refine ⟨k.clos.set hi, by simpa using k.size, fun j hj hjs => getD_set_true (k.took j hj hjs), fun j h1 h2 => ?_⟩
 by_cases hji : i = j
 ·subst hji
  exfalso
  have hB2 := hB
  unfold zgO at hB2
  rw [Bool.and_eq_true] at hB2
  have h3 := List.all_eq_true.1 hB2.2 i (by simpa using hlt)
  simp only [Bool.or_eq_true, List.contains_iff_mem, beq_iff_eq] at h3
  rcases h3 with ((h3 | h3) | h3) | h3
  ·exact h1 h3
  ·exact h2 h3
  ·exact hil h3
  ·obtain ⟨o', ho', e, he, hb, hon⟩ := zgN h3
   rw [ho] at ho'
   cases ho'
   have := hdep e he hb
   rw [hon, k.tail last hl.1 hl.2] at this
   cases this
 ·rw [getD_set_ne false hji]
  exact k.tail j h1 h2
theorem zrb (hna : ∀ (j : Nat) (o : Oper), ops[j]? = some o → zce o = false) (hQ : ∀ v f h, ¬ Q (.pan v) f h) (hpl : zbh ops = true) {tk pre : List Nat} {last fp : Nat} {p : Plan} (hB : zgO ops tk pre last = true) (hl : last ∉ tk ∧ last ∉ pre) (hp : zI e.P ops p fp (zqK ops tk pre) = true) : ∀ (fuel : Nat) (listed : Array Bool) (f : Fr),
 zhN e n ops h last (fun f1 => zaD e n ops Q p f1 h) fuel listed f → LI ops tk pre last listed → ∀ pl w a, SSim e n ok pl0 w0 f h pl w a → wpAnyIn (RF r) 0 e.P .any ops (zaZ e n ok pl0 w0 Q) (fp + fuel) listed a w := by
 have lastly : ∀ (fuel : Nat) (listed : Array Bool) (f : Fr), zaD e n ops Q p f h → LI ops tk pre last listed → last ∈ Region.ready .any ops listed → ∀ pl w a, SSim e n ok pl0 w0 f h pl w a → wpAnyIn (RF r) 0 e.P .any ops (zaZ e n ok pl0 w0 Q) (fp + fuel) listed a w := by
  intro fuel listed f hv k hr pl w a s
  have e1 := k.mid hB hr
  subst e1
  exact (zaR hQ hpl p).1 (fp + fuel) _ f h ((zaz p fp fuel _).1 hp) hv pl w a s
 intro fuel
 induction fuel with
 | zero =>
  intro listed f hL k pl w a s
  exact lastly 0 listed f hL.2 k (by rw [hL.1]; simp) pl w a s
 | succ fuel ih =>
  intro listed f hL k pl w a s
  by_cases hlr : last ∈ Region.ready .any ops listed
  ·exact lastly (fuel + 1) listed f (hL.2.1 (k.one hB hl hlr)) k hlr pl w a s
  ·rw [show fp + (fuel + 1) = (fp + fuel) + 1 by omega]
   refine ⟨fun h0 => absurd h0 hL.1, fun i hi => ?_⟩
   have hil : i ≠ last := fun hh => hlr (hh ▸ hi)
   have h1 := hL.2.2 i hi hil
   obtain ⟨hun, o, ho, _⟩ := mem_ready.1 hi
   unfold zfQ at h1
   rw [ho] at h1
   obtain ⟨v, hy, hn⟩ := h1
   have k' := k.step hB hl hi hil
   rcases hy with ⟨h2, _⟩ | ⟨_, hd, g, v', hg, hv, rfl⟩
   ·rw [hna i o ho] at h2; cases h2
   ·unfold wpOpIn
    rw [ho]
    dsimp only
    have hw := ze3 s.val hg
    cases g with
    | true =>
     rw [if_pos hw]
     exact (hv rfl).wpIn s fun x w' hx hr => ih _ _ hn k' pl w' _ ((s.next0 (s.hs.wext hx) (hx.keeps s.hs)).put hd hr)
    | false =>
     rw [if_neg (by rw [hw]; simp)]
     exact ⟨fun g _ => zaP r g, ih _ _ hn k' pl w _ (s.put hd (zbq (fun hf => by cases hf) (fun _ => rfl)))⟩
def zd1 (P : Program) (ops : Array Oper) : List Nat → Array Bool → Bool
 | [], _ => true
 | i :: is, listed => (match ops[i]? with | some o => zcY P o.op | none => false) && (Region.ready .any ops listed).contains i && Region.free .any ops listed i && zd1 P ops is (listed.setIfInBounds i true)
def zdy (listed : Array Bool) : List Nat → Array Bool
 | [] => listed
 | i :: is => zdy (listed.setIfInBounds i true) is
def zgP (e : E) (n : Nat) (ops : Array Oper) (Q : XE → Fr → H → Prop) (K : Fr → H → Prop) : List Nat → Fr → H → Prop
 | [], f, h => K f h
 | i :: is, f, h => zlp e n ops i (zgP e n ops Q K is) Q f h
theorem zjK (hQ : ∀ v f h, ¬ Q (.pan v) f h) (hpl : zbh ops = true) {K : Fr → H → Prop} {fuel : Nat} : ∀ (tk : List Nat) (listed : Array Bool) (f : Fr) (h : H), zd1 e.P ops tk listed = true → zgP e n ops Q K tk f h →
 (∀ f h pl w a, K f h → SSim e n ok pl0 w0 f h pl w a → wpAnyIn (RF r) 0 e.P .any ops (zaZ e n ok pl0 w0 Q) fuel (zdy listed tk) a w) → ∀ pl w a, SSim e n ok pl0 w0 f h pl w a → wpAnyIn (RF r) 0 e.P .any ops (zaZ e n ok pl0 w0 Q) (fuel + tk.length) listed a w
 | [], listed, f, h, _, hv, hk, pl, w, a, s => hk f h pl w a hv s
 | i :: is, listed, f, h, ht, hv, hk, pl, w, a, s => by
  simp only [zd1, Bool.and_eq_true] at ht
  obtain ⟨⟨⟨h1, h2⟩, h3⟩, h4⟩ := ht
  cases ho : ops[i]? with
  | none => rw [ho] at h1; cases h1
  | some o =>
   rw [ho] at h1
   obtain ⟨x, f', hy, s', hk'⟩ := zdh ho h1 hv s
   refine zbO h1 ho hpl ?_ (fuel + is.length) listed a w (Region.free_spec ho h3) (by simpa using h2) hy (zjK hQ hpl is _ f' h h4 hk' hk pl w _ s')
   rintro c a w ⟨pl', f', h', xe, _, hx, hq⟩
   cases xe <;> first | exact hx.elim | exact (hQ _ _ _ hq).elim
def zgQ (P : Program) (ops : Array Oper) (tk pre : List Nat) (last : Nat) (p : Plan) : Bool :=
 (ops.all fun o => !zce o) && zbh ops && zd1 P ops tk (Array.replicate ops.size false) && zra ops last pre (zdy (Array.replicate ops.size false) tk) && zgO ops tk pre last &&
 (!tk.contains last && !pre.contains last) && zI P ops p (ops.size - tk.length - pre.length) (zqK ops tk pre) && decide (tk.length + pre.length ≤ ops.size)
theorem zhP {tk : List Nat} {P : Program} : ∀ (is : List Nat) (listed : Array Bool), zd1 P ops is listed = true → zn3 ops listed → listed.size = ops.size → (∀ i ∈ tk, i ∉ is → i < ops.size → listed.getD i false = true) → (∀ i, i ∉ tk → listed.getD i false = false) → (∀ i ∈ is, i ∈ tk) →
 zn3 ops (zdy listed is) ∧ (zdy listed is).size = ops.size ∧ (∀ i ∈ tk, i < ops.size → (zdy listed is).getD i false = true) ∧ (∀ i, i ∉ tk → (zdy listed is).getD i false = false)
 | [], listed, _, hc, hs, ht, hn, _ => ⟨hc, hs, fun i hi hl => ht i hi (by simp) hl, hn⟩
 | i :: is, listed, hk, hc, hs, ht, hn, hm => by
  simp only [zd1, Bool.and_eq_true] at hk
  obtain ⟨⟨⟨_, h2⟩, _⟩, h4⟩ := hk
  refine zhP is _ h4 (hc.set (by simpa using h2)) (by simpa using hs) (fun j hj hji hjs => ?_) (fun j hj => ?_) (fun j hj => hm j (by simp [hj]))
  ·by_cases hij : i = j
   ·subst hij
    have : i < listed.size := by omega
    simp [this]
   ·exact getD_set_true (ht j hj (by simp [hji, Ne.symm hij]) hjs)
  ·have hij : i ≠ j := fun hh => by
    subst hh
    exact hj (hm i (by simp))
   rw [getD_set_ne false hij]
   exact hn j hj
theorem zmg (hm : e.P.follows .mixedOrders = true) {id : Nat} {f : Fr} (tk pre : List Nat) (last : Nat) (p : Plan) (R : Fr → H → Prop) (hB : zgQ e.P ops tk pre last p = true)
 (hv : zgP e n ops (zhD R) (fun f h => zbI e n ops h (fun f1 => zaD e n ops (zhD R) p f1 h) (ziX ops pre) f) tk f h) (hk : ∀ f h, R f h → Q .normal f h) : awp e n r (.region id ops true) Q f h := by
 intro ok pl0 w0 pl w a s
 unfold zgQ at hB
 simp only [Bool.and_eq_true, Bool.not_eq_true', decide_eq_true_eq] at hB
 obtain ⟨⟨⟨⟨⟨⟨⟨b1, b2⟩, b3⟩, b4⟩, b5⟩, b6⟩, b7⟩, b8⟩ := hB
 have hna : ∀ (j : Nat) (o : Oper), ops[j]? = some o → zce o = false := fun j o ho => by
  have h1 := Array.all_eq_true.1 b1
  obtain ⟨hl, rfl⟩ := Array.getElem?_eq_some_iff.1 ho
  simpa using h1 j hl
 have hl : last ∉ tk ∧ last ∉ pre := ⟨by simpa using b6.1, by simpa using b6.2⟩
 have x : WExt w { w with drawn := w.drawn + 1 } := WExt.drew w
 obtain ⟨c1, c2, c3, c4⟩ := zhP (ops := ops) (tk := tk) tk (Array.replicate ops.size false) b3 zn3.none (by simp) (fun i hi hni => absurd hi hni) (fun i hi => by
  rcases Nat.lt_or_ge i ops.size with h' | h' <;> simp [h']) (fun i hi => hi)
 have li : LI ops tk pre last (zdy (Array.replicate ops.size false) tk) := ⟨c1, c2, c3, fun i h1 _ => c4 i h1⟩
 have hQ : ∀ v f h, ¬ zhD R (.pan v) f h := fun v f h hh => hh
 have := zjK (r := r) (ok := ok) (pl0 := pl0) (w0 := w0) (n := n) (e := e) (Q := zhD R) (fuel := ops.size - tk.length - pre.length + pre.length) hQ b2 tk (Array.replicate ops.size false) f h b3 hv (fun f h pl w a hK s => by
  have hL := zfc (e := e) (n := n) (h := h) pre (zdy (Array.replicate ops.size false) tk) f b4 (za8 _ _ hK)
  exact zrb (r := r) hna hQ b2 b5 hl b7 _ _ _ hL li pl w a s) pl _ a (s.next0 (s.hs.wext x) (x.keeps s.hs))
 rw [show ops.size - tk.length - pre.length + pre.length + tk.length = ops.size by omega] at this
 refine wpIn_mono (wpIn_region_any hm this) ?_
 rintro ex a' w' ⟨pl', f', h', xe, s', hx, hq⟩
 cases xe <;> first
  | exact ⟨pl', f', h', _, s', hx, hk _ _ hq⟩
  | exact hq.elim
end
section
variable {e : E} {n : Nat} {r : Option Nat} {ops : Array Oper} {h : H} {Q : XE → Fr → H → Prop}
theorem zfd (ops : Array Oper) : ∀ k : Nat, ziX ops (List.range k) = ops.toList.take k
 | 0 => rfl
 | k + 1 => by
  have ih := zfd ops k
  unfold ziX at ih ⊢
  rw [List.range_succ, List.filterMap_append, ih, List.take_add_one]
  congr 1
  rw [List.filterMap_cons, List.filterMap_nil, Array.getElem?_toList]
  cases ops[k]? <;> rfl
theorem zfe {K : Fr → Prop} : ∀ (l : List Oper) (f : Fr), (∀ o ∈ l, zce o = false) → zav e n ops h K l f → zbI e n ops h K l f
 | [], _, _, hv => hv
 | o :: rest, f, ha, hv => by
  have h0 := ha o (by simp)
  have hr := fun f' => zfe (K := K) rest f' fun o' ho' => ha o' (by simp [ho'])
  simp only [zbI, h0]
  simp only [zav] at hv
  cases hg : gd ops f o with
  | none => rw [hg] at hv; exact hv.elim
  | some g =>
   rw [hg] at hv
   refine ⟨hv.1, ?_⟩
   have hv := hv.2
   cases he : zbM o.op with
   | false =>
    rw [he] at hv
    exact ⟨hv.1, hr _ hv.2⟩
   | true =>
    rw [he] at hv
    simp only at hv ⊢
    split at hv
    ·rename_i fx args ats heq
     split at hv
     ·rename_i q vs hc
      obtain ⟨rv, h1, h2⟩ := hv
      simp only [heq, hc]
      exact ⟨rv, h1, hr _ h2⟩
     ·exact hv.elim
    ·exact hv.elim
theorem zmh (hm : e.P.follows .mixedOrders = true) {id : Nat} {f : Fr} (k : Nat) (p : Plan) (R : Fr → H → Prop) (hB : zgQ e.P ops [] (List.range k) k p = true)
 (hv : ∀ K : Fr → Prop, (∀ f1, zaD e n ops (zhD R) p f1 h → K f1) → zav e n ops h K (ops.toList.take k) f) (hk : ∀ f h, R f h → Q .normal f h) : awp e n r (.region id ops true) Q f h := by
 refine zmg hm [] (List.range k) k p R hB ?_ hk
 simp only [zgP]
 rw [zfd]
 refine zfe _ _ (fun o ho => ?_) (hv _ fun f1 h => h)
 unfold zgQ at hB
 simp only [Bool.and_eq_true] at hB
 have b1 := Array.all_eq_true.1 hB.1.1.1.1.1.1.1
 obtain ⟨i, hi, rfl⟩ := List.getElem_of_mem (List.mem_of_mem_take ho)
 have := b1 i (by simpa using hi)
 simpa using this
end
section
variable {e : E} {h : H}
theorem zb.fresh {g : FuncId} {args : List V} {R : AEnd → H → (Nat → Bool) → Prop} (hc : zb e g args h fun ae h' p => (∀ i, i < h.length → p i = false) ∧ R ae h' (fun _ => false)) : zb e g args h R :=
 fun ok pl w vs hs hl => (hc ok pl w vs hs hl).mono fun en w' ⟨p, pl', h', ae, h1, h2, h3, h4, h5⟩ =>
  ⟨fun _ => false, pl', h', ae, h1, ⟨h2.os, h2.tape, h2.output, h2.size, h2.same, h2.loc, fun i b _ hi => h2.keep i b (h4 i (hs.pl_lt hi)) hi, h2.row⟩, h3, h5⟩
end
section
variable {e : E} {n : Nat} {r : Option Nat} {o : Oper} {f : Fr} {h : H} {Kn : Fr → H → Prop} {Q : XE → Fr → H → Prop}
end
section
variable {e : E} {n : Nat}
def DRs (c : C) : List Deferred → List (FuncId × List V) → Prop
 | [], [] => True
 | d :: ds, x :: l => (∃ (cs azs : Array Value), d = { target := .fn (.func x.1) cs, args := azs } ∧ VList c x.2 (azs ++ cs).toList) ∧ DRs c ds l
 | _, _ => False
theorem DRs.keeps {ok : Nat → Prop} {p : Nat → Bool} {pl pl' : Nat → Option Nat} {w w' : World} (k : Keeps p pl w pl' w') : ∀ {ds : List Deferred} {l : List (FuncId × List V)}, DRs (cx ok pl w) ds l → (∀ x ∈ l, V.drops p x.2 = x.2) → DRs (cx ok pl' w') ds l
 | [], [], _, _ => trivial
 | [], _ :: _, h, _ => h.elim
 | _ :: _, [], h, _ => h.elim
 | d :: ds, x :: l, ⟨⟨cs, azs, h1, h2⟩, h3⟩, hd => by
  refine ⟨⟨cs, azs, h1, ?_⟩, h3.keeps k fun y hy => hd y (by simp [hy])⟩
  have := VList.mdrop k.cext _ _ h2
  rwa [hd x (by simp)] at this
def LVr (e : E) (fn : Func) (R : AEnd → H → (Nat → Bool) → Prop) : List (FuncId × List V) → Fr → H → Prop
 | [], f, h => zgG e.P fn.results.toList (fun v h k => R (.ret v) h k) f h
 | x :: l, f, h => za2 e x.1 x.2 h fun h' p => (∀ y ∈ l, V.drops p y.2 = y.2) ∧ LVr e fn R l (f.drop p) h'
def LVp (e : E) (fn : Func) (R : AEnd → H → (Nat → Bool) → Prop) (v : V) : List (FuncId × List V) → Fr → H → Prop
 | [], _, _ => False
 | x :: l, f, h => zcd e x.1 x.2 v h fun h' p => (∀ y ∈ l, V.drops p y.2 = y.2) ∧ LVr e fn R l (f.drop p) h'
theorem zmi {T : List Deferred} {fn : Func} {R : AEnd → H → (Nat → Bool) → Prop} {ok : Nat → Prop} {pl0 : Nat → Option Nat} {w0 : World} {a : Act} : ∀ {l : List (FuncId × List V)} {ds : List Deferred} {f : Fr} {h : H} {pl : Nat → Option Nat} {w : World}, SSim { e with tl := T } fn.ntmps ok pl0 w0 f h pl w a → (∀ x ∈ l, zf e.P x.1 = true) → f.d = [] → DRs (cx ok pl w) ds l → LVr e fn R l f h →
 LeavesInM (RF none) 0 e.P fn a.tmps (endR e ok pl0 w0 R) ds .returning w
 | [], d :: ds, f, h, pl, w, s, hen, hd, hD, hL => hD.elim
 | x :: l, [], f, h, pl, w, s, hen, hd, hD, hL => hD.elim
 | [], [], f, h, pl, w, s, hen, hd, hD, hL => by
  unfold LVr zgG at hL
  rw [hd] at hL
  simp only [zbs] at hL
  obtain ⟨u, hu1, hu2⟩ := zf4 (f := f) (e := e) s.hs.untl s.val hL.1
  exact ⟨u, hu1, f.k, pl, h, .ret _, s.hs.untl, s.kp, hu2, hL.2⟩
 | x :: l, d :: ds, f, h, pl, w, s, hen, hd, ⟨⟨cs, azs, ed, hv⟩, hD⟩, hL => by
  have hinv : (invoke d.target d.args).run e.P w = .ok (.enter x.1 (azs ++ cs)) w := by
   rw [ed]
   simp only [invoke]
   exact zcI (hen x (by simp)) _ _
  refine ⟨by simp, .inr ⟨(fun hh => by rw [zb7] at hh; cases hh), Fn.func x.1, cs, x.1, azs ++ cs, (by rw [ed]), hinv, (fun g _ => zaP none g), ?_⟩⟩
  refine CallsDIn.mono (hL ok pl w (azs ++ cs).toList s.hs.untl hv) ?_
  rintro en u' w4 ⟨⟨z, rfl⟩, rfl, p, pl4, h4', hs4, k4, hdr, hK⟩
  have s4 := s.next (hs4.tl _) k4 (p := p) (by rw [hd]; intro i hi; cases hi)
  exact zmi s4 (fun y hy => hen y (by simp [hy])) hd (hD.keeps k4 hdr) hK
theorem zrc {T : List Deferred} {fn : Func} {R : AEnd → H → (Nat → Bool) → Prop} {ok : Nat → Prop} {pl0 : Nat → Option Nat} {w0 : World} {a : Act} {v : V} {y : Value} {l : List (FuncId × List V)} {ds : List Deferred} {f : Fr} {h : H} {pl : Nat → Option Nat} {w : World} (s : SSim { e with tl := T } fn.ntmps ok pl0 w0 f h pl w a) (hen : ∀ x ∈ l, zf e.P x.1 = true) (hd : f.d = []) (hD : DRs (cx ok pl w) ds l) (hy : VRel (cx ok pl w) v y) (hL : LVp e fn R v l f h) :
 LeavesInM (RF none) 0 e.P fn a.tmps (endR e ok pl0 w0 R) ds (.panicking [{ v := y, recovered := false }]) w := by
 cases l with
 | nil => exact hL.elim
 | cons x l =>
  cases ds with
  | nil => exact hD.elim
  | cons d ds =>
   obtain ⟨⟨cs, azs, ed, hv⟩, hD⟩ := hD
   have hinv : (invoke d.target d.args).run e.P w = .ok (.enter x.1 (azs ++ cs)) w := by
    rw [ed]
    simp only [invoke]
    exact zcI (hen x (by simp)) _ _
   refine ⟨by simp, .inr ⟨(fun hh => by rw [zb7] at hh; cases hh), Fn.func x.1, cs, x.1, azs ++ cs, (by rw [ed]), hinv, (fun g _ => zaP none g), ?_⟩⟩
   refine CallsDIn.mono (hL ok pl w (azs ++ cs).toList y s.hs.untl hv hy) ?_
   rintro en u' w4 ⟨⟨z, rfl⟩, rfl, p, pl4, h4', hs4, k4, hdr, hK⟩
   have s4 := s.next (hs4.tl _) k4 (p := p) (by rw [hd]; intro i hi; cases hi)
   exact zmi s4 (fun y hy => hen y (by simp [hy])) hd (hD.keeps k4 hdr) hK
structure DefOk (e : E) (n : Nat) (mk df : Oper) (f F1 : Fr) (h : H) (q : FuncId) (avs : List V) : Prop where
 hmg : mk.guard = none
 hmd : zbC n mk.dst = true
 hmp : (zeX e.P mk (f.ev e) h).1
 hmf : f.put mk.dst (zeX e.P mk (f.ev e) h).2 = F1
 hdg : df.guard = none
 hdd : df.dst = none
 hdop : ∃ (fx : Operand) (args : Array Operand) (ts : Array TypeId) (caps : List V), df.op = .defer { callee := .value fx, args := args, argTypes := ts } ∧ (F1.ev e fx).sv = .fn (.func q) [] caps ∧ (F1.ev e fx).sc ∧ (∀ x ∈ args, (F1.ev e x).sc) ∧ avs = args.toList.map (fun x => (F1.ev e x).sv) ++ caps
 hfd : f.d = []
theorem VList.app {c : C} : ∀ {l m : List V} {x y : List Value}, VList c l x → VList c m y → VList c (l ++ m) (x ++ y) := fun h1 h2 => VList.append h1 h2
theorem zgR {e' : E} {ok : Nat → Prop} {pl0 : Nat → Option Nat} {w0 : World} {f F1 : Fr} {h : H} {id : Nat} {mk df : Oper} {rest : Code} {q : FuncId} {avs : List V} {M : Exit → Act → World → Prop} (hd : DefOk e' n mk df f F1 h q avs)
 {pl : Nat → Option Nat} {w : World} {a : Act} (s : SSim e' n ok pl0 w0 f h pl w a)
 (hrest : ∀ d w1 a1, (∃ (cs azs : Array Value), d = { target := .fn (.func q) cs, args := azs } ∧ VList (cx ok pl w1) avs (azs ++ cs).toList) → Keeps (fun _ => false) pl w pl w1 → a1.defers = d :: e'.tl →
  SSim { e' with tl := d :: e'.tl } n ok pl w1 { F1 with k := fun _ => false } h pl w1 a1 → rest.wpIn (RF none) 0 e'.P M a1 w1) :
 (Code.seq (.region id [mk, df].toArray false) rest).wpIn (RF none) 0 e'.P M a w := by
 obtain ⟨hmg, hmd, hmp, hmf, hdg, hdd, ⟨fx, args, ts, caps, hdop, hfx, hsc, hasc, havs⟩, hfd⟩ := hd
 refine wpIn_seq (wpIn_region_lit ?_)
 have hgd : gd [mk, df].toArray f mk = some true := by unfold gd; rw [hmg]
 unfold wpListIn
 rw [if_pos (ze3 s.val hgd)]
 refine ⟨fun g _ => zaP none g, ?_⟩
 have hq := zdb (e := e') hmp ok pl w a.eval s.hs s.evs
 have hnd : mk.semAt (RF none).round a.eval = execOp a.eval mk := by rw [zak, Oper.semAt_none]
 rw [hnd]
 have hF1d : F1.d = [] := by
  rw [← hmf]
  cases mk.dst with
  | none => exact hfd
  | some i => exact hfd
 have fin : ∀ x w1, WExt w w1 ∧ VRel (cx ok pl w1) (zeX e'.P mk (f.ev e') h).2 x → wpListIn (RF none) 0 e'.P [mk, df].toArray (Exit.then (rest.wpIn (RF none) 0 e'.P M) M) [df] (a.put mk.dst x) w1 := by
  rintro x w1 ⟨hx, hv⟩
  have kx := hx.keeps s.hs
  have s1 := (s.next0 (s.hs.wext hx) kx).put hmd hv
  rw [hmf] at s1
  generalize ha1 : a.put mk.dst x = a1 at s1 ⊢
  have hgd1 : gd [mk, df].toArray F1 df = some true := by unfold gd; rw [hdg]
  unfold wpListIn
  rw [if_pos (ze3 s1.val hgd1)]
  refine ⟨fun g _ => zaP none g, ?_⟩
  have h1 := (s1.ev fx).sv hsc
  rw [hfx] at h1
  simp only [VRel] at h1
  obtain ⟨fs, cs, h2, h3, h4⟩ := h1
  have hfs : fs = #[] := by
   simp only [VList] at h3
   exact Array.toList_eq_nil_iff.1 h3
  subst hfs
  obtain ⟨d, ed⟩ : ∃ d : Deferred, d = { target := .fn (.func q) cs, args := args.map a1.eval } := ⟨_, rfl⟩
  have hrun : (execOp a1.eval df).run e'.P w1 = .ok (.defer d) w1 := by
   rw [ed]
   simp [execOp, hdop, resolve, h2, Deferred.ofValue, Result.andThen]
  rw [zak, Oper.semAt_none, hrun, Oper.uponIn_defer, hdd]
  have hdf1 : a1.defers = e'.tl := by
   have := s1.dfr
   rw [hF1d] at this
   exact this
  have s2 : SSim { e' with tl := d :: e'.tl } n ok pl w1 { F1 with k := fun _ => false } h pl w1 { a1 with defers := d :: a1.defers } :=
   ⟨s1.hs.tl _, Keeps.refl pl w1, s1.size, s1.val, by
    show zks _ (d :: e'.tl) F1.d (d :: a1.defers)
    rw [hF1d, hdf1]; rfl⟩
  have hargs : ∀ (l : List Operand), (∀ x ∈ l, (F1.ev e' x).sc) → VList (cx ok pl w1) (l.map fun x => (F1.ev e' x).sv) (l.map a1.eval) := by
   intro l
   induction l with
   | nil => intro _; simp [VList]
   | cons b l ih =>
    intro hb
    simp only [List.map_cons, VList]
    exact ⟨_, _, rfl, (s1.ev b).sv (hb b (by simp)), ih fun x hx => hb x (by simp [hx])⟩
  refine hrest d w1 { a1 with defers := d :: a1.defers } ⟨cs, _, ed, ?_⟩ kx (by show d :: a1.defers = _; rw [hdf1]) s2
  rw [havs, Array.toList_append, Array.toList_map]
  exact VList.app (hargs _ fun x hx => hasc x (by simpa using hx)) h4
 revert hq
 cases hrun : (execOp a.eval mk).run e'.P w with
 | halt x w' => intro hq; exact hq.elim
 | ok nx w' =>
  intro hq
  cases nx <;> try exact hq.elim
  case value x => exact fin x w' hq
  case skip => exact fin undef w' hq
  case enter g args =>
   refine ⟨fun hh => (by rw [zb7] at hh; cases hh), zau (Calls.mono hq ?_)⟩
   rintro en w'' ⟨x, rfl, hx⟩
   exact fin x w'' hx
def LV (e : E) (fn : Func) (R : AEnd → H → (Nat → Bool) → Prop) (l : List (FuncId × List V)) (xe : XE) (f : Fr) (h : H) : Prop :=
 f.d = [] ∧ (∀ x ∈ l, V.drops f.k x.2 = x.2) ∧ match xe with
  | .pan v => LVp e fn R v l f h
  | .ret => LVr e fn R l f h
  | _ => False
theorem LV.leaves {T : List Deferred} {fn : Func} {R : AEnd → H → (Nat → Bool) → Prop} {ok : Nat → Prop} {pl0 : Nat → Option Nat} {w0 : World} {l : List (FuncId × List V)} (hen : ∀ x ∈ l, zf e.P x.1 = true) (hT : DRs (cx ok pl0 w0) T l) {ex : Exit} {a : Act} {w : World}
 (hp : zaZ { e with tl := T } fn.ntmps ok pl0 w0 (LV e fn R l) ex a w) : bodyPostM (RF none) 0 e.P fn (endR e ok pl0 w0 R) ex a w := by
 obtain ⟨pl3, f3, h3, xe, s3, hx3, hd3, hcap, hq⟩ := hp
 have hdf3 : a.defers = T := by
  have := s3.dfr
  rw [hd3] at this
  exact this
 have hD := hT.keeps s3.kp hcap
 cases xe <;> cases ex <;> (try exact hx3.elim) <;> (try exact hq.elim)
 case ret.ret =>
  show LeavesInM (RF none) 0 e.P fn a.tmps _ a.defers .returning w
  rw [hdf3]
  exact zmi s3 hen hd3 hD hq
 case pan.panic =>
  obtain ⟨y, rfl, hy⟩ := hx3
  show LeavesInM (RF none) 0 e.P fn a.tmps _ a.defers (.panicking _) w
  rw [hdf3]
  exact zrc s3 hen hd3 hD hy hq
theorem zhQ {R : AEnd → H → (Nat → Bool) → Prop} {ok : Nat → Prop} {pl0 pl1 : Nat → Option Nat} {w0 w1 : World} (k : Keeps (fun _ => false) pl0 w0 pl1 w1) {en : Ending} {w : World} (h : endR e ok pl1 w1 R en w) : endR e ok pl0 w0 R en w := by
 obtain ⟨p, pl', h', ae, h1, h2, h3, h4⟩ := h
 exact ⟨p, pl', h', ae, h1, (k.trans h2).weaken (q := p) (fun i hi => by simpa using hi), h3, h4⟩
theorem zaN {fn : Func} {tmps : Array Value} {R R' : Ending → World → Prop} (hr : ∀ en w, R en w → R' en w) : ∀ {ds : List Deferred} {u : FrameMode} {w : World}, LeavesInM (RF none) 0 e.P fn tmps R ds u w → LeavesInM (RF none) 0 e.P fn tmps R' ds u w
 | [], .returning, w, ⟨v, h1, h2⟩ => ⟨v, h1, hr _ _ h2⟩
 | [], .panicking ch, w, h => hr _ _ h
 | [], .run, w, h => h
 | d :: ds, u, w, ⟨h0, h⟩ => by
  refine ⟨h0, ?_⟩
  rcases h with ⟨r, w', h1, h2, h3⟩ | ⟨hn, fv, cap, f, args, h1, h2, h3, h4⟩
  ·exact .inl ⟨r, w', h1, h2, zaN hr h3⟩
  ·refine .inr ⟨hn, fv, cap, f, args, h1, h2, h3, CallsDIn.mono h4 ?_⟩
   intro en u' w' h5
   cases en with
   | returned v => exact zaN hr h5
   | panicked ch => exact zaN hr h5
   | outgrown => exact hr _ _ h5
theorem zc0 {fn : Func} {R R' : Ending → World → Prop} (hr : ∀ en w, R en w → R' en w) {ex : Exit} {a : Act} {w : World} (h : bodyPostM (RF none) 0 e.P fn R ex a w) : bodyPostM (RF none) 0 e.P fn R' ex a w := by
 cases ex with
 | normal => exact zaN hr h
 | ret => exact zaN hr h
 | panic ch => exact zaN hr h
 | exit id => exact h
 | goto l => exact h
 | outgrown => exact hr _ _ h
theorem zff (htl : e.tl = []) {fn : Func} {R : AEnd → H → (Nat → Bool) → Prop} {ok : Nat → Prop} {pl0 : Nat → Option Nat} {w0 : World} {f F1 : Fr} {h : H} {id : Nat} {mk df : Oper} {rest : Code} {q : FuncId} {avs : List V}
 (hd : DefOk e fn.ntmps mk df f F1 h q avs) (hen : zf e.P q = true) (hfk : f.k = fun _ => false)
 (hrest : ∀ d, awp { e with tl := [d] } fn.ntmps none rest (LV e fn R [(q, avs)]) { F1 with k := fun _ => false } h) :
 zq9 e fn.ntmps (bodyPostM (RF none) 0 e.P fn (endR e ok pl0 w0 R)) ok pl0 w0 (.seq (.region id [mk, df].toArray false) rest) f h := by
 intro pl w a s
 refine zgR hd s fun d w1 a1 hdd kx hdf s2 => ?_
 rw [htl] at s2
 have kk : Keeps (fun _ => false) pl0 w0 pl w1 := ((hfk ▸ s.kp).trans kx).weaken (q := fun _ => false) (fun i hi => by simp at hi)
 refine wpIn_mono (hrest d ok pl w1 pl w1 _ s2) fun ex a3 w3 hp => ?_
 exact zc0 (fun en w he => zhQ kk he) (LV.leaves (T := [d]) (fun x hx => by simp at hx; subst hx; exact hen) (show DRs _ [d] [(q, avs)] from ⟨hdd, trivial⟩) hp)
theorem zmj (htl : e.tl = []) {fn : Func} {R : AEnd → H → (Nat → Bool) → Prop} {ok : Nat → Prop} {pl0 : Nat → Option Nat} {w0 : World} {f F1 F2 : Fr} {h : H} {id id2 : Nat} {mk df mk2 df2 : Oper} {rest : Code} {q q2 : FuncId} {avs avs2 : List V}
 (hd : DefOk e fn.ntmps mk df f F1 h q avs) (hen : zf e.P q = true) (hfk : f.k = fun _ => false)
 (hd2 : ∀ tl, DefOk { e with tl := tl } fn.ntmps mk2 df2 { F1 with k := fun _ => false } F2 h q2 avs2) (hen2 : zf e.P q2 = true)
 (hrest : ∀ d d2, awp { e with tl := [d2, d] } fn.ntmps none rest (LV e fn R [(q2, avs2), (q, avs)]) { F2 with k := fun _ => false } h) :
 zq9 e fn.ntmps (bodyPostM (RF none) 0 e.P fn (endR e ok pl0 w0 R)) ok pl0 w0 (.seq (.region id [mk, df].toArray false) (.seq (.region id2 [mk2, df2].toArray false) rest)) f h := by
 intro pl w a s
 refine zgR hd s fun d w1 a1 hdd kx hdf s2 => ?_
 rw [htl] at s2
 have kk : Keeps (fun _ => false) pl0 w0 pl w1 := ((hfk ▸ s.kp).trans kx).weaken (q := fun _ => false) (fun i hi => by simp at hi)
 refine zgR (hd2 [d]) s2 fun d2 w2 a2 hdd2 kx2 hdf2 s3 => ?_
 have kk2 : Keeps (fun _ => false) pl0 w0 pl w2 := (kk.trans kx2).weaken (q := fun _ => false) (fun i hi => by simp at hi)
 have hD1 : DRs (cx ok pl w2) [d] [(q, avs)] := DRs.keeps kx2 (ds := [d]) (l := [(q, avs)]) ⟨hdd, trivial⟩ (fun x _ => V.drop_none.V.drops_none _)
 refine wpIn_mono (hrest d d2 ok pl w2 pl w2 _ s3) fun ex a3 w3 hp => ?_
 exact zc0 (fun en w he => zhQ kk2 he) (LV.leaves (T := [d2, d]) (fun x hx => by
  simp only [List.mem_cons, List.not_mem_nil, or_false] at hx
  rcases hx with rfl | rfl
  ·exact hen2
  ·exact hen) (show DRs _ [d2, d] [(q2, avs2), (q, avs)] from ⟨hdd2, hD1⟩) hp)
end
section
variable {e : E} {n : Nat} {r : Option Nat} {o : Oper} {f : Fr} {h : H} {K : Fr → H → Prop} {Q : XE → Fr → H → Prop}
theorem zn4 {t : TypeId} {x : Operand} (hop : o.op = .box t x) (hsc : (f.ev e x).sc) (hf : (f.ev e x).sv.fit = true)
 (hk : K (f.put o.dst (.lp h.length 0)) (h ++ [.typed t (f.ev e x).sv.vc])) : Eff e n r o f h K Q := by
 refine zy ?_ (fun c => by rw [hop]; exact fun h => by cases h)
 intro ok pl w ev hs hr
 have h0 := ((hr x (by simp [hop, Op.operands])).sv hsc).vc hf
 have hzl := h0.length
 simp only [Array.length_toList] at hzl
 obtain ⟨h1, h2⟩ := zdX hs (cs := (f.ev e x).sv.vc) (arr := (ev x).cells) (by omega) (by rw [List.take_of_length_le (by simp; omega)]; exact h0) t (WExt.refl w)
 refine ⟨fun _ => false, .lp h.length 0, _, _, _, .pointer (some ⟨w.heap.size, 0, none⟩), .inl ?_, h1, h2, ?_, fun _ _ => rfl, by simpa using hk⟩
 ·have h3 : execOp ev o = (do pure (Next.value (← Instr.box t (ev x)))) := by simp [execOp, hop]
  rw [h3]; exact zaA rfl
 ·simp only [VRel]; exact ⟨w.heap.size, by simp [cx, zH], rfl⟩
end
section
variable {P : Program} {ops : Array Oper} {i k : Nat} {p q : Plan} {L L' : Array Bool}
end
section
variable {e : E} {n : Nat}
theorem zev (htl : e.tl = []) {q : FuncId} {fn : Func} {args : List V} {h : H} {K : H → (Nat → Bool) → Prop} {c : Code} (hf : e.P.funcs[q]? = some fn)
 (hb : fn.body = some c) (hr0 : fn.results.toList = []) (hn : args.length ≤ fn.ntmps)
 (hv : awp e fn.ntmps none c (fun xe f h => (xe = .normal ∨ xe = .ret) ∧ f.d = [] ∧ K h f.k) (Fr.init args) h) : za2 e q args h K := by
 intro ok pl w vs hs hl
 refine CallsDIn.mono (R := fun en u' w' => u' = .returning ∧ ((∃ y, en = .returned y) ∧ ∃ p pl' h', HSim e ok pl' h' w' ∧ Keeps p pl w pl' w' ∧ K h' p)) (callsDIn_of_wp hf hb (zaP none q) ?_ rfl) (fun en u' w' hq => ⟨hq.2.1, hq.1, hq.2.2⟩)
 have s0 := SSim.init htl (n := fn.ntmps) hs hl hn
 refine wpIn_mono (hv ok pl w pl w _ s0) ?_
 rintro ex a w' ⟨pl3, f3, h3, xe, s3, hx3, hxe, hd3, hk3⟩
 have hdf : a.defers = [] := by
  have := s3.dfr
  rw [hd3] at this
  exact Eq.trans this htl
 have hres : ∃ y, (results fn a.tmps).run e.P w' = .ok y w' := by
  have hp : (ze6 e.P f3 h3 fn.results.toList).1 := by rw [hr0]; trivial
  obtain ⟨y, h1, _⟩ := zf4 (f := f3) s3.hs s3.val hp
  exact ⟨y, h1⟩
 obtain ⟨y, hy⟩ := hres
 have fin : a.defers = [] ∧ ∃ v, (results fn a.tmps).run e.P w' = .ok v w' ∧ ((∃ y, Ending.returned v = .returned y) ∧ ∃ p pl' h', HSim e ok pl' h' w' ∧ Keeps p pl w pl' w' ∧ K h' p) :=
  ⟨hdf, y, hy, ⟨y, rfl⟩, f3.k, pl3, h3, s3.hs, s3.kp, hk3⟩
 rcases hxe with rfl | rfl <;> cases ex <;> (try exact hx3.elim)
 ·exact fin
 ·exact fin
end
section
variable {e : E} {n : Nat} {r : Option Nat} {ops : Array Oper} {Q : XE → Fr → H → Prop} {ok : Nat → Prop} {pl0 : Nat → Option Nat} {w0 : World}
def FA (L : Array Bool) (f : Fr) (l : List (Nat × Nat × V)) : Prop := ∀ q ∈ l, L.getD q.1 false = true → f.t q.2.1 = q.2.2
theorem FA.put {L : Array Bool} {f : Fr} {l : List (Nat × Nat × V)} {i d : Nat} {v : V} (hf : FA L f l)
 (h1 : ∀ q ∈ l, q.1 = i → q.2.1 = d ∧ q.2.2 = v) (h2 : ∀ q ∈ l, q.2.1 = d → q.1 = i) : FA (L.setIfInBounds i true) (f.put (some d) v) l := by
 intro q hq hl
 by_cases hqi : q.1 = i
 ·obtain ⟨e1, e2⟩ := h1 q hq hqi
  rw [e1, e2]
  simp [Fr.put]
 ·have hqd : q.2.1 ≠ d := fun h => hqi (h2 q hq h)
  rw [getD_set_ne false (Ne.symm hqi)] at hl
  have := hf q hq hl
  simpa [Fr.put, hqd] using this
theorem FA.skip {L : Array Bool} {f : Fr} {l : List (Nat × Nat × V)} {i : Nat} (hf : FA L f l) (h1 : ∀ q ∈ l, q.1 ≠ i) : FA (L.setIfInBounds i true) f l := by
 intro q hq hl
 rw [getD_set_ne false (Ne.symm (h1 q hq))] at hl
 exact hf q hq hl
end
section
variable {e : E} {n : Nat} {r : Option Nat} {o : Oper} {f : Fr} {h : H} {Kn : Fr → H → Prop} {Q : XE → Fr → H → Prop}
end
section
variable {e : E} {n : Nat} {r : Option Nat} {o : Oper} {f : Fr} {h : H} {Kn : Fr → H → Prop} {Q : XE → Fr → H → Prop}
theorem zfR {x hi mx : Operand} {t el m : Nat} {q re : TI} {qq : Option IntKind} (hop : o.op = .slice t x none (some hi) (some mx)) (hti : Abs.ti e.P t = some q) (hkind : q.kind = .arr m el qq) (hre : Abs.ti e.P el = some re)
 (hc : (f.ev e x).sc) {id off : Nat} (hx : (f.ev e x).sv = .lp id off) {cs : List V} (hid : h[id]? = some (.cells cs)) (hl : off + m * re.size ≤ cs.length) (hm : m ≤ maxLen)
 {a b : Nat} (hhc : (f.ev e hi).sc) (hhv : (f.ev e hi).sv = .int .i64 a) (hmc : (f.ev e mx).sc) (hmv : (f.ev e mx).sv = .int .i64 b) (hab : a ≤ b) (hbm : b ≤ m)
 (hk : Kn (f.put o.dst (.ls id re.size off a b)) h) : Eff e n r o f h Kn Q := by
 refine za9 (v := .ls id re.size off a b) (zas fun ok pl w ev hs hr => ?_) hk
 obtain ⟨i, d, z, hT⟩ := zq hti
 obtain ⟨i', d', z', hT'⟩ := zq hre
 have hd := hT.arr hkind
 subst hd
 have h1 := (hr x (by simp [hop, Op.operands])).sv hc
 rw [hx] at h1
 simp only [VRel] at h1
 obtain ⟨bb, hb, hev⟩ := h1
 have h2 := (hr hi (by simp [hop, Op.operands])).sv hhc
 rw [hhv] at h2
 simp only [VRel] at h2
 have h3 := (hr mx (by simp [hop, Op.operands])).sv hmc
 rw [hmv] at h3
 simp only [VRel] at h3
 obtain ⟨o', ho', hat⟩ := hs.obj id bb hb
 rw [hid] at ho'
 cases ho'
 obtain ⟨arr, el', fz, hw, _, hsz, _⟩ := hat
 refine ⟨.slice (some ⟨bb, off, none⟩) a b, ?_, ?_⟩
 ·have hex : execOp ev o = (do pure (Next.value (← Instr.sliceAt t (ev x) none (some (ev hi)) (some (ev mx))))) := by simp [execOp, hop]
  rw [hex, hev, h2, h3]
  refine zaA ?_
  have hbd : (Instr.sliceBounds false m m none (some (.int .i64 (a : Int))) (some (.int .i64 (b : Int)))).run e.P w = .ok (0, a, b) w := by
   have := zaB (P := e.P) (w := w) false m m .i64 none none none none (some (.int .i64 (a : Int))) (some (.int .i64 (b : Int))) 0 a b (.inl ⟨rfl, rfl⟩) (.inr ⟨_, rfl⟩) (.inr ⟨_, rfl⟩) (Int.le_refl _) (by omega) (by omega) (by omega)
   simpa using this
  simp [Instr.sliceAt, hT.run_und, Result.andThen, Instr.sureAddr, hbd, hT'.run_size, zS]
 ·simp only [VRel]
  refine ⟨_, b, rfl, Nat.le_refl _, hab, by omega, .inr ⟨bb, arr, el', fz, hb, rfl, hw, ?_⟩⟩
  have : b * re.size ≤ m * re.size := Nat.mul_le_mul_right _ hbm
  omega
end
end Go.Abs
