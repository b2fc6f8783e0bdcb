/- Lemmas for the statement of this claim, part A11: they hold with no conditions but those that each one names. -/
import Derived.Test.YtfcpapokknfeeaaGreatDoorA10
set_option linter.unusedVariables false
set_option linter.unusedSimpArgs false
namespace Go.Abs
open Go Go.RowKit
section
variable {e : E} {n : Nat} {r : Option Nat} {ops : Array Oper} {Q : XE → Fr → H → Prop} {ok : Nat → Prop} {pl0 : Nat → Option Nat} {w0 : World} {h : H}
def gz (o : Oper) : Bool := match o.op with | .alloc _ => true | _ => false
def lV (e : E) (n : Nat) (ops : Array Oper) (h : H) (o : Oper) (v : V) (f : Fr) : Prop :=
 (gz o = true ∧ o.guard = none ∧ jb n o.dst = true ∧ v = .any) ∨ (gz o = false ∧ jK e n ops h o v f)
theorem lV.put {o : Oper} {v : V} {f : Fr} (hy : lV e n ops h o v f) {dst : Option Tmp} {u : V} (hd : ∀ d, dst = some d → d ∉ o.looksAt ops) : lV e n ops h o v (f.put dst u) :=
 hy.imp id fun h => ⟨h.1, h.2.put hd⟩
theorem lV.unput {o : Oper} {v : V} {f : Fr} {dst : Option Tmp} {u : V} (hy : lV e n ops h o v (f.put dst u)) (hd : ∀ d, dst = some d → d ∉ o.looksAt ops) : lV e n ops h o v f :=
 hy.imp id fun h => ⟨h.1, h.2.unput hd⟩
def uu (e : E) (n : Nat) (ops : Array Oper) (h : H) (i : Nat) (Kn : Fr → Prop) (f : Fr) : Prop :=
 match ops[i]? with
 | none => Kn f
 | some o => ∃ v, lV e n ops h o v f ∧ Kn (f.put o.dst v)
theorem JX {i : Nat} {f : Fr} {K K' : Fr → Prop} (hh : ∀ f, K f → K' f) (hq : uu e n ops h i K f) : uu e n ops h i K' f := by
 unfold uu at *;split
 ·exact hh _ (by simpa [*] using hq)
 ·rename_i o ho;simp only [ho] at hq;obtain ⟨v, h1, h2⟩ := hq;exact ⟨v, h1, hh _ h2⟩
theorem Nj {j : Nat} {oi oj : Oper} {v : V} (hj : ops[j]? = some oj) (hap : oi.apart ops oj = true) {K : Fr → Prop} {f : Fr}
 (hy : lV e n ops h oi v f) (hq : uu e n ops h j K (f.put oi.dst v)) :
 uu e n ops h j (fun f' => lV e n ops h oi v f' ∧ K (f'.put oi.dst v)) f := by
 obtain ⟨h1, h2, h3⟩ := Oper.apart_spec hap;unfold uu at *;simp only [hj] at *;obtain ⟨u, hu, hn⟩ := hq;exact ⟨u, hu.unput h1, hy.put h3, by rw [← Fr.put_comm f v u h2]; exact hn⟩
def lH (e : E) (n : Nat) (ops : Array Oper) (h : H) (Q : Fr → Prop) : List Oper → Fr → Prop
 | [], f => Q f
 | o :: rest, f => ∃ v, lV e n ops h o v f ∧ lH e n ops h Q rest (f.put o.dst v)
def uw (e : E) (n : Nat) (ops : Array Oper) (h : H) (last : Nat) (Q : Fr → Prop) : Nat → Array Bool → Fr → Prop
 | 0, listed, f => Region.ready .any ops listed = [last] ∧ Q f
 | fuel + 1, listed, f => Region.ready .any ops listed ≠ [] ∧ (Region.ready .any ops listed = [last] → Q f) ∧
  ∀ i ∈ Region.ready .any ops listed, i ≠ last → uu e n ops h i (uw e n ops h last Q fuel (listed.setIfInBounds i true)) f
theorem rD {last : Nat} {Q : Fr → Prop} {i : Nat} {oi : Oper} {v : V} (hi : ops[i]? = some oi) (hil : i ≠ last) :
 ∀ (fuel : Nat) (listed : Array Bool) (f : Fr),
  (∀ j oj, ops[j]? = some oj → j ≠ i → listed.getD j true = false → (∀ e ∈ oj.after, Region.binds .any e = true → e.on ≠ i) → oi.apart ops oj = true) →
  i ∈ Region.ready .any ops listed → lV e n ops h oi v f →
  uw e n ops h last Q fuel (listed.setIfInBounds i true) (f.put oi.dst v) → uw e n ops h last Q (fuel + 1) listed f := by
 have own : ∀ {K : Fr → Prop} {f : Fr}, lV e n ops h oi v f → K (f.put oi.dst v) → uu e n ops h i K f := by intro K f hy hk;unfold uu;rw [hi];exact ⟨v, hy, hk⟩
 have one : ∀ {listed : Array Bool} {R : Prop}, i ∈ Region.ready .any ops listed → Region.ready .any ops listed = [last] → R := by intro listed R hr h;rw [h] at hr;exact absurd (by simpa using hr) hil
 intro fuel
 induction fuel with
 | zero =>
  intro listed f _ hr hy H;refine ⟨fun h => (by rw [h] at hr; cases hr), fun h => one hr h, fun j hj hjl => ?_⟩;by_cases hji : j = i
  ·subst hji; exact own hy H
  ·have := ready_mono hj hji;rw [H.1] at this;exact absurd (by simpa using this) hjl
 | succ fuel ih =>
  intro listed f hfree hr hy H;refine ⟨fun h => (by rw [h] at hr; cases hr), fun h => one hr h, fun j hj hjl => ?_⟩;by_cases hji : j = i
  ·subst hji; exact own hy H
  ·have h1 := H.2.2 j (ready_mono hj hji) hjl;obtain ⟨hjun, oj, hoj, hall⟩ := mem_ready.1 hj;have hnot : ∀ e ∈ oj.after, Region.binds .any e = true → e.on ≠ i := fun e he hb heq => by
    have h1 := hall e he hb;have h0 := (mem_ready.1 hr).1;rw [heq] at h1;rcases Nat.lt_or_ge i listed.size with h' | h'
    ·simp [h'] at h0 h1; rw [h0] at h1; cases h1
    ·simp [Array.getElem?_eq_none h'] at h1
   have h2 := Nj hoj (hfree j oj hoj hji hjun hnot) hy h1;have hfree' : ∀ k ok, ops[k]? = some ok → k ≠ i → (listed.setIfInBounds j true).getD k true = false →
    (∀ e ∈ ok.after, Region.binds .any e = true → e.on ≠ i) → oi.apart ops ok = true := fun k ok hk hki hun hno => by
    refine hfree k ok hk hki ?_ hno;by_cases hjk : j = k
    ·subst hjk; exact hjun
    ·rw [getD_set_ne true hjk] at hun; exact hun
   refine JX (fun a' h3 => ih (listed.setIfInBounds j true) a' hfree' (ready_mono hr (Ne.symm hji)) h3.1 ?_) h2;rw [Array.setIfInBounds_comm _ _ hji];exact h3.2
def pU (ops : Array Oper) (last : Nat) : Nat → Nat → Array Bool → Bool
 | 0, _, listed => Region.ready .any ops listed == [last]
 | fuel + 1, k, listed => (Region.ready .any ops listed).contains k && k != last && Region.free .any ops listed k && pU ops last fuel (k + 1) (listed.setIfInBounds k true)
theorem xq {last : Nat} {Q : Fr → Prop} : ∀ (l : List Oper) (k : Nat) (listed : Array Bool) (f : Fr), (∀ j, j < l.length → l[j]? = ops[k + j]?) →
 pU ops last l.length k listed = true → lH e n ops h Q l f → uw e n ops h last Q l.length listed f
 | [], _, _, _, _, hB, h => ⟨by simpa [pU] using hB, h⟩
 | o :: l, k, listed, f, hl, hB, hh => by
  have h0 : ops[k]? = some o := by simpa using (hl 0 (by simp)).symm
  simp only [List.length_cons, pU, Bool.and_eq_true] at hB;obtain ⟨⟨⟨hr, hne⟩, hf⟩, hB'⟩ := hB;obtain ⟨v, hy, hK⟩ := hh;exact rD h0 (by simpa using hne) l.length listed f (Region.free_spec h0 hf) (by simpa using hr) hy
   (xq l (k + 1) _ _ (fun j hj => by have := hl (j + 1) (by simpa using hj); simpa [Nat.add_assoc, Nat.add_comm 1 j] using this) hB' hK)
def sK (ops : Array Oper) (listed : Array Bool) : Prop := ∀ i o, ops[i]? = some o → listed.getD i false = true → ∀ e ∈ o.after, Region.binds .any e = true → listed.getD e.on false = true
def Nk (ops : Array Oper) : Bool := (List.range (ops.size - 1)).all fun i => (List.range ops.size).any fun j => decide (i < j) && match ops[j]? with
 | some o => o.after.any fun e => Region.binds .any e && e.on == i
 | none => false
theorem yL (hB : Nk ops = true) {listed : Array Bool} (hc : sK ops listed) (hr : ops.size - 1 ∈ Region.ready .any ops listed) : ∀ (k i : Nat), k = ops.size - i → i < ops.size - 1 → listed.getD i false = true := by
 intro k
 induction k using Nat.strongRecOn with
 | _ k ih =>
  intro i hk hi;have h1 := List.all_eq_true.1 hB i (by simpa using hi);obtain ⟨j, hj, h2⟩ := List.any_eq_true.1 h1;simp only [List.mem_range] at hj;rw [Bool.and_eq_true, decide_eq_true_eq] at h2;obtain ⟨hij, h2⟩ := h2;split at h2
  ·rename_i o ho;rw [Array.any_eq_true] at h2;obtain ⟨q, hq, h3⟩ := h2;rw [Bool.and_eq_true, beq_iff_eq] at h3;have hmem : o.after[q] ∈ o.after := Array.getElem_mem hq;rw [← h3.2];by_cases hjl : j = ops.size - 1
   ·obtain ⟨_, o', ho', hall⟩ := mem_ready.1 hr;rw [← hjl, ho] at ho';cases ho';exact hall _ hmem h3.1
   ·exact hc j o ho (ih (ops.size - j) (by omega) j rfl (by omega)) _ hmem h3.1
  ·cases h2
theorem sK.set {listed : Array Bool} (hc : sK ops listed) {i : Nat} (hi : i ∈ Region.ready .any ops listed) : sK ops (listed.setIfInBounds i true) := by
 intro j o ho hl e he hb;refine getD_set_true ?_;by_cases hji : j = i
 ·subst hji;obtain ⟨_, o', ho', hall⟩ := mem_ready.1 hi;rw [ho] at ho';cases ho';exact hall e he hb
 ·rw [getD_set_ne false (Ne.symm hji)] at hl;exact hc j o ho hl e he hb
theorem sK.none {m : Nat} : sK ops (Array.replicate m false) := by
 intro i o _ hl;exfalso;rcases Nat.lt_or_ge i m with h | h
 ·simp [h] at hl
 ·simp [h] at hl
theorem SI (hB : Nk ops = true) {listed : Array Bool} (hc : sK ops listed) (hr : ops.size - 1 ∈ Region.ready .any ops listed) : Region.ready .any ops listed = [ops.size - 1] := by
 have hall : ∀ j ∈ Region.ready .any ops listed, j = ops.size - 1 := by
  intro j hj;obtain ⟨h0, o, ho, _⟩ := mem_ready.1 hj;have hlt := (Array.getElem?_eq_some_iff.1 ho).1;apply Classical.byContradiction;intro hne;have := yL hB hc hr _ j rfl (by omega);rcases Nat.lt_or_ge j listed.size with h' | h'
  ·simp [h'] at h0 this; rw [h0] at this; cases this
  ·simp [Array.getElem?_eq_none h'] at this
 have hnd : (Region.ready .any ops listed).Nodup := by unfold Region.ready;exact List.Pairwise.filter _ List.nodup_range
 match hm : Region.ready .any ops listed with
 | [] => rw [hm] at hr; cases hr
 | [x] => rw [hall x (by rw [hm]; simp)]
 | x :: y :: l => exfalso;rw [hm] at hnd;have h1 := hall x (by rw [hm]; simp);have h2 := hall y (by rw [hm]; simp);simp [h1, h2] at hnd
theorem HSim.recx {ok ok' : Nat → Prop} {pl pl' : Nat → Option Nat} {h h' : H} {w w' : World} (hs : HSim e ok pl h w) (x : CExt (fun _ => false) (cx ok pl w) (cx ok' pl' w'))
 (fresh : ∀ b, w'.heap.size ≤ b → ok' b) (lt : ∀ i b, pl' i = some b → b < w'.heap.size) (okl : ∀ i b, pl' i = some b → ok' b) (inj : ∀ i j b, pl' i = some b → pl' j = some b → i = j)
 (obj : ∀ i b, pl' i = some b → ∃ o, h'[i]? = some o ∧ OAt (cx ok' pl' w') b o) (bare : ∀ i o, h'[i]? = some o → pl' i = none → o = .dead ∨ o = .cells []) : HSim e ok' pl' h' w' where
 fresh := fresh
 lt := lt
 okl := okl
 inj := inj
 obj := obj
 bare := bare
 glob g v hg := VRel.mono x _ _ (hs.glob g v hg)
 exa g cs hg := by
  obtain ⟨h1, cs', ty, fz, h2, h3⟩ := hs.exa g cs hg;have := x.dat g (aU h2) h1;exact ⟨this.1, cs', ty, fz, this.2.trans h2, h3⟩
structure Hid (e : E) (n : Nat) (ok : Nat → Prop) (pl0 : Nat → Option Nat) (w0 : World) (f : Fr) (h : H) (pl : Nat → Option Nat) (w : World) (a : Act) (d : Tmp) (cs : List V) (b : Nat) : Prop where
 s : SSim e n (fun x => ok x ∧ x ≠ b) pl0 w0 f h pl w a
 ptr : a.tmps.getD d undef = .pointer (some ⟨b, 0, none⟩)
 ob : OAt (cx ok (aZ pl h.length b) w) b (.cells cs)
 ge : w0.heap.size ≤ b
 lt : b < w.heap.size
 okb : ok b
 npl : ∀ i, pl i ≠ some b
 dn : d < n
theorem Hid.cext {f : Fr} {pl : Nat → Option Nat} {w : World} {a : Act} {d : Tmp} {cs : List V} {b : Nat} (k : Hid e n ok pl0 w0 f h pl w a d cs b) {w' : World} (x : WExt w w') :
 CExt (fun _ => false) (cx (fun x => ok x ∧ x ≠ b) pl w) (cx ok (aZ pl h.length b) w') := by
 refine ⟨fun b' hb' hok => ⟨⟨hok.1.1, fun i hi => ?_⟩, x.same b' hb'⟩, fun i b' _ hi => ?_, fun b' arr' el' fz hb' => ⟨arr', fz, (x.same b' (aU hb')).trans hb', rfl⟩⟩
 ·simp only [aZ] at hi;split at hi
  ·cases hi; exact hok.1.2 rfl
  ·exact hok.2 i hi
 ·have := k.s.hs.pl_lt hi;simp only [cx, aZ]; rw [if_neg (by omega)]; exact hi
theorem Hid.show {f : Fr} {pl : Nat → Option Nat} {w : World} {a : Act} {d : Tmp} {cs : List V} {b : Nat} (k : Hid e n ok pl0 w0 f h pl w a d cs b) :
 SSim e n ok pl0 w0 (f.put (some d) (.lp h.length 0)) (h ++ [.cells cs]) (aZ pl h.length b) w a := by
 have x := k.cext (bW w);have hs := k.s.hs;refine ⟨hs.recx x (fun b' hb' => (hs.fresh b' hb').1) ?_ ?_ ?_ ?_ ?_, ?_, k.s.size, ?_, ?_⟩
 ·intro i b' hi;simp only [aZ] at hi;split at hi
  ·cases hi; exact k.lt
  ·exact hs.lt i b' hi
 ·intro i b' hi;simp only [aZ] at hi;split at hi
  ·cases hi; exact k.okb
  ·exact (hs.okl i b' hi).1
 ·intro i j b' hi hj;simp only [aZ] at hi hj;split at hi <;> split at hj
  ·omega
  ·cases hi; exact absurd hj (k.npl j)
  ·cases hj; exact absurd hi (k.npl i)
  ·exact hs.inj i j b' hi hj
 ·intro i b' hi;by_cases hil : i = h.length
  ·subst hil;have : b' = b := by simpa [aZ] using hi.symm
   subst this;exact ⟨_, by simp, k.ob⟩
  ·have hi' : pl i = some b' := by simpa [aZ, hil] using hi
   obtain ⟨o, h1, h2⟩ := hs.obj i b' hi';exact ⟨o, by rw [List.getElem?_append_left (hs.pl_lt hi')]; exact h1, OAt.mono x rfl h2⟩
 ·intro i o' ho' hi;simp only [aZ] at hi;split at hi
  ·cases hi
  ·rename_i hil;have hlt : i < h.length := by
    have := (List.getElem?_eq_some_iff.1 ho').1;simp at this; omega
   rw [List.getElem?_append_left hlt] at ho';exact hs.bare i o' ho' hi
 ·have kp := k.s.kp;refine ⟨kp.os, kp.tape, kp.output, kp.size, fun b' hb' hn => kp.same b' hb' hn, fun i b' hi => ?_, fun i b' hp hi => ?_, kp.row⟩
  ·simp only [aZ] at hi;split at hi
   ·cases hi; exact .inr k.ge
   ·exact kp.loc i b' hi
  ·have h1 := kp.keep i b' (by cases hd : f.k i <;> first | rfl | (exact absurd hd (by simpa [Fr.put] using hp))) hi;have := hs.pl_lt h1;simp only [aZ]; rw [if_neg (by omega)]; exact h1
 ·intro i;by_cases hi : i = d
  ·subst hi;have : (f.put (some i) (V.lp h.length 0)).t i = .lp h.length 0 := by simp [Fr.put]
   rw [this, k.ptr];simp only [VRel];exact ⟨b, by simp [cx, aZ], rfl⟩
  ·have : (f.put (some d) (V.lp h.length 0)).t i = f.t i := by simp [Fr.put, hi]
   rw [this];exact VRel.mono x _ _ (k.s.val i)
 ·exact Ef.mono (fun i b' hi => x.pl i b' rfl hi) k.s.dfr
theorem AQ.wpIn {o : Oper} {f : Fr} {v : V} {pl : Nat → Option Nat} {w : World} {a : Act} (hq : AQ e o (f.ev e) h v) (s : SSim e n ok pl0 w0 f h pl w a) {K' : Act → World → Prop} {Q' : Exit → Act → World → Prop}
 (hk : ∀ x w', WExt w w' → VRel (cx ok pl w') v x → K' (a.put o.dst x) w') : o.wpIn (RF r) 0 e.P a w K' Q' := by
 have := hq ok pl w a.eval s.hs s.evs;refine ⟨fun g _ => gq r g, ?_⟩;have hnd : o.semAt (RF r).round a.eval = execOp a.eval o := by
  rw [dM];refine Oper.semAt_eq r a.eval o fun c hc => ?_;unfold execOp at this;rw [hc] at this;simp only [Sem.run_bind] at this
  revert this
  cases (resolve a.eval c o.type).run e.P w <;> simp [jH, Result.andThen]
 rw [hnd]
 revert this
 cases (execOp a.eval o).run e.P w with
 | halt x w' => simp [jH]
 | ok nx w' =>
  cases nx <;> simp only [jH, Oper.uponIn] <;> try (intro hf; exact hf.elim)
  case value x =>
   rintro ⟨hx, hv⟩;exact hk _ _ hx hv
  case skip =>
   rintro ⟨hx, hv⟩;exact hk _ _ hx hv
  case enter g args =>
   intro hc;refine ⟨fun hd' => (by rw [lq] at hd'; cases hd'), fF (hc.mono ?_)⟩;rintro en w'' ⟨x, rfl, hx, hv⟩;exact hk _ _ hx hv
structure AlOk (P : Program) (n : Nat) (ops : Array Oper) (ia : Nat) (d : Tmp) (q : TI) : Prop where
 op : ∃ o t, ops[ia]? = some o ∧ o.op = .alloc t ∧ o.guard = none ∧ o.dst = some d ∧ ti P t = some q
 fit : q.zero.fit = true
 ne : ia ≠ ops.size - 1
 dn : d < n
 oth : ∀ j o, ops[j]? = some o → j ≠ ia → gz o = false ∧ o.dst ≠ some d
def LSt (e : E) (n : Nat) (ok : Nat → Prop) (pl0 : Nat → Option Nat) (w0 : World) (h : H) (ia : Nat) (d : Tmp) (q : TI) (listed : Array Bool) (f : Fr) (pl : Nat → Option Nat) (w : World) (a : Act) : Prop :=
 (listed.getD ia false = false ∧ SSim e n ok pl0 w0 f h pl w a) ∨ (listed.getD ia false = true ∧ ∃ b, Hid e n ok pl0 w0 f h pl w a d q.zero.vc b)
theorem Nl {ia : Nat} {d : Tmp} {q : TI} (ha : AlOk e.P n ops ia d q) {listed : Array Bool} {f : Fr} {pl : Nat → Option Nat} {w : World} {a : Act} (k : LSt e n ok pl0 w0 h ia d q listed f pl w a)
 {i : Nat} {o : Oper} (ho : ops[i]? = some o) (hi : i ≠ ia) {v : V} (hy : jK e n ops h o v f) {K' : Act → World → Prop} {Q' : Exit → Act → World → Prop}
 (hk : ∀ a' w', LSt e n ok pl0 w0 h ia d q (listed.setIfInBounds i true) (f.put o.dst v) pl w' a' → K' a' w') : wpOpIn (RF r) 0 e.P ops Q' i K' a w := by
 obtain ⟨hd, g, v', hg, hv, rfl⟩ := hy;have hod := (ha.oth i o ho hi).2;have hli : (listed.setIfInBounds i true).getD ia false = listed.getD ia false := getD_set_ne false hi;unfold wpOpIn;rw [ho];dsimp only;rcases k with ⟨hl, s⟩ | ⟨hl, b, k⟩
 ·have hw := qH s.val hg;cases g with
  | true => rw [if_pos hw];refine (hv rfl).wpIn s fun x w' hx hr => hk _ _ (.inl ⟨hli.trans hl, (s.next0 (s.hs.wext hx) (hx.keeps s.hs)).put hd hr⟩)
  | false => rw [if_neg (by rw [hw]; simp)];exact ⟨fun g _ => gq r g, hk _ _ (.inl ⟨hli.trans hl, s.put hd (iy (fun hf => by cases hf) (fun _ => rfl))⟩)⟩
 ·have hw := qH k.s.val hg;have nx : ∀ x w', WExt w w' → VRel (cx (fun x => ok x ∧ x ≠ b) pl w') (V.guard g v') x → LSt e n ok pl0 w0 h ia d q (listed.setIfInBounds i true) (f.put o.dst (V.guard g v')) pl w' (a.put o.dst x) := by
   intro x w' hx hr;refine .inr ⟨hli.trans hl, b, ⟨(k.s.next0 (k.s.hs.wext hx) (hx.keeps k.s.hs)).put hd hr, ?_, ?_, k.ge, Nat.lt_of_lt_of_le k.lt hx.size, k.okb, k.npl, k.dn⟩⟩
   ·have := k.ptr;cases hdst : o.dst with
    | none => exact this
    | some j => have hjd : j ≠ d := fun hh => hod (by rw [hdst, hh]);simpa [Act.put, Array.getElem?_setIfInBounds_ne hjd] using this
   ·have x2 : CExt (fun _ => false) (cx ok (aZ pl h.length b) w) (cx ok (aZ pl h.length b) w') :=
     ⟨fun b' hb' hok => ⟨hok, hx.same b' hb'⟩, fun i b' _ hi => hi, fun b' arr' el' fz hb' => ⟨arr', fz, (hx.same b' (aU hb')).trans hb', rfl⟩⟩
    exact OAt.mono x2 (hx.same b k.lt) k.ob
  cases g with
  | true => rw [if_pos hw];exact (hv rfl).wpIn k.s fun x w' hx hr => hk _ _ (nx x w' hx hr)
  | false => rw [if_neg (by rw [hw]; simp)];exact ⟨fun g _ => gq r g, hk _ _ (nx _ _ (bW _) (iy (fun hf => by cases hf) (fun _ => rfl)))⟩
theorem LSt.alloc {ia : Nat} {d : Tmp} {q : TI} (ha : AlOk e.P n ops ia d q) {listed : Array Bool} (hsz : ia < listed.size) {f : Fr} {pl : Nat → Option Nat} {w : World} {a : Act} (k : LSt e n ok pl0 w0 h ia d q listed f pl w a)
 (hun : listed.getD ia true = false) {K' : Act → World → Prop} {Q' : Exit → Act → World → Prop}
 (hk : ∀ a' w', LSt e n ok pl0 w0 h ia d q (listed.setIfInBounds ia true) (f.put (some d) .any) pl w' a' → K' a' w') : wpOpIn (RF r) 0 e.P ops Q' ia K' a w := by
 obtain ⟨o, t, ho, hop, hg, hdst, hq⟩ := ha.op;have hl0 : listed.getD ia false = false := by simp only [Array.getD_eq_getD_getElem?, Array.getElem?_eq_getElem hsz, Option.getD_some] at hun ⊢;exact hun
 have hl1 : (listed.setIfInBounds ia true).getD ia false = true := by simp [hsz]
 rcases k with ⟨_, s⟩ | ⟨hl, _⟩
 ·unfold wpOpIn;rw [ho];dsimp only;have hgd : gd ops f o = some true := by unfold gd; rw [hg]
  rw [if_pos (qH s.val hgd)];obtain ⟨i, d', z, hT⟩ := aN hq;have hf := ha.fit;have hz : VList (cx ok pl w) q.zero.vc z.cells.toList := by
   rw [hT.zv] at hf ⊢; exact (dQ _ z).vc hf
  obtain ⟨h1, h2⟩ := tJ s.hs hz t (bW w);have hrun : (execOp a.eval o).run e.P w = .ok (.value (.pointer (some ⟨w.heap.size, 0, none⟩))) (w.alloc (.cells z.cells t)) := by
   have : (Instr.alloc t true (.tuple #[])).run e.P w = .ok (.pointer (some ⟨w.heap.size, 0, none⟩)) (w.alloc (.cells z.cells t)) := by unfold Instr.alloc;simp only [Sem.run_bind, hT.run_zero, Result.andThen];rfl
   have h3 : execOp a.eval o = (do pure (Next.value (← Instr.alloc t true (.tuple #[])))) := by simp [execOp, hop]
   rw [h3]; exact gm this
  have xw := WExt.alloc w (.cells z.cells t);refine ⟨fun g _ => gq r g, ?_⟩;have hnd : o.semAt (RF r).round a.eval = execOp a.eval o := by rw [dM];exact Oper.semAt_eq r a.eval o fun c hc => by rw [hop] at hc; cases hc
  rw [hnd, hrun];simp only [Oper.uponIn];refine hk _ _ (.inr ⟨hl1, w.heap.size, ?_⟩);rw [hdst];have npl : ∀ i, pl i ≠ some w.heap.size := fun i hi => by have := s.hs.lt i _ hi; omega
  have x : CExt (fun _ => false) (cx ok pl w) (cx (fun x => ok x ∧ x ≠ w.heap.size) pl (w.alloc (.cells z.cells t))) := by refine ⟨fun b' hb' hok => ⟨⟨⟨hok.1, ?_⟩, hok.2⟩, xw.same b' hb'⟩, fun i b' _ hi => hi, fun b' arr' el' fz hb' => ⟨arr', fz, (xw.same b' (aU hb')).trans hb', rfl⟩⟩;have hb' : b' < w.heap.size := hb';omega
  have hsz2 : (w.alloc (.cells z.cells t)).heap.size = w.heap.size + 1 := by rw [World.alloc]; simp
  have hs' : HSim e (fun x => ok x ∧ x ≠ w.heap.size) pl h (w.alloc (.cells z.cells t)) := by refine s.hs.recx x (fun b' hb' => ⟨s.hs.fresh b' (by omega), by omega⟩) (fun i b' hi => by have := s.hs.lt i b' hi; omega) (fun i b' hi => ⟨s.hs.okl i b' hi, fun hh => npl i (by rw [hi, hh])⟩) s.hs.inj ?_ s.hs.bare;intro i b' hi;obtain ⟨o', h3, h4⟩ := s.hs.obj i b' hi;exact ⟨o', h3, OAt.mono x (xw.same b' (s.hs.lt i b' hi)) h4⟩
  have kp' := s.kp.trans (xw.keeps s.hs);refine ⟨⟨hs', kp'.weaken (q := (f.put (some d) V.any).k) (fun i hi => by simpa [Fr.put] using hi), ?_, fun j => ?_, Ef.mono (fun i b' hi => x.pl i b' rfl hi) s.dfr⟩, ?_, ?_, s.kp.size, by omega, s.hs.fresh _ (Nat.le_refl _), npl, ha.dn⟩
  ·have := s.size;simpa [Act.put] using this
  ·by_cases hj : j = d
   ·subst hj;have : (f.put (some j) V.any).t j = .any := by simp [Fr.put]
    rw [this];simp only [VRel]
   ·have e1 : (f.put (some d) V.any).t j = f.t j := by simp [Fr.put, hj]
    rw [e1];have e2 : (a.put (some d) (.pointer (some ⟨w.heap.size, 0, none⟩))).tmps.getD j undef = a.tmps.getD j undef := by
     simp [Act.put, Array.getElem?_setIfInBounds_ne (Ne.symm hj)]
    rw [e2];exact VRel.mono x _ _ (s.val j)
  ·have hdn : d < a.tmps.size := by rw [s.size]; exact ha.dn
   simp [Act.put, hdn]
  ·obtain ⟨o', h3, h4⟩ := h1.obj h.length w.heap.size (by simp [aZ]);have : o' = .cells q.zero.vc := by rw [List.getElem?_append_right (Nat.le_refl _)] at h3;simpa using h3.symm
   subst this;exact h4
 ·rw [hl0] at hl; cases hl
theorem Np (hB : Nk ops = true) {listed : Array Bool} (hc : sK ops listed) (hr : ops.size - 1 ∈ Region.ready .any ops listed) : Region.ready .any ops (listed.setIfInBounds (ops.size - 1) true) = [] := by
 refine List.eq_nil_iff_forall_not_mem.2 fun j hj => ?_;obtain ⟨h0, o, ho, _⟩ := mem_ready.1 hj;have hlt := (Array.getElem?_eq_some_iff.1 ho).1;by_cases hjl : j = ops.size - 1
 ·subst hjl;rcases Nat.lt_or_ge (ops.size - 1) listed.size with h' | h'
  ·simp [h'] at h0
  ·simp [Array.getElem?_eq_none, h'] at h0
 ·rw [getD_set_ne true (Ne.symm hjl)] at h0;have := yL hB hc hr _ j rfl (by omega);rcases Nat.lt_or_ge j listed.size with h' | h'
  ·simp [h'] at h0 this; rw [h0] at this; cases this
  ·simp [Array.getElem?_eq_none h'] at this
theorem VZ {ia : Nat} {d : Tmp} {q : TI} (ha : AlOk e.P n ops ia d q) (hB : Nk ops = true) : ∀ (fuel : Nat) (listed : Array Bool) (f : Fr),
 uw e n ops h (ops.size - 1) (fun f1 => xg e n ops (ops.size - 1) (fun f' h' => Q .normal f' h') Q (f1.put (some d) (.lp h.length 0)) (h ++ [.cells q.zero.vc])) fuel listed f →
 sK ops listed → listed.size = ops.size → ∀ pl w a, LSt e n ok pl0 w0 h ia d q listed f pl w a → wpAnyIn (RF r) 0 e.P .any ops (iq e n ok pl0 w0 Q) (fuel + 1) listed a w := by
 have lastly : ∀ (fuel : Nat) (listed : Array Bool) (f : Fr), xg e n ops (ops.size - 1) (fun f' h' => Q .normal f' h') Q (f.put (some d) (.lp h.length 0)) (h ++ [.cells q.zero.vc]) → sK ops listed → ops.size - 1 ∈ Region.ready .any ops listed →
  ∀ pl w a, LSt e n ok pl0 w0 h ia d q listed f pl w a → wpOpIn (RF r) 0 e.P ops (iq e n ok pl0 w0 Q) (ops.size - 1) (wpAnyIn (RF r) 0 e.P .any ops (iq e n ok pl0 w0 Q) fuel (listed.setIfInBounds (ops.size - 1) true)) a w := by
  intro fuel listed f hv hc hr pl w a k;obtain ⟨o, t, ho, _⟩ := ha.op;have hial := (Array.getElem?_eq_some_iff.1 ho).1;have hne := ha.ne;have hl := yL hB hc hr _ ia rfl (by omega);rcases k with ⟨h0, _⟩ | ⟨_, b, k⟩
  ·rw [hl] at h0; cases h0
  ·exact kw hv (fun f' h' pl' w' a' s' hq => wpAnyIn_done (Np hB hc hr) ⟨pl', f', h', .normal, s', trivial, hq⟩ fuel) k.show
 intro fuel
 induction fuel with
 | zero =>
  intro listed f hL hc hsz pl w a k;refine ⟨fun h0 => (by rw [hL.1] at h0; cases h0), fun i hi => ?_⟩;have hil : i = ops.size - 1 := by rw [hL.1] at hi; simpa using hi
  subst hil;exact lastly _ _ _ hL.2 hc hi pl w a k
 | succ fuel ih =>
  intro listed f hL hc hsz pl w a k;refine ⟨fun h0 => absurd h0 hL.1, fun i hi => ?_⟩;by_cases hil : i = ops.size - 1
  ·subst hil;exact lastly _ _ _ (hL.2.1 (SI hB hc hi)) hc hi pl w a k
  ·have h1 := hL.2.2 i hi hil;obtain ⟨hun, o, ho, _⟩ := mem_ready.1 hi;unfold uu at h1;rw [ho] at h1;obtain ⟨v, hy, hn⟩ := h1;by_cases hia : i = ia
   ·subst hia;obtain ⟨o', t, ho', hop, hg, hdst, hq⟩ := ha.op;rw [ho] at ho';cases ho';have hal : gz o = true := by unfold gz; rw [hop]
    rcases hy with ⟨_, _, _, rfl⟩ | ⟨h2, _⟩
    ·rw [hdst] at hn;refine LSt.alloc ha (by rw [hsz]; exact (Array.getElem?_eq_some_iff.1 ho).1) k hun fun a' w' k' => ?_;exact ih _ _ hn (hc.set hi) (by simpa using hsz) pl w' a' k'
    ·rw [hal] at h2; cases h2
   ·rcases hy with ⟨h2, _⟩ | ⟨_, hy⟩
    ·rw [(ha.oth i o ho hia).1] at h2; cases h2
    ·refine Nl ha k ho hia hy fun a' w' k' => ?_;exact ih _ _ hn (hc.set hi) (by simpa using hsz) pl w' a' k'
def jO (e : E) (n : Nat) (ops : Array Oper) (h : H) (Q : Fr → Prop) : List Oper → Fr → Prop
 | [], f => Q f
 | o :: rest, f => match gz o with
  | true => o.guard = none ∧ jb n o.dst = true ∧ jO e n ops h Q rest (f.put o.dst .any)
  | false => match gd ops f o with
   | none => False
   | some g => jb n o.dst = true ∧
    match jl o.op with
    | true => match o.op with
     | .call { callee := .value fx, args, .. } => match kK e (f.ev e) fx args with
      | some (q, vs) => tZ e g q vs (jJ (f.ev e) fx args) o.dst (jO e n ops h Q rest) f
      | none => False
     | _ => False
    | false => goQ g (sF e.P o (f.ev e) h) o.dst (jO e n ops h Q rest) f
theorem iM {Q : Fr → Prop} : ∀ (l : List Oper) (f : Fr), jO e n ops h Q l f → lH e n ops h Q l f
 | [], f, hv => hv
 | o :: rest, f, hv => by
  simp only [jO] at hv;cases hal : gz o with
  | true => rw [hal] at hv;obtain ⟨h1, h2, h3⟩ := hv;exact ⟨_, .inl ⟨hal, h1, h2, rfl⟩, iM rest _ h3⟩
  | false =>
   rw [hal] at hv;dsimp only at hv;cases hg : gd ops f o with
   | none => rw [hg] at hv; exact hv.elim
   | some g =>
    rw [hg] at hv;obtain ⟨hd, hv⟩ := hv;cases he : jl o.op with
    | true =>
     rw [he] at hv;dsimp only at hv;split at hv
     ·rename_i fx args ts hop;split at hv
      ·rename_i q vs hon;obtain ⟨rv, h1, h2⟩ := hv;exact ⟨_, .inr ⟨hal, hd, g, rv, hg, fun hgt => AQ.call hop hon (h1 hgt).1 (h1 hgt).2.1 (h1 hgt).2.2.1 (h1 hgt).2.2.2, rfl⟩, iM rest _ h2⟩
      ·exact hv.elim
     ·exact hv.elim
    | false => rw [he] at hv;dsimp only at hv;obtain ⟨h1, h2⟩ := hv;exact ⟨_, .inr ⟨hal, hd, g, _, hg, fun hgt => mg (h1 hgt), rfl⟩, iM rest _ h2⟩
def UL (ops : Array Oper) : Bool := decide (0 < ops.size) && Nk ops && pU ops (ops.size - 1) (ops.size - 1) 0 (Array.replicate ops.size false)
theorem V3 {ops : Array Oper} : ∀ j, j < (ops.toList.take (ops.size - 1)).length → (ops.toList.take (ops.size - 1))[j]? = ops[0 + j]? := by intro j hj;rw [List.length_take] at hj;rw [List.getElem?_take, if_pos (by omega)];simp
def XN (P : Program) (n : Nat) (ops : Array Oper) (ia : Nat) (d : Tmp) : Bool := decide (ia + 1 < ops.size) && decide (d < n) &&
 (match ops[ia]? with | some o => o.guard.isNone && o.dst == some d | none => false) &&
 (List.range ops.size).all fun j => j == ia || match ops[j]? with | some o => !gz o && o.dst != some d | none => true
theorem SK {P : Program} {ia : Nat} {d : Tmp} {q : TI} (t : TypeId) (hop : (ops[ia]?).map (·.op) = some (.alloc t)) (hq : ti P t = some q) (hf : q.zero.fit = true) (hB : XN P n ops ia d = true) : AlOk P n ops ia d q := by
 unfold XN at hB;simp only [Bool.and_eq_true, decide_eq_true_eq] at hB;obtain ⟨⟨⟨h1, h2⟩, h3⟩, h4⟩ := hB;refine ⟨?_, hf, by omega, h2, fun j o ho hj => ?_⟩
 ·cases ho : ops[ia]? with
  | none => rw [ho] at hop; cases hop
  | some o => rw [ho] at hop h3;simp only [Option.map_some, Option.some.injEq] at hop;simp only [Bool.and_eq_true, beq_iff_eq, Option.isNone_iff_eq_none] at h3;exact ⟨o, t, rfl, hop, h3.1, h3.2, hq⟩
 ·have h5 := List.all_eq_true.1 h4 j (by simpa using (Array.getElem?_eq_some_iff.1 ho).1);rw [ho] at h5;simp only [Bool.or_eq_true, beq_iff_eq, hj, false_or, Bool.and_eq_true, Bool.not_eq_true', bne_iff_ne, ne_eq] at h5;exact h5
end
section
variable {e : E} {n : Nat} {r : Option Nat} {ops : Array Oper} {Q : XE → Fr → H → Prop} {ok : Nat → Prop} {pl0 : Nat → Option Nat} {w0 : World} {h : H}
def XO (ops : Array Oper) (last : Nat) : List Nat → Array Bool → Bool
 | [], listed => Region.ready .any ops listed == [last]
 | k :: ks, listed => (Region.ready .any ops listed).contains k && k != last && Region.free .any ops listed k && XO ops last ks (listed.setIfInBounds k true)
def wK (ops : Array Oper) (ks : List Nat) : List Oper := ks.filterMap fun k => ops[k]?
theorem oO {last : Nat} {Q : Fr → Prop} : ∀ (ks : List Nat) (listed : Array Bool) (f : Fr), XO ops last ks listed = true → lH e n ops h Q (wK ops ks) f → uw e n ops h last Q ks.length listed f
 | [], _, _, hB, h => ⟨by simpa [XO] using hB, h⟩
 | k :: ks, listed, f, hB, hh => by
  simp only [XO, Bool.and_eq_true] at hB;obtain ⟨⟨⟨hr, hne⟩, hf⟩, hB'⟩ := hB;obtain ⟨_, o, h0, _⟩ := mem_ready.1 (show k ∈ Region.ready .any ops listed by simpa using hr);have e1 : wK ops (k :: ks) = o :: wK ops ks := by simp [wK, h0]
  rw [e1] at hh;obtain ⟨v, hy, hK⟩ := hh;exact rD h0 (by simpa using hne) ks.length listed f (Region.free_spec h0 hf) (by simpa using hr) hy (oO ks _ _ hB' hK)
def dep (ops : Array Oper) (i j : Nat) : Bool := match ops[i]? with
 | some o => o.after.any fun e => Region.binds .any e && e.on == j
 | none => false
theorem yM {i j : Nat} (h : dep ops i j = true) : ∃ o, ops[i]? = some o ∧ ∃ e ∈ o.after, Region.binds .any e = true ∧ e.on = j := by
 unfold dep at h;split at h
 ·rename_i o ho;rw [Array.any_eq_true] at h;obtain ⟨q, hq, h3⟩ := h;rw [Bool.and_eq_true, beq_iff_eq] at h3;exact ⟨o, ho, _, Array.getElem_mem hq, h3.1, h3.2⟩
 ·cases h
def yN (ops : Array Oper) (tk pre : List Nat) (last : Nat) : Bool :=
 (pre.all fun i => (last :: pre).any fun j => decide (i < j) && dep ops j i) && (List.range ops.size).all fun i => tk.contains i || pre.contains i || i == last || dep ops i last
structure LI (ops : Array Oper) (tk pre : List Nat) (last : Nat) (listed : Array Bool) : Prop where
 clos : sK ops listed
 size : listed.size = ops.size
 took : ∀ i ∈ tk, i < ops.size → listed.getD i false = true
 tail : ∀ i, i ∉ tk → i ∉ pre → listed.getD i false = false
theorem LI.all {tk pre : List Nat} {last : Nat} {listed : Array Bool} (k : LI ops tk pre last listed) (hB : yN ops tk pre last = true) (hr : last ∈ Region.ready .any ops listed) : ∀ (m i : Nat), m = ops.size - i → i ∈ pre → listed.getD i false = true := by
 intro m
 induction m using Nat.strongRecOn with
 | _ m ih =>
  intro i hm hi;unfold yN at hB;rw [Bool.and_eq_true] at hB;have h1 := List.all_eq_true.1 hB.1 i hi;obtain ⟨j, hj, h2⟩ := List.any_eq_true.1 h1;rw [Bool.and_eq_true, decide_eq_true_eq] at h2;obtain ⟨hij, h2⟩ := h2;obtain ⟨o, ho, e, he, hb, hon⟩ := yM h2;have hjs := (Array.getElem?_eq_some_iff.1 ho).1;rw [← hon];rcases List.mem_cons.1 hj with rfl | hj
  ·obtain ⟨_, o', ho', hall⟩ := mem_ready.1 hr;rw [ho] at ho';cases ho';exact hall e he hb
  ·exact k.clos j o ho (ih (ops.size - j) (by omega) j rfl hj) e he hb
theorem Nq {listed : Array Bool} {i : Nat} (hi : i < listed.size) (d d' : Bool) : listed.getD i d = listed.getD i d' := by simp [hi]
theorem LI.one {tk pre : List Nat} {last : Nat} {listed : Array Bool} (k : LI ops tk pre last listed) (hB : yN ops tk pre last = true) (hl : last ∉ tk ∧ last ∉ pre) (hr : last ∈ Region.ready .any ops listed) : Region.ready .any ops listed = [last] := by
 have hall : ∀ j ∈ Region.ready .any ops listed, j = last := by
  intro j hj;obtain ⟨h0, o, ho, hdep⟩ := mem_ready.1 hj;have hlt := (Array.getElem?_eq_some_iff.1 ho).1;have hun : listed.getD j false = false := by rw [Nq (by rw [k.size]; exact hlt) false true]; exact h0
  have hB2 := hB;unfold yN at hB2;rw [Bool.and_eq_true] at hB2;have h2 := List.all_eq_true.1 hB2.2 j (by simpa using hlt);simp only [Bool.or_eq_true, List.contains_iff_mem, beq_iff_eq] at h2;rcases h2 with ((h2 | h2) | h2) | h2
  ·rw [k.took j h2 hlt] at hun; cases hun
  ·rw [k.all hB hr _ j rfl h2] at hun; cases hun
  ·exact h2
  ·obtain ⟨o', ho', e, he, hb, hon⟩ := yM h2;rw [ho] at ho';cases ho';have := hdep e he hb;rw [hon, k.tail last hl.1 hl.2] at this;cases this
 have hnd : (Region.ready .any ops listed).Nodup := by unfold Region.ready;exact List.Pairwise.filter _ List.nodup_range
 match hm : Region.ready .any ops listed with
 | [] => rw [hm] at hr; cases hr
 | [x] => rw [hall x (by rw [hm]; simp)]
 | x :: y :: l => exfalso;rw [hm] at hnd;have h1 := hall x (by rw [hm]; simp);have h2 := hall y (by rw [hm]; simp);simp [h1, h2] at hnd
def Xi (ops : Array Oper) (tk pre : List Nat) : Array Bool := ((List.range ops.size).map fun i => tk.contains i || pre.contains i).toArray
theorem LI.mid {tk pre : List Nat} {last : Nat} {listed : Array Bool} (k : LI ops tk pre last listed) (hB : yN ops tk pre last = true) (hr : last ∈ Region.ready .any ops listed) : listed = Xi ops tk pre := by
 apply Array.ext
 ·simp [Xi, k.size]
 ·intro i h1 h2;have hi : i < ops.size := by rw [← k.size]; exact h1
  have e1 : (Xi ops tk pre)[i] = (tk.contains i || pre.contains i) := by simp [Xi]
  have e2 : listed[i] = listed.getD i false := by simp [h1]
  rw [e1, e2];by_cases ht : i ∈ tk
  ·rw [k.took i ht hi]; simp [ht]
  ·by_cases hp : i ∈ pre
   ·rw [k.all hB hr _ i rfl hp]; simp [hp]
   ·rw [k.tail i ht hp]; simp [ht, hp]
theorem fJ {P : Program} : ∀ (p : Plan) (fuel k : Nat) (listed : Array Bool), (ai P ops p fuel listed = true → ai P ops p (fuel + k) listed = true) ∧ (ai.planAlts P ops p fuel listed = true → ai.planAlts P ops p (fuel + k) listed = true)
 | .fin, fuel, k, listed => by
  refine ⟨fun h => ?_, fun h => ?_⟩
  ·simpa [ai] using h
  ·simp [ai.planAlts] at h
 | .take i p, fuel, k, listed => by
  refine ⟨fun h => ?_, fun h => ?_⟩
  ·cases fuel with
   | zero => simp [ai] at h
   | succ fuel =>
    rw [show fuel + 1 + k = (fuel + k) + 1 by omega];simp only [ai] at h ⊢;cases ho : ops[i]? with
    | none => rw [ho] at h; simp at h
    | some o => rw [ho] at h;dsimp only at h ⊢;rw [Bool.and_eq_true] at h ⊢;exact ⟨h.1, (fJ p fuel k _).1 h.2⟩
  ·simp [ai.planAlts] at h
 | .one i p, fuel, k, listed => by
  refine ⟨fun h => ?_, fun h => ?_⟩
  ·cases fuel with
   | zero => simp [ai] at h
   | succ fuel => rw [show fuel + 1 + k = (fuel + k) + 1 by omega];simp only [ai] at h ⊢;rw [Bool.and_eq_true] at h ⊢;exact ⟨h.1, (fJ p fuel k _).1 h.2⟩
  ·simp only [ai.planAlts] at h ⊢;exact (fJ p fuel k _).1 h
 | .alt i p q, fuel, k, listed => by
  refine ⟨fun h => ?_, fun h => ?_⟩
  ·cases fuel with
   | zero => simp [ai] at h
   | succ fuel => rw [show fuel + 1 + k = (fuel + k) + 1 by omega];simp only [ai] at h ⊢;rw [Bool.and_eq_true, Bool.and_eq_true] at h ⊢;exact ⟨⟨h.1.1, (fJ p fuel k _).1 h.1.2⟩, (fJ q fuel k _).2 h.2⟩
  ·simp only [ai.planAlts] at h ⊢;rw [Bool.and_eq_true] at h ⊢;exact ⟨(fJ p fuel k _).1 h.1, (fJ q fuel k _).2 h.2⟩
theorem LI.step {tk pre : List Nat} {last : Nat} {listed : Array Bool} (k : LI ops tk pre last listed) (hB : yN ops tk pre last = true) (hl : last ∉ tk ∧ last ∉ pre) {i : Nat} (hi : i ∈ Region.ready .any ops listed) (hil : i ≠ last) : LI ops tk pre last (listed.setIfInBounds i true) := by
 obtain ⟨h0, o, ho, hdep⟩ := mem_ready.1 hi;have hlt := (Array.getElem?_eq_some_iff.1 ho).1;refine ⟨k.clos.set hi, by simpa using k.size, fun j hj hjs => getD_set_true (k.took j hj hjs), fun j h1 h2 => ?_⟩;by_cases hji : i = j
 ·subst hji;exfalso;have hB2 := hB;unfold yN at hB2;rw [Bool.and_eq_true] at hB2;have h3 := List.all_eq_true.1 hB2.2 i (by simpa using hlt);simp only [Bool.or_eq_true, List.contains_iff_mem, beq_iff_eq] at h3;rcases h3 with ((h3 | h3) | h3) | h3
  ·exact h1 h3
  ·exact h2 h3
  ·exact hil h3
  ·obtain ⟨o', ho', e, he, hb, hon⟩ := yM h3;rw [ho] at ho';cases ho';have := hdep e he hb;rw [hon, k.tail last hl.1 hl.2] at this;cases this
 ·rw [getD_set_ne false hji];exact k.tail j h1 h2
theorem UM (hna : ∀ (j : Nat) (o : Oper), ops[j]? = some o → gz o = false) (hQ : ∀ v f h, ¬ Q (.pan v) f h) (hpl : jc ops = true) {tk pre : List Nat} {last fp : Nat} {p : Plan} (hB : yN ops tk pre last = true) (hl : last ∉ tk ∧ last ∉ pre) (hp : ai e.P ops p fp (Xi ops tk pre) = true) : ∀ (fuel : Nat) (listed : Array Bool) (f : Fr),
 uw e n ops h last (fun f1 => eU e n ops Q p f1 h) fuel listed f → LI ops tk pre last listed → ∀ pl w a, SSim e n ok pl0 w0 f h pl w a → wpAnyIn (RF r) 0 e.P .any ops (iq e n ok pl0 w0 Q) (fp + fuel) listed a w := by
 have lastly : ∀ (fuel : Nat) (listed : Array Bool) (f : Fr), eU e n ops Q p f h → LI ops tk pre last listed → last ∈ Region.ready .any ops listed → ∀ pl w a, SSim e n ok pl0 w0 f h pl w a → wpAnyIn (RF r) 0 e.P .any ops (iq e n ok pl0 w0 Q) (fp + fuel) listed a w := by intro fuel listed f hv k hr pl w a s;have e1 := k.mid hB hr;subst e1;exact (iC hQ hpl p).1 (fp + fuel) _ f h ((fJ p fp fuel _).1 hp) hv pl w a s
 intro fuel
 induction fuel with
 | zero => intro listed f hL k pl w a s;exact lastly 0 listed f hL.2 k (by rw [hL.1]; simp) pl w a s
 | succ fuel ih =>
  intro listed f hL k pl w a s;by_cases hlr : last ∈ Region.ready .any ops listed
  ·exact lastly (fuel + 1) listed f (hL.2.1 (k.one hB hl hlr)) k hlr pl w a s
  ·rw [show fp + (fuel + 1) = (fp + fuel) + 1 by omega];refine ⟨fun h0 => absurd h0 hL.1, fun i hi => ?_⟩;have hil : i ≠ last := fun hh => hlr (hh ▸ hi);have h1 := hL.2.2 i hi hil;obtain ⟨hun, o, ho, _⟩ := mem_ready.1 hi;unfold uu at h1;rw [ho] at h1;obtain ⟨v, hy, hn⟩ := h1;have k' := k.step hB hl hi hil;rcases hy with ⟨h2, _⟩ | ⟨_, hd, g, v', hg, hv, rfl⟩
   ·rw [hna i o ho] at h2; cases h2
   ·unfold wpOpIn;rw [ho];dsimp only;have hw := qH s.val hg;cases g with
    | true => rw [if_pos hw];exact (hv rfl).wpIn s fun x w' hx hr => ih _ _ hn k' pl w' _ ((s.next0 (s.hs.wext hx) (hx.keeps s.hs)).put hd hr)
    | false => rw [if_neg (by rw [hw]; simp)];exact ⟨fun g _ => gq r g, ih _ _ hn k' pl w _ (s.put hd (iy (fun hf => by cases hf) (fun _ => rfl)))⟩
def qM (P : Program) (ops : Array Oper) : List Nat → Array Bool → Bool
 | [], _ => true
 | i :: is, listed => (match ops[i]? with | some o => lT P o.op | none => false) && (Region.ready .any ops listed).contains i && Region.free .any ops listed i && qM P ops is (listed.setIfInBounds i true)
def mV (listed : Array Bool) : List Nat → Array Bool
 | [] => listed
 | i :: is => mV (listed.setIfInBounds i true) is
def uy (e : E) (n : Nat) (ops : Array Oper) (Q : XE → Fr → H → Prop) (K : Fr → H → Prop) : List Nat → Fr → H → Prop
 | [], f, h => K f h
 | i :: is, f, h => xg e n ops i (uy e n ops Q K is) Q f h
theorem yO (hQ : ∀ v f h, ¬ Q (.pan v) f h) (hpl : jc ops = true) {K : Fr → H → Prop} {fuel : Nat} : ∀ (tk : List Nat) (listed : Array Bool) (f : Fr) (h : H), qM e.P ops tk listed = true → uy e n ops Q K tk f h →
 (∀ f h pl w a, K f h → SSim e n ok pl0 w0 f h pl w a → wpAnyIn (RF r) 0 e.P .any ops (iq e n ok pl0 w0 Q) fuel (mV listed tk) a w) → ∀ pl w a, SSim e n ok pl0 w0 f h pl w a → wpAnyIn (RF r) 0 e.P .any ops (iq e n ok pl0 w0 Q) (fuel + tk.length) listed a w
 | [], listed, f, h, _, hv, hk, pl, w, a, s => hk f h pl w a hv s
 | i :: is, listed, f, h, ht, hv, hk, pl, w, a, s => by
  simp only [qM, Bool.and_eq_true] at ht;obtain ⟨⟨⟨h1, h2⟩, h3⟩, h4⟩ := ht;cases ho : ops[i]? with
  | none => rw [ho] at h1; cases h1
  | some o => rw [ho] at h1;obtain ⟨x, f', hy, s', hk'⟩ := oL ho h1 hv s;refine ku h1 ho hpl ?_ (fuel + is.length) listed a w (Region.free_spec ho h3) (by simpa using h2) hy (yO hQ hpl is _ f' h h4 hk' hk pl w _ s');rintro c a w ⟨pl', f', h', xe, _, hx, hq⟩;cases xe <;> first | exact hx.elim | exact (hQ _ _ _ hq).elim
def oP (P : Program) (ops : Array Oper) (tk pre : List Nat) (last : Nat) (p : Plan) : Bool :=
 (ops.all fun o => !gz o) && jc ops && qM P ops tk (Array.replicate ops.size false) && XO ops last pre (mV (Array.replicate ops.size false) tk) && yN ops tk pre last &&
 (!tk.contains last && !pre.contains last) && ai P ops p (ops.size - tk.length - pre.length) (Xi ops tk pre) && decide (tk.length + pre.length ≤ ops.size)
theorem uz {tk : List Nat} {P : Program} : ∀ (is : List Nat) (listed : Array Bool), qM P ops is listed = true → sK ops listed → listed.size = ops.size → (∀ i ∈ tk, i ∉ is → i < ops.size → listed.getD i false = true) → (∀ i, i ∉ tk → listed.getD i false = false) → (∀ i ∈ is, i ∈ tk) →
 sK ops (mV listed is) ∧ (mV listed is).size = ops.size ∧ (∀ i ∈ tk, i < ops.size → (mV listed is).getD i false = true) ∧ (∀ i, i ∉ tk → (mV listed is).getD i false = false)
 | [], listed, _, hc, hs, ht, hn, _ => ⟨hc, hs, fun i hi hl => ht i hi (by simp) hl, hn⟩
 | i :: is, listed, hk, hc, hs, ht, hn, hm => by
  simp only [qM, Bool.and_eq_true] at hk;obtain ⟨⟨⟨_, h2⟩, _⟩, h4⟩ := hk;refine uz is _ h4 (hc.set (by simpa using h2)) (by simpa using hs) (fun j hj hji hjs => ?_) (fun j hj => ?_) (fun j hj => hm j (by simp [hj]))
  ·by_cases hij : i = j
   ·subst hij;have : i < listed.size := by omega
    simp [this]
   ·exact getD_set_true (ht j hj (by simp [hji, Ne.symm hij]) hjs)
  ·have hij : i ≠ j := fun hh => by subst hh;exact hj (hm i (by simp))
   rw [getD_set_ne false hij];exact hn j hj
theorem Nr (hm : e.P.follows .mixedOrders = true) {id : Nat} {f : Fr} (tk pre : List Nat) (last : Nat) (p : Plan) (R : Fr → H → Prop) (hB : oP e.P ops tk pre last p = true)
 (hv : uy e n ops (oM R) (fun f h => jO e n ops h (fun f1 => eU e n ops (oM R) p f1 h) (wK ops pre) f) tk f h) (hk : ∀ f h, R f h → Q .normal f h) : awp e n r (.region id ops true) Q f h := by
 intro ok pl0 w0 pl w a s;unfold oP at hB;simp only [Bool.and_eq_true, Bool.not_eq_true', decide_eq_true_eq] at hB;obtain ⟨⟨⟨⟨⟨⟨⟨b1, b2⟩, b3⟩, b4⟩, b5⟩, b6⟩, b7⟩, b8⟩ := hB;have hna : ∀ (j : Nat) (o : Oper), ops[j]? = some o → gz o = false := fun j o ho => by
  have h1 := Array.all_eq_true.1 b1;obtain ⟨hl, rfl⟩ := Array.getElem?_eq_some_iff.1 ho;simpa using h1 j hl
 have hl : last ∉ tk ∧ last ∉ pre := ⟨by simpa using b6.1, by simpa using b6.2⟩;have x : WExt w { w with drawn := w.drawn + 1 } := WExt.drew w;obtain ⟨c1, c2, c3, c4⟩ := uz (ops := ops) (tk := tk) tk (Array.replicate ops.size false) b3 sK.none (by simp) (fun i hi hni => absurd hi hni) (fun i hi => by
  rcases Nat.lt_or_ge i ops.size with h' | h' <;> simp [h']) (fun i hi => hi)
 have li : LI ops tk pre last (mV (Array.replicate ops.size false) tk) := ⟨c1, c2, c3, fun i h1 _ => c4 i h1⟩;have hQ : ∀ v f h, ¬ oM R (.pan v) f h := fun v f h hh => hh;have := yO (r := r) (ok := ok) (pl0 := pl0) (w0 := w0) (n := n) (e := e) (Q := oM R) (fuel := ops.size - tk.length - pre.length + pre.length) hQ b2 tk (Array.replicate ops.size false) f h b3 hv (fun f h pl w a hK s => by
  have hL := oO (e := e) (n := n) (h := h) pre (mV (Array.replicate ops.size false) tk) f b4 (iM _ _ hK);exact UM (r := r) hna hQ b2 b5 hl b7 _ _ _ hL li pl w a s) pl _ a (s.next0 (s.hs.wext x) (x.keeps s.hs))
 rw [show ops.size - tk.length - pre.length + pre.length + tk.length = ops.size by omega] at this;refine wpIn_mono (wpIn_region_any hm this) ?_;rintro ex a' w' ⟨pl', f', h', xe, s', hx, hq⟩;cases xe <;> first
  | exact ⟨pl', f', h', _, s', hx, hk _ _ hq⟩
  | exact hq.elim
end
section
variable {e : E} {n : Nat} {r : Option Nat} {ops : Array Oper} {h : H} {Q : XE → Fr → H → Prop}
theorem oQ (ops : Array Oper) : ∀ k : Nat, wK ops (List.range k) = ops.toList.take k
 | 0 => rfl
 | k + 1 => by
  have ih := oQ ops k;unfold wK at ih ⊢;rw [List.range_succ, List.filterMap_append, ih, List.take_add_one]
  congr 1
  rw [List.filterMap_cons, List.filterMap_nil, Array.getElem?_toList];cases ops[k]? <;> rfl
theorem uA {K : Fr → Prop} : ∀ (l : List Oper) (f : Fr), (∀ o ∈ l, gz o = false) → fG e n ops h K l f → jO e n ops h K l f
 | [], _, _, hv => hv
 | o :: rest, f, ha, hv => by
  have h0 := ha o (by simp);have hr := fun f' => uA (K := K) rest f' fun o' ho' => ha o' (by simp [ho']);simp only [jO, h0];simp only [fG] at hv;cases hg : gd ops f o with
  | none => rw [hg] at hv; exact hv.elim
  | some g =>
   rw [hg] at hv;refine ⟨hv.1, ?_⟩;have hv := hv.2;cases he : jl o.op with
   | false => rw [he] at hv;exact ⟨hv.1, hr _ hv.2⟩
   | true =>
    rw [he] at hv;simp only at hv ⊢;split at hv
    ·rename_i fx args ats heq;split at hv
     ·rename_i q vs hc;obtain ⟨rv, h1, h2⟩ := hv;simp only [heq, hc];exact ⟨rv, h1, hr _ h2⟩
     ·exact hv.elim
    ·exact hv.elim
theorem Ns (hm : e.P.follows .mixedOrders = true) {id : Nat} {f : Fr} (k : Nat) (p : Plan) (R : Fr → H → Prop) (hB : oP e.P ops [] (List.range k) k p = true)
 (hv : ∀ K : Fr → Prop, (∀ f1, eU e n ops (oM R) p f1 h → K f1) → fG e n ops h K (ops.toList.take k) f) (hk : ∀ f h, R f h → Q .normal f h) : awp e n r (.region id ops true) Q f h := by
 refine Nr hm [] (List.range k) k p R hB ?_ hk;simp only [uy];rw [oQ];refine uA _ _ (fun o ho => ?_) (hv _ fun f1 h => h);unfold oP at hB;simp only [Bool.and_eq_true] at hB;have b1 := Array.all_eq_true.1 hB.1.1.1.1.1.1.1;obtain ⟨i, hi, rfl⟩ := List.getElem_of_mem (List.mem_of_mem_take ho);have := b1 i (by simpa using hi);simpa using this
end
section
variable {e : E} {h : H}
theorem ah.fresh {g : FuncId} {args : List V} {R : AEnd → H → (Nat → Bool) → Prop} (hc : ah e g args h fun ae h' p => (∀ i, i < h.length → p i = false) ∧ R ae h' (fun _ => false)) : ah e g args h R :=
 fun ok pl w vs hs hl => (hc ok pl w vs hs hl).mono fun en w' ⟨p, pl', h', ae, h1, h2, h3, h4, h5⟩ =>
  ⟨fun _ => false, pl', h', ae, h1, ⟨h2.os, h2.tape, h2.output, h2.size, h2.same, h2.loc, fun i b _ hi => h2.keep i b (h4 i (hs.pl_lt hi)) hi, h2.row⟩, h3, h5⟩
end
section
variable {e : E} {n : Nat} {r : Option Nat} {o : Oper} {f : Fr} {h : H} {Kn : Fr → H → Prop} {Q : XE → Fr → H → Prop}
theorem JY {t : TypeId} {m k x : Operand} (hop : o.op = .insert t m k x) {id : Nat} (hm : (f.ev e m).sv = .lm id) (hmc : (f.ev e m).sc) (hkc : (f.ev e k).sc) (hxc : (f.ev e x).sc)
 {q : TI} (hq : ti e.P t = some q) {kt et : TypeId} (hkd : q.kind = .map kt et) {rk : TI} (hrk : ti e.P kt = some rk) (hko : rk.kind.keyOk (f.ev e k).sv = true)
 {ks vs : List V} (hc : h[id]? = some (.map ks vs)) {ks' vs' : List V} (hp : Ld rk.kind (f.ev e k).sv (f.ev e x).sv ks vs = some (ks', vs'))
 (hK : Kn (f.put o.dst iQ) (h.set id (.map ks' vs'))) : Eff e n r o f h Kn Q := by
 have h1 : Eff e n r { o with op := .mapUpdate t m k x } f h Kn Q := pg rfl hm hmc hkc hxc hq hkd hrk hko hc hp hK;intro ok pl0 w0 pl w a s hd;have h2 := h1 ok pl0 w0 pl w a s hd;refine ⟨fun g _ => gq r g, ?_⟩;have h3 := h2.2;rw [dM, Oper.semAt_eq r a.eval _ (fun c => by simp)] at h3;rw [dM, Oper.semAt_eq r a.eval _ (fun c => by rw [hop]; exact fun hh => by cases hh)];have e1 : execOp a.eval o = execOp a.eval { o with op := .mapUpdate t m k x } := by simp [execOp, hop]
 rw [e1];exact h3
def YW (kd : K) (key : V) (ks vs : List V) : Option (List V × List V) :=
 match iH kd key ks with
 | some (some n) => some (ks.eraseIdx n, vs.eraseIdx n)
 | some none => some (ks, vs)
 | none => none
theorem fQ {α β : Type} (g : α → β) : ∀ (l : List α) (i : Nat), (l.eraseIdx i).map g = (l.map g).eraseIdx i
 | [], i => rfl
 | a :: l, 0 => rfl
 | a :: l, i + 1 => by simp only [List.eraseIdx_cons_succ, List.map_cons, fQ g l i]
theorem JZ {t kt' : TypeId} {m k : Operand} {ts : Array TypeId} (hop : o.op = .call { callee := .builtin .delete, args := #[m, k], argTypes := ts }) (h0 : ts[0]? = some t) {id : Nat} (hm : (f.ev e m).sv = .lm id) (hmc : (f.ev e m).sc) (hkc : (f.ev e k).sc)
 {q : TI} (hq : ti e.P t = some q) {kt et : TypeId} (hkd : q.kind = .map kt et) {rk : TI} (hrk : ti e.P kt = some rk) (hko : rk.kind.keyOk (f.ev e k).sv = true)
 {ks vs : List V} (hc : h[id]? = some (.map ks vs)) {ks' vs' : List V} (hp : YW rk.kind (f.ev e k).sv ks vs = some (ks', vs'))
 (hK : Kn (f.put o.dst iQ) (h.set id (.map ks' vs'))) : Eff e n r o f h Kn Q := by
 refine aW ?_ (fun c => by rw [hop]; exact fun h => by cases h);intro ok pl w ev hs hr;obtain ⟨i, d, z, hT⟩ := aN hq;obtain ⟨ik, dk, zk, hKT⟩ := aN hrk;have hd := hT.map hkd; subst hd;have hmv := (hr m (by simp [hop, Op.operands, Call.operands])).sv hmc;rw [hm] at hmv;simp only [VRel] at hmv;obtain ⟨b, hb, hmb⟩ := hmv;have hkv := (hr k (by simp [hop, Op.operands, Call.operands])).sv hkc;obtain ⟨ob, ho', hat⟩ := hs.obj id b hb;rw [hc] at ho'; cases ho';obtain ⟨es, clk, h2, h3, h4, hmo⟩ := hat;simp only [cx] at h2;have fin : ∀ (es' : Array MapEntry) (clk' : Nat) , (Builtin.delete_ ts o.type #[ev m, ev k]).run e.P w = .ok (.tuple #[]) { w with heap := w.heap.setIfInBounds b (.map es' clk') } →
  VList (cx ok pl w) ks' (es'.toList.map (·.key)) → VList (cx ok pl w) vs' (es'.toList.map (·.val)) → Jt es' clk' →
  ∃ p v h' pl' w' x, ((execOp ev o).run e.P w = .ok (.value x) w' ∨ ((execOp ev o).run e.P w = .ok .skip w' ∧ x = undef)) ∧
   HSim e ok pl' h' w' ∧ Keeps p pl w pl' w' ∧ VRel (cx ok pl' w') v x ∧ (∀ i ∈ f.d, p i = false) ∧ Kn ((f.drop p).put o.dst v) h' := by
  intro es' clk' hrun g1 g2 g3;have hlt := aU h2;have hh : ({ w with heap := w.heap.setIfInBounds b (.map es' clk') } : World).heap[b]? = some (.map es' clk') := by simp [hlt]
  obtain ⟨hs', kk⟩ := hs.upd hb (.map ks' vs') (w' := { w with heap := w.heap.setIfInBounds b (.map es' clk') }) rfl rfl rfl (by simp) (fun i hi => by simp [Ne.symm hi]) (fun arr el fz ha => by rw [h2] at ha; cases ha)
   (fun kx => ⟨es', clk', hh, VList.mono kx _ _ g1, VList.mono kx _ _ g2, g3⟩)
  refine ⟨fun _ => false, iQ, _, pl, _, undef, .inl ?_, hs', kk, mr _, fun _ _ => rfl, by simpa using hK⟩;have h5 : execOp ev o = (do pure (Next.value (← Builtin.delete_ ts o.type #[ev m, ev k]))) := by
   simp [execOp, hop, resolve, invoke, builtin]
  rw [h5];simp only [Sem.run_bind, hrun, Result.andThen];rfl
 have hck := kJ hKT hkv hko es.isEmpty w;unfold YW at hp;split at hp
 ·rename_i j hj;cases hp;obtain ⟨a, h5, en, h6, rfl⟩ := nz (w := w) hKT hkv ks es.toList _ h3 hj;have hje : es[j]? = some en := by simpa using h6
  have hjl : j < es.size := (Array.getElem?_eq_some_iff.1 hje).1;have hel : (es.eraseIdxIfInBounds j).toList = es.toList.eraseIdx j := by rw [Array.eraseIdxIfInBounds, dif_pos hjl, Array.toList_eraseIdx]
  refine fin (es.eraseIdxIfInBounds j) clk ?_ ?_ ?_ ?_
  ·simp only [Builtin.delete_, h0, show (#[Value.map (some b), ev k] : Array Value)[0]? = some (Value.map (some b)) from rfl, show (#[Value.map (some b), ev k] : Array Value)[1]? = some (ev k) from rfl, Sem.run_bind, hT.run_und, Result.andThen, hmb, MapKept.run_getObj_map h2, hck, h5, Nat.zero_add];rw [MapKept.run_setObj_map _ h2];rfl
  ·rw [hel, fQ]; exact h3.eraseIdx j
  ·rw [hel, fQ]; exact h4.eraseIdx j
  ·refine ⟨fun y hy => hmo.1 y ?_, ?_⟩
   ·rw [hel] at hy; exact List.mem_of_mem_eraseIdx hy
   ·rw [hel, fQ];exact hmo.2.sublist (List.eraseIdx_sublist _ _)
 ·rename_i hj;cases hp;obtain ⟨a, h5, rfl⟩ := nz (w := w) hKT hkv ks es.toList _ h3 hj;refine fin es clk ?_ h3 h4 hmo;simp only [Builtin.delete_, h0, show (#[Value.map (some b), ev k] : Array Value)[0]? = some (Value.map (some b)) from rfl, show (#[Value.map (some b), ev k] : Array Value)[1]? = some (ev k) from rfl, Sem.run_bind, hT.run_und, Result.andThen, hmb, MapKept.run_getObj_map h2, hck, h5];rw [MapKept.run_setObj_map _ h2];simp only [Sem.run_pure, World.mk.injEq, Result.ok.injEq, and_true, true_and]
 ·cases hp
end
end Go.Abs
