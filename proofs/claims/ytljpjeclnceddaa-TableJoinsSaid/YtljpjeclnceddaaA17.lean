/- Abstract values, heaps and frames over the calculus, part 17. -/
import Derived.Test.YtljpjeclnceddaaA16y
set_option linter.unusedVariables false
set_option linter.unusedSimpArgs false
namespace Go.Abs
open Go.RowKit

/-- Both ways of a test. -/
def vcB (b : Bool) (X Y : Fr → H → Prop) (f : Fr) (h : H) : Prop := (b = true → X f h) ∧ (b = false → Y f h)
theorem vcB_true (X Y : Fr → H → Prop) (f : Fr) (h : H) : vcB true X Y f h = X f h := by simp [vcB]
theorem vcB_false (X Y : Fr → H → Prop) (f : Fr) (h : H) : vcB false X Y f h = Y f h := by simp [vcB]
theorem vcB.mk {b : Bool} {X Y : Fr → H → Prop} {f : Fr} {h : H} (h1 : b = true → X f h) (h2 : b = false → Y f h) : vcB b X Y f h := ⟨h1, h2⟩

/-- Behind a call. -/
def callK (dst : Option Tmp) (Kn : Fr → H → Prop) (Q : XE → Fr → H → Prop) (f : Fr) (ae : AEnd) (h' : H) (p : Nat → Bool) : Prop :=
  (∀ i ∈ f.d, p i = false) ∧ match ae with
    | .ret v => Kn ((f.drop p).put dst v) h'
    | .pan v => Q (.pan v) (f.drop p) h'

/-- Both answers to a question. -/
def vcAsk (c : Prop) (dst : Option Tmp) (x : Bool) (Kn : Fr → H → Prop) (f : Fr) (h : H) : Prop := ∀ b : Bool, (b = true → c) → Kn (f.put dst (.bool (b == x))) h

/-- A round. -/
def yieldK (e : E) (n' id : Nat) (t : Nat → V) (ps : Array Tmp) (asg body : Code) (dst : Option Tmp) (Kn : Fr → H → Prop) (f : Fr) (vs : List V) (h : H) : Prop :=
  ∀ l, awp e n' (some l) asg (XE.seq (beginK e n' l id body dst Kn f) (fun _ _ _ => False)) (putAll { t := t } ps.toList vs) h

/-- A new call: what it leads to is asked of ACalls. -/
def vcCall (e : E) (n : Nat) (dst : Option Tmp) (fx : Operand) (args : Array Operand) (f : Fr) (h : H) (Kn : Fr → H → Prop) (Q : XE → Fr → H → Prop) : Prop :=
  match callOn e (f.ev e) fx args with
  | some (g, vs) => callSc (f.ev e) fx args ∧ enters e.P g = true ∧ ACalls e g vs h (callK dst Kn Q f)
  | none => match (f.ev e fx).sv with
    | .yd id => match h[id]? with
      | some (.loop t n' ps asg body .ready pend) => (callSc (f.ev e) fx args ∧ args.size = ps.size ∧ (ps.toList.all fun p => decide (p < n')) = true) ∧ yieldK e n' id t ps asg body dst Kn f (args.toList.map fun x => (f.ev e x).sv) h
      | _ => False
    | _ => False

def vcAppend (e : E) (dst : Option Tmp) (x y : Operand) (t xt : TypeId) (f : Fr) (h : H) (Kn : Fr → H → Prop) : Prop :=
  match ti e.P t with
  | some q => match q.kind with
    | .slice el => match ti e.P el with
      | some re => (re.zero.fit = true ∧ re.zero.vc.length = re.size ∧ 0 < re.size ∧ (f.ev e x).sc ∧ (f.ev e y).sc ∧ srcTy e.P xt el (f.ev e y).sv = true ∧ srcFit re.size (f.ev e y).sv = true) ∧
        match srcEls h re.size (f.ev e y).sv with
        | some (m, cs) => match (f.ev e x).sv with
          | .ls id k off len cap => match h[id]? with
            | some (.cells cs0) => (k = re.size ∧ off = 0 ∧ cs0.length = len * re.size ∧ allOne cs = true ∧ len + m ≤ maxLen ∧ (len + m) * re.bytes ≤ 140737488355328 ∧ (∀ i ∈ f.d, (i == id) = false)) ∧
              Kn ((f.drop (· == id)).put dst (.ls id re.size 0 (len + m) (len + m))) ((h.map (O.drop (· == id))).set id (.cells (V.drops (· == id) (cs0 ++ cs))))
            | _ => False
          | xv => match srcEls h re.size xv with
            | some (n0, cs0) => (isExact xv = true ∧ srcFit re.size xv = true ∧ (n0 = 0 ∨ 0 < m) ∧ n0 + m ≤ maxLen ∧ (n0 + m) * re.bytes ≤ 140737488355328) ∧
              Kn (f.put dst (.ls h.length re.size 0 (n0 + m) (n0 + m))) (h ++ [.cells (cs0 ++ cs)])
            | none => False
        | none => False
      | none => False
    | _ => False
  | none => False

/-- A slice is asked whether it is nil: of data, and of local rows that hold nothing, both answers are looked at. -/
def vcNil (e : E) (op : BinOp) (dst : Option Tmp) (t : TypeId) (x : Operand) (f : Fr) (h : H) (Kn : Fr → H → Prop) : Prop :=
  match ti e.P t with
  | some q => match q.kind with
    | .slice _ => (f.ev e x).sc ∧ match (f.ev e x).sv with
      | .nils => Kn (f.put dst (.bool (op == .eql))) h
      | .is _ _ es => vcAsk (es = []) dst (op == .eql) Kn f h
      | .ls _ _ _ len _ => vcAsk (len = 0) dst (op == .eql) Kn f h
      | _ => False
    | _ => False
  | none => False

/-- The letter of a text at a place, and how wide it stands. -/
def decV (l : List UInt8) (pos : Nat) : Nat × Nat := Utf8.decode ⟨l.toArray⟩ pos

/-- A step through a text. -/
def vcNext (b : Bool) (l : List UInt8) (pos id : Nat) (dst : Option Tmp) (Kn : Fr → H → Prop) (f : Fr) (h : H) : Prop :=
  match b with
  | true => Kn (f.put dst (.tup [.bool true, .int .i64 pos, .int .i32 (decV l pos).1])) (h.set id (.misc (.siter l (pos + (decV l pos).2))))
  | false => Kn (f.put dst (.tup [.bool false])) h

/-- What an operation that turns the heap, calls, or panics comes to. -/
def vcEff (e : E) (n : Nat) (o : Oper) (f : Fr) (h : H) (Kn : Fr → H → Prop) (Q : XE → Fr → H → Prop) : Prop :=
  match o.op with
  | .alloc t => match ti e.P t with
    | some q => q.zero.fit = true ∧ Kn (f.put o.dst (.lp h.length 0)) (h ++ [.cells q.zero.vc])
    | none => False
  | .box t x => ((f.ev e x).sc ∧ (f.ev e x).sv.fit = true) ∧ Kn (f.put o.dst (.lp h.length 0)) (h ++ [.cells (f.ev e x).sv.vc])
  | .store t x y => match (f.ev e x).sv, ti e.P t with
    | .lp id off, some q => match h[id]? with
      | some (.cells cs) => ((f.ev e x).sc ∧ (f.ev e y).sc ∧ (f.ev e y).sv.fit = true ∧ allOne (f.ev e y).sv.vc = true ∧ (f.ev e y).sv.vc.length = q.size ∧ off + (f.ev e y).sv.vc.length ≤ cs.length) ∧
        Kn (f.put o.dst undefV) (h.set id (.cells (splice cs off (f.ev e y).sv.vc)))
      | _ => False
    | _, _ => False
  | .range t x => match ti e.P t, (f.ev e x).sv with
    | some q, .str l => (q.kind = .str ∧ (f.ev e x).sc) ∧ Kn (f.put o.dst (.lp h.length 0)) (h ++ [.misc (.siter l 0)])
    | _, _ => False
  | .next x true => match (f.ev e x).sv with
    | .lp id 0 => match h[id]? with
      | some (.misc (.siter l pos)) => (f.ev e x).sc ∧ vcNext (decide (pos < l.length)) l pos id o.dst Kn f h
      | _ => False
    | _ => False
  | .makeMap _ none => Kn (f.put o.dst (.lm h.length)) (h ++ [.map [] []])
  | .mapUpdate t m k x => match (f.ev e m).sv, ti e.P t with
    | .lm id, some q => match q.kind, h[id]? with
      | .map kt et, some (.map ks vs) => match ti e.P kt with
        | some rk => match mput rk.kind (f.ev e k).sv (f.ev e x).sv ks vs with
          | some (ks', vs') => ((f.ev e m).sc ∧ (f.ev e k).sc ∧ (f.ev e x).sc ∧ rk.kind.keyOk (f.ev e k).sv = true) ∧ Kn (f.put o.dst undefV) (h.set id (.map ks' vs'))
          | none => False
        | none => False
      | _, _ => False
    | _, _ => False
  | .call c => match c.callee, c.args.toList, c.argTypes.toList with
    | .value fx, _, _ => vcCall e n o.dst fx c.args f h Kn Q
    | .builtin .append, [x, y], t :: xt :: _ => vcAppend e o.dst x y t xt f h Kn
    | _, _, _ => False
  | .binOp .eql t x (.const (.slice none 0 0)) _ => vcNil e .eql o.dst t x f h Kn
  | .binOp .neq t x (.const (.slice none 0 0)) _ => vcNil e .neq o.dst t x f h Kn
  | _ => False

def isEff : Op → Bool
  | .range _ _ | .next _ _ | .alloc _ | .box _ _ | .store _ _ _ | .makeMap _ _ | .mapUpdate _ _ _ _ => true
  | .binOp .eql _ _ (.const (.slice none 0 0)) _ | .binOp .neq _ _ (.const (.slice none 0 0)) _ => true
  | .call c => match c.callee with
    | .builtin .append => true
    | .builtin _ => false
    | _ => true
  | _ => false

section
variable {e : E} {n : Nat} {r : Option Nat} {o : Oper} {f : Fr} {h : H} {Kn : Fr → H → Prop} {Q : XE → Fr → H → Prop}

theorem vcAppend_ok {x y : Operand} {t xt : TypeId} {ts : Array TypeId} (hop : o.op = .call { callee := .builtin .append, args := #[x, y], argTypes := ts }) (h0 : ts[0]? = some t) (h1 : ts[1]? = some xt)
    (hv : vcAppend e o.dst x y t xt f h Kn) : Eff e n r o f h Kn Q := by
  unfold vcAppend at hv
  split at hv
  · rename_i q hq
    split at hv
    · rename_i el hk
      split at hv
      · rename_i re hre
        obtain ⟨⟨z1, z2, z3, c1, c2, c3, c4⟩, hv⟩ := hv
        have ha : IsAppend e o x y t xt el q re := ⟨⟨ts, hop, h0, h1⟩, hq, hk, hre, z1, z2, z3⟩
        split at hv
        · rename_i m cs hcs
          split at hv
          · rename_i id k off len cap hx
            split at hv
            · rename_i cs0 hc0
              obtain ⟨⟨rfl, rfl, d3, d4, d5, d6, d7⟩, hk'⟩ := hv
              exact eff_append_grow ha c1 c2 hx hc0 d3 c3 hcs c4 d4 d5 d6 d7 hk'
            · exact hv.elim
          · split at hv
            · rename_i n0 cs0 hx
              obtain ⟨⟨d1, d2, d3, d4, d5⟩, hk'⟩ := hv
              exact eff_append_fresh ha c1 c2 d1 c3 hx d2 hcs c4 d3 d4 d5 hk'
            · exact hv.elim
        · exact hv.elim
      · exact hv.elim
    · exact hv.elim
  · exact hv.elim

theorem eff_range {t : TypeId} {x : Operand} (hop : o.op = .range t x) {q : TI} (hq : ti e.P t = some q) (hk0 : q.kind = .str) (hsc : (f.ev e x).sc) {l : List UInt8} (hx : (f.ev e x).sv = .str l)
    (hk : Kn (f.put o.dst (.lp h.length 0)) (h ++ [.misc (.siter l 0)])) : Eff e n r o f h Kn Q := by
  refine Eff.of_EffV ?_ (fun c => by rw [hop]; exact fun h => by cases h)
  intro ok pl w ev hs hr
  obtain ⟨i, d, z, hT⟩ := ti_some hq
  have h1 := (hr x (by simp [hop, Op.operands])).sv hsc
  rw [hx] at h1
  simp only [VRel] at h1
  obtain ⟨s, hs1, hs2, hs3⟩ := h1
  have hb : (w.alloc (.stringIter s 0)).heap[w.heap.size]? = some (.stringIter s 0) := World.alloc_heap_new w _
  obtain ⟨h1, h2⟩ := hs.new (WExt.alloc w (.stringIter s 0)) (.stringIter s 0) (.misc (.siter l 0)) (Nat.le_refl _) (by simp) ⟨s, hs2, hs3, hb⟩
  refine ⟨fun _ => false, .lp h.length 0, _, _, _, .pointer (some ⟨w.heap.size, 0, none⟩), .inl ?_, h1, h2, ?_, fun _ _ => rfl, by simpa using hk⟩
  · have h3 : execOp ev o = (do pure (Next.value (← Instr.range t (ev x)))) := by simp [execOp, hop]
    rw [h3]
    refine run_v ?_
    unfold Instr.range
    simp only [Sem.run_bind, hT.run_und, Result.andThen]
    rw [hT.str hk0, hs1]
    rfl
  · simp only [VRel]; exact ⟨w.heap.size, by simp [cx, plNew], rfl⟩

theorem eff_next {x : Operand} (hop : o.op = .next x true) (hsc : (f.ev e x).sc) {id : Nat} (hx : (f.ev e x).sv = .lp id 0) {l : List UInt8} {pos : Nat} (hc : h[id]? = some (.misc (.siter l pos)))
    (hk : vcNext (decide (pos < l.length)) l pos id o.dst Kn f h) : Eff e n r o f h Kn Q := by
  refine Eff.of_EffV ?_ (fun c => by rw [hop]; exact fun h => by cases h)
  intro ok pl w ev hs hr
  have h1 := (hr x (by simp [hop, Op.operands])).sv hsc
  rw [hx] at h1
  simp only [VRel] at h1
  obtain ⟨b, hb, hxv⟩ := h1
  have hb : pl id = some b := hb
  obtain ⟨ob, ho, hat⟩ := hs.obj id b hb
  rw [hc] at ho; cases ho
  obtain ⟨s, hs2, hs3, hheap⟩ := hat
  have hheap : w.heap[b]? = some (.stringIter s pos) := hheap
  have hsz : s.size = l.length := by rw [← hs2]; exact (Array.length_toList).symm
  have hdec : Utf8.decode s pos = decV l pos := by unfold decV; rw [← hs2]
  have h3 : execOp ev o = (do pure (Next.value (← Instr.next (ev x) true o.type))) := by simp [execOp, hop]
  have hlt := hs.lt id b hb
  cases hp : decide (pos < l.length) with
  | true =>
    rw [hp] at hk
    have hp' : pos < l.length := by simpa using hp
    obtain ⟨h1, h2⟩ := hs.upd (w' := w.putObj b (.stringIter s (pos + (decV l pos).2))) hb (.misc (.siter l (pos + (decV l pos).2))) rfl rfl rfl (by simp) (fun i hi => World.putObj_heap_other hi)
      (fun arr el fz hh => by rw [hheap] at hh; cases hh) (fun k => ⟨s, hs2, hs3, World.putObj_heap_same hlt⟩)
    refine ⟨fun _ => false, .tup [.bool true, .int .i64 pos, .int .i32 (decV l pos).1], _, pl, _, .tuple #[.bool true, goInt pos, .int .i32 (decV l pos).1], .inl ?_, h1, h2, ?_, fun _ _ => rfl, by simpa [vcNext] using hk⟩
    · rw [h3, hxv]
      refine run_v ?_
      have : pos < s.size := by omega
      simp [Instr.next, getObj, setObj, Sem.run, hheap, Result.andThen, this, hdec, World.putObj]
    · simp only [VRel, VList]
      exact ⟨_, rfl, _, _, rfl, rfl, _, _, rfl, rfl, _, _, rfl, rfl, rfl⟩
  | false =>
    rw [hp] at hk
    have hp' : ¬ pos < l.length := by simpa using hp
    refine ⟨fun _ => false, .tup [.bool false], h, pl, w, .tuple #[.bool false], .inl ?_, hs, Keeps.refl pl w, ?_, fun _ _ => rfl, by simpa [vcNext] using hk⟩
    · rw [h3, hxv]
      refine run_v ?_
      have : ¬ pos < s.size := by omega
      simp [Instr.next, getObj, setObj, Sem.run, hheap, Result.andThen, this]
    · simp only [VRel, VList]
      exact ⟨_, rfl, _, _, rfl, rfl, rfl⟩

theorem run_slice_nil {P : Program} {t : TypeId} {q : TI} {i : TypeInfo} {d : TypeDesc} {z : Value} (h : TIs P t q i d z) {el : Nat} (hk : q.kind = .slice el) (a : Option Addr) (l c : Nat) (w : World) :
    (Op.equal t (.slice a l c) (.slice none 0 0)).run P w = .ok a.isNone w := by
  unfold Op.equal Op.maxDepth Op.equalIn
  simp only [Sem.run_bind, h.run_und, Result.andThen]
  rw [h.slice hk]
  cases a <;> rfl

theorem Eff.of_value {S : V → Prop} (hnd : ∀ c, o.op ≠ .defer c) (hq : ∀ ok pl w (ev : Operand → Value), HSim e ok pl h w → (∀ x ∈ o.op.operands, VRel (cx ok pl w) (f.ev e x) (ev x)) →
      ∃ x v, (execOp ev o).run e.P w = .ok (.value x) w ∧ VRel (cx ok pl w) v x ∧ S v) (hk : ∀ v, S v → Kn (f.put o.dst v) h) : Eff e n r o f h Kn Q := by
  refine Eff.of_EffV (fun ok pl w ev hs hr => ?_) hnd
  obtain ⟨x, v, h1, h2, h3⟩ := hq ok pl w ev hs hr
  exact ⟨fun _ => false, v, h, pl, w, x, .inl h1, hs, Keeps.refl pl w, h2, fun _ _ => rfl, by simpa using hk v h3⟩

theorem vcNil_ok {op : BinOp} (hop' : op = .eql ∨ op = .neq) {t t2 : TypeId} {x : Operand} (hop : o.op = .binOp op t x (.const (.slice none 0 0)) t2) (hv : vcNil e op o.dst t x f h Kn) : Eff e n r o f h Kn Q := by
  unfold vcNil at hv
  split at hv
  · rename_i q hq
    obtain ⟨ii, d, z, hT⟩ := ti_some hq
    split at hv
    · rename_i el hk
      obtain ⟨hsc, hv⟩ := hv
      have exec : ∀ (ev : Operand → Value) (w : World) (a : Option Addr) (l c : Nat), ev x = .slice a l c → ev (.const (.slice none 0 0)) = .slice none 0 0 → (execOp ev o).run e.P w = .ok (.value (.bool (a.isNone == (op == .eql)))) w := by
        intro ev w a l c hx hy
        have hb : (binOp op t (.slice a l c) (.slice none 0 0)).run e.P w = .ok (.bool (a.isNone == (op == .eql))) w := by
          rcases hop' with rfl | rfl
          · show (do pure (Value.bool (← Op.equal t _ _)) : Sem Value).run e.P w = _
            simp [run_slice_nil hT hk, Result.andThen]
          · show (do pure (Value.bool (!(← Op.equal t _ _))) : Sem Value).run e.P w = _
            simp only [Sem.run_bind, run_slice_nil hT hk, Result.andThen]
            cases a <;> rfl
        have h3 : execOp ev o = (do pure (Next.value (← (do eqGuard op t x (.const (.slice none 0 0)) (ev x) (ev (.const (.slice none 0 0))); binOp op t (ev x) (ev (.const (.slice none 0 0))))))) := by simp [execOp, hop]
        rw [h3, hx, hy]
        refine run_v ?_
        simp [run_eqGuard (x := x) (y := .const (.slice none 0 0)) (op := op) (t := t) (P := e.P) w (a := .slice a l c) (b := .slice none 0 0) (.inl ⟨by simp, by simp⟩), Result.andThen, hb]
      have hy : ∀ (c : C) (y : Value), VRel c (f.ev e (.const (.slice none 0 0))) y → y = .slice none 0 0 := by
        intro c y h1
        have h2 : f.ev e (.const (.slice none 0 0)) = .nils := rfl
        rw [h2] at h1
        simpa only [VRel] using h1
      have nd : ∀ c, o.op ≠ .defer c := fun c => by rw [hop]; exact fun h => by cases h
      split at hv
      · rename_i hx
        refine Eff.of_value (S := fun v => v = .bool (op == .eql)) nd (fun ok pl w ev hs hr => ?_) (fun v hv' => by subst hv'; exact hv)
        have h1 := (hr x (by simp [hop, Op.operands])).sv hsc
        rw [hx] at h1
        simp only [VRel] at h1
        refine ⟨_, _, exec ev w none 0 0 h1 (hy _ _ (hr _ (by simp [hop, Op.operands]))), ?_, rfl⟩
        simp [VRel]
      · rename_i ex k es hx
        refine Eff.of_value (S := fun v => ∃ b : Bool, (b = true → es = []) ∧ v = .bool (b == (op == .eql))) nd (fun ok pl w ev hs hr => ?_) (fun v hv' => by obtain ⟨b, h1, rfl⟩ := hv'; exact hv b h1)
        have h1 := (hr x (by simp [hop, Op.operands])).sv hsc
        rw [hx] at h1
        simp only [VRel] at h1
        obtain ⟨a, cp, h2, h3, h4, h5, h6⟩ := h1
        refine ⟨_, _, exec ev w a _ cp h2 (hy _ _ (hr _ (by simp [hop, Op.operands]))), ?_, a.isNone, fun hn => ?_, rfl⟩
        · simp [VRel]
        · rcases h6 with h6 | ⟨b, off, h6, _⟩
          · exact h6
          · rw [h6] at hn; cases hn
      · rename_i id k off len cap hx
        refine Eff.of_value (S := fun v => ∃ b : Bool, (b = true → len = 0) ∧ v = .bool (b == (op == .eql))) nd (fun ok pl w ev hs hr => ?_) (fun v hv' => by obtain ⟨b, h1, rfl⟩ := hv'; exact hv b h1)
        have h1 := (hr x (by simp [hop, Op.operands])).sv hsc
        rw [hx] at h1
        simp only [VRel] at h1
        obtain ⟨a, cp, h2, h3, h4, h5, h6⟩ := h1
        refine ⟨_, _, exec ev w a _ cp h2 (hy _ _ (hr _ (by simp [hop, Op.operands]))), ?_, a.isNone, fun hn => ?_, rfl⟩
        · simp [VRel]
        · rcases h6 with h6 | ⟨b, arr, el, fz, h7, h6, _⟩
          · omega
          · rw [h6] at hn; cases hn
      · exact hv.elim
    · exact hv.elim
  · exact hv.elim

theorem vcEff_ok (hv : vcEff e n o f h Kn Q) : Eff e n r o f h Kn Q := by
  unfold vcEff at hv
  split at hv
  · rename_i t hop
    split at hv
    · rename_i q hq; exact eff_alloc hop hq hv.1 hv.2
    · exact hv.elim
  · rename_i t x hop; exact eff_box hop hv.1.1 hv.1.2 hv.2
  · rename_i t x y hop
    split at hv
    · rename_i id off q hx hq
      split at hv
      · rename_i cs hc
        obtain ⟨⟨c1, c2, c3, c4, c5, c6⟩, hk⟩ := hv
        exact eff_store hop hx c1 c2 hq c3 c4 c5 hc c6 hk
      · exact hv.elim
    · exact hv.elim
  · rename_i t x hop
    split at hv
    · rename_i q l hq hx; exact eff_range hop hq hv.1.1 hv.1.2 hx hv.2
    · exact hv.elim
  · rename_i x hop
    split at hv
    · rename_i id hx
      split at hv
      · rename_i l pos hc; exact eff_next hop hv.1 hx hc hv.2
      · exact hv.elim
    · exact hv.elim
  · rename_i t hop; exact eff_makeMap hop hv
  · rename_i t m k x hop
    split at hv
    · rename_i id q hm hq
      split at hv
      · rename_i kt et ks vs hkd hc
        split at hv
        · rename_i rk hrk
          split at hv
          · rename_i ks' vs' hp
            obtain ⟨⟨c1, c2, c3, c4⟩, hk⟩ := hv
            exact eff_mapUpdate hop hm c1 c2 c3 hq hkd hrk c4 hc hp hk
          · exact hv.elim
        · exact hv.elim
      · exact hv.elim
    · exact hv.elim
  · rename_i c hop
    obtain ⟨callee, args, argTypes⟩ := c
    dsimp only at hv
    split at hv
    · rename_i fx
      unfold vcCall at hv
      split at hv
      · rename_i g vs hon
        exact eff_call hop hon hv.1 hv.2.1 hv.2.2
      · split at hv
        · rename_i id hfx
          split at hv
          · rename_i t n' ps asg body pend hc
            exact eff_yield hop hfx hv.1.1 hc hv.1.2.1 hv.1.2.2 hv.2
          · exact hv.elim
        · exact hv.elim
    · rename_i x y t xt rest hargs hts
      have ha : args = #[x, y] := by rw [← hargs]
      subst ha
      exact vcAppend_ok hop (by have := congrArg (·[0]?) hts; simpa using this) (by have := congrArg (·[1]?) hts; simpa using this) hv
    · exact hv.elim
  · rename_i t x t2 hop; exact vcNil_ok (.inl rfl) hop hv
  · rename_i t x t2 hop; exact vcNil_ok (.inr rfl) hop hv
  · exact hv.elim
end

/-! ### A region in the text's order -/
/-- An operation that is passed over. -/
def skipK (d : Option Tmp) (Kn : Fr → H → Prop) (f : Fr) (h : H) : Prop := ∃ v, Kn (f.put d (.grd false v)) h
theorem skipK.mk {d : Option Tmp} {Kn : Fr → H → Prop} {f : Fr} {h : H} (hk : Kn (f.put d (.grd false .any)) h) : skipK d Kn f h := ⟨_, hk⟩
def effG (g : Bool) (e : E) (n : Nat) (o : Oper) (Kn : Fr → H → Prop) (Q : XE → Fr → H → Prop) (f : Fr) (h : H) : Prop := (g = true → vcEff e n o f h Kn Q) ∧ (g = false → skipK o.dst Kn f h)

def vcOps (e : E) (n : Nat) (ops : Array Oper) (Q : XE → Fr → H → Prop) : List Oper → Fr → H → Prop
  | [], f, h => Q .normal f h
  | o :: rest, f, h =>
    match gd ops f o with
    | none => False
    | some g => dstOk n o.dst = true ∧
      match isEff o.op with
      | true => effG g e n o (vcOps e n ops Q rest) Q f h
      | false => PV.go g (pvOp e.P o (f.ev e) h) o.dst (vcOps e n ops Q rest) f h

theorem vcOps_ok {e : E} {n : Nat} {r : Option Nat} {ops : Array Oper} {Q : XE → Fr → H → Prop} {ok : Nat → Prop} {pl0 : Nat → Option Nat} {w0 : World} :
    ∀ (l : List Oper) (f : Fr) (h : H), vcOps e n ops Q l f h → ∀ (pl : Nat → Option Nat) (w : World) (a : Act), SSim e n ok pl0 w0 f h pl w a → wpListIn (RF r) 0 e.P ops (APost e n ok pl0 w0 Q) l a w
  | [], f, h, hv, pl, w, a, s => ⟨pl, f, h, .normal, s, trivial, hv⟩
  | o :: rest, f, h, hv, pl, w, a, s => by
    simp only [vcOps] at hv
    cases hg : gd ops f o with
    | none => rw [hg] at hv; exact hv.elim
    | some g =>
      rw [hg] at hv
      obtain ⟨hd, hv⟩ := hv
      have hw := gd_ok s.val hg
      unfold wpListIn
      have nx : ∀ a' w', NPost e n ok pl0 w0 (fun f' h' => vcOps e n ops Q rest f' h') a' w' → wpListIn (RF r) 0 e.P ops (APost e n ok pl0 w0 Q) rest a' w' :=
        fun a' w' ⟨pl', f', h', s', hk⟩ => vcOps_ok rest f' h' hk pl' w' a' s'
      cases he : isEff o.op with
      | true =>
        rw [he] at hv
        dsimp only at hv
        cases g with
        | true =>
          rw [if_pos hw]
          exact Oper.wpIn_mono nx (vcEff_ok (r := r) (hv.1 rfl) ok pl0 w0 pl w a s hd)
        | false =>
          rw [if_neg (by rw [hw]; simp)]
          obtain ⟨v, hv'⟩ := hv.2 rfl
          exact ⟨fun g _ => RF_fn r g, vcOps_ok rest _ _ hv' pl w _ (s.put hd (guard_rel (g := false) (v := v) (fun hf => by cases hf) (fun _ => rfl)))⟩
      | false =>
        rw [he] at hv
        dsimp only at hv
        obtain ⟨hc, hk⟩ := hv
        cases g with
        | true =>
          rw [if_pos hw]
          exact Oper.wpIn_mono nx (Eff.of_AQ (K := fun f' h' => vcOps e n ops Q rest f' h') (pvOp_ok (hc rfl)) hk ok pl0 w0 pl w a s hd)
        | false =>
          rw [if_neg (by rw [hw]; simp)]
          exact ⟨fun g _ => RF_fn r g, vcOps_ok rest _ _ hk pl w _ (s.put hd (guard_rel (fun hf => by cases hf) (fun _ => rfl)))⟩

end Go.Abs
