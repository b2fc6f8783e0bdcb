/- Abstract values, heaps and frames over the calculus, part 19. -/
import Derived.Test.YtegnjoonhabicaaA18
import Derived.Sort.LoopGhostIn
set_option linter.unusedVariables false
set_option linter.unusedSimpArgs false
namespace Go.Abs
open Go.RowKit

/-! ### Code -/
def XE.block (id : Nat) (Q : XE → Fr → H → Prop) : XE → Fr → H → Prop
  | .normal => Q .normal
  | .exit i => match i == id with
    | true => Q .normal
    | false => Q (.exit i)
  | .goto l => Q (.goto l)
  | .ret => Q .ret
  | .pan v => Q (.pan v)

section
variable {e : E} {n : Nat} {r : Option Nat} {Q : XE → Fr → H → Prop} {f : Fr} {h : H}

theorem APost.seq {ok : Nat → Prop} {pl0 : Nat → Option Nat} {w0 : World} {Kn : Fr → H → Prop} {K' : Act → World → Prop}
    (hk : ∀ pl f h a w, SSim e n ok pl0 w0 f h pl w a → Kn f h → K' a w) : ∀ ex a w, APost e n ok pl0 w0 (XE.seq Kn Q) ex a w → Exit.then K' (APost e n ok pl0 w0 Q) ex a w := by
  rintro ex a w ⟨pl', f', h', xe, s, hx, hq⟩
  cases xe <;> cases ex <;> (try (exact hx.elim)) <;> first
    | exact hk _ _ _ _ _ s hq
    | (cases hx; exact ⟨pl', f', h', _, s, rfl, hq⟩)
    | exact ⟨pl', f', h', _, s, hx, hq⟩

theorem awp_seq {x y : Code} (hv : awp e n r x (XE.seq (awp e n r y Q) Q) f h) : awp e n r (.seq x y) Q f h := by
  intro ok pl0 w0 pl w a s
  exact wpIn_seq (wpIn_mono (hv ok pl0 w0 pl w a s) (APost.seq fun pl f h a w s hk => hk ok pl0 w0 pl w a s))

theorem awp_block {id : Nat} {x : Code} (hv : awp e n r x (XE.block id Q) f h) : awp e n r (.block id x) Q f h := by
  intro ok pl0 w0 pl w a s
  refine wpIn_block (wpIn_mono (hv ok pl0 w0 pl w a s) ?_)
  rintro ex a w ⟨pl', f', h', xe, s, hx, hq⟩
  cases xe <;> cases ex <;> (try (exact hx.elim))
  case exit i j =>
    cases hx
    simp only [XE.block] at hq
    simp only [Exit.inBlock]
    by_cases hid : i = id
    · subst hid
      rw [if_pos rfl]
      rw [beq_self_eq_true] at hq
      exact ⟨pl', f', h', .normal, s, trivial, hq⟩
    · rw [if_neg hid]
      have : (i == id) = false := by simpa using hid
      rw [this] at hq
      exact ⟨pl', f', h', .exit i, s, rfl, hq⟩
  all_goals first | exact ⟨pl', f', h', _, s, hx, hq⟩

theorem awp_mono {c : Code} {Q' : XE → Fr → H → Prop} (hq : ∀ xe f h, Q xe f h → Q' xe f h) (hv : awp e n r c Q f h) : awp e n r c Q' f h :=
  fun ok pl0 w0 pl w a s => wpIn_mono (hv ok pl0 w0 pl w a s) fun ex a w ⟨pl', f', h', xe, s, hx, hk⟩ => ⟨pl', f', h', xe, s, hx, hq _ _ _ hk⟩

theorem awp_cond {c : Operand} {x y : Code} {b : Bool} (hsc : (f.ev e c).sc) (hb : (f.ev e c).sv = .bool b) (hx : b = true → awp e n r x Q f h) (hy : b = false → awp e n r y Q f h) : awp e n r (.cond c x y) Q f h := by
  intro ok pl0 w0 pl w a s
  have h1 := (s.ev c).sv hsc
  rw [hb] at h1
  simp only [VRel] at h1
  refine wpIn_cond_split (t := b) h1 (fun ht => hx ht ok pl0 w0 pl w a s) (fun hf => hy hf ok pl0 w0 pl w a s)

/-- What a pending jump does. -/
def jumpQ (Q : XE → Fr → H → Prop) : Option Code → Fr → H → Prop
  | none => Q .normal
  | some .ret => Q .ret
  | some (.exit i) => Q (.exit i)
  | some (.goto l) => Q (.goto l)
  | _ => fun _ _ => False

/-- Behind a range over a function. -/
def rangeK (id : Nat) (Q : XE → Fr → H → Prop) (f1 : Fr) (ae : AEnd) (h2 : H) (p : Nat → Bool) : Prop :=
  (∀ i ∈ f1.d, p i = false) ∧ match ae with
    | .ret _ => match h2[id]? with
      | some (.loop t n ps asg body st pend) => (p id = false ∧ st ≠ .busy) ∧ jumpQ Q pend (f1.drop p) (h2.set id (.loop t n ps asg body .exhausted pend))
      | _ => False
    | .pan v => Q (.pan v) (f1.drop p) h2

theorem awp_rangeFunc {g : Operand} {ps : Array Tmp} {asg body : Code} {q : FuncId} {first captured : List V} (hsc : (f.ev e g).sc) (hg : (f.ev e g).sv = .fn (.func q) first captured) (hen : enters e.P q = true)
    (hc : ACalls e q (first ++ [.yd (h.length + 1)] ++ captured) (h ++ [.misc .dfd] ++ [.loop f.t n ps asg body .ready none]) (rangeK (h.length + 1) Q { f with d := h.length :: f.d })) : awp e n none (.rangeFunc g ps asg body) Q f h := by
  intro ok pl0 w0 pl w a s
  refine wpIn_rangeFunc fun fn _ => ?_
  have h1 := (s.ev g).sv hsc
  rw [hg] at h1
  simp only [VRel] at h1
  obtain ⟨fs, cs, h2, h3, h4⟩ := h1
  have hb1 : (w.alloc (.deferred (some []))).heap[w.heap.size]? = some (.deferred (some [])) := World.alloc_heap_new w _
  obtain ⟨hs1, k1⟩ := s.hs.new (WExt.alloc w (.deferred (some []))) (.deferred (some [])) (.misc .dfd) (Nat.le_refl _) (by simp) hb1
  let w1 := w.alloc (.deferred (some []))
  let rec0 : Loop := { state := .ready, pending := none, fn, tmps := a.tmps, params := ps, assign := asg, body, defers := w.heap.size }
  let pl1 := plNew pl h.length w.heap.size
  have hsz1 : w1.heap.size = w.heap.size + 1 := by simp [w1]
  have hlen : (h ++ [O.misc .dfd]).length = h.length + 1 := by simp
  have hb2 : (w1.alloc (.loop rec0)).heap[w1.heap.size]? = some (.loop rec0) := World.alloc_heap_new w1 _
  have hext2 : CExt (fun _ => false) (cx ok pl1 w1) (cx ok (plNew pl1 (h ++ [O.misc .dfd]).length w1.heap.size) (w1.alloc (.loop rec0))) := by
    have x2 := WExt.alloc w1 (.loop rec0)
    refine ⟨fun b hb' hok => ⟨⟨hok.1, fun i hi => ?_⟩, x2.same b hb'⟩, fun i b _ hi => ?_, fun b arr' el' fz hb' => ⟨arr', fz, (x2.same b (lt_of_heap hb')).trans hb', rfl⟩⟩
    · simp only [plNew] at hi
      split at hi
      · cases hi; simp only [cx] at hb'; omega
      · exact hok.2 i (by simpa only [cx, plNew] using hi)
    · have := hs1.pl_lt hi
      simp only [cx, plNew]; rw [if_neg (by simp only [hlen] at *; omega)]; exact hi
  obtain ⟨hs2, k2⟩ := hs1.new (WExt.alloc w1 (.loop rec0)) (.loop rec0) (.loop f.t n ps asg body .ready none) (b := w1.heap.size) (Nat.le_refl _) (by simp)
    ⟨rec0, hb2, rfl, rfl, rfl, rfl, rfl, s.size, fun i => VRel.mono hext2 _ _ (VRel.mono k1.cext _ _ (s.val i))⟩
  have k12 := k1.trans k2
  have kk : Keeps (fun _ => false) pl w (plNew pl1 (h ++ [O.misc .dfd]).length w1.heap.size) (w1.alloc (.loop rec0)) := k12.weaken (fun i hi => by simp at hi)
  have hpd : (plNew pl1 (h ++ [O.misc .dfd]).length w1.heap.size) h.length = some w.heap.size := by
    have : h.length ≠ (h ++ [O.misc .dfd]).length := by rw [hlen]; omega
    simp [plNew, pl1]
  have hpl : (plNew pl1 (h ++ [O.misc .dfd]).length w1.heap.size) (h.length + 1) = some (w.heap.size + 1) := by
    simp [plNew, hsz1]
  have sA := s.next0 hs2 kk
  have sB : SSim e n ok pl0 w0 { f with d := h.length :: f.d } (h ++ [.misc .dfd] ++ [.loop f.t n ps asg body .ready none]) (plNew pl1 (h ++ [O.misc .dfd]).length w1.heap.size) (w1.alloc (.loop rec0))
      { a with defers := [({ target := .collected w.heap.size, args := #[] } : Deferred)] ++ a.defers } :=
    ⟨sA.hs, sA.kp, sA.size, sA.val, ⟨w.heap.size, a.defers, rfl, hpd, sA.dfr⟩⟩
  have hargs : VList (cx ok (plNew pl1 (h ++ [O.misc .dfd]).length w1.heap.size) (w1.alloc (.loop rec0))) (first ++ [.yd (h.length + 1)] ++ captured) (fs.toList ++ [Value.func (.yield (w.heap.size + 1)) #[] #[]] ++ cs.toList) := by
    refine VList.append (VList.append (VList.mono kk.cext _ _ h3) ?_) (VList.mono kk.cext _ _ h4)
    simp only [VList, VRel]
    exact ⟨_, _, rfl, ⟨w.heap.size + 1, hpl, rfl⟩, rfl⟩
  refine ⟨w.heap.size + 1, _, w1.alloc (.loop rec0), { target := .fn (.func q) cs, args := fs ++ #[Value.func (.yield (w.heap.size + 1)) #[] #[]] }, w1.alloc (.loop rec0), q, (fs.toList ++ [Value.func (.yield (w.heap.size + 1)) #[] #[]] ++ cs.toList).toArray, w1.alloc (.loop rec0), run_enterLoop_outer fn a.tmps ps asg body, ?_, fun _ _ => trivial, ?_, fun hd' => (by cases hd'), ?_⟩
  · have : (rangeCall g (w.heap.size + 1)).args.map a.eval = #[Value.func (.yield (w.heap.size + 1)) #[] #[]] := by simp [Act.eval]
    unfold resolve
    rw [this]
    show (Deferred.ofValue (a.eval g) _).run _ _ = _
    rw [h2]
    rfl
  · simp only [invoke]
    rw [enters_run hen]
    congr 2
    apply Array.ext'
    simp
  · refine CallsIn.ofCalls (r := none) ((hc ok _ _ _ sB.hs hargs).mono ?_)
    rintro en w' ⟨p, pl', h', ae, hs', k, hend, hp, hk⟩
    have sC := sB.next hs' k hp
    cases ae with
    | ret v =>
      cases en with
      | returned x =>
        dsimp only at hk
        split at hk
        · rename_i t2 n2 ps2 asg2 body2 st2 pend2 hc2
          obtain ⟨⟨hpi, hbusy⟩, hj⟩ := hk
          have hb3 : pl' (h.length + 1) = some (w.heap.size + 1) := k.keep _ _ hpi hpl
          obtain ⟨rec2, g1, g2, g3, g4, g5, g6, g7, hs3, k3⟩ := hs'.loopSet hb3 hc2 .exhausted pend2
          have hrec : ({ rec2 with state := .exhausted } : Loop) = { rec2 with state := .exhausted, pending := pend2 } := by rw [← g3]
          refine ⟨_, _, run_endLoop g1 (by rw [g2]; exact hbusy), ?_⟩
          rw [g3]
          have sD := sC.next0 hs3 k3
          cases pend2 with
          | none => exact ⟨_, _, _, .normal, sD, trivial, hj⟩
          | some c =>
            cases c <;> try exact hj.elim
            · exact wpIn_exit ⟨_, _, _, .exit _, sD, rfl, hj⟩
            · exact wpIn_goto ⟨_, _, _, .goto _, sD, rfl, hj⟩
            · exact wpIn_ret ⟨_, _, _, .ret, sD, trivial, hj⟩
        · exact hk.elim
      | panicked ch => exact hend.elim
      | outgrown => exact hend.elim
    | pan v =>
      cases en with
      | returned x => exact hend.elim
      | panicked ch => exact ⟨_, _, _, .pan v, sC, hend, hk⟩
      | outgrown => exact hend.elim

/-- Is every operation of a drawn region of a kind that may only compute, or a call? -/
def quietOp (o : Oper) : Bool := match o.op with
  | .call { callee := .value _, .. } => true
  | _ => !isEff o.op

def vc (e : E) (n : Nat) (r : Option Nat) : Code → (XE → Fr → H → Prop) → Fr → H → Prop
  | .skip, Q, f, h => Q .normal f h
  | .label _, Q, f, h => Q .normal f h
  | .exit i, Q, f, h => Q (.exit i) f h
  | .goto l, Q, f, h => Q (.goto l) f h
  | .ret, Q, f, h => Q .ret f h
  | .seq x y, Q, f, h => vc e n r x (XE.seq (vc e n r y Q) Q) f h
  | .cond c x y, Q, f, h => match (f.ev e c).sv with
    | .bool b => (f.ev e c).sc ∧ vcB b (vc e n r x Q) (vc e n r y Q) f h
    | _ => False
  | .block id x, Q, f, h => vc e n r x (XE.block id Q) f h
  | .region _ ops false, Q, f, h => vcOps e n ops Q ops.toList f h
  | .region id ops true, Q, f, h => match ops.toList.all quietOp with
    | true => Region.lexB .any ops = true ∧ vcQuiet e n ops h (normK Q h) ops.toList f
    | false => awp e n r (.region id ops true) Q f h
  | .loop c, Q, f, h => awp e n r (.loop c) Q f h
  | .rangeFunc fn ps asg body, Q, f, h => awp e n r (.rangeFunc fn ps asg body) Q f h
  | .scope c, Q, f, h => awp e n r (.scope c) Q f h
  | .refuse s, Q, f, h => False

theorem vc_ok (hm : e.P.follows .mixedOrders = true) : ∀ (c : Code) (Q : XE → Fr → H → Prop) (f : Fr) (h : H), vc e n r c Q f h → awp e n r c Q f h
  | .skip, Q, f, h, hv => fun ok pl0 w0 pl w a s => wpIn_skip ⟨pl, f, h, .normal, s, trivial, hv⟩
  | .label _, Q, f, h, hv => fun ok pl0 w0 pl w a s => wpIn_label ⟨pl, f, h, .normal, s, trivial, hv⟩
  | .exit i, Q, f, h, hv => fun ok pl0 w0 pl w a s => wpIn_exit ⟨pl, f, h, .exit i, s, rfl, hv⟩
  | .goto l, Q, f, h, hv => fun ok pl0 w0 pl w a s => wpIn_goto ⟨pl, f, h, .goto l, s, rfl, hv⟩
  | .ret, Q, f, h, hv => fun ok pl0 w0 pl w a s => wpIn_ret ⟨pl, f, h, .ret, s, trivial, hv⟩
  | .seq x y, Q, f, h, hv => awp_seq (awp_mono (fun xe f h hq => by cases xe <;> first | exact vc_ok hm y Q f h hq | exact hq) (vc_ok hm x _ f h hv))
  | .cond c x y, Q, f, h, hv => by
    simp only [vc] at hv
    split at hv
    · rename_i b hb
      exact awp_cond hv.1 hb (fun ht => vc_ok hm x Q f h (hv.2.1 ht)) (fun hf => vc_ok hm y Q f h (hv.2.2 hf))
    · exact hv.elim
  | .block id x, Q, f, h, hv => awp_block (vc_ok hm x _ f h hv)
  | .region id ops false, Q, f, h, hv => fun ok pl0 w0 pl w a s => wpIn_region_list (vcOps_ok ops.toList f h hv pl w a s)
  | .region id ops true, Q, f, h, hv => by
    rw [vc] at hv
    cases hq : ops.toList.all quietOp with
    | true =>
      rw [hq] at hv
      exact fun ok pl0 w0 pl w a s => wpIn_drawn hm hv.1 hv.2 s
    | false => rw [hq] at hv; exact hv
  | .loop c, Q, f, h, hv => hv
  | .rangeFunc fn ps asg body, Q, f, h, hv => hv
  | .scope c, Q, f, h, hv => hv
  | .refuse s, Q, f, h, hv => hv.elim

/-! ### Forgetting -/
/-- The objects from k on are forgotten. -/
theorem SSim.cut {ok : Nat → Prop} {pl0 pl : Nat → Option Nat} {w0 w : World} {a : Act} (s : SSim e n ok pl0 w0 f h pl w a) (k : Nat) (hd : ∀ i ∈ f.d, i < k) :
    SSim e n ok pl0 w0 (f.drop (fun i => decide (k ≤ i))) ((h.map (O.drop fun i => decide (k ≤ i))).take k) (fun i => if i < k then pl i else none) w a := by
  have kp : Keeps (fun i => decide (k ≤ i)) pl w (fun i => if i < k then pl i else none) w := by
    refine ⟨rfl, rfl, rfl, Nat.le_refl _, fun _ _ _ => rfl, fun i b hi => ?_, fun i b hp hi => ?_, fun b arr el fz hb => ⟨arr, fz, hb, rfl⟩⟩
    · skip
      split at hi
      · exact .inl ⟨i, hi⟩
      · cases hi
    · simp only [decide_eq_false_iff_not, Nat.not_le] at hp
      rw [if_pos hp]; exact hi
  refine s.next (s.hs.next kp ?_ ?_ ?_ ?_) kp (fun i hi => by simpa using hd i hi)
  · intro i b hi
    split at hi
    · exact s.hs.lt i b hi
    · cases hi
  · intro i j b hi hj
    skip
    split at hi
    · split at hj
      · exact s.hs.inj i j b hi hj
      · cases hj
    · cases hi
  · intro i b hi
    split at hi
    · rename_i hik
      exact .inl ⟨hi, rfl, by rw [List.getElem?_take]; simp [hik]⟩
    · cases hi
  · intro i o ho hi
    rw [List.getElem?_take] at ho
    split at ho
    · rename_i hik
      rw [if_pos hik] at hi
      rw [List.getElem?_map] at ho
      cases hh : h[i]? with
      | none => rw [hh] at ho; cases ho
      | some o' =>
        rw [hh] at ho
        have ho : o'.drop (fun i => decide (k ≤ i)) = o := by simpa using ho
        rcases s.hs.bare i o' hh hi with rfl | rfl <;> subst ho <;> simp [O.drop, V.drops]
    · cases ho

/-- As it stands, or behind a cut. -/
def Cut (I : Fr → H → Prop) (f : Fr) (h : H) : Prop :=
  I f h ∨ ∃ k, (∀ i ∈ f.d, i < k) ∧ I (f.drop (fun i => decide (k ≤ i))) ((h.map (O.drop fun i => decide (k ≤ i))).take k)

theorem awp_cut {c : Code} (hc : Cut (awp e n r c Q) f h) : awp e n r c Q f h := by
  rcases hc with hc | ⟨k, hd, hc⟩
  · exact hc
  · intro ok pl0 w0 pl w a s
    exact hc ok pl0 w0 _ w a (s.cut k hd)

/-- A loop: an invariant that bears a number, which every round lowers. -/
theorem awp_loop {c : Code} (I : Nat → Fr → H → Prop) (m₀ : Nat) (h₀ : I m₀ f h)
    (round : ∀ m f h, I m f h → awp e n r c (XE.seq (Cut fun f' h' => ∃ m', m' < m ∧ I m' f' h') Q) f h) : awp e n r (.loop c) Q f h := by
  intro ok pl0 w0 pl w a s
  refine wpIn_loop_ghost (fun m a w => ∃ pl f h, SSim e n ok pl0 w0 f h pl w a ∧ I m f h) m₀ ⟨pl, f, h, s, h₀⟩ ?_
  rintro m a w ⟨pl, f, h, s, hI⟩
  refine wpIn_mono (round m f h hI ok pl0 w0 pl w a s) (APost.seq ?_)
  rintro pl f h a w s (⟨m', hlt, hI'⟩ | ⟨k, hd, m', hlt, hI'⟩)
  · exact ⟨m', hlt, pl, f, h, s, hI'⟩
  · exact ⟨m', hlt, _, _, _, s.cut k hd, hI'⟩

end
end Go.Abs
