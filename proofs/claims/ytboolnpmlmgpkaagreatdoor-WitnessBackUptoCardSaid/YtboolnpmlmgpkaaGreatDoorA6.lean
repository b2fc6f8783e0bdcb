/- Abstract values, heaps and frames over the calculus, part 6. -/
import Derived.Test.YtboolnpmlmgpkaaGreatDoorA5
import Derived.Still
import Derived.Sort.LoopGhostIn
set_option linter.unusedVariables false
set_option linter.unusedSimpArgs false
namespace Go.Abs
open Go.RowKit

/-! ### Regions that draw their order -/
theorem Fr.put_comm (f : Fr) {x y : Option Tmp} (v u : V) (h : ∀ d, x = some d → y ≠ some d) : (f.put x v).put y u = (f.put y u).put x v := by
  cases x with
  | none => rfl
  | some d =>
    cases y with
    | none => rfl
    | some e =>
      have hne : d ≠ e := fun he => h d rfl (he ▸ rfl)
      simp only [Fr.put]
      congr 1
      funext j
      by_cases h1 : j = e
      · by_cases h2 : j = d
        · exact absurd (h2.symm.trans h1) hne
        · rw [if_pos h1, if_neg h2, if_pos h1]
      · rw [if_neg h1, if_neg h1]

theorem Fr.ev_put {e : E} {f : Fr} {dst : Option Tmp} {v : V} {x : Operand} (h : ∀ d, dst = some d → x ≠ .tmp d) : (f.put dst v).ev e x = f.ev e x := by
  cases dst with
  | none => rfl
  | some d =>
    cases x with
    | tmp t =>
      have hne : t ≠ d := fun he => h d rfl (by rw [he])
      simp [Fr.ev, Fr.put, hne]
    | _ => rfl

theorem AQ.congr {e : E} {o : Oper} {ρ ρ' : Operand → V} {h : H} {v : V} (hh : ∀ x ∈ o.op.operands, ρ x = ρ' x) (ha : AQ e o ρ h v) : AQ e o ρ' h v :=
  fun ok pl w ev hs hr => ha ok pl w ev hs fun x hx => by rw [hh x hx]; exact hr x hx

section
variable {e : E} {n : Nat} {r : Option Nat} {ops : Array Oper} {md : Region.Mode} {h : H}

theorem ev_look {o : Oper} {f : Fr} {dst : Option Tmp} {v : V} (hd : ∀ d, dst = some d → d ∉ o.looksAt ops) : ∀ x ∈ o.op.operands, (f.put dst v).ev e x = f.ev e x :=
  fun x hx => Fr.ev_put fun d hd' hxd => hd d hd' (by
    subst hxd
    exact List.mem_append_left _ (List.mem_filterMap.2 ⟨.tmp d, by simpa using hx, rfl⟩))

theorem gd_put {o : Oper} {f : Fr} {dst : Option Tmp} {v : V} (hd : ∀ d, dst = some d → d ∉ o.looksAt ops) : gd ops (f.put dst v) o = gd ops f o := by
  unfold gd
  cases hg : o.guard with
  | none => rfl
  | some jw =>
    obtain ⟨j, want⟩ := jw
    dsimp only
    cases ht : (ops[j]?).bind (·.dst) with
    | none => rfl
    | some d' =>
      dsimp only
      congr 1
      cases dst with
      | none => rfl
      | some d =>
        simp only [Fr.put]
        rw [if_neg]
        intro he
        refine hd d rfl ?_
        unfold Oper.looksAt
        refine List.mem_append_right _ ?_
        rw [hg]
        dsimp only
        rw [ht, he]; simp

/-- In this frame the operation yields v. -/
def AYield (e : E) (n : Nat) (ops : Array Oper) (h : H) (o : Oper) (v : V) (f : Fr) : Prop :=
  dstOk n o.dst = true ∧ ∃ g v', gd ops f o = some g ∧ (g = true → AQ e o (f.ev e) h v') ∧ v = V.guard g v'

theorem AYield.put {o : Oper} {v : V} {f : Fr} (hy : AYield e n ops h o v f) {dst : Option Tmp} {u : V} (hd : ∀ d, dst = some d → d ∉ o.looksAt ops) : AYield e n ops h o v (f.put dst u) := by
  obtain ⟨h1, g, v', h2, h3, h4⟩ := hy
  exact ⟨h1, g, v', by rw [gd_put hd]; exact h2, fun hg => (h3 hg).congr fun x hx => (ev_look hd x hx).symm, h4⟩

theorem AYield.unput {o : Oper} {v : V} {f : Fr} {dst : Option Tmp} {u : V} (hy : AYield e n ops h o v (f.put dst u)) (hd : ∀ d, dst = some d → d ∉ o.looksAt ops) : AYield e n ops h o v f := by
  obtain ⟨h1, g, v', h2, h3, h4⟩ := hy
  exact ⟨h1, g, v', by rw [gd_put hd] at h2; exact h2, fun hg => (h3 hg).congr fun x hx => ev_look hd x hx, h4⟩

def aqOp (e : E) (n : Nat) (ops : Array Oper) (h : H) (i : Nat) (Kn : Fr → Prop) (f : Fr) : Prop :=
  match ops[i]? with
  | none => Kn f
  | some o => ∃ v, AYield e n ops h o v f ∧ Kn (f.put o.dst v)

theorem aqOp_mono {i : Nat} {f : Fr} {K K' : Fr → Prop} (hh : ∀ f, K f → K' f) (hq : aqOp e n ops h i K f) : aqOp e n ops h i K' f := by
  unfold aqOp at *
  split
  · exact hh _ (by simpa [*] using hq)
  · rename_i o ho
    simp only [ho] at hq
    obtain ⟨v, h1, h2⟩ := hq
    exact ⟨v, h1, hh _ h2⟩

def wpAnyA (e : E) (n : Nat) (md : Region.Mode) (ops : Array Oper) (h : H) (Q : Fr → Prop) : Nat → Array Bool → Fr → Prop
  | 0, listed, f => Region.ready md ops listed = [] ∧ Q f
  | fuel + 1, listed, f =>
    (Region.ready md ops listed = [] → Q f) ∧
    ∀ i ∈ Region.ready md ops listed, aqOp e n ops h i (wpAnyA e n md ops h Q fuel (listed.setIfInBounds i true)) f

theorem aqOp_put {j : Nat} {oi oj : Oper} {v : V} (hj : ops[j]? = some oj) (hap : oi.apart ops oj = true) {K : Fr → Prop} {f : Fr}
    (hy : AYield e n ops h oi v f) (hq : aqOp e n ops h j K (f.put oi.dst v)) :
    aqOp e n ops h j (fun f' => AYield e n ops h oi v f' ∧ K (f'.put oi.dst v)) f := by
  obtain ⟨h1, h2, h3⟩ := Oper.apart_spec hap
  unfold aqOp at *
  simp only [hj] at *
  obtain ⟨u, hu, hn⟩ := hq
  exact ⟨u, hu.unput h1, hy.put h3, by rw [← Fr.put_comm f v u h2]; exact hn⟩

theorem wpAnyA_first {Q : Fr → Prop} {i : Nat} {oi : Oper} {v : V} (hi : ops[i]? = some oi) :
    ∀ (fuel : Nat) (listed : Array Bool) (f : Fr),
      (∀ j oj, ops[j]? = some oj → j ≠ i → listed.getD j true = false → (∀ e ∈ oj.after, Region.binds md e = true → e.on ≠ i) → oi.apart ops oj = true) →
      i ∈ Region.ready md ops listed → AYield e n ops h oi v f →
      wpAnyA e n md ops h Q fuel (listed.setIfInBounds i true) (f.put oi.dst v) → wpAnyA e n md ops h Q (fuel + 1) listed f := by
  have own : ∀ {K : Fr → Prop} {f : Fr}, AYield e n ops h oi v f → K (f.put oi.dst v) → aqOp e n ops h i K f := by
    intro K f hy hk
    unfold aqOp
    rw [hi]
    exact ⟨v, hy, hk⟩
  intro fuel
  induction fuel with
  | zero =>
    intro listed f _ hr hy H
    refine ⟨fun h => (by rw [h] at hr; cases hr), fun j hj => ?_⟩
    by_cases hji : j = i
    · subst hji; exact own hy H
    · have := ready_mono hj hji
      rw [H.1] at this
      cases this
  | succ fuel ih =>
    intro listed f hfree hr hy H
    refine ⟨fun h => (by rw [h] at hr; cases hr), fun j hj => ?_⟩
    by_cases hji : j = i
    · subst hji; exact own hy H
    · have h1 := H.2 j (ready_mono hj hji)
      obtain ⟨hjun, oj, hoj, hall⟩ := mem_ready.1 hj
      have hnot : ∀ e ∈ oj.after, Region.binds md e = true → e.on ≠ i := fun e he hb heq => by
        have h1 := hall e he hb
        have h0 := (mem_ready.1 hr).1
        rw [heq] at h1
        rcases Nat.lt_or_ge i listed.size with h' | h'
        · simp [h'] at h0 h1; rw [h0] at h1; cases h1
        · simp [Array.getElem?_eq_none h'] at h1
      have h2 := aqOp_put hoj (hfree j oj hoj hji hjun hnot) hy h1
      have hfree' : ∀ k ok, ops[k]? = some ok → k ≠ i → (listed.setIfInBounds j true).getD k true = false →
          (∀ e ∈ ok.after, Region.binds md e = true → e.on ≠ i) → oi.apart ops ok = true := fun k ok hk hki hun hno => by
        refine hfree k ok hk hki ?_ hno
        by_cases hjk : j = k
        · subst hjk; exact hjun
        · rw [getD_set_ne true hjk] at hun; exact hun
      refine aqOp_mono (fun a' h3 => ih (listed.setIfInBounds j true) a' hfree' (ready_mono hr (Ne.symm hji)) h3.1 ?_) h2
      rw [Array.setIfInBounds_comm _ _ hji]
      exact h3.2

/-- The walk in the text's order. -/
def wpQuietA (e : E) (n : Nat) (ops : Array Oper) (h : H) (Q : Fr → Prop) : List Oper → Fr → Prop
  | [], f => Q f
  | o :: rest, f => ∃ v, AYield e n ops h o v f ∧ wpQuietA e n ops h Q rest (f.put o.dst v)

theorem wpAnyA_lex {Q : Fr → Prop} : ∀ (l : List Oper) (k : Nat) (listed : Array Bool) (f : Fr), (∀ j, l[j]? = ops[k + j]?) →
    Region.lexFrom md ops l.length k listed = true → wpQuietA e n ops h Q l f → wpAnyA e n md ops h Q l.length listed f
  | [], _, _, _, _, hB, h => ⟨by simpa [Region.lexFrom] using hB, h⟩
  | o :: l, k, listed, f, hl, hB, hh => by
    have h0 : ops[k]? = some o := by simpa using (hl 0).symm
    simp only [List.length_cons, Region.lexFrom, Bool.and_eq_true] at hB
    obtain ⟨⟨hr, hf⟩, hB'⟩ := hB
    obtain ⟨v, hy, hK⟩ := hh
    exact wpAnyA_first h0 l.length listed f (Region.free_spec h0 hf) (by simpa using hr) hy
      (wpAnyA_lex l (k + 1) _ _ (fun j => by have := hl (j + 1); simpa [Nat.add_assoc, Nat.add_comm 1 j] using this) hB' hK)

theorem wpOpIn_of_A {ok : Nat → Prop} {pl0 : Nat → Option Nat} {w0 : World} {Q' : Exit → Act → World → Prop} {i : Nat} {Kn : Fr → Prop} {K' : Act → World → Prop} {f : Fr}
    (hK : ∀ f pl w a, SSim e n ok pl0 w0 f h pl w a → Kn f → K' a w) (hq : aqOp e n ops h i Kn f) {pl : Nat → Option Nat} {w : World} {a : Act} (s : SSim e n ok pl0 w0 f h pl w a)
    (hQ : ∀ (K' : Act → World → Prop) (o : Oper) v, AQ e o (f.ev e) h v → dstOk n o.dst = true → (∀ a' w' pl', SSim e n ok pl0 w0 (f.put o.dst v) h pl' w' a' → K' a' w') → o.wpIn (RF r) 0 e.P a w K' Q') : wpOpIn (RF r) 0 e.P ops Q' i K' a w := by
  unfold aqOp at hq
  unfold wpOpIn
  split
  · rename_i ho; simp only [ho] at hq; exact hK _ _ _ _ s hq
  · rename_i o ho
    simp only [ho] at hq
    obtain ⟨v, ⟨hd, g, v', hg, hv, rfl⟩, hk⟩ := hq
    have hw := gd_ok s.val hg
    cases g with
    | true =>
      rw [if_pos hw]
      exact hQ _ o v' (hv rfl) hd fun a' w' pl' s' => hK _ _ _ _ s' hk
    | false =>
      rw [if_neg (by rw [hw]; simp)]
      exact ⟨fun g _ => RF_fn r g, hK _ _ _ _ (s.put hd (guard_rel (fun hf => by cases hf) (fun _ => rfl))) hk⟩

theorem wpAnyIn_of_A {ok : Nat → Prop} {pl0 : Nat → Option Nat} {w0 : World} {Q : XE → Fr → H → Prop} : ∀ (fuel : Nat) (listed : Array Bool) (f : Fr), wpAnyA e n md ops h (fun f => Q .normal f h) fuel listed f →
    ∀ pl w a, SSim e n ok pl0 w0 f h pl w a → wpAnyIn (RF r) 0 e.P md ops (APost e n ok pl0 w0 Q) fuel listed a w
  | 0, _, f, hh, pl, w, a, s => ⟨hh.1, pl, f, h, .normal, s, trivial, hh.2⟩
  | fuel + 1, _, f, hh, pl, w, a, s => ⟨fun h0 => ⟨pl, f, h, .normal, s, trivial, hh.1 h0⟩, fun i hi =>
      wpOpIn_of_A (fun f' pl' w' a' s' hk => wpAnyIn_of_A fuel _ f' hk pl' w' a' s') (hh.2 i hi) s fun K' o v hq hd hk =>
        Oper.wpIn_mono (fun a' w' ⟨pl', f', h', s', hf, hh'⟩ => by subst hf; subst hh'; exact hk a' w' pl' s')
          (Eff.of_AQ (K := fun f' h' => f' = f.put o.dst v ∧ h' = h) (Q := Q) hq ⟨rfl, rfl⟩ ok pl0 w0 pl w a s hd)⟩
end

/-- A call of a function that only computes, wherever it is made. -/
def vcEv (e : E) (g : Bool) (q : FuncId) (vs : List V) (sc : Prop) (dst : Option Tmp) (Kn : Fr → Prop) (f : Fr) : Prop :=
  ∃ rv, (g = true → sc ∧ enters e.P q = true ∧ V.dats vs = true ∧ Ev e q vs rv) ∧ Kn (f.put dst (V.guard g rv))

theorem vcEv.mk {e : E} {q : FuncId} {vs : List V} {dst : Option Tmp} {Kn : Fr → Prop} {f : Fr} {rv : V} (hv : Ev e q vs rv) (h2 : enters e.P q = true) (h3 : V.dats vs = true) (hk : Kn (f.put dst rv)) : vcEv e true q vs True dst Kn f :=
  ⟨rv, fun _ => ⟨trivial, h2, h3, hv⟩, hk⟩
theorem vcEv.mkg {e : E} {g : Bool} {q : FuncId} {vs : List V} {sc : Prop} {dst : Option Tmp} {Kn : Fr → Prop} {f : Fr} {rv : V} (h1 : g = true → sc) (hv : g = true → Ev e q vs rv) (h2 : enters e.P q = true) (h3 : g = true → V.dats vs = true) (hk : Kn (f.put dst (V.guard g rv))) : vcEv e g q vs sc dst Kn f :=
  ⟨rv, fun hg => ⟨h1 hg, h2, h3 hg, hv hg⟩, hk⟩
theorem vcEv.no {e : E} {q : FuncId} {vs : List V} {sc : Prop} {dst : Option Tmp} {Kn : Fr → Prop} {f : Fr} (hk : Kn (f.put dst (.grd false .any))) : vcEv e false q vs sc dst Kn f :=
  ⟨.any, fun hg => (by cases hg), hk⟩

def goQ (g : Bool) (q : Prop × V) (d : Option Tmp) (Kn : Fr → Prop) (f : Fr) : Prop := (g = true → q.1) ∧ Kn (f.put d (V.guard g q.2))
def normK (Q : XE → Fr → H → Prop) (h : H) (f : Fr) : Prop := Q .normal f h

/-- Every operation computes and reads, or is a call of a function that does: one after another. -/
def vcQuiet (e : E) (n : Nat) (ops : Array Oper) (h : H) (Q : Fr → Prop) : List Oper → Fr → Prop
  | [], f => Q f
  | o :: rest, f =>
    match gd ops f o with
    | none => False
    | some g => dstOk n o.dst = true ∧
      match isEff o.op with
      | true => match o.op with
        | .call { callee := .value fx, args, .. } => match callOn e (f.ev e) fx args with
          | some (q, vs) => vcEv e g q vs (callSc (f.ev e) fx args) o.dst (vcQuiet e n ops h Q rest) f
          | none => False
        | _ => False
      | false => goQ g (pvOp e.P o (f.ev e) h) o.dst (vcQuiet e n ops h Q rest) f

theorem wpQuietA_of_vc {e : E} {n : Nat} {ops : Array Oper} {h : H} {Q : Fr → Prop} : ∀ (l : List Oper) (f : Fr), vcQuiet e n ops h Q l f → wpQuietA e n ops h Q l f
  | [], f, hv => hv
  | o :: rest, f, hv => by
    simp only [vcQuiet] at hv
    cases hg : gd ops f o with
    | none => rw [hg] at hv; exact hv.elim
    | some g =>
      rw [hg] at hv
      obtain ⟨hd, hv⟩ := hv
      cases he : isEff o.op with
      | true =>
        rw [he] at hv
        dsimp only at hv
        split at hv
        · rename_i fx args ts hop
          split at hv
          · rename_i q vs hon
            obtain ⟨rv, h1, h2⟩ := hv
            exact ⟨_, ⟨hd, g, rv, hg, fun hgt => AQ.call hop hon (h1 hgt).1 (h1 hgt).2.1 (h1 hgt).2.2.1 (h1 hgt).2.2.2, rfl⟩, wpQuietA_of_vc rest _ h2⟩
          · exact hv.elim
        · exact hv.elim
      | false =>
        rw [he] at hv
        dsimp only at hv
        obtain ⟨h1, h2⟩ := hv
        exact ⟨_, ⟨hd, g, _, hg, fun hgt => pvOp_ok (h1 hgt), rfl⟩, wpQuietA_of_vc rest _ h2⟩

theorem wpIn_drawn {e : E} {n : Nat} {r : Option Nat} {ops : Array Oper} {h : H} {Q : XE → Fr → H → Prop} {id : Nat} {f : Fr} {ok : Nat → Prop} {pl0 : Nat → Option Nat} {w0 : World} (hm : e.P.follows .mixedOrders = true)
    (hB : Region.lexB .any ops = true) (hv : vcQuiet e n ops h (normK Q h) ops.toList f) {pl : Nat → Option Nat} {w : World} {a : Act} (s : SSim e n ok pl0 w0 f h pl w a) :
    (Code.region id ops true).wpIn (RF r) 0 e.P (APost e n ok pl0 w0 Q) a w := by
  simp only [Region.lexB, Bool.and_eq_true] at hB
  have x : WExt w { w with drawn := w.drawn + 1 } := WExt.drew w
  refine wpIn_region_any hm (wpAnyIn_of_A (ops := ops) (md := .any) (f := f) (h := h) _ _ ?_ _ _ _ (s.next0 (s.hs.wext x) (x.keeps s.hs)))
  have := wpAnyA_lex (e := e) (n := n) (h := h) (Q := fun f => Q .normal f h) (md := .any) (ops := ops) ops.toList 0 (Array.replicate ops.size false) f (by simp) (by simpa using hB.2) (wpQuietA_of_vc _ _ hv)
  simpa using this

end Go.Abs

set_option linter.unusedVariables false
set_option linter.unusedSimpArgs false
namespace Go.Abs
open Go.RowKit

/-! ### Code -/
def XE.block (id : Nat) (Q : XE → Fr → H → Prop) : XE → Fr → H → Prop
  | .normal => Q .normal
  | .exit i => match i == id with
    | true => Q .normal
    | false => Q (.exit i)
  | .goto l => Q (.goto l)
  | .ret => Q .ret
  | .pan v => Q (.pan v)

section
variable {e : E} {n : Nat} {r : Option Nat} {Q : XE → Fr → H → Prop} {f : Fr} {h : H}

theorem APost.seq {ok : Nat → Prop} {pl0 : Nat → Option Nat} {w0 : World} {Kn : Fr → H → Prop} {K' : Act → World → Prop}
    (hk : ∀ pl f h a w, SSim e n ok pl0 w0 f h pl w a → Kn f h → K' a w) : ∀ ex a w, APost e n ok pl0 w0 (XE.seq Kn Q) ex a w → Exit.then K' (APost e n ok pl0 w0 Q) ex a w := by
  rintro ex a w ⟨pl', f', h', xe, s, hx, hq⟩
  cases xe <;> cases ex <;> (try (exact hx.elim)) <;> first
    | exact hk _ _ _ _ _ s hq
    | (cases hx; exact ⟨pl', f', h', _, s, rfl, hq⟩)
    | exact ⟨pl', f', h', _, s, hx, hq⟩

theorem awp_seq {x y : Code} (hv : awp e n r x (XE.seq (awp e n r y Q) Q) f h) : awp e n r (.seq x y) Q f h := by
  intro ok pl0 w0 pl w a s
  exact wpIn_seq (wpIn_mono (hv ok pl0 w0 pl w a s) (APost.seq fun pl f h a w s hk => hk ok pl0 w0 pl w a s))

theorem awp_block {id : Nat} {x : Code} (hv : awp e n r x (XE.block id Q) f h) : awp e n r (.block id x) Q f h := by
  intro ok pl0 w0 pl w a s
  refine wpIn_block (wpIn_mono (hv ok pl0 w0 pl w a s) ?_)
  rintro ex a w ⟨pl', f', h', xe, s, hx, hq⟩
  cases xe <;> cases ex <;> (try (exact hx.elim))
  case exit i j =>
    cases hx
    simp only [XE.block] at hq
    simp only [Exit.inBlock]
    by_cases hid : i = id
    · subst hid
      rw [if_pos rfl]
      rw [beq_self_eq_true] at hq
      exact ⟨pl', f', h', .normal, s, trivial, hq⟩
    · rw [if_neg hid]
      have : (i == id) = false := by simpa using hid
      rw [this] at hq
      exact ⟨pl', f', h', .exit i, s, rfl, hq⟩
  all_goals first | exact ⟨pl', f', h', _, s, hx, hq⟩

theorem awp_mono {c : Code} {Q' : XE → Fr → H → Prop} (hq : ∀ xe f h, Q xe f h → Q' xe f h) (hv : awp e n r c Q f h) : awp e n r c Q' f h :=
  fun ok pl0 w0 pl w a s => wpIn_mono (hv ok pl0 w0 pl w a s) fun ex a w ⟨pl', f', h', xe, s, hx, hk⟩ => ⟨pl', f', h', xe, s, hx, hq _ _ _ hk⟩

theorem awp_cond {c : Operand} {x y : Code} {b : Bool} (hsc : (f.ev e c).sc) (hb : (f.ev e c).sv = .bool b) (hx : b = true → awp e n r x Q f h) (hy : b = false → awp e n r y Q f h) : awp e n r (.cond c x y) Q f h := by
  intro ok pl0 w0 pl w a s
  have h1 := (s.ev c).sv hsc
  rw [hb] at h1
  simp only [VRel] at h1
  refine wpIn_cond_split (t := b) h1 (fun ht => hx ht ok pl0 w0 pl w a s) (fun hf => hy hf ok pl0 w0 pl w a s)

/-- What a pending jump does. -/
def jumpQ (Q : XE → Fr → H → Prop) : Option Code → Fr → H → Prop
  | none => Q .normal
  | some .ret => Q .ret
  | some (.exit i) => Q (.exit i)
  | some (.goto l) => Q (.goto l)
  | _ => fun _ _ => False

/-- Behind a range over a function. -/
def rangeK (id : Nat) (Q : XE → Fr → H → Prop) (f1 : Fr) (ae : AEnd) (h2 : H) (p : Nat → Bool) : Prop :=
  (∀ i ∈ f1.d, p i = false) ∧ match ae with
    | .ret _ => match h2[id]? with
      | some (.loop t n ps asg body st pend) => (p id = false ∧ st ≠ .busy) ∧ jumpQ Q pend (f1.drop p) (h2.set id (.loop t n ps asg body .exhausted pend))
      | _ => False
    | .pan v => Q (.pan v) (f1.drop p) h2

theorem awp_rangeFunc {g : Operand} {ps : Array Tmp} {asg body : Code} {q : FuncId} {first captured : List V} (hsc : (f.ev e g).sc) (hg : (f.ev e g).sv = .fn (.func q) first captured) (hen : enters e.P q = true)
    (hc : ACalls e q (first ++ [.yd (h.length + 1)] ++ captured) (h ++ [.misc .dfd] ++ [.loop f.t n ps asg body .ready none]) (rangeK (h.length + 1) Q { f with d := h.length :: f.d })) : awp e n none (.rangeFunc g ps asg body) Q f h := by
  intro ok pl0 w0 pl w a s
  refine wpIn_rangeFunc fun fn _ => ?_
  have h1 := (s.ev g).sv hsc
  rw [hg] at h1
  simp only [VRel] at h1
  obtain ⟨fs, cs, h2, h3, h4⟩ := h1
  have hb1 : (w.alloc (.deferred (some []))).heap[w.heap.size]? = some (.deferred (some [])) := World.alloc_heap_new w _
  obtain ⟨hs1, k1⟩ := s.hs.new (WExt.alloc w (.deferred (some []))) (.deferred (some [])) (.misc .dfd) (Nat.le_refl _) (by simp) hb1
  let w1 := w.alloc (.deferred (some []))
  let rec0 : Loop := { state := .ready, pending := none, fn, tmps := a.tmps, params := ps, assign := asg, body, defers := w.heap.size }
  let pl1 := plNew pl h.length w.heap.size
  have hsz1 : w1.heap.size = w.heap.size + 1 := by simp [w1]
  have hlen : (h ++ [O.misc .dfd]).length = h.length + 1 := by simp
  have hb2 : (w1.alloc (.loop rec0)).heap[w1.heap.size]? = some (.loop rec0) := World.alloc_heap_new w1 _
  have hext2 : CExt (fun _ => false) (cx ok pl1 w1) (cx ok (plNew pl1 (h ++ [O.misc .dfd]).length w1.heap.size) (w1.alloc (.loop rec0))) := by
    have x2 := WExt.alloc w1 (.loop rec0)
    refine ⟨fun b hb' hok => ⟨⟨hok.1, fun i hi => ?_⟩, x2.same b hb'⟩, fun i b _ hi => ?_, fun b arr' el' fz hb' => ⟨arr', fz, (x2.same b (lt_of_heap hb')).trans hb', rfl⟩⟩
    · simp only [plNew] at hi
      split at hi
      · cases hi; simp only [cx] at hb'; omega
      · exact hok.2 i (by simpa only [cx, plNew] using hi)
    · have := hs1.pl_lt hi
      simp only [cx, plNew]; rw [if_neg (by simp only [hlen] at *; omega)]; exact hi
  obtain ⟨hs2, k2⟩ := hs1.new (WExt.alloc w1 (.loop rec0)) (.loop rec0) (.loop f.t n ps asg body .ready none) (b := w1.heap.size) (Nat.le_refl _) (by simp)
    ⟨rec0, hb2, rfl, rfl, rfl, rfl, rfl, s.size, fun i => VRel.mono hext2 _ _ (VRel.mono k1.cext _ _ (s.val i))⟩
  have k12 := k1.trans k2
  have kk : Keeps (fun _ => false) pl w (plNew pl1 (h ++ [O.misc .dfd]).length w1.heap.size) (w1.alloc (.loop rec0)) := k12.weaken (fun i hi => by simp at hi)
  have hpd : (plNew pl1 (h ++ [O.misc .dfd]).length w1.heap.size) h.length = some w.heap.size := by
    have : h.length ≠ (h ++ [O.misc .dfd]).length := by rw [hlen]; omega
    simp [plNew, pl1]
  have hpl : (plNew pl1 (h ++ [O.misc .dfd]).length w1.heap.size) (h.length + 1) = some (w.heap.size + 1) := by
    simp [plNew, hsz1]
  have sA := s.next0 hs2 kk
  have sB : SSim e n ok pl0 w0 { f with d := h.length :: f.d } (h ++ [.misc .dfd] ++ [.loop f.t n ps asg body .ready none]) (plNew pl1 (h ++ [O.misc .dfd]).length w1.heap.size) (w1.alloc (.loop rec0))
      { a with defers := [({ target := .collected w.heap.size, args := #[] } : Deferred)] ++ a.defers } :=
    ⟨sA.hs, sA.kp, sA.size, sA.val, ⟨w.heap.size, a.defers, rfl, hpd, sA.dfr⟩⟩
  have hargs : VList (cx ok (plNew pl1 (h ++ [O.misc .dfd]).length w1.heap.size) (w1.alloc (.loop rec0))) (first ++ [.yd (h.length + 1)] ++ captured) (fs.toList ++ [Value.func (.yield (w.heap.size + 1)) #[] #[]] ++ cs.toList) := by
    refine VList.append (VList.append (VList.mono kk.cext _ _ h3) ?_) (VList.mono kk.cext _ _ h4)
    simp only [VList, VRel]
    exact ⟨_, _, rfl, ⟨w.heap.size + 1, hpl, rfl⟩, rfl⟩
  refine ⟨w.heap.size + 1, _, w1.alloc (.loop rec0), { target := .fn (.func q) cs, args := fs ++ #[Value.func (.yield (w.heap.size + 1)) #[] #[]] }, w1.alloc (.loop rec0), q, (fs.toList ++ [Value.func (.yield (w.heap.size + 1)) #[] #[]] ++ cs.toList).toArray, w1.alloc (.loop rec0), run_enterLoop_outer fn a.tmps ps asg body, ?_, fun _ _ => trivial, ?_, fun hd' => (by cases hd'), ?_⟩
  · have : (rangeCall g (w.heap.size + 1)).args.map a.eval = #[Value.func (.yield (w.heap.size + 1)) #[] #[]] := by simp [Act.eval]
    unfold resolve
    rw [this]
    show (Deferred.ofValue (a.eval g) _).run _ _ = _
    rw [h2]
    rfl
  · simp only [invoke]
    rw [enters_run hen]
    congr 2
    apply Array.ext'
    simp
  · refine CallsIn.ofCalls (r := none) ((hc ok _ _ _ sB.hs hargs).mono ?_)
    rintro en w' ⟨p, pl', h', ae, hs', k, hend, hp, hk⟩
    have sC := sB.next hs' k hp
    cases ae with
    | ret v =>
      cases en with
      | returned x =>
        dsimp only at hk
        split at hk
        · rename_i t2 n2 ps2 asg2 body2 st2 pend2 hc2
          obtain ⟨⟨hpi, hbusy⟩, hj⟩ := hk
          have hb3 : pl' (h.length + 1) = some (w.heap.size + 1) := k.keep _ _ hpi hpl
          obtain ⟨rec2, g1, g2, g3, g4, g5, g6, g7, hs3, k3⟩ := hs'.loopSet hb3 hc2 .exhausted pend2
          have hrec : ({ rec2 with state := .exhausted } : Loop) = { rec2 with state := .exhausted, pending := pend2 } := by rw [← g3]
          refine ⟨_, _, run_endLoop g1 (by rw [g2]; exact hbusy), ?_⟩
          rw [g3]
          have sD := sC.next0 hs3 k3
          cases pend2 with
          | none => exact ⟨_, _, _, .normal, sD, trivial, hj⟩
          | some c =>
            cases c <;> try exact hj.elim
            · exact wpIn_exit ⟨_, _, _, .exit _, sD, rfl, hj⟩
            · exact wpIn_goto ⟨_, _, _, .goto _, sD, rfl, hj⟩
            · exact wpIn_ret ⟨_, _, _, .ret, sD, trivial, hj⟩
        · exact hk.elim
      | panicked ch => exact hend.elim
      | outgrown => exact hend.elim
    | pan v =>
      cases en with
      | returned x => exact hend.elim
      | panicked ch => exact ⟨_, _, _, .pan v, sC, hend, hk⟩
      | outgrown => exact hend.elim

/-- Is every operation of a drawn region of a kind that may only compute, or a call? -/
def quietOp (o : Oper) : Bool := match o.op with
  | .call { callee := .value _, .. } => true
  | _ => !isEff o.op

def vc (e : E) (n : Nat) (r : Option Nat) : Code → (XE → Fr → H → Prop) → Fr → H → Prop
  | .skip, Q, f, h => Q .normal f h
  | .label _, Q, f, h => Q .normal f h
  | .exit i, Q, f, h => Q (.exit i) f h
  | .goto l, Q, f, h => Q (.goto l) f h
  | .ret, Q, f, h => Q .ret f h
  | .seq x y, Q, f, h => vc e n r x (XE.seq (vc e n r y Q) Q) f h
  | .cond c x y, Q, f, h => match (f.ev e c).sv with
    | .bool b => (f.ev e c).sc ∧ vcB b (vc e n r x Q) (vc e n r y Q) f h
    | _ => False
  | .block id x, Q, f, h => vc e n r x (XE.block id Q) f h
  | .region _ ops false, Q, f, h => vcOps e n ops Q ops.toList f h
  | .region id ops true, Q, f, h => match ops.toList.all quietOp with
    | true => Region.lexB .any ops = true ∧ vcQuiet e n ops h (normK Q h) ops.toList f
    | false => awp e n r (.region id ops true) Q f h
  | .loop c, Q, f, h => awp e n r (.loop c) Q f h
  | .rangeFunc fn ps asg body, Q, f, h => awp e n r (.rangeFunc fn ps asg body) Q f h
  | .scope c, Q, f, h => awp e n r (.scope c) Q f h
  | .refuse s, Q, f, h => False

theorem vc_ok (hm : e.P.follows .mixedOrders = true) : ∀ (c : Code) (Q : XE → Fr → H → Prop) (f : Fr) (h : H), vc e n r c Q f h → awp e n r c Q f h
  | .skip, Q, f, h, hv => fun ok pl0 w0 pl w a s => wpIn_skip ⟨pl, f, h, .normal, s, trivial, hv⟩
  | .label _, Q, f, h, hv => fun ok pl0 w0 pl w a s => wpIn_label ⟨pl, f, h, .normal, s, trivial, hv⟩
  | .exit i, Q, f, h, hv => fun ok pl0 w0 pl w a s => wpIn_exit ⟨pl, f, h, .exit i, s, rfl, hv⟩
  | .goto l, Q, f, h, hv => fun ok pl0 w0 pl w a s => wpIn_goto ⟨pl, f, h, .goto l, s, rfl, hv⟩
  | .ret, Q, f, h, hv => fun ok pl0 w0 pl w a s => wpIn_ret ⟨pl, f, h, .ret, s, trivial, hv⟩
  | .seq x y, Q, f, h, hv => awp_seq (awp_mono (fun xe f h hq => by cases xe <;> first | exact vc_ok hm y Q f h hq | exact hq) (vc_ok hm x _ f h hv))
  | .cond c x y, Q, f, h, hv => by
    simp only [vc] at hv
    split at hv
    · rename_i b hb
      exact awp_cond hv.1 hb (fun ht => vc_ok hm x Q f h (hv.2.1 ht)) (fun hf => vc_ok hm y Q f h (hv.2.2 hf))
    · exact hv.elim
  | .block id x, Q, f, h, hv => awp_block (vc_ok hm x _ f h hv)
  | .region id ops false, Q, f, h, hv => fun ok pl0 w0 pl w a s => wpIn_region_list (vcOps_ok ops.toList f h hv pl w a s)
  | .region id ops true, Q, f, h, hv => by
    rw [vc] at hv
    cases hq : ops.toList.all quietOp with
    | true =>
      rw [hq] at hv
      exact fun ok pl0 w0 pl w a s => wpIn_drawn hm hv.1 hv.2 s
    | false => rw [hq] at hv; exact hv
  | .loop c, Q, f, h, hv => hv
  | .rangeFunc fn ps asg body, Q, f, h, hv => hv
  | .scope c, Q, f, h, hv => hv
  | .refuse s, Q, f, h, hv => hv.elim

/-! ### Forgetting -/
/-- The objects from k on are forgotten. -/
theorem SSim.cut {ok : Nat → Prop} {pl0 pl : Nat → Option Nat} {w0 w : World} {a : Act} (s : SSim e n ok pl0 w0 f h pl w a) (k : Nat) (hd : ∀ i ∈ f.d, i < k) :
    SSim e n ok pl0 w0 (f.drop (fun i => decide (k ≤ i))) ((h.map (O.drop fun i => decide (k ≤ i))).take k) (fun i => if i < k then pl i else none) w a := by
  have kp : Keeps (fun i => decide (k ≤ i)) pl w (fun i => if i < k then pl i else none) w := by
    refine ⟨rfl, rfl, rfl, Nat.le_refl _, fun _ _ _ => rfl, fun i b hi => ?_, fun i b hp hi => ?_, fun b arr el fz hb => ⟨arr, fz, hb, rfl⟩⟩
    · skip
      split at hi
      · exact .inl ⟨i, hi⟩
      · cases hi
    · simp only [decide_eq_false_iff_not, Nat.not_le] at hp
      rw [if_pos hp]; exact hi
  refine s.next (s.hs.next kp ?_ ?_ ?_ ?_) kp (fun i hi => by simpa using hd i hi)
  · intro i b hi
    split at hi
    · exact s.hs.lt i b hi
    · cases hi
  · intro i j b hi hj
    skip
    split at hi
    · split at hj
      · exact s.hs.inj i j b hi hj
      · cases hj
    · cases hi
  · intro i b hi
    split at hi
    · rename_i hik
      exact .inl ⟨hi, rfl, by rw [List.getElem?_take]; simp [hik]⟩
    · cases hi
  · intro i o ho hi
    rw [List.getElem?_take] at ho
    split at ho
    · rename_i hik
      rw [if_pos hik] at hi
      rw [List.getElem?_map] at ho
      cases hh : h[i]? with
      | none => rw [hh] at ho; cases ho
      | some o' =>
        rw [hh] at ho
        have ho : o'.drop (fun i => decide (k ≤ i)) = o := by simpa using ho
        rcases s.hs.bare i o' hh hi with rfl | rfl <;> subst ho <;> simp [O.drop, V.drops]
    · cases ho

/-- As it stands, or behind a cut. -/
def Cut (I : Fr → H → Prop) (f : Fr) (h : H) : Prop :=
  I f h ∨ ∃ k, (∀ i ∈ f.d, i < k) ∧ I (f.drop (fun i => decide (k ≤ i))) ((h.map (O.drop fun i => decide (k ≤ i))).take k)

theorem awp_cut {c : Code} (hc : Cut (awp e n r c Q) f h) : awp e n r c Q f h := by
  rcases hc with hc | ⟨k, hd, hc⟩
  · exact hc
  · intro ok pl0 w0 pl w a s
    exact hc ok pl0 w0 _ w a (s.cut k hd)

/-- A loop: an invariant that bears a number, which every round lowers. -/
theorem awp_loop {c : Code} (I : Nat → Fr → H → Prop) (m₀ : Nat) (h₀ : I m₀ f h)
    (round : ∀ m f h, I m f h → awp e n r c (XE.seq (Cut fun f' h' => ∃ m', m' < m ∧ I m' f' h') Q) f h) : awp e n r (.loop c) Q f h := by
  intro ok pl0 w0 pl w a s
  refine wpIn_loop_ghost (fun m a w => ∃ pl f h, SSim e n ok pl0 w0 f h pl w a ∧ I m f h) m₀ ⟨pl, f, h, s, h₀⟩ ?_
  rintro m a w ⟨pl, f, h, s, hI⟩
  refine wpIn_mono (round m f h hI ok pl0 w0 pl w a s) (APost.seq ?_)
  rintro pl f h a w s (⟨m', hlt, hI'⟩ | ⟨k, hd, m', hlt, hI'⟩)
  · exact ⟨m', hlt, pl, f, h, s, hI'⟩
  · exact ⟨m', hlt, _, _, _, s.cut k hd, hI'⟩

end
end Go.Abs

set_option linter.unusedVariables false
set_option linter.unusedSimpArgs false
set_option linter.unnecessarySimpa false
namespace Go.Abs
open Go.RowKit

/-! ### Local objects read as data -/
def Reif (e : E) (h : H) (v v' : V) : Prop :=
  ∀ ok pl w x, HSim e ok pl h w → VRel (cx ok pl w) v x → VRel (cx ok (fun _ => none) w) v' x

def Reifs (e : E) (h : H) (vs vs' : List V) : Prop :=
  ∀ ok pl w xs, HSim e ok pl h w → VList (cx ok pl w) vs xs → VList (cx ok (fun _ => none) w) vs' xs

theorem cext_wide (ok : Nat → Prop) (pl : Nat → Option Nat) (w : World) : CExt (fun _ => false) (cx ok pl w).data (cx ok (fun _ => none) w) :=
  ⟨fun b hb hok => ⟨⟨hok.1, fun i hi => (by cases hi)⟩, rfl⟩, fun i b _ hi => (by cases hi), fun b arr el fz hb => ⟨arr, fz, hb, rfl⟩⟩

section
variable {e : E} {h : H}

theorem Reif.dat {v : V} (hd : v.dat = true) : Reif e h v v :=
  fun ok pl w x hs hv => VRel.mono (cext_wide ok pl w) _ _ (VRel.todata _ _ hd hv)
theorem Reif.eq {v v' : V} (hd : v'.dat = true) (h0 : v = v') : Reif e h v v' := by subst h0; exact Reif.dat hd
theorem Reif.nils {ex : Bool} {k : Nat} : Reif e h .nils (.is ex k []) := by
  intro ok pl w x hs hv
  simp only [VRel] at hv ⊢
  exact ⟨none, 0, hv, Nat.le_refl _, Nat.zero_le _, fun _ => rfl, .inl trivial⟩
theorem Reifs.dat {vs : List V} (hd : V.dats vs = true) : Reifs e h vs vs :=
  fun ok pl w x hs hv => VList.mono (cext_wide ok pl w) _ _ (VList.todata _ _ hd hv)
theorem Reifs.nil : Reifs e h [] [] := fun ok pl w x hs hv => by simpa only [VList] using hv
theorem Reifs.cons {v v' : V} {vs vs' : List V} (h1 : Reif e h v v') (h2 : Reifs e h vs vs') : Reifs e h (v :: vs) (v' :: vs') := by
  intro ok pl w xs hs hv
  simp only [VList] at hv ⊢
  obtain ⟨y, ys, rfl, h3, h4⟩ := hv
  exact ⟨y, ys, rfl, h1 ok pl w y hs h3, h2 ok pl w ys hs h4⟩
theorem Reifs.append {vs vs' us us' : List V} (h1 : Reifs e h vs vs') (h2 : Reifs e h us us') (hl : vs.length = vs'.length) : Reifs e h (vs ++ us) (vs' ++ us') := by
  intro ok pl w xs hs hv
  have l0 := hv.length
  have a := hv.take vs.length
  have b := hv.dropN vs.length
  rw [List.take_left] at a
  rw [List.drop_left] at b
  have := (h1 ok pl w _ hs a).append (h2 ok pl w _ hs b)
  rwa [List.take_append_drop] at this
theorem Reif.tup {vs vs' : List V} (h1 : Reifs e h vs vs') : Reif e h (.tup vs) (.tup vs') := by
  intro ok pl w x hs hv
  simp only [VRel] at hv ⊢
  obtain ⟨cs, rfl, h2⟩ := hv
  exact ⟨cs, rfl, h1 ok pl w _ hs h2⟩
theorem Reif.agg {vs vs' : List V} (h1 : Reifs e h vs vs') : Reif e h (.agg vs) (.agg vs') := by
  intro ok pl w x hs hv
  simp only [VRel] at hv ⊢
  obtain ⟨cs, rfl, h2⟩ := hv
  exact ⟨cs, rfl, h1 ok pl w _ hs h2⟩
theorem Reif.iface {t : TypeId} {v v' : V} (h1 : Reif e h v v') : Reif e h (.iface t v) (.iface t v') := by
  intro ok pl w x hs hv
  simp only [VRel] at hv ⊢
  obtain ⟨cs, rfl, h2⟩ := hv
  exact ⟨cs, rfl, h1 ok pl w _ hs h2⟩
theorem Reif.fn {g : Fn} {as as' bs bs' : List V} (h1 : Reifs e h as as') (h2 : Reifs e h bs bs') : Reif e h (.fn g as bs) (.fn g as' bs') := by
  intro ok pl w x hs hv
  simp only [VRel] at hv ⊢
  obtain ⟨fs, cs, rfl, h3, h4⟩ := hv
  exact ⟨fs, cs, rfl, h1 ok pl w _ hs h3, h2 ok pl w _ hs h4⟩

theorem VRel.of_vc {c : C} {v : V} {xs : List Value} (hf : v.fit = true) (hv : VList c v.vc xs) : ∃ x, x.cells.toList = xs ∧ VRel c v x := by
  have one : v.one = true → v.vc = [v] → ∃ x, x.cells.toList = xs ∧ VRel c v x := by
    intro h1 h2
    rw [h2] at hv
    simp only [VList] at hv
    obtain ⟨y, ys, rfl, h3, rfl⟩ := hv
    exact ⟨y, by rw [h3.one h1], h3⟩
  cases v <;> first
    | exact one (by simpa [V.fit] using hf) rfl
    | skip
  case agg vs => exact ⟨.agg xs.toArray, by simp [Value.cells], by simp only [VRel]; exact ⟨xs.toArray, rfl, by simpa [V.vc] using hv⟩⟩

theorem elems_of_flat {ok : Nat → Prop} {w : World} {b k : Nat} (hb : ok b) {arr : Array Value} {el : TypeId} {fz : Nat × Nat} (ha : w.heap[b]? = some (.cells arr el fz)) :
    ∀ (es : List V) (off : Nat) (xs : List Value), allFit k es = true → VList (cx ok (fun _ => none) w) (es.flatMap V.vc) xs → (∀ (j : Nat) y, xs[j]? = some y → arr[off + j]? = some y) →
      VElems (cx ok (fun _ => none) w) k es b off
  | [], off, xs, _, _, _ => by simp only [VElems]
  | v :: es, off, xs, hf, hv, hx => by
    simp only [allFit, Bool.and_eq_true, beq_iff_eq] at hf
    obtain ⟨⟨⟨f1, f2⟩, f3⟩, f4⟩ := hf
    rw [List.flatMap_cons] at hv
    have a := hv.take v.vc.length
    have d := hv.dropN v.vc.length
    rw [List.take_left] at a
    rw [List.drop_left] at d
    obtain ⟨y, h1, h2⟩ := VRel.of_vc f1 a
    have hlen : y.cells.size = k := by
      have := a.length
      rw [← h1] at this
      simpa [f3] using this
    simp only [VElems]
    refine ⟨⟨y, hlen, fun j hj => ⟨⟨hb, fun i hi => (by cases hi)⟩, ?_⟩, h2⟩, ?_⟩
    · have hj' : y.cells[j]? = some y.cells[j] := by simp [hj]
      have h3 : (xs.take v.vc.length)[j]? = some y.cells[j] := by rw [← h1]; simpa using hj'
      have h4 : xs[j]? = some y.cells[j] := by
        rw [List.getElem?_take] at h3
        split at h3
        · exact h3
        · cases h3
      have := hx j _ h4
      show w.cell? _ = _
      simp only [World.cell?, ha, hj']
      simpa using this
    · refine elems_of_flat hb ha es (off + k) _ f4 d fun j z hz => ?_
      rw [List.getElem?_drop] at hz
      have := hx _ z hz
      rw [f3] at this
      rw [Nat.add_assoc]; exact this

theorem Reif.ls {id k len cap : Nat} {cs cs' es : List V} (hc : h[id]? = some (.cells cs)) (hr : Reifs e h cs cs') (hf : allFit k es = true) (hflat : es.flatMap V.vc = cs') (hlen : len = es.length) :
    Reif e h (.ls id k 0 len cap) (.is false k es) := by
  intro ok pl w x hs hv
  simp only [VRel] at hv ⊢
  obtain ⟨a, cp, rfl, h1, h2, h3, h4⟩ := hv
  refine ⟨a, cp, by rw [hlen], by omega, h3, fun hf => (by cases hf), ?_⟩
  rcases h4 with h4 | ⟨b, arr, el, fz, h5, h6, h7, h8⟩
  · exact .inl (List.length_eq_zero_iff.1 (by omega))
  · refine .inr ⟨b, 0, h6, ?_⟩
    obtain ⟨o, ho, hat⟩ := hs.obj id b h5
    rw [hc] at ho
    cases ho
    obtain ⟨arr', el', fz', h9, h10, h11, h12⟩ := hat
    have h13 : w.heap[b]? = some (.cells arr' el' fz') := h9
    have := hr ok pl w _ hs h12
    rw [← hflat] at this
    exact elems_of_flat (hs.okl id b h5) h13 es 0 _ hf this fun j y hy => by
      rw [List.getElem?_take] at hy
      split at hy
      · simpa using hy
      · cases hy

theorem Reif.lp {id off : Nat} {cs cs' : List V} {v : V} (hc : h[id]? = some (.cells cs)) (hr : Reifs e h cs cs') (hf : v.fit = true) (hd : v.dat = true) (hpos : 0 < v.vc.length) (hflat : (cs'.drop off).take v.vc.length = v.vc) :
    Reif e h (.lp id off) (.ip v) := by
  intro ok pl w x hs hv
  simp only [VRel] at hv ⊢
  obtain ⟨b, h5, rfl⟩ := hv
  obtain ⟨o, ho, hat⟩ := hs.obj id b h5
  rw [hc] at ho
  cases ho
  obtain ⟨arr', el', fz', h9, h10, h11, h12⟩ := hat
  have h13 : w.heap[b]? = some (.cells arr' el' fz') := h9
  have h14 := ((hr ok pl w _ hs h12).dropN off).take v.vc.length
  rw [hflat] at h14
  obtain ⟨y, h1, h2⟩ := VRel.of_vc hf h14
  have hlen : y.cells.size = v.vc.length := by
    have := h14.length
    rw [← h1] at this
    simpa using this
  refine ⟨b, off, y, rfl, fun j hj => ⟨⟨hs.okl id b h5, fun i hi => (by cases hi)⟩, ?_⟩, by omega, h2⟩
  have hj' : y.cells[j]? = some y.cells[j] := by simp [hj]
  have h3 : y.cells.toList[j]? = some y.cells[j] := by simpa using hj'
  rw [h1, List.getElem?_take] at h3
  split at h3
  · rw [List.getElem?_drop, List.getElem?_take] at h3
    split at h3
    · rw [hj']
      show w.cell? _ = _
      simp only [World.cell?, h13]
      simpa using h3
    · cases h3
  · cases h3

theorem Reif.lm {id : Nat} {ks vs ks' vs' : List V} (hc : h[id]? = some (.map ks vs)) (h1 : Reifs e h ks ks') (h2 : Reifs e h vs vs') : Reif e h (.lm id) (.im ks' vs') := by
  intro ok pl w x hs hv
  simp only [VRel] at hv ⊢
  obtain ⟨b, h5, rfl⟩ := hv
  obtain ⟨o, ho, hat⟩ := hs.obj id b h5
  rw [hc] at ho
  cases ho
  obtain ⟨es, clk, h3, h4, h6⟩ := hat
  exact ⟨b, es, clk, rfl, ⟨hs.okl id b h5, fun i hi => (by cases hi)⟩, h3, h1 ok pl w _ hs h4, h2 ok pl w _ hs h6.1, h6.2⟩
end

/-! ### Results -/
def resOne (P : Program) (f : Fr) (h : H) : ResultVar → PV
  | .tmp t => (True, f.t t)
  | .cell a t => PV.and (f.t a).sc (pvLoad P h t (f.t a).sv)

def resAll (P : Program) (f : Fr) (h : H) : List ResultVar → Prop × List V
  | [] => (True, [])
  | r :: rs => ((resOne P f h r).1 ∧ (resAll P f h rs).1, (resOne P f h r).2 :: (resAll P f h rs).2)

def resPV (P : Program) (f : Fr) (h : H) : List ResultVar → PV
  | [r] => resOne P f h r
  | rs => ((resAll P f h rs).1, .tup (resAll P f h rs).2)

section
variable {e : E} {n : Nat} {ok : Nat → Prop} {pl0 pl : Nat → Option Nat} {w0 w : World} {f : Fr} {h : H} {a : Act}

def resSem (tmps : Array Value) : ResultVar → Sem Value
  | .tmp t => pure (tmps.getD t undef)
  | .cell a t => do loadVar t (← asAddr (tmps.getD a undef))

theorem resOne_ok (hs : HSim e ok pl h w) {tmps : Array Value} (hv : ∀ i, VRel (cx ok pl w) (f.t i) (tmps.getD i undef)) (r : ResultVar) (hp : (resOne e.P f h r).1) :
    ∃ x, (resSem tmps r).run e.P w = .ok x w ∧ VRel (cx ok pl w) (resOne e.P f h r).2 x := by
  cases r with
  | tmp t => exact ⟨_, rfl, hv t⟩
  | cell a t =>
    simp only [resOne, PV.and] at hp
    obtain ⟨x, h1, h2⟩ := pvLoad_ok hs (t := t) ((hv a).sv hp.1) hp.2
    refine ⟨x, ?_, h2⟩
    have h1 : (Instr.loadAt t (tmps.getD a undef)).run e.P w = .ok x w := h1
    show (do loadVar t (← asAddr (tmps.getD a undef)) : Sem Value).run e.P w = _
    revert h1
    generalize tmps.getD a undef = y
    intro h1
    unfold Instr.loadAt at h1
    cases y <;> try (simp [Instr.sureAddr, stuck, Result.andThen] at h1; done)
    rename_i p
    cases p with
    | none => simp [Instr.sureAddr, stuck, Result.andThen] at h1
    | some p => simpa [Instr.sureAddr, asAddr] using h1

theorem resAll_ok (hs : HSim e ok pl h w) {tmps : Array Value} (hv : ∀ i, VRel (cx ok pl w) (f.t i) (tmps.getD i undef)) : ∀ (rs : List ResultVar), (resAll e.P f h rs).1 →
    ∃ xs, (rs.mapM (resSem tmps)).run e.P w = .ok xs w ∧ VList (cx ok pl w) (resAll e.P f h rs).2 xs
  | [], _ => ⟨[], rfl, by simp only [resAll, VList]⟩
  | r :: rs, hp => by
    obtain ⟨x, h1, h2⟩ := resOne_ok hs hv r hp.1
    obtain ⟨xs, h3, h4⟩ := resAll_ok hs hv rs hp.2
    exact ⟨x :: xs, by simp [List.mapM_cons, h1, h3, Result.andThen], by simp only [resAll, VList]; exact ⟨x, xs, rfl, h2, h4⟩⟩

theorem res_ok (hs : HSim e ok pl h w) {tmps : Array Value} (hv : ∀ i, VRel (cx ok pl w) (f.t i) (tmps.getD i undef)) {fn : Func} (hp : (resPV e.P f h fn.results.toList).1) :
    ∃ x, (results fn tmps).run e.P w = .ok x w ∧ VRel (cx ok pl w) (resPV e.P f h fn.results.toList).2 x := by
  have hr : results fn tmps = (do
      let vs ← fn.results.mapM (resSem tmps)
      pure (if h : vs.size = 1 then vs[0] else .tuple vs)) := by
    unfold results
    congr 1
  have hall : (resAll e.P f h fn.results.toList).1 := by
    revert hp
    cases fn.results.toList with
    | nil => exact fun hp => hp
    | cons r rs =>
      cases rs with
      | nil => exact fun hp => ⟨hp, trivial⟩
      | cons r' rs => exact fun hp => hp
  obtain ⟨xs, h1, h2⟩ := resAll_ok hs hv fn.results.toList hall
  have h3 : (results fn tmps).run e.P w = .ok (if h : xs.toArray.size = 1 then xs.toArray[0] else .tuple xs.toArray) w := by
    rw [hr, Array.mapM_eq_mapM_toList]
    simp only [Sem.run_bind, Sem.run_map, h1, Result.andThen]
    rfl
  refine ⟨_, h3, ?_⟩
  have hl := h2.length
  revert hp h2 hl
  cases fn.results.toList with
  | nil =>
    intro hp h2 hl
    simp only [resAll, VList] at h2
    subst h2
    simp only [resPV, resAll, VRel, VList]
    exact ⟨#[], rfl, rfl⟩
  | cons r rs =>
    cases rs with
    | nil =>
      intro hp h2 hl
      simp only [resAll, VList] at h2
      obtain ⟨y, ys, rfl, h4, rfl⟩ := h2
      simpa [resPV] using h4
    | cons r' rs =>
      intro hp h2 hl
      have : ¬ xs.toArray.size = 1 := by simp [resAll] at hl; simp [hl]
      rw [dif_neg this]
      simp only [resPV, VRel]
      exact ⟨_, rfl, by simpa using h2⟩
end

/-! ### Functions -/
def Fr.init (args : List V) : Fr := { t := fun i => args.getD i undefV }

/-- The blocks of the loops over functions are shut at the function's end. -/
def shutAll : List Nat → H → Option H
  | [], h => some h
  | i :: is, h => match h[i]? with
    | some (.misc .dfd) => shutAll is (h.set i (.misc .shut))
    | _ => none

/-- What the end of a function's body has to be. -/
def fnEnd (P : Program) (rs : List ResultVar) (R : V → H → (Nat → Bool) → Prop) (f : Fr) (h : H) : Prop :=
  match shutAll f.d h with
  | some h' => (resPV P f h' rs).1 ∧ R (resPV P f h' rs).2 h' f.k
  | none => False
def fnPost (P : Program) (rs : List ResultVar) (R : AEnd → H → (Nat → Bool) → Prop) : XE → Fr → H → Prop
  | .normal, f, h | .ret, f, h => fnEnd P rs (fun v => R (.ret v)) f h
  | .pan v, f, h => match shutAll f.d h with
    | some h' => R (.pan v) h' f.k
    | none => False
  | _, _, _ => False

section
variable {e : E} {g : FuncId} {fn : Func} {c : Code} {args : List V} {h : H} {R : AEnd → H → (Nat → Bool) → Prop}

theorem SSim.init (htl : e.tl = []) {ok : Nat → Prop} {pl : Nat → Option Nat} {w : World} {vs : List Value} {n : Nat} (hs : HSim e ok pl h w) (hv : VList (cx ok pl w) args vs) (hn : args.length ≤ n) :
    SSim e n ok pl w (Fr.init args) h pl w { tmps := vs.toArray ++ Array.replicate (n - vs.toArray.size) undef, defers := [] } := by
  have hl := hv.length
  refine ⟨hs, Keeps.refl pl w, by simp; omega, fun i => ?_, htl.symm⟩
  simp only [Fr.init]
  by_cases hi : i < args.length
  · obtain ⟨x, h1, h2⟩ := VList.get i (args[i]) hv (by simp [hi])
    have h3 : args.getD i undefV = args[i] := by simp [List.getD_eq_getElem?_getD, hi]
    have h4 : (vs.toArray ++ Array.replicate (n - vs.toArray.size) undef).getD i undef = x := by
      rw [Array.getD_eq_getD_getElem?, Array.getElem?_append_left (by simpa using (by omega : i < vs.length))]
      simp [h1]
    rw [h3, h4]; exact h2
  · have h3 : args.getD i undefV = undefV := by simp [List.getD_eq_getElem?_getD, Nat.not_lt.1 hi]
    have h4 : (vs.toArray ++ Array.replicate (n - vs.toArray.size) undef).getD i undef = undef := by
      rw [Array.getD_eq_getD_getElem?, Array.getElem?_append_right (by simpa using (by omega : vs.length ≤ i)), Array.getElem?_replicate]
      split <;> rfl
    rw [h3, h4]; exact undef_rel _

theorem leaves (htl : e.tl = []) {ok : Nat → Prop} {pl0 : Nat → Option Nat} {w0 : World} {n : Nat} {f : Fr} {R' : Ending → World → Prop} {u : FrameMode} (hu : u ≠ .run) {a : Act} {v : V} {x : Value} : ∀ (is : List Nat) (ds : List Deferred) (h h' : H) (pl : Nat → Option Nat) (w : World),
    SSim e n ok pl0 w0 { f with d := is } h pl w { a with defers := ds } → VRel (cx ok pl w) v x → shutAll is h = some h' →
    (∀ w', SSim e n ok pl0 w0 { f with d := [] } h' pl w' { a with defers := [] } → VRel (cx ok pl w') v x → LeavesInM (RF none) 0 e.P fn a.tmps R' [] u w') → LeavesInM (RF none) 0 e.P fn a.tmps R' ds u w
  | [], ds, h, h', pl, w, s, hx, hsh, hk => by
    have hd : ds = [] := Eq.trans s.dfr htl
    subst hd
    simp only [shutAll, Option.some.injEq] at hsh
    subst hsh
    exact hk w s hx
  | i :: is, ds, h, h', pl, w, s, hx, hsh, hk => by
    obtain ⟨b, rest, h1, h2, h3⟩ := s.dfr
    have h1 : ds = _ := h1
    subst h1
    have h2 : pl i = some b := h2
    simp only [shutAll] at hsh
    split at hsh
    · rename_i hc
      obtain ⟨o, ho, hat⟩ := s.hs.obj i b h2
      rw [hc] at ho; cases ho
      have hheap : w.heap[b]? = some (.deferred (some [])) := hat
      have hlt := s.hs.lt i b h2
      obtain ⟨hs2, k2⟩ := s.hs.upd (w' := w.putObj b (.deferred none)) h2 (.misc .shut) rfl rfl rfl (by simp) (fun j hj => World.putObj_heap_other hj)
        (fun arr el fz hh => by rw [hheap] at hh; cases hh) (fun k => World.putObj_heap_same hlt)
      refine ⟨hu, .inl ⟨b, _, rfl, run_takeDeferred hheap, ?_⟩⟩
      have s2 := s.next0 hs2 k2
      have h4 : DRel (cx ok pl (w.putObj b (.deferred none))) e.tl is rest := DRel.mono (c := cx ok pl w) (c' := cx ok pl (w.putObj b (.deferred none))) (fun _ _ hi => hi) h3
      exact leaves htl hu is rest _ h' pl _ ⟨s2.hs, s2.kp, s2.size, s2.val, h4⟩ (VRel.mono k2.cext _ _ hx) hsh hk
    · cases hsh

theorem ACalls.of_awp (hf : e.P.funcs[g]? = some fn) (hb : fn.body = some c) (hn : args.length ≤ fn.ntmps)
    (hv : awp e fn.ntmps none c (fnPost e.P fn.results.toList R) (Fr.init args) h) (htl : e.tl = [] := by rfl) : ACalls e g args h R := by
  intro ok pl w vs hs hl
  refine CallsIn.toCalls (r := none) (n := 0) (callsIn_of_wp_marks hf hb (RF_fn none g) ?_ rfl)
  have s0 := SSim.init htl (n := fn.ntmps) hs hl hn
  refine wpIn_mono (hv ok pl w pl w _ s0) ?_
  rintro ex a w' ⟨pl', f', h', xe, s, hx, hq⟩
  have done : fnEnd e.P fn.results.toList (fun v => R (.ret v)) f' h' → LeavesInM (RF none) 0 e.P fn a.tmps (fun en w' => ∃ p pl' h' ae, HSim e ok pl' h' w' ∧ Keeps p pl w pl' w' ∧ EndRel (cx ok pl' w') ae en ∧ R ae h' p) a.defers .returning w' := by
    intro hq
    unfold fnEnd at hq
    split at hq
    · rename_i h2 hsh
      refine leaves htl (f := f') (a := a) (v := .any) (x := undef) (by simp) f'.d a.defers h' h2 pl' w' s (by simp only [VRel]) hsh fun w2 s2 _ => ?_
      obtain ⟨x, h1, h3⟩ := res_ok (f := f') s2.hs s2.val hq.1
      exact ⟨x, h1, f'.k, pl', h2, .ret _, s2.hs, s2.kp, h3, hq.2⟩
    · exact hq.elim
  cases xe <;> cases ex <;> (try (exact hx.elim)) <;> (try (exact hq.elim))
  case normal => exact done hq
  case ret => exact done hq
  case pan v ch =>
    simp only [fnPost] at hq
    split at hq
    · rename_i h2 hsh
      obtain ⟨x, hch, hxr⟩ := hx
      exact leaves htl (f := f') (a := a) (v := v) (x := x) (by simp) f'.d a.defers h' h2 pl' w' s hxr hsh fun w2 s2 hr => ⟨f'.k, pl', h2, .pan v, s2.hs, s2.kp, ⟨x, hch, hr⟩, hq⟩
    · exact hq.elim

theorem Ev.of_calls {r : V} (hv : ACalls e g args [] fun ae h _ => match ae with | .ret v => Reif e h v r | .pan _ => False) : Ev e g args r := by
  intro ok w vs hs hl
  refine (hv ok _ w vs hs hl).mono ?_
  rintro en w' ⟨p, pl', h', ae, hs', k, he, hr⟩
  cases ae with
  | pan v => exact hr.elim
  | ret v =>
    cases en with
    | returned x => exact ⟨x, rfl, ⟨k.os, k.tape, k.output, k.size, fun b hb => k.same b hb (fun i hi => by cases hi)⟩, hr ok pl' w' x hs' he⟩
    | panicked ch => exact he.elim
    | outgrown => exact he.elim

def evEnd (e : E) (r : V) (v : V) (h : H) (_ : Nat → Bool) : Prop := Reif e h v r
def evPost (e : E) (rs : List ResultVar) (r : V) : XE → Fr → H → Prop
  | .normal, f, h | .ret, f, h => fnEnd e.P rs (evEnd e r) f h
  | _, _, _ => False

theorem Ev.of_awp {r : V} (hf : e.P.funcs[g]? = some fn) (hb : fn.body = some c) (hn : args.length ≤ fn.ntmps)
    (hv : awp e fn.ntmps none c (evPost e fn.results.toList r) (Fr.init args) []) (htl : e.tl = [] := by rfl) : Ev e g args r :=
  Ev.of_calls (ACalls.of_awp hf hb hn (awp_mono (fun xe f h hq => by cases xe <;> first | exact hq | exact hq.elim) hv) htl)

def V.plain1 : V → Bool
  | .any | .bool _ | .int _ _ | .str _ | .nilp | .nils | .nilm | .nilf | .nili => true
  | _ => false

/-- Values that refer to nothing. -/
def V.plain : V → Bool
  | .tup vs => vs.all V.plain1
  | v => v.plain1

theorem VRel.plain1 {c c' : C} {v : V} {x : Value} (hp : v.plain1 = true) (h : VRel c v x) : VRel c' v x := by
  cases v <;> simp only [V.plain1, Bool.false_eq_true] at hp <;> simpa only [VRel] using h

theorem VList.plain {c c' : C} : ∀ {vs : List V} {xs : List Value}, vs.all V.plain1 = true → VList c vs xs → VList c' vs xs
  | [], _, _, h => by simpa only [VList] using h
  | v :: vs, _, hp, h => by
    simp only [List.all_cons, Bool.and_eq_true] at hp
    simp only [VList] at h ⊢
    obtain ⟨y, ys, rfl, h1, h2⟩ := h
    exact ⟨y, ys, rfl, h1.plain1 hp.1, h2.plain hp.2⟩

theorem VRel.plain {c c' : C} {v : V} {x : Value} (hp : v.plain = true) (h : VRel c v x) : VRel c' v x := by
  cases v
  case tup vs =>
    simp only [VRel] at h ⊢
    obtain ⟨cs, rfl, h1⟩ := h
    exact ⟨cs, rfl, h1.plain hp⟩
  all_goals exact VRel.plain1 (by simpa [V.plain] using hp) h

theorem HSim.lend {ok : Nat → Prop} {pl : Nat → Option Nat} {w : World} (hs : HSim e ok pl h w) : HSim e ok (fun _ => none) [] w where
  fresh := hs.fresh
  lt i b hi := by cases hi
  okl i b hi := by cases hi
  inj i j b hi := by cases hi
  obj i b hi := by cases hi
  bare i o ho := by simp at ho
  glob g v hg := Reif.dat (h := h) (v := .ip v) rfl ok pl w _ hs (hs.glob g v hg)
  exa g cs hg := by
    obtain ⟨h1, h2⟩ := hs.exa g cs hg
    exact ⟨⟨h1.1, fun i hi => (by cases hi)⟩, h2⟩

/-- Local objects are lent to a function that only computes. -/
theorem ACalls.lend {args' : List V} {r : V} (hv : Ev e g args' r) (hr : Reifs e h args args') (hp : r.plain = true) (hk : R (.ret r) h (fun _ => false)) : ACalls e g args h R :=
  fun ok pl w vs hs hl => (hv ok w vs hs.lend (hr ok pl w vs hs hl)).mono fun en w' ⟨x, h1, h2, h3⟩ =>
    ⟨fun _ => false, pl, h, .ret r, hs.wext h2, h2.keeps hs, by rw [h1]; exact h3.plain hp, hk⟩
end
end Go.Abs
