/- Abstract values, heaps and frames over the calculus, part 18. -/
import Derived.Test.YtegnjoonhabicaaA17
import Derived.Still
set_option linter.unusedVariables false
set_option linter.unusedSimpArgs false
namespace Go.Abs
open Go.RowKit

/-! ### Regions that draw their order -/
theorem Fr.put_comm (f : Fr) {x y : Option Tmp} (v u : V) (h : ∀ d, x = some d → y ≠ some d) : (f.put x v).put y u = (f.put y u).put x v := by
  cases x with
  | none => rfl
  | some d =>
    cases y with
    | none => rfl
    | some e =>
      have hne : d ≠ e := fun he => h d rfl (he ▸ rfl)
      simp only [Fr.put]
      congr 1
      funext j
      by_cases h1 : j = e
      · by_cases h2 : j = d
        · exact absurd (h2.symm.trans h1) hne
        · rw [if_pos h1, if_neg h2, if_pos h1]
      · rw [if_neg h1, if_neg h1]

theorem Fr.ev_put {e : E} {f : Fr} {dst : Option Tmp} {v : V} {x : Operand} (h : ∀ d, dst = some d → x ≠ .tmp d) : (f.put dst v).ev e x = f.ev e x := by
  cases dst with
  | none => rfl
  | some d =>
    cases x with
    | tmp t =>
      have hne : t ≠ d := fun he => h d rfl (by rw [he])
      simp [Fr.ev, Fr.put, hne]
    | _ => rfl

theorem AQ.congr {e : E} {o : Oper} {ρ ρ' : Operand → V} {h : H} {v : V} (hh : ∀ x ∈ o.op.operands, ρ x = ρ' x) (ha : AQ e o ρ h v) : AQ e o ρ' h v :=
  fun ok pl w ev hs hr => ha ok pl w ev hs fun x hx => by rw [hh x hx]; exact hr x hx

section
variable {e : E} {n : Nat} {r : Option Nat} {ops : Array Oper} {md : Region.Mode} {h : H}

theorem ev_look {o : Oper} {f : Fr} {dst : Option Tmp} {v : V} (hd : ∀ d, dst = some d → d ∉ o.looksAt ops) : ∀ x ∈ o.op.operands, (f.put dst v).ev e x = f.ev e x :=
  fun x hx => Fr.ev_put fun d hd' hxd => hd d hd' (by
    subst hxd
    exact List.mem_append_left _ (List.mem_filterMap.2 ⟨.tmp d, by simpa using hx, rfl⟩))

theorem gd_put {o : Oper} {f : Fr} {dst : Option Tmp} {v : V} (hd : ∀ d, dst = some d → d ∉ o.looksAt ops) : gd ops (f.put dst v) o = gd ops f o := by
  unfold gd
  cases hg : o.guard with
  | none => rfl
  | some jw =>
    obtain ⟨j, want⟩ := jw
    dsimp only
    cases ht : (ops[j]?).bind (·.dst) with
    | none => rfl
    | some d' =>
      dsimp only
      congr 1
      cases dst with
      | none => rfl
      | some d =>
        simp only [Fr.put]
        rw [if_neg]
        intro he
        refine hd d rfl ?_
        unfold Oper.looksAt
        refine List.mem_append_right _ ?_
        rw [hg]
        dsimp only
        rw [ht, he]; simp

/-- In this frame the operation yields v. -/
def AYield (e : E) (n : Nat) (ops : Array Oper) (h : H) (o : Oper) (v : V) (f : Fr) : Prop :=
  dstOk n o.dst = true ∧ ∃ g v', gd ops f o = some g ∧ (g = true → AQ e o (f.ev e) h v') ∧ v = V.guard g v'

theorem AYield.put {o : Oper} {v : V} {f : Fr} (hy : AYield e n ops h o v f) {dst : Option Tmp} {u : V} (hd : ∀ d, dst = some d → d ∉ o.looksAt ops) : AYield e n ops h o v (f.put dst u) := by
  obtain ⟨h1, g, v', h2, h3, h4⟩ := hy
  exact ⟨h1, g, v', by rw [gd_put hd]; exact h2, fun hg => (h3 hg).congr fun x hx => (ev_look hd x hx).symm, h4⟩

theorem AYield.unput {o : Oper} {v : V} {f : Fr} {dst : Option Tmp} {u : V} (hy : AYield e n ops h o v (f.put dst u)) (hd : ∀ d, dst = some d → d ∉ o.looksAt ops) : AYield e n ops h o v f := by
  obtain ⟨h1, g, v', h2, h3, h4⟩ := hy
  exact ⟨h1, g, v', by rw [gd_put hd] at h2; exact h2, fun hg => (h3 hg).congr fun x hx => ev_look hd x hx, h4⟩

def aqOp (e : E) (n : Nat) (ops : Array Oper) (h : H) (i : Nat) (Kn : Fr → Prop) (f : Fr) : Prop :=
  match ops[i]? with
  | none => Kn f
  | some o => ∃ v, AYield e n ops h o v f ∧ Kn (f.put o.dst v)

theorem aqOp_mono {i : Nat} {f : Fr} {K K' : Fr → Prop} (hh : ∀ f, K f → K' f) (hq : aqOp e n ops h i K f) : aqOp e n ops h i K' f := by
  unfold aqOp at *
  split
  · exact hh _ (by simpa [*] using hq)
  · rename_i o ho
    simp only [ho] at hq
    obtain ⟨v, h1, h2⟩ := hq
    exact ⟨v, h1, hh _ h2⟩

def wpAnyA (e : E) (n : Nat) (md : Region.Mode) (ops : Array Oper) (h : H) (Q : Fr → Prop) : Nat → Array Bool → Fr → Prop
  | 0, listed, f => Region.ready md ops listed = [] ∧ Q f
  | fuel + 1, listed, f =>
    (Region.ready md ops listed = [] → Q f) ∧
    ∀ i ∈ Region.ready md ops listed, aqOp e n ops h i (wpAnyA e n md ops h Q fuel (listed.setIfInBounds i true)) f

theorem aqOp_put {j : Nat} {oi oj : Oper} {v : V} (hj : ops[j]? = some oj) (hap : oi.apart ops oj = true) {K : Fr → Prop} {f : Fr}
    (hy : AYield e n ops h oi v f) (hq : aqOp e n ops h j K (f.put oi.dst v)) :
    aqOp e n ops h j (fun f' => AYield e n ops h oi v f' ∧ K (f'.put oi.dst v)) f := by
  obtain ⟨h1, h2, h3⟩ := Oper.apart_spec hap
  unfold aqOp at *
  simp only [hj] at *
  obtain ⟨u, hu, hn⟩ := hq
  exact ⟨u, hu.unput h1, hy.put h3, by rw [← Fr.put_comm f v u h2]; exact hn⟩

theorem wpAnyA_first {Q : Fr → Prop} {i : Nat} {oi : Oper} {v : V} (hi : ops[i]? = some oi) :
    ∀ (fuel : Nat) (listed : Array Bool) (f : Fr),
      (∀ j oj, ops[j]? = some oj → j ≠ i → listed.getD j true = false → (∀ e ∈ oj.after, Region.binds md e = true → e.on ≠ i) → oi.apart ops oj = true) →
      i ∈ Region.ready md ops listed → AYield e n ops h oi v f →
      wpAnyA e n md ops h Q fuel (listed.setIfInBounds i true) (f.put oi.dst v) → wpAnyA e n md ops h Q (fuel + 1) listed f := by
  have own : ∀ {K : Fr → Prop} {f : Fr}, AYield e n ops h oi v f → K (f.put oi.dst v) → aqOp e n ops h i K f := by
    intro K f hy hk
    unfold aqOp
    rw [hi]
    exact ⟨v, hy, hk⟩
  intro fuel
  induction fuel with
  | zero =>
    intro listed f _ hr hy H
    refine ⟨fun h => (by rw [h] at hr; cases hr), fun j hj => ?_⟩
    by_cases hji : j = i
    · subst hji; exact own hy H
    · have := ready_mono hj hji
      rw [H.1] at this
      cases this
  | succ fuel ih =>
    intro listed f hfree hr hy H
    refine ⟨fun h => (by rw [h] at hr; cases hr), fun j hj => ?_⟩
    by_cases hji : j = i
    · subst hji; exact own hy H
    · have h1 := H.2 j (ready_mono hj hji)
      obtain ⟨hjun, oj, hoj, hall⟩ := mem_ready.1 hj
      have hnot : ∀ e ∈ oj.after, Region.binds md e = true → e.on ≠ i := fun e he hb heq => by
        have h1 := hall e he hb
        have h0 := (mem_ready.1 hr).1
        rw [heq] at h1
        rcases Nat.lt_or_ge i listed.size with h' | h'
        · simp [h'] at h0 h1; rw [h0] at h1; cases h1
        · simp [Array.getElem?_eq_none h'] at h1
      have h2 := aqOp_put hoj (hfree j oj hoj hji hjun hnot) hy h1
      have hfree' : ∀ k ok, ops[k]? = some ok → k ≠ i → (listed.setIfInBounds j true).getD k true = false →
          (∀ e ∈ ok.after, Region.binds md e = true → e.on ≠ i) → oi.apart ops ok = true := fun k ok hk hki hun hno => by
        refine hfree k ok hk hki ?_ hno
        by_cases hjk : j = k
        · subst hjk; exact hjun
        · rw [getD_set_ne true hjk] at hun; exact hun
      refine aqOp_mono (fun a' h3 => ih (listed.setIfInBounds j true) a' hfree' (ready_mono hr (Ne.symm hji)) h3.1 ?_) h2
      rw [Array.setIfInBounds_comm _ _ hji]
      exact h3.2

/-- The walk in the text's order. -/
def wpQuietA (e : E) (n : Nat) (ops : Array Oper) (h : H) (Q : Fr → Prop) : List Oper → Fr → Prop
  | [], f => Q f
  | o :: rest, f => ∃ v, AYield e n ops h o v f ∧ wpQuietA e n ops h Q rest (f.put o.dst v)

theorem wpAnyA_lex {Q : Fr → Prop} : ∀ (l : List Oper) (k : Nat) (listed : Array Bool) (f : Fr), (∀ j, l[j]? = ops[k + j]?) →
    Region.lexFrom md ops l.length k listed = true → wpQuietA e n ops h Q l f → wpAnyA e n md ops h Q l.length listed f
  | [], _, _, _, _, hB, h => ⟨by simpa [Region.lexFrom] using hB, h⟩
  | o :: l, k, listed, f, hl, hB, hh => by
    have h0 : ops[k]? = some o := by simpa using (hl 0).symm
    simp only [List.length_cons, Region.lexFrom, Bool.and_eq_true] at hB
    obtain ⟨⟨hr, hf⟩, hB'⟩ := hB
    obtain ⟨v, hy, hK⟩ := hh
    exact wpAnyA_first h0 l.length listed f (Region.free_spec h0 hf) (by simpa using hr) hy
      (wpAnyA_lex l (k + 1) _ _ (fun j => by have := hl (j + 1); simpa [Nat.add_assoc, Nat.add_comm 1 j] using this) hB' hK)

theorem wpOpIn_of_A {ok : Nat → Prop} {pl0 : Nat → Option Nat} {w0 : World} {Q' : Exit → Act → World → Prop} {i : Nat} {Kn : Fr → Prop} {K' : Act → World → Prop} {f : Fr}
    (hK : ∀ f pl w a, SSim e n ok pl0 w0 f h pl w a → Kn f → K' a w) (hq : aqOp e n ops h i Kn f) {pl : Nat → Option Nat} {w : World} {a : Act} (s : SSim e n ok pl0 w0 f h pl w a)
    (hQ : ∀ (K' : Act → World → Prop) (o : Oper) v, AQ e o (f.ev e) h v → dstOk n o.dst = true → (∀ a' w' pl', SSim e n ok pl0 w0 (f.put o.dst v) h pl' w' a' → K' a' w') → o.wpIn (RF r) 0 e.P a w K' Q') : wpOpIn (RF r) 0 e.P ops Q' i K' a w := by
  unfold aqOp at hq
  unfold wpOpIn
  split
  · rename_i ho; simp only [ho] at hq; exact hK _ _ _ _ s hq
  · rename_i o ho
    simp only [ho] at hq
    obtain ⟨v, ⟨hd, g, v', hg, hv, rfl⟩, hk⟩ := hq
    have hw := gd_ok s.val hg
    cases g with
    | true =>
      rw [if_pos hw]
      exact hQ _ o v' (hv rfl) hd fun a' w' pl' s' => hK _ _ _ _ s' hk
    | false =>
      rw [if_neg (by rw [hw]; simp)]
      exact ⟨fun g _ => RF_fn r g, hK _ _ _ _ (s.put hd (guard_rel (fun hf => by cases hf) (fun _ => rfl))) hk⟩

theorem wpAnyIn_of_A {ok : Nat → Prop} {pl0 : Nat → Option Nat} {w0 : World} {Q : XE → Fr → H → Prop} : ∀ (fuel : Nat) (listed : Array Bool) (f : Fr), wpAnyA e n md ops h (fun f => Q .normal f h) fuel listed f →
    ∀ pl w a, SSim e n ok pl0 w0 f h pl w a → wpAnyIn (RF r) 0 e.P md ops (APost e n ok pl0 w0 Q) fuel listed a w
  | 0, _, f, hh, pl, w, a, s => ⟨hh.1, pl, f, h, .normal, s, trivial, hh.2⟩
  | fuel + 1, _, f, hh, pl, w, a, s => ⟨fun h0 => ⟨pl, f, h, .normal, s, trivial, hh.1 h0⟩, fun i hi =>
      wpOpIn_of_A (fun f' pl' w' a' s' hk => wpAnyIn_of_A fuel _ f' hk pl' w' a' s') (hh.2 i hi) s fun K' o v hq hd hk =>
        Oper.wpIn_mono (fun a' w' ⟨pl', f', h', s', hf, hh'⟩ => by subst hf; subst hh'; exact hk a' w' pl' s')
          (Eff.of_AQ (K := fun f' h' => f' = f.put o.dst v ∧ h' = h) (Q := Q) hq ⟨rfl, rfl⟩ ok pl0 w0 pl w a s hd)⟩
end

/-- A call of a function that only computes, wherever it is made. -/
def vcEv (e : E) (g : Bool) (q : FuncId) (vs : List V) (sc : Prop) (dst : Option Tmp) (Kn : Fr → Prop) (f : Fr) : Prop :=
  ∃ rv, (g = true → sc ∧ enters e.P q = true ∧ V.dats vs = true ∧ Ev e q vs rv) ∧ Kn (f.put dst (V.guard g rv))

theorem vcEv.mk {e : E} {q : FuncId} {vs : List V} {dst : Option Tmp} {Kn : Fr → Prop} {f : Fr} {rv : V} (hv : Ev e q vs rv) (h2 : enters e.P q = true) (h3 : V.dats vs = true) (hk : Kn (f.put dst rv)) : vcEv e true q vs True dst Kn f :=
  ⟨rv, fun _ => ⟨trivial, h2, h3, hv⟩, hk⟩
theorem vcEv.mkg {e : E} {g : Bool} {q : FuncId} {vs : List V} {sc : Prop} {dst : Option Tmp} {Kn : Fr → Prop} {f : Fr} {rv : V} (h1 : g = true → sc) (hv : g = true → Ev e q vs rv) (h2 : enters e.P q = true) (h3 : g = true → V.dats vs = true) (hk : Kn (f.put dst (V.guard g rv))) : vcEv e g q vs sc dst Kn f :=
  ⟨rv, fun hg => ⟨h1 hg, h2, h3 hg, hv hg⟩, hk⟩
theorem vcEv.no {e : E} {q : FuncId} {vs : List V} {sc : Prop} {dst : Option Tmp} {Kn : Fr → Prop} {f : Fr} (hk : Kn (f.put dst (.grd false .any))) : vcEv e false q vs sc dst Kn f :=
  ⟨.any, fun hg => (by cases hg), hk⟩

def goQ (g : Bool) (q : Prop × V) (d : Option Tmp) (Kn : Fr → Prop) (f : Fr) : Prop := (g = true → q.1) ∧ Kn (f.put d (V.guard g q.2))
def normK (Q : XE → Fr → H → Prop) (h : H) (f : Fr) : Prop := Q .normal f h

/-- Every operation computes and reads, or is a call of a function that does: one after another. -/
def vcQuiet (e : E) (n : Nat) (ops : Array Oper) (h : H) (Q : Fr → Prop) : List Oper → Fr → Prop
  | [], f => Q f
  | o :: rest, f =>
    match gd ops f o with
    | none => False
    | some g => dstOk n o.dst = true ∧
      match isEff o.op with
      | true => match o.op with
        | .call { callee := .value fx, args, .. } => match callOn e (f.ev e) fx args with
          | some (q, vs) => vcEv e g q vs (callSc (f.ev e) fx args) o.dst (vcQuiet e n ops h Q rest) f
          | none => False
        | _ => False
      | false => goQ g (pvOp e.P o (f.ev e) h) o.dst (vcQuiet e n ops h Q rest) f

theorem wpQuietA_of_vc {e : E} {n : Nat} {ops : Array Oper} {h : H} {Q : Fr → Prop} : ∀ (l : List Oper) (f : Fr), vcQuiet e n ops h Q l f → wpQuietA e n ops h Q l f
  | [], f, hv => hv
  | o :: rest, f, hv => by
    simp only [vcQuiet] at hv
    cases hg : gd ops f o with
    | none => rw [hg] at hv; exact hv.elim
    | some g =>
      rw [hg] at hv
      obtain ⟨hd, hv⟩ := hv
      cases he : isEff o.op with
      | true =>
        rw [he] at hv
        dsimp only at hv
        split at hv
        · rename_i fx args ts hop
          split at hv
          · rename_i q vs hon
            obtain ⟨rv, h1, h2⟩ := hv
            exact ⟨_, ⟨hd, g, rv, hg, fun hgt => AQ.call hop hon (h1 hgt).1 (h1 hgt).2.1 (h1 hgt).2.2.1 (h1 hgt).2.2.2, rfl⟩, wpQuietA_of_vc rest _ h2⟩
          · exact hv.elim
        · exact hv.elim
      | false =>
        rw [he] at hv
        dsimp only at hv
        obtain ⟨h1, h2⟩ := hv
        exact ⟨_, ⟨hd, g, _, hg, fun hgt => pvOp_ok (h1 hgt), rfl⟩, wpQuietA_of_vc rest _ h2⟩

theorem wpIn_drawn {e : E} {n : Nat} {r : Option Nat} {ops : Array Oper} {h : H} {Q : XE → Fr → H → Prop} {id : Nat} {f : Fr} {ok : Nat → Prop} {pl0 : Nat → Option Nat} {w0 : World} (hm : e.P.follows .mixedOrders = true)
    (hB : Region.lexB .any ops = true) (hv : vcQuiet e n ops h (normK Q h) ops.toList f) {pl : Nat → Option Nat} {w : World} {a : Act} (s : SSim e n ok pl0 w0 f h pl w a) :
    (Code.region id ops true).wpIn (RF r) 0 e.P (APost e n ok pl0 w0 Q) a w := by
  simp only [Region.lexB, Bool.and_eq_true] at hB
  have x : WExt w { w with drawn := w.drawn + 1 } := WExt.drew w
  refine wpIn_region_any hm (wpAnyIn_of_A (ops := ops) (md := .any) (f := f) (h := h) _ _ ?_ _ _ _ (s.next0 (s.hs.wext x) (x.keeps s.hs)))
  have := wpAnyA_lex (e := e) (n := n) (h := h) (Q := fun f => Q .normal f h) (md := .any) (ops := ops) ops.toList 0 (Array.replicate ops.size false) f (by simp) (by simpa using hB.2) (wpQuietA_of_vc _ _ hv)
  simpa using this

end Go.Abs
