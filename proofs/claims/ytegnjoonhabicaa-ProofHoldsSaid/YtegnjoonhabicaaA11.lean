/- Abstract values, heaps and frames over the calculus, part 11. -/
import Derived.Test.YtegnjoonhabicaaA10
set_option linter.unusedVariables false
set_option linter.unusedSimpArgs false
namespace Go.Abs
open Go.RowKit

def allSc : List V → Prop
  | [] => True
  | v :: vs => v.sc ∧ allSc vs

theorem VList.sv {c : C} : ∀ {vs : List V} {xs : List Value}, VList c vs xs → allSc vs → VList c (vs.map V.sv) xs
  | [], _, h, _ => by simpa only [VList, List.map_nil] using h
  | v :: vs, _, h, hc => by
    simp only [VList] at h
    obtain ⟨y, ys, rfl, h1, h2⟩ := h
    simp only [allSc] at hc
    simp only [List.map_cons, VList]
    exact ⟨y, ys, rfl, h1.sv hc.1, h2.sv hc.2⟩

theorem VList.of_map {c : C} {ρ : Operand → V} {ev : Operand → Value} : ∀ (l : List Operand), (∀ x ∈ l, VRel c (ρ x) (ev x)) → VList c (l.map ρ) (l.map ev)
  | [], _ => by simp only [List.map_nil, VList]
  | x :: l, h => by
    simp only [List.map_cons, VList]
    exact ⟨_, _, rfl, h x (by simp), VList.of_map l fun y hy => h y (by simp [hy])⟩

/-- What an operation that only computes and reads comes to. -/
def pvOp (P : Program) (o : Oper) (ρ : Operand → V) (h : H) : PV :=
  match o.op with
  | .move x | .assign x => (True, ρ x)
  | .pick c a b => pvPick (ρ c) (ρ a) (ρ b)
  | .unOp op _ x => PV.and (ρ x).sc (pvUn op (ρ x).sv)
  | .binOp op t x y _ => PV.and ((ρ x).sc ∧ (ρ y).sc) (pvBin P op t (ρ x).sv (ρ y).sv)
  | .convert src dst x => PV.and (ρ x).sc (pvConv P h src dst (ρ x).sv)
  | .makeInterface t x => match ti P t with
    | some r => (r.kind ≠ .iface, .iface t (ρ x))
    | none => pvNo
  | .makeFunc fn first captured => (True, .fn fn (first.toList.map ρ) (captured.toList.map ρ))
  | .extract x i => match (ρ x).sv with
    | .tup vs => ((ρ x).sc ∧ i < vs.length, vs.getD i .any)
    | _ => pvNo
  | .fieldAddr t x f => PV.and (ρ x).sc (pvFieldAddr P t (ρ x).sv f)
  | .field t x f => PV.and (ρ x).sc (pvField P t (ρ x).sv f)
  | .indexAddr t x i => PV.and ((ρ x).sc ∧ (ρ i).sc) (pvIndexAddr P t (ρ x).sv (ρ i).sv)
  | .index t x i => PV.and ((ρ x).sc ∧ (ρ i).sc) (pvIndex P t (ρ x).sv (ρ i).sv)
  | .load t x => PV.and (ρ x).sc (pvLoad P h t (ρ x).sv)
  | .slice t x lo hi mx => PV.and ((ρ x).sc ∧ allSc (lo.toList.map ρ) ∧ allSc (hi.toList.map ρ) ∧ allSc (mx.toList.map ρ)) (pvSlice P t (ρ x).sv (lo.map fun y => (ρ y).sv) (hi.map fun y => (ρ y).sv) (mx.map fun y => (ρ y).sv))
  | .lookup t x k ok => PV.and ((ρ x).sc ∧ (ρ k).sc) (pvLookup P h t (ρ x).sv (ρ k).sv ok)
  | .build t parts => PV.and (allSc (parts.toList.map fun p => ρ p.2)) (pvBuild P t (parts.toList.map fun p => (p.1, (ρ p.2).sv)))
  | .buildSlice t len parts => PV.and (allSc (parts.toList.map fun p => ρ p.2)) (bsOk P t len (parts.toList.map (·.1)) (parts.toList.map fun p => (ρ p.2).sv))
  | .call { callee := .builtin b, args, argTypes } => match b, args.toList, argTypes.toList with
    | .len, [x], t :: _ => PV.and (ρ x).sc (pvLen P h t (ρ x).sv)
    | .min, l, _ => PV.and (allSc (l.map ρ)) (pvMin (l.map fun x => (ρ x).sv))
    | .max, l, _ => PV.and (allSc (l.map ρ)) (pvMax (l.map fun x => (ρ x).sv))
    | _, _, _ => pvNo
  | _ => pvNo

section
variable {e : E} {o : Oper} {ρ : Operand → V} {h : H}

theorem AQ.of_sem {v : V} {p : Prop} {s : (Operand → Value) → Sem Value} (ho : ∀ ev, execOp ev o = (do pure (Next.value (← s ev))))
    (hh : ∀ ok pl w (ev : Operand → Value), HSim e ok pl h w → (∀ x ∈ o.op.operands, VRel (cx ok pl w) (ρ x) (ev x)) → Gives e.P (cx ok pl w) (s ev) (p, v)) (hp : p) : AQ e o ρ h v := by
  refine AQ.of_value fun ok pl w ev hs hr => ?_
  obtain ⟨x, h1, h2⟩ := hh ok pl w ev hs hr hp
  refine ⟨x, ?_, h2⟩
  rw [ho]
  exact run_v h1

theorem guard_inner {P : Program} (w : World) (a b : Value) (A B : Sem Unit) : ((b ≠ .nilIface ∧ ∀ cs, b ≠ .agg cs) ∨ ∃ u ev, a = .iface u ev) → ((match a, b with
      | .nilIface, .nilIface => A
      | .agg _, .agg _ => B
      | _, _ => pure ()) : Sem Unit).run P w = .ok () w := by
  intro hh
  split
  · rcases hh with ⟨h1, _⟩ | ⟨u, ev, h⟩
    · exact absurd rfl h1
    · cases h
  · rcases hh with ⟨_, h1⟩ | ⟨u, ev, h⟩
    · exact absurd rfl (h1 _)
    · cases h
  · rfl

theorem run_eqGuard {P : Program} {op : BinOp} {t : TypeId} {x y : Operand} {a b : Value} (w : World) (hh : (b ≠ .nilIface ∧ ∀ cs, b ≠ .agg cs) ∨ ∃ u ev, a = .iface u ev) :
    (eqGuard op t x y a b).run P w = .ok () w := by
  unfold eqGuard
  split
  · simp only [Bool.not_true, Bool.false_eq_true, if_false]
    exact guard_inner w a b _ _ hh
  · simp only [Bool.not_true, Bool.false_eq_true, if_false]
    exact guard_inner w a b _ _ hh
  · rfl

theorem pvBin_y {P : Program} {c : C} {op : BinOp} {t : TypeId} {x y : V} {xv yv : Value} (hx : VRel c x xv) (hy : VRel c y yv) (hp : (pvBin P op t x y).1) :
    (yv ≠ .nilIface ∧ ∀ cs, yv ≠ .agg cs) ∨ ∃ u ev, xv = .iface u ev := by
  unfold pvBin at hp
  split at hp
  · simp only [VRel] at hy; subst hy; exact .inl ⟨by simp, by simp⟩
  · simp only [VRel] at hy; obtain ⟨s, rfl, _⟩ := hy; exact .inl ⟨by simp, by simp⟩
  · simp only [VRel] at hy; subst hy; exact .inl ⟨by simp, by simp⟩
  · split at hp
    · simp only [VRel] at hy; subst hy; exact .inl ⟨by simp, by simp⟩
    · simp only [VRel] at hy; subst hy; exact .inl ⟨by simp, by simp⟩
    · simp only [VRel] at hy; subst hy; exact .inl ⟨by simp, by simp⟩
    · simp only [VRel] at hy; subst hy; exact .inl ⟨by simp, by simp⟩
    · split at hp
      · simp only [VRel] at hx; obtain ⟨ev, rfl, _⟩ := hx; exact .inr ⟨_, _, rfl⟩
      · simp only [VRel] at hx; obtain ⟨ev, rfl, _⟩ := hx; exact .inr ⟨_, _, rfl⟩
      · exact hp.elim
    · exact hp.elim

theorem AQ.of_pv {q : PV} {s : (Operand → Value) → Sem Value} (ho : ∀ ev, execOp ev o = (do pure (Next.value (← s ev))))
    (hh : ∀ ok pl w (ev : Operand → Value), HSim e ok pl h w → (∀ x ∈ o.op.operands, VRel (cx ok pl w) (ρ x) (ev x)) → Gives e.P (cx ok pl w) (s ev) q) : q.1 → AQ e o ρ h q.2 :=
  fun hp => AQ.of_sem (p := q.1) ho hh hp

theorem optRel {c : C} {ev : Operand → Value} {lo : Option Operand} (hlo : ∀ x ∈ lo, VRel c (ρ x) (ev x)) (hsc : allSc (lo.toList.map ρ)) :
    (∀ v, (lo.map fun y => (ρ y).sv) = some v → ∃ x, lo.map ev = some x ∧ VRel c v x) ∧ ((lo.map fun y => (ρ y).sv) = none → lo.map ev = none) := by
  cases lo with
  | none => exact ⟨fun v h => (by cases h), fun _ => rfl⟩
  | some x =>
    simp only [Option.toList_some, List.map_cons, List.map_nil, allSc] at hsc
    refine ⟨fun v h => ?_, fun h => (by cases h)⟩
    simp only [Option.map_some, Option.some.injEq] at h
    subst h
    exact ⟨ev x, rfl, (hlo x rfl).sv hsc.1⟩

theorem mem_opt {lo : Option Operand} {x : Operand} (h : x ∈ lo) : x ∈ lo.toArray := by
  cases lo with
  | none => cases h
  | some y => cases h; simp

theorem pvOp_ok : (pvOp e.P o ρ h).1 → AQ e o ρ h (pvOp e.P o ρ h).2 := by
  unfold pvOp
  split
  · rename_i x hop
    exact AQ.of_pv (s := fun ev => pure (ev x)) (fun ev => by simp [execOp, hop]) fun ok pl w ev hs hr _ => ⟨ev x, rfl, hr x (by simp [hop, Op.operands])⟩
  · rename_i x hop
    exact AQ.of_pv (s := fun ev => pure (ev x)) (fun ev => by simp [execOp, hop]) fun ok pl w ev hs hr _ => ⟨ev x, rfl, hr x (by simp [hop, Op.operands])⟩
  · rename_i c a b hop
    exact AQ.of_pv (s := fun ev => do pure (if ← asBool (ev c) then ev a else ev b)) (fun ev => by simp [execOp, hop]) fun ok pl w ev hs hr =>
      pvPick_ok (hr c (by simp [hop, Op.operands])) (hr a (by simp [hop, Op.operands])) (hr b (by simp [hop, Op.operands]))
  · rename_i op t x hop
    exact AQ.of_pv (s := fun ev => Op.unary op (ev x)) (fun ev => by simp [execOp, hop]) fun ok pl w ev hs hr =>
      Gives.and fun hsc => pvUn_ok op ((hr x (by simp [hop, Op.operands])).sv hsc)
  · rename_i op t x y t2 hop
    refine AQ.of_pv (s := fun ev => do eqGuard op t x y (ev x) (ev y); binOp op t (ev x) (ev y)) (fun ev => by simp [execOp, hop]) fun ok pl w ev hs hr =>
      Gives.and fun hsc => ?_
    have h1 := (hr x (by simp [hop, Op.operands])).sv hsc.1
    have h2 := (hr y (by simp [hop, Op.operands])).sv hsc.2
    intro hp
    obtain ⟨z, h3, h4⟩ := pvBin_ok op t h1 h2 hp
    refine ⟨z, ?_, h4⟩
    simp [run_eqGuard (x := x) (y := y) (op := op) (t := t) (P := e.P) (cx ok pl w).w (pvBin_y h1 h2 hp), Result.andThen, h3]
  · rename_i src dst x hop
    exact AQ.of_pv (s := fun ev => convert src dst (ev x)) (fun ev => by simp [execOp, hop]) fun ok pl w ev hs hr =>
      Gives.and fun hsc => pvConv_ok hs ((hr x (by simp [hop, Op.operands])).sv hsc)
  · rename_i t x hop
    split
    · rename_i r hr'
      obtain ⟨i, d, z, hT⟩ := ti_some hr'
      refine AQ.of_pv (s := fun ev => Instr.makeInterface t (ev x)) (fun ev => by simp [execOp, hop]) fun ok pl w ev hs hr hk => ?_
      refine ⟨.iface t (ev x), ?_, ?_⟩
      · refine run_makeInterface _ _ _ ?_
        unfold Program.concrete
        rw [hT.und]
        cases d <;> first | rfl | exact absurd (by rw [hT.kind]; rfl) hk
      · simp only [VRel]; exact ⟨_, rfl, hr x (by simp [hop, Op.operands])⟩
    · exact fun hf => hf.elim
  · rename_i fn first captured hop
    refine AQ.of_pv (s := fun ev => Instr.makeFunc fn (first.map ev) (captured.map ev)) (fun ev => by simp [execOp, hop]) fun ok pl w ev hs hr _ => ?_
    refine ⟨_, rfl, ?_⟩
    simp only [VRel]
    refine ⟨_, _, rfl, ?_, ?_⟩
    · rw [Array.toList_map]
      exact VList.of_map _ fun x hx => hr x (by simp only [hop, Op.operands, Array.mem_append]; exact .inl (Array.mem_toList_iff.1 hx))
    · rw [Array.toList_map]
      exact VList.of_map _ fun x hx => hr x (by simp only [hop, Op.operands, Array.mem_append]; exact .inr (Array.mem_toList_iff.1 hx))
  · rename_i x i hop
    split
    · rename_i vs hvs
      refine AQ.of_pv (s := fun ev => Instr.extract (ev x) i) (fun ev => by simp [execOp, hop]) fun ok pl w ev hs hr => ?_
      rintro ⟨hsc, hlt⟩
      have h1 := (hr x (by simp [hop, Op.operands])).sv hsc
      rw [hvs] at h1
      simp only [VRel] at h1
      obtain ⟨cs, h2, h3⟩ := h1
      obtain ⟨v, hv⟩ : ∃ v, vs[i]? = some v := ⟨_, List.getElem?_eq_getElem hlt⟩
      obtain ⟨y, hy, hrel⟩ := h3.get i v hv
      refine ⟨y, ?_, by simpa only [List.getD_eq_getElem?_getD, hv, Option.getD_some] using hrel⟩
      have hy' : cs[i]? = some y := by simpa using hy
      simp [Instr.extract, h2, hy']
    · exact fun hf => hf.elim
  · rename_i t x f hop
    exact AQ.of_pv (s := fun ev => Instr.fieldAt t (ev x) f) (fun ev => by simp [execOp, hop]) fun ok pl w ev hs hr =>
      Gives.and fun hsc => pvFieldAddr_ok ((hr x (by simp [hop, Op.operands])).sv hsc)
  · rename_i t x f hop
    exact AQ.of_pv (s := fun ev => Instr.field t (ev x) f) (fun ev => by simp [execOp, hop]) fun ok pl w ev hs hr =>
      Gives.and fun hsc => pvField_ok ((hr x (by simp [hop, Op.operands])).sv hsc)
  · rename_i t x i hop
    exact AQ.of_pv (s := fun ev => Instr.indexAt t (ev x) (ev i)) (fun ev => by simp [execOp, hop]) fun ok pl w ev hs hr =>
      Gives.and fun hsc => pvIndexAddr_ok ((hr x (by simp [hop, Op.operands])).sv hsc.1) ((hr i (by simp [hop, Op.operands])).sv hsc.2)
  · rename_i t x i hop
    exact AQ.of_pv (s := fun ev => Instr.index t (ev x) (ev i)) (fun ev => by simp [execOp, hop]) fun ok pl w ev hs hr =>
      Gives.and fun hsc => pvIndex_ok ((hr x (by simp [hop, Op.operands])).sv hsc.1) ((hr i (by simp [hop, Op.operands])).sv hsc.2)
  · rename_i t x hop
    exact AQ.of_pv (s := fun ev => Instr.loadAt t (ev x)) (fun ev => by simp [execOp, hop]) fun ok pl w ev hs hr =>
      Gives.and fun hsc => pvLoad_ok hs ((hr x (by simp [hop, Op.operands])).sv hsc)
  · rename_i t x lo hi mx hop
    exact AQ.of_pv (s := fun ev => Instr.sliceAt t (ev x) (lo.map ev) (hi.map ev) (mx.map ev)) (fun ev => by simp [execOp, hop]) fun ok pl w ev hs hr =>
      Gives.and fun hsc => pvSlice_ok ((hr x (by simp [hop, Op.operands])).sv hsc.1)
        (optRel (fun y hy => hr y (by simp only [hop, Op.operands, Array.mem_append]; exact .inl (.inl (.inr (mem_opt hy))))) hsc.2.1)
        (optRel (fun y hy => hr y (by simp only [hop, Op.operands, Array.mem_append]; exact .inl (.inr (mem_opt hy)))) hsc.2.2.1)
        (optRel (fun y hy => hr y (by simp only [hop, Op.operands, Array.mem_append]; exact .inr (mem_opt hy))) hsc.2.2.2)
  · rename_i t x k ok' hop
    exact AQ.of_pv (s := fun ev => Instr.lookup t (ev x) (ev k) ok') (fun ev => by simp [execOp, hop]) fun ok pl w ev hs hr =>
      Gives.and fun hsc => pvLookup_ok hs ((hr x (by simp [hop, Op.operands])).sv hsc.1) ((hr k (by simp [hop, Op.operands])).sv hsc.2)
  · rename_i t parts hop
    refine AQ.of_pv (s := fun ev => Instr.build t (parts.map fun (i, x) => (i, ev x))) (fun ev => by simp [execOp, hop]) fun ok pl w ev hs hr =>
      Gives.and fun hsc => ?_
    have hl : VList (cx ok pl w) (parts.toList.map fun p => ρ p.2) (parts.toList.map fun p => ev p.2) := by
      have := VList.of_map (c := cx ok pl w) (ρ := ρ) (ev := ev) (parts.toList.map (·.2)) fun x hx => hr x (by
        simp only [hop, Op.operands]; simpa using hx)
      simpa [List.map_map, Function.comp_def] using this
    refine pvBuild_ok (by simp [List.map_map, Function.comp_def]) ?_
    have := hl.sv hsc
    simpa [List.map_map, Function.comp_def] using this
  · rename_i t len parts hop
    rintro ⟨hsc, hp⟩
    show AQ e o ρ h (bsOk e.P t len _ _).2
    unfold bsOk at hp ⊢
    split at hp
    · rename_i r hr'
      obtain ⟨i, d, z, hT⟩ := ti_some hr'
      split at hp
      · rename_i el hk
        have hd := hT.slice hk; subst hd
        split at hp
        · rename_i re hre
          obtain ⟨ie, de, ze, hE⟩ := ti_some hre
          obtain ⟨his, hfit, hbig, hpos⟩ := hp
          intro ok pl w ev hs hr
          have hl : VList (cx ok pl w) (parts.toList.map fun p => (ρ p.2).sv) (parts.toList.map fun p => ev p.2) := by
            have := VList.of_map (c := cx ok pl w) (ρ := ρ) (ev := ev) (parts.toList.map (·.2)) fun x hx => hr x (by
              simp only [hop, Op.operands]; simpa using hx)
            have hl : VList (cx ok pl w) (parts.toList.map fun p => ρ p.2) (parts.toList.map fun p => ev p.2) := by
              simpa [List.map_map, Function.comp_def] using this
            have := hl.sv hsc
            simpa [List.map_map, Function.comp_def] using this
          obtain ⟨xs, hxs⟩ : ∃ xs, parts.toList.map (fun p => ev p.2) = xs := ⟨_, rfl⟩
          rw [hxs] at hl
          obtain ⟨g1, g2⟩ := allFit_spec hl hfit
          have hlenp : parts.toList.length = len := by
            have := congrArg List.length his; simpa using this
          have hxlen : xs.length = len := by rw [← hxs, List.length_map, hlenp]
          have hparts : (parts.map fun p => (p.1, ev p.2)).toList = (List.range' 0 xs.length).zip xs := by
            rw [Array.toList_map, hxlen, ← List.range_eq_range', ← his, ← hxs]
            rw [List.zip_map]
            have : ∀ l : List (Nat × Operand), l.zip l = l.map fun p => (p, p) := fun l => by induction l <;> simp_all
            rw [this]; simp [List.map_map, Function.comp_def, Prod.map]
          obtain ⟨cells0, hc0⟩ : ∃ cells0, (if len * re.size = 0 then #[] else ze.cells) = cells0 := ⟨_, rfl⟩
          obtain ⟨res, hr1, hr2⟩ := fill_seq (k := re.size) xs 0 ((Array.range (len * re.size)).map (cells0[· % cells0.size]!)) (by simp [hxlen]) g1
          have hrun : (execOp ev o).run e.P w = .ok (.value (.slice (some ⟨w.heap.size, 0, none⟩) len len)) (w.alloc (.cells res el)) := by
            have h1 : (Instr.buildSlice t len (parts.map fun (i, x) => (i, ev x))).run e.P w = .ok (.slice (some ⟨w.heap.size, 0, none⟩) len len) (w.alloc (.cells res el)) := by
              unfold Instr.buildSlice
              simp only [Sem.run_bind, hT.run_und, Result.andThen, hE.run_size]
              rw [if_neg (by omega)]
              have h2 : Instr.fill (fun i => some (i * re.size, re.size)) ((Array.range (len * re.size)).map (cells0[· % cells0.size]!)) (parts.map fun (i, x) => (i, ev x)).toList = some res := by
                rw [hparts]; exact hr1
              by_cases h0 : len * re.size = 0
              · rw [if_pos h0] at hc0
                subst hc0
                rw [if_pos h0]
                simp only [Sem.run_bind, Sem.run_pure, Result.andThen]
                rw [h2]; rfl
              · rw [if_neg h0] at hc0
                subst hc0
                rw [if_neg h0]
                simp only [Sem.run_bind, hE.run_zero, Sem.run_pure, Result.andThen]
                rw [h2]; rfl
            have : execOp ev o = (do pure (Next.value (← Instr.buildSlice t len (parts.map fun (i, x) => (i, ev x))))) := by simp [execOp, hop]
            rw [this]
            exact run_v h1
          rw [hrun]
          refine ⟨WExt.alloc _ _, ?_⟩
          have hx := WExt.alloc w (.cells res el)
          simp only [VRel]
          have hvl : (parts.toList.map fun p => (ρ p.2).sv).length = len := by rw [List.length_map, hlenp]
          refine ⟨_, len, by rw [hvl], by omega, ?_, fun _ => by rw [hvl], ?_⟩
          · rcases hpos with rfl | hpos
            · simp [maxLen]
            · have : len ≤ len * re.size := Nat.le_mul_of_pos_right _ hpos
              simp only [maxLen]; omega
          · by_cases h0 : (parts.toList.map fun p => (ρ p.2).sv) = []
            · exact .inl h0
            · refine .inr ⟨w.heap.size, 0, rfl, ?_⟩
              refine VElems.fresh hs hl hfit hx (Nat.le_refl _) (arr := res) (el := el) (fz := (0, 0)) (by rw [World.alloc]; simp) fun i hi => ?_
              have : res.toList[i]? = (xs.flatMap (·.cells.toList))[i]? := by rw [hr2]; simp
              simpa using this
        · exact hp.elim
      · exact hp.elim
    · exact hp.elim
  · rename_i b args ts hop
    have hb : ∀ ev, execOp ev o = (do
        let d ← resolve ev { callee := .builtin b, args := args, argTypes := ts } o.type
        invoke d.target d.args) := fun ev => by simp [execOp, hop]
    split
    · rename_i x t rest hargs hts
      have ha : args = #[x] := by rw [← hargs]
      subst ha
      have ht : ts[0]? = some t := by
        have := congrArg (·[0]?) hts; simpa using this
      refine AQ.of_pv (s := fun ev => Builtin.len_ ts o.type #[ev x]) (fun ev => by rw [hb]; simp [resolve, invoke, builtin]) fun ok pl w ev hs hr =>
        Gives.and fun hsc => pvLen_ok hs ht ((hr x (by simp [hop, Op.operands, Call.operands])).sv hsc)
    · refine AQ.of_pv (s := fun ev => Builtin.min_ ts o.type (args.map ev)) (fun ev => by rw [hb]; rfl) fun ok pl w ev hs hr =>
        Gives.and fun hsc => ?_
      have := (VList.of_map (c := cx ok pl w) (ρ := ρ) (ev := ev) args.toList fun x hx => hr x (by simp [hop, Op.operands, Call.operands]; exact Array.mem_toList_iff.1 hx)).sv hsc
      have h2 := pvMin_ok (P := e.P) (ts := ts) (ty := o.type) this
      rw [List.map_map] at h2
      have e1 : (args.toList.map ev).toArray = args.map ev := by rw [← Array.toList_map, Array.toArray_toList]
      rw [e1] at h2
      exact h2
    · refine AQ.of_pv (s := fun ev => Builtin.max_ ts o.type (args.map ev)) (fun ev => by rw [hb]; rfl) fun ok pl w ev hs hr =>
        Gives.and fun hsc => ?_
      have := (VList.of_map (c := cx ok pl w) (ρ := ρ) (ev := ev) args.toList fun x hx => hr x (by simp [hop, Op.operands, Call.operands]; exact Array.mem_toList_iff.1 hx)).sv hsc
      have h2 := pvMax_ok (P := e.P) (ts := ts) (ty := o.type) this
      rw [List.map_map] at h2
      have e1 : (args.toList.map ev).toArray = args.map ev := by rw [← Array.toList_map, Array.toArray_toList]
      rw [e1] at h2
      exact h2
    · exact fun hf => hf.elim
  · exact fun hf => hf.elim
end
end Go.Abs
