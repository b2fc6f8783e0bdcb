/- Abstract values, heaps and frames over the calculus, part 13. -/
import Derived.Test.YtegnjoonhabicaaA12
import Derived.Laws.IdiomCopy
set_option linter.unusedVariables false
set_option linter.unusedSimpArgs false
namespace Go.Abs
open Go.RowKit

/-- Some cells of one block are written. -/
structure Wrote (w : World) (b : Nat) (arr' : Array Value) (el : TypeId) (fz : Nat × Nat) (w' : World) : Prop where
  os : w'.os = w.os
  tape : w'.tape = w.tape
  output : w'.output = w.output
  size : w'.heap.size = w.heap.size
  same : ∀ i, i ≠ b → w'.heap[i]? = w.heap[i]?
  here : w'.heap[b]? = some (.cells arr' el fz)

theorem wrote_setCells {b : Nat} {el : TypeId} {fz : Nat × Nat} : ∀ (vs : List Value) (o : Nat) (arr : Array Value) (w : World), w.heap[b]? = some (.cells arr el fz) → o + vs.length ≤ arr.size →
    Wrote w b (arr.toList.take o ++ vs ++ arr.toList.drop (o + vs.length)).toArray el fz (w.setCells b o vs)
  | [], o, arr, w, hb, _ => ⟨rfl, rfl, rfl, rfl, fun _ _ => rfl, by simpa [World.setCells] using hb⟩
  | v :: vs, o, arr, w, hb, hl => by
    simp only [List.length_cons] at hl
    have hlt := lt_of_heap hb
    have h1 : (w.setCell ⟨b, o, none⟩ v).heap[b]? = some (.cells (arr.setIfInBounds o v) el fz) := by
      simp only [World.setCell]
      rw [Array.getElem?_modify]
      simp [hb]
    have h2 : ∀ i, i ≠ b → (w.setCell ⟨b, o, none⟩ v).heap[i]? = w.heap[i]? := fun i hi => by
      simp only [World.setCell]
      rw [Array.getElem?_modify]
      simp [Ne.symm hi]
    have ih := wrote_setCells vs (o + 1) (arr.setIfInBounds o v) (w.setCell ⟨b, o, none⟩ v) h1 (by simp; omega)
    refine ⟨ih.os, ih.tape, ih.output, ih.size.trans (by simp [World.setCell]), fun i hi => (ih.same i hi).trans (h2 i hi), ?_⟩
    have h3 := ih.here
    simp only [World.setCells] at h3 ⊢
    rw [h3]
    congr 2
    simp only [Array.toList_setIfInBounds]
    apply Array.ext'
    simp only [List.length_cons]
    apply List.ext_getElem?
    intro i
    have hsz : arr.toList.length = arr.size := by simp
    simp only [List.getElem?_append, List.getElem?_take, List.getElem?_drop, List.length_append, List.length_take, List.length_set, List.getElem?_set, List.length_drop, List.getElem?_cons, List.length_cons]
    repeat' split
    all_goals first
      | rfl
      | omega
      | (congr 1; omega)
      | (exfalso; omega)
      | (simp_all; (try omega); done)
      | (simp only [Array.getElem?_toList]; congr 1; simp_all; omega)

theorem run_store_cells {P : Program} {w : World} {b o : Nat} {vs : List Value} {arr : Array Value} {el : TypeId} {fz : Nat × Nat} (hb : w.heap[b]? = some (.cells arr el fz))
    (hz : ∀ j, j < arr.size → ¬ (fz.1 ≤ j ∧ j < fz.2)) (hl : o + vs.length ≤ arr.size) (h1 : ∀ v ∈ vs, v.oneCell' = true) :
    (storeCells ⟨b, o, none⟩ vs).run P w = .ok () (w.setCells b o vs) := by
  have := run_storeCells_cells (P := P) b o vs 0 w (fun j hj => by
    have : o + j < arr.size := by omega
    simp [World.cell?, hb, this]) (fun j hj => by
    have h2 := hz (o + 0 + j) (by omega)
    obtain ⟨lo, hi⟩ := fz
    simp only [World.frozen?, hb]
    simp only [Bool.and_eq_false_iff, decide_eq_false_iff_not]
    simp only at h2
    by_cases h3 : lo ≤ o + 0 + j
    · exact .inr fun h4 => h2 ⟨h3, h4⟩
    · exact .inl h3) h1
  simpa using this


theorem VRel.oneCell {c : C} {v : V} {x : Value} (h : VRel c v x) (ho : v.one = true) : x.oneCell' = true := by
  cases v <;> simp only [V.one, Bool.false_eq_true] at ho <;> simp only [VRel] at h
  case bool => subst h; rfl
  case int => subst h; rfl
  case str => obtain ⟨s, rfl, _⟩ := h; rfl
  case nilp => subst h; rfl
  case lp => obtain ⟨b, _, rfl⟩ := h; rfl
  case ip => obtain ⟨b, off, ev, rfl, _⟩ := h; rfl
  case nils => subst h; rfl
  case ls => obtain ⟨a, cp, rfl, _⟩ := h; rfl
  case is => obtain ⟨a, cp, rfl, _⟩ := h; rfl
  case nilm => subst h; rfl
  case lm => obtain ⟨b, _, rfl⟩ := h; rfl
  case im => obtain ⟨r, es, clk, rfl, _⟩ := h; rfl
  case fn => obtain ⟨fs, cs, rfl, _⟩ := h; rfl
  case yd => obtain ⟨b, _, rfl⟩ := h; rfl
  case nilf => subst h; rfl
  case iface => obtain ⟨ev, rfl, _⟩ := h; rfl
  case nili => subst h; rfl

def allOne : List V → Bool
  | [] => true
  | v :: vs => v.one && allOne vs

theorem VList.oneCells {c : C} : ∀ {vs : List V} {xs : List Value}, VList c vs xs → allOne vs = true → ∀ x ∈ xs, x.oneCell' = true
  | [], _, h, _ => by simp only [VList] at h; subst h; simp
  | v :: vs, _, h, ho => by
    simp only [VList] at h
    obtain ⟨y, ys, rfl, h1, h2⟩ := h
    simp only [allOne, Bool.and_eq_true] at ho
    intro x hx
    rcases List.mem_cons.1 hx with rfl | hx
    · exact h1.oneCell ho.1
    · exact h2.oneCells ho.2 x hx

section
variable {e : E} {n : Nat} {r : Option Nat} {o : Oper} {f : Fr} {h : H} {Kn : Fr → H → Prop} {Q : XE → Fr → H → Prop}
variable {ok : Nat → Prop} {pl : Nat → Option Nat} {w : World}

/-- Cells of a local object are written. -/
theorem cells_write (hs : HSim e ok pl h w) {id b : Nat} (hb : pl id = some b) {off : Nat} {vs : List V} {xs : List Value} (hv : VList (cx ok pl w) vs xs) (ho : allOne vs = true)
    {cs : List V} (hc : h[id]? = some (.cells cs)) (hl : off + vs.length ≤ cs.length) :
    ∃ w', (storeCells ⟨b, off, none⟩ xs).run e.P w = .ok () w' ∧ HSim e ok pl (h.set id (.cells (splice cs off vs))) w' ∧ Keeps (fun _ => false) pl w pl w' := by
  obtain ⟨ob, h1, hat⟩ := hs.obj id b hb
  rw [hc] at h1; cases h1
  obtain ⟨arr, el, fz, h2, h3, h4, h5⟩ := hat
  have hxl := hv.length
  simp only [cx] at h2
  have hrun := run_store_cells (P := e.P) (o := off) h2 h3 (by omega) (hv.oneCells ho)
  have hw := wrote_setCells (b := b) xs off arr w h2 (by omega)
  refine ⟨_, hrun, hs.upd hb _ hw.os hw.tape hw.output hw.size hw.same (fun arr' el' fz' ha => ?_) fun k => ?_⟩
  · rw [h2] at ha; cases ha
    refine ⟨_, _, hw.here, ?_⟩
    simp; omega
  · have hsz : (arr.toList.take off ++ xs ++ arr.toList.drop (off + xs.length)).toArray.size = arr.size := by simp; omega
    refine ⟨_, el, fz, hw.here, fun j hj => h3 j (by omega), ?_, ?_⟩
    · have : (splice cs off vs).length = cs.length := by unfold splice; simp; omega
      rw [this, hsz]; exact h4
    · have hlen : (splice cs off vs).length = cs.length := by unfold splice; simp; omega
      rw [hlen]
      have e1 : (arr.toList.take off ++ xs ++ arr.toList.drop (off + xs.length)).toArray.toList.take cs.length = (arr.toList.take cs.length).take off ++ xs ++ (arr.toList.take cs.length).drop (off + xs.length) := by
        apply List.ext_getElem?
        intro i
        have hsz : arr.toList.length = arr.size := by simp
        simp only [List.getElem?_append, List.getElem?_take, List.getElem?_drop, List.length_append, List.length_take, List.length_drop]
        repeat' split
        all_goals first
          | rfl
          | omega
          | (congr 1; omega)
          | (exfalso; omega)
          | (simp_all; (try omega); done)
          | (rw [List.getElem?_eq_none]; simp; omega)
          | (symm; rw [List.getElem?_eq_none]; simp; omega)
      rw [e1]
      unfold splice
      rw [← hxl]
      have h5' := VList.mono k cs _ h5
      exact ((h5'.take off).append (VList.mono k vs _ hv)).append (h5'.dropN _)

theorem eff_store {t : TypeId} {x y : Operand} (hop : o.op = .store t x y) {id off : Nat} (hx : (f.ev e x).sv = .lp id off) (hxc : (f.ev e x).sc) (hyc : (f.ev e y).sc)
    {q : TI} (hq : ti e.P t = some q) (hf : (f.ev e y).sv.fit = true) (h1 : allOne (f.ev e y).sv.vc = true) (hsz : (f.ev e y).sv.vc.length = q.size)
    {cs : List V} (hc : h[id]? = some (.cells cs)) (hl : off + (f.ev e y).sv.vc.length ≤ cs.length)
    (hk : Kn (f.put o.dst undefV) (h.set id (.cells (splice cs off (f.ev e y).sv.vc)))) : Eff e n r o f h Kn Q := by
  refine Eff.of_EffV ?_ (fun c => by rw [hop]; exact fun h => by cases h)
  intro ok pl w ev hs hr
  obtain ⟨i, d, z, hT⟩ := ti_some hq
  have hxv := (hr x (by simp [hop, Op.operands])).sv hxc
  rw [hx] at hxv
  simp only [VRel] at hxv
  obtain ⟨b, hb, hxb⟩ := hxv
  have hyv := (hr y (by simp [hop, Op.operands])).sv hyc
  have hvc := hyv.vc hf
  obtain ⟨w', hrun, hs', k⟩ := cells_write hs hb hvc h1 hc hl
  refine ⟨fun _ => false, undefV, _, pl, w', undef, .inr ⟨?_, rfl⟩, hs', k, undef_rel _, fun _ _ => rfl, by simpa using hk⟩
  have hlen := hvc.length
  have h3 : execOp ev o = (do Instr.storeAt t (ev x) (ev y); pure .skip) := by simp [execOp, hop]
  rw [h3]
  have : ¬ (ev y).cells.size ≠ q.size := by
    simp only [Array.length_toList] at hlen; omega
  simp only [Sem.run_bind, Instr.storeAt, hxb, Instr.sureAddr, Sem.run_pure, Result.andThen, storeVar, hT.run_size]
  rw [if_neg this]
  simp only [hrun]

/-! ### Maps -/
def mput (kd : K) (key val : V) (ks vs : List V) : Option (List V × List V) :=
  match mfind kd key ks with
  | some (some n) => some (ks.set n key, vs.set n val)
  | some none => some (ks ++ [key], vs ++ [val])
  | none => none

theorem sameBits_self {kd : K} {key k : V} {kv kv' : Value} {c : C} (hk : VRel c key kv) (hk' : VRel c k kv') (hq : keq kd key k = some true) : Instr.sameBits 10000 kv' kv = true := by
  unfold keq at hq
  split at hq
  · simp only [VRel] at hk hk'; subst hk; subst hk'
    split at hq
    · rename_i he
      simp only [Option.some.injEq, beq_iff_eq] at hq
      subst he; subst hq
      simp [Instr.sameBits]
    · cases hq
  · simp only [VRel] at hk hk'
    obtain ⟨s, rfl, rfl, _⟩ := hk
    obtain ⟨u, rfl, rfl, _⟩ := hk'
    simp only [Option.some.injEq] at hq
    simp only [Instr.sameBits, beq_toListBytes, ByteArray.toList_eq]
    simp only [beq_iff_eq] at hq ⊢
    exact hq.symm
  · simp only [VRel] at hk hk'; subst hk; subst hk'
    simp only [Option.some.injEq, beq_iff_eq] at hq
    subst hq
    simp [Instr.sameBits]
  · cases hq

theorem mfind_hit {kd : K} {key : V} : ∀ {ks : List V} {n : Nat}, mfind kd key ks = some (some n) → ∃ k, ks[n]? = some k ∧ keq kd key k = some true
  | [], n, h => by simp [mfind] at h
  | k :: ks, n, h => by
    simp only [mfind] at h
    split at h
    · rename_i hq; cases h; exact ⟨k, rfl, hq⟩
    · split at h
      · rename_i m hm
        cases h
        obtain ⟨k', h1, h2⟩ := mfind_hit hm
        exact ⟨k', by simpa using h1, h2⟩
      · rename_i q hq
        exact absurd h (hq n)
    · cases h

theorem eff_mapUpdate {t : TypeId} {m k x : Operand} (hop : o.op = .mapUpdate t m k x) {id : Nat} (hm : (f.ev e m).sv = .lm id) (hmc : (f.ev e m).sc) (hkc : (f.ev e k).sc) (hxc : (f.ev e x).sc)
    {q : TI} (hq : ti e.P t = some q) {kt et : TypeId} (hkd : q.kind = .map kt et) {rk : TI} (hrk : ti e.P kt = some rk) (hko : rk.kind.keyOk (f.ev e k).sv = true)
    {ks vs : List V} (hc : h[id]? = some (.map ks vs)) {ks' vs' : List V} (hp : mput rk.kind (f.ev e k).sv (f.ev e x).sv ks vs = some (ks', vs'))
    (hK : Kn (f.put o.dst undefV) (h.set id (.map ks' vs'))) : Eff e n r o f h Kn Q := by
  refine Eff.of_EffV ?_ (fun c => by rw [hop]; exact fun h => by cases h)
  intro ok pl w ev hs hr
  obtain ⟨i, d, z, hT⟩ := ti_some hq
  obtain ⟨ik, dk, zk, hKT⟩ := ti_some hrk
  have hd := hT.map hkd; subst hd
  have hmv := (hr m (by simp [hop, Op.operands])).sv hmc
  rw [hm] at hmv
  simp only [VRel] at hmv
  obtain ⟨b, hb, hmb⟩ := hmv
  have hkv := (hr k (by simp [hop, Op.operands])).sv hkc
  have hxv := (hr x (by simp [hop, Op.operands])).sv hxc
  obtain ⟨ob, ho', hat⟩ := hs.obj id b hb
  rw [hc] at ho'; cases ho'
  obtain ⟨es, clk, h2, h3, h4, hmo⟩ := hat
  simp only [cx] at h2
  have fin : ∀ (es' : Array MapEntry) (clk' : Nat) , (Instr.mapUpdate t (ev m) (ev k) (ev x)).run e.P w = .ok () { w with heap := w.heap.setIfInBounds b (.map es' clk') } →
      VList (cx ok pl w) ks' (es'.toList.map (·.key)) → VList (cx ok pl w) vs' (es'.toList.map (·.val)) → MapOk es' clk' →
      ∃ p v h' pl' w' x, ((execOp ev o).run e.P w = .ok (.value x) w' ∨ ((execOp ev o).run e.P w = .ok .skip w' ∧ x = undef)) ∧
        HSim e ok pl' h' w' ∧ Keeps p pl w pl' w' ∧ VRel (cx ok pl' w') v x ∧ (∀ i ∈ f.d, p i = false) ∧ Kn ((f.drop p).put o.dst v) h' := by
    intro es' clk' hrun g1 g2 g3
    have hlt := lt_of_heap h2
    have hh : ({ w with heap := w.heap.setIfInBounds b (.map es' clk') } : World).heap[b]? = some (.map es' clk') := by simp [hlt]
    obtain ⟨hs', kk⟩ := hs.upd hb (.map ks' vs') (w' := { w with heap := w.heap.setIfInBounds b (.map es' clk') }) rfl rfl rfl (by simp) (fun i hi => by simp [Ne.symm hi]) (fun arr el fz ha => by rw [h2] at ha; cases ha)
      (fun kx => ⟨es', clk', hh, VList.mono kx _ _ g1, VList.mono kx _ _ g2, g3⟩)
    refine ⟨fun _ => false, undefV, _, pl, _, undef, .inr ⟨?_, rfl⟩, hs', kk, undef_rel _, fun _ _ => rfl, by simpa using hK⟩
    have h5 : execOp ev o = (do Instr.mapUpdate t (ev m) (ev k) (ev x); pure .skip) := by simp [execOp, hop]
    rw [h5]
    simp [hrun, Result.andThen]
  have hck := run_keyOk hKT hkv hko false w
  unfold mput at hp
  split at hp
  · rename_i j hj
    cases hp
    obtain ⟨a, h5, en, h6, rfl⟩ := mfind_ok hKT hkv ks es.toList 0 _ h3 hj
    obtain ⟨k0, hk0, hkeq⟩ := mfind_hit hj
    obtain ⟨y, hy, hyr⟩ := h3.get j k0 hk0
    rw [List.getElem?_map, h6] at hy
    simp at hy; subst hy
    have hsame := sameBits_self hkv hyr hkeq
    have hje : es[j]? = some en := by simpa using h6
    refine fin (es.modify j fun e => { e with key := ev k, val := ev x }) clk ?_ ?_ ?_ ?_
    · simp only [Instr.mapUpdate, Sem.run_bind, hT.run_und, Result.andThen, hmb, MapKept.run_getObj_map h2, hck, MapKept.run_findKey hKT.und h5, Nat.zero_add]
      simp only [Instr.keyThatStays, hje, Option.map_some, Option.getD_some, hsame, if_true, Sem.run_pure]
      exact MapKept.run_setObj_map _ h2
    · have : (es.modify j fun e => { e with key := ev k, val := ev x }).toList.map (·.key) = (es.toList.map (·.key)).set j (ev k) := by
        rw [Array.toList_modify]
        apply List.ext_getElem?
        intro i
        simp only [List.getElem?_map, List.getElem?_modify, List.getElem?_set, List.length_map]
        by_cases hij : j = i
        · subst hij
          have := (List.getElem?_eq_some_iff.1 h6).1
          simp at this
          simp [hje, this]
        · simp [hij]
      rw [this]; exact h3.set j hkv
    · have : (es.modify j fun e => { e with key := ev k, val := ev x }).toList.map (·.val) = (es.toList.map (·.val)).set j (ev x) := by
        rw [Array.toList_modify]
        apply List.ext_getElem?
        intro i
        simp only [List.getElem?_map, List.getElem?_modify, List.getElem?_set, List.length_map]
        by_cases hij : j = i
        · subst hij
          have := (List.getElem?_eq_some_iff.1 h6).1
          simp at this
          simp [hje, this]
        · simp [hij]
      rw [this]; exact h4.set j hxv
    · have hborn : (es.modify j fun e => { e with key := ev k, val := ev x }).toList.map (·.born) = es.toList.map (·.born) := by
        rw [Array.toList_modify]
        apply List.ext_getElem?
        intro i
        simp only [List.getElem?_map, List.getElem?_modify]
        by_cases hij : j = i
        · subst hij; simp [hje]
        · simp [hij]
      refine ⟨fun y hy => ?_, by rw [hborn]; exact hmo.2⟩
      have : y.born ∈ es.toList.map (·.born) := by rw [← hborn]; exact List.mem_map.2 ⟨y, hy, rfl⟩
      obtain ⟨z, hz, hz2⟩ := List.mem_map.1 this
      rw [← hz2]; exact hmo.1 z hz
  · rename_i hj
    cases hp
    obtain ⟨a, h5, rfl⟩ := mfind_ok hKT hkv ks es.toList 0 _ h3 hj
    refine fin (es.push { key := ev k, val := ev x, born := clk }) (clk + 1) ?_ ?_ ?_ ?_
    · simp only [Instr.mapUpdate, Sem.run_bind, hT.run_und, Result.andThen, hmb, MapKept.run_getObj_map h2, hck, MapKept.run_findKey hKT.und h5]
      exact MapKept.run_setObj_map _ h2
    · simp only [Array.toList_push, List.map_append, List.map_cons, List.map_nil]
      exact h3.append (by simp only [VList]; exact ⟨_, _, rfl, hkv, rfl⟩)
    · simp only [Array.toList_push, List.map_append, List.map_cons, List.map_nil]
      exact h4.append (by simp only [VList]; exact ⟨_, _, rfl, hxv, rfl⟩)
    · refine ⟨fun y hy => ?_, ?_⟩
      · simp only [Array.toList_push, List.mem_append, List.mem_singleton] at hy
        rcases hy with hy | rfl
        · have := hmo.1 y hy; omega
        · exact Nat.lt_succ_self _
      · simp only [Array.toList_push, List.map_append, List.map_cons, List.map_nil]
        rw [List.nodup_append]
        refine ⟨hmo.2, by simp, ?_⟩
        intro y hy z hz hyz
        simp only [List.mem_singleton] at hz
        subst hz; subst hyz
        obtain ⟨u, hu, hu2⟩ := List.mem_map.1 hy
        have := hmo.1 u hu
        omega
  · cases hp
end
end Go.Abs
