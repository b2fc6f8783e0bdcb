/- Abstract values, heaps and frames over the calculus, part 15. -/
import Derived.Test.YtegnjoonhabicaaA14
set_option linter.unusedVariables false
set_option linter.unusedSimpArgs false
namespace Go.Abs
open Go.RowKit

section
variable {e : E} {n : Nat} {r : Option Nat} {o : Oper} {f : Fr} {h : H} {Kn : Fr → H → Prop} {Q : XE → Fr → H → Prop}
variable {ok : Nat → Prop} {pl : Nat → Option Nat} {w : World}

theorem cells_new' (hs : HSim e ok pl h w) {cs : List V} {arr : Array Value} (hl : cs.length ≤ arr.size) (hc : VList (cx ok pl w) cs (arr.toList.take cs.length)) (el : TypeId) {w1 : World} (x : WExt w w1) :
    HSim e ok (plNew pl h.length w1.heap.size) (h ++ [.cells cs]) (w1.alloc (.cells arr el)) ∧ Keeps (fun _ => false) pl w (plNew pl h.length w1.heap.size) (w1.alloc (.cells arr el)) := by
  have x2 := x.trans (WExt.alloc w1 (.cells arr el))
  have hb : (w1.alloc (.cells arr el)).heap[w1.heap.size]? = some (.cells arr el) := by rw [World.alloc]; simp
  have key : ∀ (c' : C), CExt (fun _ => false) (cx ok pl w) c' → c'.w = w1.alloc (.cells arr el) → OAt c' w1.heap.size (.cells cs) := by
    intro c' hx hw
    exact ⟨arr, el, (0, 0), by rw [hw]; exact hb, fun j _ => by simp, hl, VList.mono hx cs _ hc⟩
  have k : CExt (fun _ => false) (cx ok pl w) (cx ok (plNew pl h.length w1.heap.size) (w1.alloc (.cells arr el))) := by
    refine ⟨fun b hb' hok => ⟨⟨hok.1, fun i hi => ?_⟩, x2.same b hb'⟩, fun i b _ hi => ?_, fun b arr' el' fz hb' => ⟨arr', fz, (x2.same b (lt_of_heap hb')).trans hb', rfl⟩⟩
    · simp only [plNew] at hi
      split at hi
      · cases hi; have := x.size; simp only [cx] at hb'; omega
      · exact hok.2 i hi
    · have := hs.pl_lt hi
      simp only [cx, plNew]; rw [if_neg (by omega)]; exact hi
  exact hs.new x2 (.cells arr el) (.cells cs) x.size (by simp) (key _ k rfl)

theorem plnone (hs : HSim e ok pl h w) : pl h.length = none := by
  cases hp : pl h.length with
  | none => rfl
  | some b => have := hs.pl_lt hp; omega

theorem cells_bare (hs : HSim e ok pl h w) : HSim e ok pl (h ++ [.cells []]) w where
  fresh := hs.fresh
  lt := hs.lt
  okl := hs.okl
  inj := hs.inj
  obj i b hi := by
    obtain ⟨ob, h1, h2⟩ := hs.obj i b hi
    exact ⟨ob, by rw [List.getElem?_append_left (hs.pl_lt hi)]; exact h1, h2⟩
  bare i ob ho hi := by
    by_cases hlt : i < h.length
    · rw [List.getElem?_append_left hlt] at ho; exact hs.bare i ob ho hi
    · rw [List.getElem?_append_right (by omega)] at ho
      cases hq : i - h.length with
      | zero => rw [hq] at ho; cases ho; exact .inr rfl
      | succ m => rw [hq] at ho; cases ho
  glob := hs.glob

/-- What refers to some objects is forgotten. -/
theorem HSim.kill (hs : HSim e ok pl h w) (p : Nat → Bool) : HSim e ok pl (h.map (O.drop p)) w ∧ Keeps p pl w pl w := by
  have k : Keeps p pl w pl w := (Keeps.refl pl w).weaken (fun _ hi => by cases hi)
  refine ⟨hs.next k hs.lt hs.inj (fun i b hi => .inl ⟨hi, rfl, by rw [List.getElem?_map]⟩) (fun i ob ho hi => ?_), k⟩
  rw [List.getElem?_map] at ho
  cases hh : h[i]? with
  | none => rw [hh] at ho; cases ho
  | some o' =>
    rw [hh] at ho
    have ho : o'.drop p = ob := by simpa using ho
    rcases hs.bare i o' hh hi with rfl | rfl <;> subst ho <;> simp [O.drop, V.drops]

/-- An object is laid anew: in its block, or in another one. -/
theorem HSim.replace (hs : HSim e ok pl h w) {id nb : Nat} (hid : id < h.length) {w' : World} {o' : O}
    (k : Keeps (· == id) pl w (fun i => if i = id then some nb else pl i) w') (hlt : nb < w'.heap.size) (hfree : ∀ j, j ≠ id → pl j ≠ some nb)
    (hsame : ∀ j b, j ≠ id → pl j = some b → w'.heap[b]? = w.heap[b]?) (ho : OAt (cx ok (fun i => if i = id then some nb else pl i) w') nb o') :
    HSim e ok (fun i => if i = id then some nb else pl i) ((h.map (O.drop (· == id))).set id o') w' := by
  refine hs.next k (fun i b hi => ?_) (fun i j b hi hj => ?_) (fun i b hi => ?_) (fun i ob hob hi => ?_)
  · split at hi
    · cases hi; exact hlt
    · exact Nat.lt_of_lt_of_le (hs.lt i b hi) k.size
  · by_cases h1 : i = id <;> by_cases h2 : j = id
    · rw [h1, h2]
    · rw [if_pos h1] at hi; rw [if_neg h2] at hj; cases hi; exact absurd hj (hfree j h2)
    · rw [if_neg h1] at hi; rw [if_pos h2] at hj; cases hj; exact absurd hi (hfree i h1)
    · rw [if_neg h1] at hi; rw [if_neg h2] at hj; exact hs.inj i j b hi hj
  · by_cases h1 : i = id
    · rw [if_pos h1] at hi; cases hi; subst h1
      exact .inr ⟨o', by simp [hid], ho⟩
    · rw [if_neg h1] at hi
      refine .inl ⟨hi, hsame i b h1 hi, ?_⟩
      rw [List.getElem?_set_ne (Ne.symm h1), List.getElem?_map]
  · by_cases h1 : i = id
    · rw [if_pos h1] at hi; cases hi
    · rw [if_neg h1] at hi
      rw [List.getElem?_set_ne (Ne.symm h1), List.getElem?_map] at hob
      cases hh : h[i]? with
      | none => rw [hh] at hob; cases hob
      | some o'' =>
        rw [hh] at hob
        have hob : o''.drop (· == id) = ob := by simpa using hob
        rcases hs.bare i o'' hh hi with rfl | rfl <;> subst hob <;> simp [O.drop, V.drops]

theorem V.drops_append (p : Nat → Bool) : ∀ (a b : List V), V.drops p (a ++ b) = V.drops p a ++ V.drops p b
  | [], b => rfl
  | v :: a, b => by simp only [List.cons_append, V.drops, V.drops_append p a b]

theorem V.drops_length (p : Nat → Bool) : ∀ (a : List V), (V.drops p a).length = a.length
  | [] => rfl
  | v :: a => by simp only [V.drops, List.length_cons, V.drops_length p a]

def isExact : V → Bool
  | .nils => true
  | .is true _ _ => true
  | _ => false

/-- The op's shape. -/
structure IsAppend (e : E) (o : Oper) (x y : Operand) (t xt el : TypeId) (r re : TI) : Prop where
  op : ∃ ts, o.op = .call { callee := .builtin .append, args := #[x, y], argTypes := ts } ∧ ts[0]? = some t ∧ ts[1]? = some xt
  ti : ti e.P t = some r
  kind : r.kind = .slice el
  tie : Abs.ti e.P el = some re
  zfit : re.zero.fit = true
  zlen : re.zero.vc.length = re.size
  pos : 0 < re.size

theorem src_ty {P : Program} {xt el : TypeId} {s : V} (h : srcTy P xt el s = true) : ∃ rx ix dx zx, TIs P xt rx ix dx zx ∧ ∀ k, dx ≠ .int k := by
  have key : ∀ rx, ti P xt = some rx → (∀ k, rx.kind ≠ .int k) → ∃ rx ix dx zx, TIs P xt rx ix dx zx ∧ ∀ k, dx ≠ .int k := by
    intro rx hrx hk
    obtain ⟨ix, dx, zx, hX⟩ := ti_some hrx
    exact ⟨rx, ix, dx, zx, hX, fun k hd => hk k (by rw [hX.kind, hd]; rfl)⟩
  unfold srcTy at h
  split at h
  · split at h
    · rename_i rx re hrx hre
      simp only [Bool.and_eq_true, decide_eq_true_eq] at h
      exact key rx hrx fun k hk => by rw [h.1] at hk; cases hk
    · cases h
  · split at h
    · rename_i rx hrx
      exact key rx hrx fun k hk => by rw [hk] at h; cases h
    · cases h

theorem append_exec {x y : Operand} {ts : Array TypeId} (hop : o.op = .call { callee := .builtin .append, args := #[x, y], argTypes := ts }) (ev : Operand → Value) :
    execOp ev o = (do pure (Next.value (← Builtin.append_ ts o.type #[ev x, ev y]))) := by
  simp [execOp, hop, resolve, invoke, builtin]

theorem eff_append_fresh {x y : Operand} {t xt el : TypeId} {q re : TI} (ha : IsAppend e o x y t xt el q re) (hxc : (f.ev e x).sc) (hyc : (f.ev e y).sc)
    (hex : isExact (f.ev e x).sv = true) (hst : srcTy e.P xt el (f.ev e y).sv = true)
    {n0 m : Nat} {cs0 cs : List V} (hx : srcEls h re.size (f.ev e x).sv = some (n0, cs0)) (hxf : srcFit re.size (f.ev e x).sv = true) (hy : srcEls h re.size (f.ev e y).sv = some (m, cs)) (hyf : srcFit re.size (f.ev e y).sv = true)
    (hnz : n0 = 0 ∨ 0 < m) (hbig : n0 + m ≤ maxLen) (hbytes : (n0 + m) * re.bytes ≤ 140737488355328)
    (hk : Kn (f.put o.dst (.ls h.length re.size 0 (n0 + m) (n0 + m))) (h ++ [.cells (cs0 ++ cs)])) : Eff e n r o f h Kn Q := by
  obtain ⟨⟨ts, hop, ht0, ht1⟩, hti, hkind, htie, hzf, hzl, hpos⟩ := ha
  refine Eff.of_EffV ?_ (fun c => by rw [hop]; exact fun h => by cases h)
  intro ok pl w ev hs hr
  obtain ⟨i, d, z, hT⟩ := ti_some hti
  have hd := hT.slice hkind; subst hd
  obtain ⟨ie, de, ze, hE⟩ := ti_some htie
  obtain ⟨rx, ix, dx, zx, hX, hxi⟩ := src_ty hst
  have hxv := (hr x (by simp [hop, Op.operands, Call.operands])).sv hxc
  have hyv := (hr y (by simp [hop, Op.operands, Call.operands])).sv hyc
  obtain ⟨olds, ho1, ho2, ho3, ho4⟩ := src_run hs hxv hx hxf
  obtain ⟨news, hn1, hn2, hn3, hn4⟩ := src_run hs hyv hy hyf
  -- the slice that is appended to
  obtain ⟨base, hbase⟩ : ∃ base, ev x = .slice base n0 n0 := by
    obtain ⟨u, hu⟩ : ∃ u, (f.ev e x).sv = u := ⟨_, rfl⟩
    rw [hu] at hx hxv hex
    clear hxf hu
    cases u <;> simp only [isExact, Bool.false_eq_true] at hex
    case nils => simp only [VRel] at hxv; simp only [srcEls] at hx; cases hx; exact ⟨none, hxv⟩
    case is ex k es =>
      cases ex
      · simp [isExact] at hex
      · simp only [VRel] at hxv
        obtain ⟨a, cp, h1, h2, h3, h4, _⟩ := hxv
        have hn0 : n0 = es.length := by
          simp only [srcEls] at hx
          split at hx
          · split at hx <;> cases hx <;> rfl
          · cases hx
        exact ⟨a, by rw [h1, h4 trivial, hn0]⟩
  have hol := ho3.length
  have hnl := hn3.length
  by_cases hroom : n0 + m ≤ n0
  · have hm0 : m = 0 := by omega
    have hn0 : n0 = 0 := by omega
    subst hm0; subst hn0
    have hcs : cs = [] := List.length_eq_zero_iff.1 (by omega)
    have hcs0 : cs0 = [] := List.length_eq_zero_iff.1 (by omega)
    subst hcs; subst hcs0
    have hnews : news.toList = [] := List.length_eq_zero_iff.1 (by omega)
    have hrun := run_append_roomG (P := e.P) (w := w) (ty := o.type) ht0 ht1 hT hE hX hxi base 0 0 0 (ev y) news (fun w' => hn1 w') (hn2 w (fun _ => rfl)) (by omega) (w' := w) (by
      cases base with
      | none => exact .inl ⟨rfl, rfl⟩
      | some a => exact .inr ⟨a, rfl, by rw [hnews]; rfl⟩)
    refine ⟨fun _ => false, _, _, pl, w, .slice base 0 0, .inl ?_, cells_bare hs, Keeps.refl pl w, ?_, fun _ _ => rfl, by rw [Fr.drop_none]; exact hk⟩
    · rw [append_exec hop, hbase]; exact run_v hrun
    · simp only [VRel]; exact ⟨base, 0, rfl, by omega, by omega, by simp [maxLen], .inl rfl⟩
  · have hrun := run_append_growG (P := e.P) (w := w) (ty := o.type) ht0 ht1 hT hE hX hxi base n0 n0 m (ev y) olds news (fun w' => hn1 w') (by rw [← hbase]; exact ho2 _ (fun _ => rfl)) (hn2 _ (fun _ => rfl)) (by omega) hbig hbytes
    obtain ⟨cap, hcap⟩ : ∃ cap, grownCap w (n0 + m) n0 el = cap := ⟨_, rfl⟩
    have hge := grownCap_ge w (n0 + m) n0 el
    have hle := grownCap_le_maxLen w (n0 + m) n0 el hbig
    rw [hcap] at hrun hge hle
    obtain ⟨arr, harr⟩ : ∃ arr, olds ++ news ++ Builtin.zeroCells ze.cells (cap - (n0 + m)) = arr := ⟨_, rfl⟩
    rw [harr] at hrun
    have hzs : ze.cells.size = re.size := by
      have hzr := (ofZero_rel (cx ok pl w) ze).vc (by rw [← hE.zv]; exact hzf)
      have := hzr.length
      rw [← hE.zv, hzl] at this; simpa using this
    have hasz : arr.size = cap * re.size := by
      rw [← harr]
      simp only [Array.size_append, size_zeroCells, hzs]
      simp only [Array.length_toList] at hol hnl
      rw [hol, hnl, ho4, hn4, ← Nat.add_mul, ← Nat.add_mul]; congr 1; omega
    have hlist : arr.toList.take (cs0 ++ cs).length = olds.toList ++ news.toList := by
      rw [← harr]
      simp only [Array.toList_append]
      rw [List.take_append_of_le_length (by simp only [List.length_append]; omega), List.take_of_length_le (by simp only [List.length_append]; omega)]
    obtain ⟨hs', kk⟩ := cells_new' hs (cs := cs0 ++ cs) (arr := arr) (by rw [hasz, List.length_append, ho4, hn4, ← Nat.add_mul]; exact Nat.mul_le_mul_right _ hge) (by rw [hlist]; exact ho3.append hn3) el (WExt.drew w)
    refine ⟨fun _ => false, _, _, _, _, .slice (some ⟨w.heap.size, 0, none⟩) (n0 + m) cap, .inl ?_, hs', kk, ?_, fun _ _ => rfl, by rw [Fr.drop_none]; exact hk⟩
    · rw [append_exec hop, hbase]; exact run_v hrun
    · simp only [VRel]
      refine ⟨_, cap, rfl, hge, hge, hle, .inr ⟨w.heap.size, arr, el, (0, 0), by simp [cx, plNew], rfl, ?_, by rw [hasz]; omega⟩⟩
      exact World.alloc_heap_new w.drew (.cells arr el)

theorem eff_append_grow {x y : Operand} {t xt el : TypeId} {q re : TI} (ha : IsAppend e o x y t xt el q re) (hxc : (f.ev e x).sc) (hyc : (f.ev e y).sc)
    {id len cap : Nat} (hx : (f.ev e x).sv = .ls id re.size 0 len cap) {cs0 : List V} (hc : h[id]? = some (.cells cs0)) (hcl : cs0.length = len * re.size)
    (hst : srcTy e.P xt el (f.ev e y).sv = true) {m : Nat} {cs : List V} (hy : srcEls h re.size (f.ev e y).sv = some (m, cs)) (hyf : srcFit re.size (f.ev e y).sv = true) (h1 : allOne cs = true)
    (hbig : len + m ≤ maxLen) (hbytes : (len + m) * re.bytes ≤ 140737488355328) (hid : ∀ i ∈ f.d, (i == id) = false)
    (hk : Kn ((f.drop (· == id)).put o.dst (.ls id re.size 0 (len + m) (len + m))) ((h.map (O.drop (· == id))).set id (.cells (V.drops (· == id) (cs0 ++ cs))))) : Eff e n r o f h Kn Q := by
  obtain ⟨⟨ts, hop, ht0, ht1⟩, hti, hkind, htie, hzf, hzl, hpos⟩ := ha
  refine Eff.of_EffV ?_ (fun c => by rw [hop]; exact fun h => by cases h)
  intro ok pl w ev hs hr
  obtain ⟨i, d, z, hT⟩ := ti_some hti
  have hd := hT.slice hkind; subst hd
  obtain ⟨ie, de, ze, hE⟩ := ti_some htie
  obtain ⟨rx, ix, dx, zx, hX, hxi⟩ := src_ty hst
  have hxv := (hr x (by simp [hop, Op.operands, Call.operands])).sv hxc
  have hyv := (hr y (by simp [hop, Op.operands, Call.operands])).sv hyc
  have hx' := hxv
  rw [hx] at hx'
  obtain ⟨olds, ho1, ho2, ho3, ho4⟩ := src_run (k := re.size) (n := len) (cs := cs0) hs hx' (by
    have : hcells h id = cs0 := by simp [hcells, hc]
    simp only [srcEls, this]
    rw [if_pos ⟨trivial, by omega⟩]
    simp only [List.drop_zero]
    rw [List.take_of_length_le (by omega)]) rfl
  obtain ⟨news, hn1, hn2, hn3, hn4⟩ := src_run hs hyv hy hyf
  simp only [VRel] at hx'
  obtain ⟨base, cp, hbase, hcap, hlen, hmax, hpl⟩ := hx'
  have hol := ho3.length
  have hnl := hn3.length
  have hidl : id < h.length := (List.getElem?_eq_some_iff.1 hc).1
  by_cases hroom : len + m ≤ cp
  · rcases hpl with hcp | ⟨b, arr, el', fz, hb, hbs, harr, hsz⟩
    · have hm0 : m = 0 := by omega
      have hl0 : len = 0 := by omega
      subst hm0; subst hl0; subst hcp
      have hcs : cs = [] := List.length_eq_zero_iff.1 (by omega)
      have hcs0 : cs0 = [] := List.length_eq_zero_iff.1 (by omega)
      subst hcs; subst hcs0
      have hnews : news.toList = [] := List.length_eq_zero_iff.1 (by omega)
      have hrun := run_append_roomG (P := e.P) (w := w) (ty := o.type) ht0 ht1 hT hE hX hxi base 0 0 0 (ev y) news (fun w' => hn1 w') (hn2 w (fun _ => rfl)) (by omega) (w' := w) (by
        cases base with
        | none => exact .inl ⟨rfl, rfl⟩
        | some a => exact .inr ⟨a, rfl, by rw [hnews]; rfl⟩)
      obtain ⟨hs', kk⟩ := hs.kill (· == id)
      have hset : (h.map (O.drop (· == id))).set id (.cells (V.drops (· == id) ([] ++ []))) = h.map (O.drop (· == id)) := by
        apply List.ext_getElem?
        intro j
        by_cases hj : j = id
        · subst hj
          rw [List.getElem?_set_self (by simpa using hidl), List.getElem?_map, hc]; simp [O.drop, V.drops]
        · rw [List.getElem?_set_ne (Ne.symm hj)]
      rw [hset] at hk
      refine ⟨(· == id), _, _, pl, w, .slice base 0 0, .inl ?_, hs', kk, ?_, hid, hk⟩
      · rw [append_exec hop, hbase]; exact run_v hrun
      · simp only [VRel]; exact ⟨base, 0, rfl, by omega, by omega, by simp [maxLen], .inl rfl⟩
    · subst hbs
      have hb' : pl id = some b := hb
      obtain ⟨ob, hob, hat⟩ := hs.obj id b hb'
      rw [hc] at hob; cases hob
      obtain ⟨arr2, el2, fz2, g1, g2, g3, g4⟩ := hat
      have harr' : w.heap[b]? = some (.cells arr el' fz) := harr
      have g1' : w.heap[b]? = some (.cells arr2 el2 fz2) := g1
      rw [harr'] at g1'
      cases g1'
      have hfit : cs0.length + news.toList.length ≤ arr.size := by
        rw [hnl, hcl, hn4, ← Nat.add_mul]
        have := Nat.mul_le_mul_right re.size hroom
        omega
      have hfit' : cs0.length + news.size ≤ arr.size := by simpa using hfit
      have hnsz : news.size = cs.length := by simpa using hnl
      have hst' := run_store_cells (P := e.P) (o := cs0.length) harr' g2 hfit (hn3.oneCells h1)
      have hw := wrote_setCells (b := b) news.toList cs0.length arr w harr' hfit
      obtain ⟨w', hw'⟩ : ∃ w', w.setCells b cs0.length news.toList = w' := ⟨_, rfl⟩
      rw [hw'] at hst' hw
      have hrun := run_append_roomG (P := e.P) (w := w) (ty := o.type) ht0 ht1 hT hE hX hxi (some ⟨b, 0, none⟩) len cp m (ev y) news (fun w' => hn1 w') (hn2 w (fun _ => rfl)) hroom (w' := w') (.inr ⟨_, rfl, by
        rw [add_plain, Nat.zero_add, ← hcl]; exact hst'⟩)
      have hkk : Keeps (· == id) pl w (fun i => if i = id then some b else pl i) w' := by
        refine ⟨hw.os, hw.tape, hw.output, by rw [hw.size]; exact Nat.le_refl _, fun b' hb1 hn' => hw.same b' (fun he => hn' id (he ▸ hb')), fun i b' hi => ?_, fun i b' hp hi => ?_, fun b' a1 e1 z1 hb1 => ?_⟩
        · split at hi
          · cases hi; exact .inl ⟨id, hb'⟩
          · exact .inl ⟨i, hi⟩
        · have : i ≠ id := by simpa using hp
          rw [if_neg this]; exact hi
        · by_cases he : b' = b
          · subst he; rw [harr'] at hb1; cases hb1
            exact ⟨_, _, hw.here, by simp; omega⟩
          · exact ⟨a1, z1, (hw.same b' he).trans hb1, rfl⟩
      have hsize' : (arr.toList.take cs0.length ++ news.toList ++ arr.toList.drop (cs0.length + news.toList.length)).toArray.size = arr.size := by simp; omega
      have hs' := hs.replace hidl (nb := b) (w' := w') (o' := .cells (V.drops (· == id) (cs0 ++ cs))) hkk (by rw [hw.size]; exact lt_of_heap harr') (fun j hj hjb => hj (hs.inj j id b hjb hb'))
        (fun j b' hj hjb => hw.same b' (fun he => hj (hs.inj j id b (he ▸ hjb) hb'))) (by
          refine ⟨_, el', fz, hw.here, fun j hj => g2 j (by omega), ?_, ?_⟩
          · rw [V.drops_length, hsize', List.length_append]; omega
          · have hq : (V.drops (· == id) (cs0 ++ cs)).length = cs0.length + news.toList.length := by rw [V.drops_length, List.length_append]; omega
            rw [hq]
            have e1 : (arr.toList.take cs0.length ++ news.toList ++ arr.toList.drop (cs0.length + news.toList.length)).toArray.toList.take (cs0.length + news.toList.length) = arr.toList.take cs0.length ++ news.toList := by
              have e2 : (arr.toList.take cs0.length ++ news.toList).length = cs0.length + news.toList.length := by
                simp only [List.length_append, List.length_take, Array.length_toList]; omega
              show (arr.toList.take cs0.length ++ news.toList ++ arr.toList.drop (cs0.length + news.toList.length)).take (cs0.length + news.toList.length) = _
              rw [List.take_append_of_le_length (by omega), List.take_of_length_le (by omega)]
            rw [e1]
            exact VList.mdrop hkk.cext _ _ (g4.append hn3))
      refine ⟨(· == id), _, _, _, w', .slice (some ⟨b, 0, none⟩) (len + m) cp, .inl ?_, hs', hkk, ?_, hid, hk⟩
      · rw [append_exec hop, hbase]; exact run_v hrun
      · simp only [VRel]
        exact ⟨_, cp, rfl, hroom, hroom, hmax, .inr ⟨b, _, el', fz, by simp [cx], rfl, hw.here, by rw [hsize']; omega⟩⟩
  · have hrun := run_append_growG (P := e.P) (w := w) (ty := o.type) ht0 ht1 hT hE hX hxi base len cp m (ev y) olds news (fun w' => hn1 w') (by rw [← hbase]; exact ho2 _ (fun _ => rfl)) (hn2 _ (fun _ => rfl)) (by omega) hbig hbytes
    obtain ⟨cap', hcap'⟩ : ∃ cap', grownCap w (len + m) cp el = cap' := ⟨_, rfl⟩
    have hge := grownCap_ge w (len + m) cp el
    have hle := grownCap_le_maxLen w (len + m) cp el hbig
    rw [hcap'] at hrun hge hle
    obtain ⟨arr, harr⟩ : ∃ arr, olds ++ news ++ Builtin.zeroCells ze.cells (cap' - (len + m)) = arr := ⟨_, rfl⟩
    rw [harr] at hrun
    have hzs : ze.cells.size = re.size := by
      have hzr := (ofZero_rel (cx ok pl w) ze).vc (by rw [← hE.zv]; exact hzf)
      have := hzr.length
      rw [← hE.zv, hzl] at this; simpa using this
    have hasz : arr.size = cap' * re.size := by
      rw [← harr]
      simp only [Array.size_append, size_zeroCells, hzs]
      simp only [Array.length_toList] at hol hnl
      rw [hol, hnl, ho4, hn4, ← Nat.add_mul, ← Nat.add_mul]; congr 1; omega
    have hlist : arr.toList.take (cs0 ++ cs).length = olds.toList ++ news.toList := by
      rw [← harr]
      simp only [Array.toList_append]
      rw [List.take_append_of_le_length (by simp only [List.length_append]; omega), List.take_of_length_le (by simp only [List.length_append]; omega)]
    have x2 := (WExt.drew w).trans (WExt.alloc w.drew (.cells arr el))
    have hhere : (w.drew.alloc (.cells arr el)).heap[w.heap.size]? = some (.cells arr el) := World.alloc_heap_new w.drew (.cells arr el)
    have hkk : Keeps (· == id) pl w (fun i => if i = id then some w.heap.size else pl i) (w.drew.alloc (.cells arr el)) := by
      refine ⟨rfl, rfl, rfl, x2.size, fun b' hb1 _ => x2.same b' hb1, fun i b' hi => ?_, fun i b' hp hi => ?_, fun b' a1 e1 z1 hb1 => ⟨a1, z1, (x2.same b' (lt_of_heap hb1)).trans hb1, rfl⟩⟩
      · split at hi
        · cases hi; exact .inr (Nat.le_refl _)
        · exact .inl ⟨i, hi⟩
      · have : i ≠ id := by simpa using hp
        rw [if_neg this]; exact hi
    have hs' := hs.replace hidl (nb := w.heap.size) (o' := .cells (V.drops (· == id) (cs0 ++ cs))) hkk (by simp) (fun j hj hjb => by have := hs.lt j _ hjb; omega)
      (fun j b' hj hjb => x2.same b' (hs.lt j b' hjb)) (by
        refine ⟨arr, el, (0, 0), hhere, fun j _ => by simp, ?_, ?_⟩
        · rw [V.drops_length, hasz, List.length_append, ho4, hn4, ← Nat.add_mul]; exact Nat.mul_le_mul_right _ hge
        · rw [V.drops_length, hlist]
          exact VList.mdrop hkk.cext _ _ (ho3.append hn3))
    refine ⟨(· == id), _, _, _, _, .slice (some ⟨w.heap.size, 0, none⟩) (len + m) cap', .inl ?_, hs', hkk, ?_, hid, hk⟩
    · rw [append_exec hop, hbase]; exact run_v hrun
    · simp only [VRel]
      exact ⟨_, cap', rfl, hge, hge, hle, .inr ⟨w.heap.size, arr, el, (0, 0), by simp [cx], rfl, hhere, by rw [hasz]; omega⟩⟩
end
end Go.Abs
