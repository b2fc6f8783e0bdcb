/- Lemmas for the statement of this claim, part A3: they hold with no conditions but those that each one names. -/
import Derived.Test.YtfcpapokknfeeaaGreatDoorA2
import Derived.WideKeyRuns
import Derived.Laws.Tables
set_option linter.unusedVariables false
set_option linter.unusedSimpArgs false
namespace Go.Abs
open Go.RowKit
section
variable {P : Program} {w : World}
theorem dw {e : TypeId} {q : IntKind} (he : P.underlying e = some (.int q)) {xs : Array Value} {i : Nat} {a : Value} (h : xs[i]? = some a) : (part e xs i).run P w = .ok a w :=
 run_part_plain w (by simp [Program.plainKey, he]) h
theorem Ls {e : TypeId} {q : IntKind} (he : P.underlying e = some (.int q)) (em : Bool) (n : Nat) (a : Value) : (Instr.checkKey em (n + 1) e a).run P w = .ok () w := by simp [Instr.checkKey, run_underlying he]
theorem Jz {k e : TypeId} {q : IntKind} (hk : P.underlying k = some (.array 2 e)) (he : P.underlying e = some (.int q)) (em : Bool) (n : Nat) (a b : Value) (hs : (sizeOf e).run P w = .ok 1 w) :
 (Instr.checkKey em (n + 2) k (.agg #[a, b])).run P w = .ok () w := by
 have h0 : (part e #[a, b] (0 * 1)).run P w = .ok a w := dw he (by simp);have h1 : (part e #[a, b] (1 * 1)).run P w = .ok b w := dw he (by simp);rw [Instr.checkKey];simp [run_underlying hk, Std.Legacy.Range.forIn_eq_forIn_range', List.range', hs, h0, h1, Ls he, Sem.run_bind, Result.andThen]
theorem kH {e : TypeId} {q : IntKind} (he : P.underlying e = some (.int q)) (n : Nat) (a b : Int) : (Op.equalIn (n + 1) e (.int q a) (.int q b)).run P w = .ok (a == b) w := by simp [Op.equalIn, run_underlying he]
theorem wU {k e : TypeId} {q : IntKind} (hk : P.underlying k = some (.array 2 e)) (he : P.underlying e = some (.int q)) (n : Nat) (a b c d : Int) (hs : (sizeOf e).run P w = .ok 1 w) :
 (Op.equalIn (n + 2) k (.agg #[.int q a, .int q b]) (.agg #[.int q c, .int q d])).run P w = .ok ((a == c) && (b == d)) w := by
 have h0 : (part e #[.int q a, .int q b] (0 * 1)).run P w = .ok (.int q a) w := dw he (by simp);have h1 : (part e #[.int q a, .int q b] (1 * 1)).run P w = .ok (.int q b) w := dw he (by simp);have g0 : (part e #[.int q c, .int q d] (0 * 1)).run P w = .ok (.int q c) w := dw he (by simp);have g1 : (part e #[.int q c, .int q d] (1 * 1)).run P w = .ok (.int q d) w := dw he (by simp);rw [Op.equalIn];simp [run_underlying hk, Std.Legacy.Range.forIn_eq_forIn_range', List.range', hs, kH he, h0, h1, g0, g1, Sem.run_bind, Result.andThen];simp only [Nat.one_mul] at h1 g1;have e1 : ∀ x y : Int, (x == y) = decide (x = y) := fun x y => rfl;by_cases ha : a = c
 ·subst ha;by_cases hb : b = d
  ·subst hb; simp [h1, g1, kH he, Sem.run_bind, Result.andThen]
  ·have hb' : (b == d) = false := by simpa using hb
   simp [h1, g1, kH he, Sem.run_bind, Result.andThen, hb']
 ·simp [ha, Sem.run_bind, Result.andThen]
end
def keq : K → V → V → Option Bool
 | .int _, .int k a, .int k' b => if k = k' then some (a == b) else none
 | .str, .str a, .str b => some (a == b)
 | .bool, .bool a, .bool b => some (a == b)
 | .arr n _ (some q), .agg [.int k a, .int k' b], .agg [.int l c, .int l' d] => if n = 2 ∧ k = q ∧ k' = q ∧ l = q ∧ l' = q then some ((a == c) && (b == d)) else none
 | _, _, _ => none
def iH (kd : K) (key : V) : List V → Option (Option Nat)
 | [] => some none
 | k :: ks => match keq kd key k with
  | some true => some (some 0)
  | some false => match iH kd key ks with
   | some (some i) => some (some (i + 1))
   | r => r
  | none => none
section
variable {P : Program} {c : C} {e : E} {ok : Nat → Prop} {pl : Nat → Option Nat} {w : World} {h : H}
theorem Lt {t : TypeId} {r : TI} {i : TypeInfo} {d : TypeDesc} {z : Value} (hT : TIs P t r i d z) {a b : V} {av bv : Value} {q : Bool} (ha : VRel c a av) (hb : VRel c b bv)
 (hna : ∀ n e' q, r.kind ≠ .arr n e' q) (hq : keq r.kind a b = some q) : Instr.sameNow d av bv = some q := by
 unfold keq at hq;split at hq
 ·rename_i hk;rw [hT.int hk];simp only [VRel] at ha hb;subst ha; subst hb;simpa [Instr.sameNow] using hq
 ·rename_i hk;rw [hT.str hk];simp only [VRel] at ha hb;obtain ⟨s, rfl, rfl, _⟩ := ha;obtain ⟨u, rfl, rfl, _⟩ := hb;rw [← hq];simp only [Instr.sameNow, beq_toListBytes, ByteArray.toList_eq]
 ·rename_i hk;rw [hT.bool hk];simp only [VRel] at ha hb;subst ha; subst hb;simpa [Instr.sameNow] using hq
 ·rename_i hk;exact absurd hk (hna _ _ _)
 ·cases hq
theorem AL {t : TypeId} {r : TI} {i : TypeInfo} {d : TypeDesc} {z : Value} (hT : TIs P t r i d z) (hna : ∀ n e' q, r.kind ≠ .arr n e' q) {key : V} {kv : Value} (hk : VRel c key kv) :
 ∀ (ks : List V) (es : List MapEntry) (j : Nat) (q : Option Nat), VList c ks (es.map (·.key)) → iH r.kind key ks = some q →
  ∃ a, Instr.findNow d kv es j = some a ∧ (match q with
   | none => a = none
   | some n => ∃ en, es[n]? = some en ∧ a = some (j + n, en.val))
 | [], es, j, q, hr, hq => by
  simp only [VList] at hr;have : es = [] := by simpa using hr
  subst this;simp only [iH] at hq;cases hq;exact ⟨none, rfl, rfl⟩
 | k :: ks, es, j, q, hr, hq => by
  simp only [VList] at hr;obtain ⟨y, ys, h1, h2, h3⟩ := hr;cases es with
  | nil => cases h1
  | cons en es =>
   simp only [List.map_cons, List.cons.injEq] at h1;obtain ⟨rfl, rfl⟩ := h1;simp only [iH] at hq;split at hq
   ·rename_i hb;cases hq;exact ⟨some (j, en.val), by simp [Instr.findNow, Lt hT hk h2 hna hb], en, rfl, by simp⟩
   ·rename_i hb;have hf : ∀ (q' : Option Nat), iH r.kind key ks = some q' → ∃ a, Instr.findNow d kv es (j + 1) = some a ∧ (match q' with
     | none => a = none
     | some n => ∃ en, es[n]? = some en ∧ a = some (j + 1 + n, en.val)) := fun q' hq' => AL hT hna hk ks es (j + 1) q' h3 hq'
    split at hq
    ·rename_i n hn;cases hq;obtain ⟨a, h4, en', h5, h6⟩ := hf _ hn;refine ⟨a, by simp [Instr.findNow, Lt hT hk h2 hna hb, h4], en', by simpa using h5, ?_⟩;rw [h6]; congr 2; omega
    ·rename_i r' hr';cases hm : iH r.kind key ks with
     | none => rw [hm] at hq; cases hq
     | some q' =>
      cases q' with
      | some n => exact absurd hm (hr' n)
      | none => rw [hm] at hq; cases hq;obtain ⟨a, h4, h5⟩ := hf none hm;exact ⟨a, by simp [Instr.findNow, Lt hT hk h2 hna hb, h4], h5⟩
   ·cases hq
theorem qZ {t : TypeId} {r : TI} {i : TypeInfo} {d : TypeDesc} {z : Value} (hT : TIs P t r i d z) {n e' : Nat} {q0 : Option IntKind} (hka : r.kind = .arr n e' q0) {key : V} {kv : Value} (hk : VRel c key kv) :
 ∀ (ks : List V) (es : List MapEntry) (j : Nat) (q : Option Nat), VList c ks (es.map (·.key)) → iH r.kind key ks = some q →
  ∃ a, (Instr.findAsking t kv es j).run P w = .ok a w ∧ (match q with
   | none => a = none
   | some n => ∃ en, es[n]? = some en ∧ a = some (j + n, en.val))
 | [], es, j, q, hr, hq => by
  simp only [VList] at hr;have : es = [] := by simpa using hr
  subst this;simp only [iH] at hq;cases hq;exact ⟨none, rfl, rfl⟩
 | k :: ks, es, j, q, hr, hq => by
  simp only [VList] at hr;obtain ⟨y, ys, h1, h2, h3⟩ := hr;cases es with
  | nil => cases h1
  | cons en es =>
   simp only [List.map_cons, List.cons.injEq] at h1;obtain ⟨rfl, rfl⟩ := h1;have heq : ∀ b, keq r.kind key k = some b → (Op.equal t kv en.key).run P w = .ok b w := by
    intro b hb;rw [hka] at hb;unfold keq at hb;split at hb <;> first | (cases ‹K.arr _ _ _ = _›; done) | skip
    ·rename_i q1 k1 a1 k2 b1 l1 c1 l2 d1 hk1;cases hk1;split at hb
     ·rename_i hc;obtain ⟨hn2, hk1, hk2, hl1, hl2⟩ := hc;subst hn2;cases hb;obtain ⟨hd, he, i', hi, hc1⟩ := hT.arrQ hka;subst hd;simp only [VRel, VList] at hk h2;obtain ⟨cs, rfl, _, _, hcs, rfl, _, _, rfl, rfl, rfl⟩ := hk;obtain ⟨ds, hds, _, _, hds2, rfl, _, _, rfl, rfl, rfl⟩ := h2;rw [hds];have e1 : cs = #[.int k1 a1, .int k2 b1] := Array.toList_inj.1 hcs;have e2 : ds = #[.int l1 c1, .int l2 d1] := Array.toList_inj.1 hds2;rw [e1, e2, hk1, hk2, hl1, hl2];exact wU hT.und he 9998 _ _ _ _ (by rw [run_sizeOf w hi, hc1])
     ·cases hb
    ·cases hb
   simp only [iH] at hq;split at hq
   ·rename_i hb;cases hq;exact ⟨some (j, en.val), by simp [Instr.findAsking, heq _ hb, Result.andThen], en, rfl, by simp⟩
   ·rename_i hb;have hf : ∀ (q' : Option Nat), iH r.kind key ks = some q' → ∃ a, (Instr.findAsking t kv es (j + 1)).run P w = .ok a w ∧ (match q' with
     | none => a = none
     | some n => ∃ en, es[n]? = some en ∧ a = some (j + 1 + n, en.val)) := fun q' hq' => qZ hT hka hk ks es (j + 1) q' h3 hq'
    split at hq
    ·rename_i n hn;cases hq;obtain ⟨a, h4, en', h5, h6⟩ := hf _ hn;refine ⟨a, by simp [Instr.findAsking, heq _ hb, h4, Result.andThen], en', by simpa using h5, ?_⟩;rw [h6]; congr 2; omega
    ·rename_i r' hr';cases hm : iH r.kind key ks with
     | none => rw [hm] at hq; cases hq
     | some q' =>
      cases q' with
      | some n => exact absurd hm (hr' n)
      | none => rw [hm] at hq; cases hq;obtain ⟨a, h4, h5⟩ := hf none hm;exact ⟨a, by simp [Instr.findAsking, heq _ hb, h4, Result.andThen], h5⟩
   ·cases hq
theorem nz {t : TypeId} {r : TI} {i : TypeInfo} {d : TypeDesc} {z : Value} (hT : TIs P t r i d z) {key : V} {kv : Value} (hk : VRel c key kv)
 (ks : List V) (es : List MapEntry) (q : Option Nat) : VList c ks (es.map (·.key)) → iH r.kind key ks = some q →
  ∃ a, (Instr.findKey t kv es).run P w = .ok a w ∧ (match q with
   | none => a = none
   | some n => ∃ en, es[n]? = some en ∧ a = some (0 + n, en.val)) := by
 intro hr hq;by_cases hna : ∀ n e' q, r.kind ≠ .arr n e' q
 ·obtain ⟨a, h1, h2⟩ := AL hT hna hk ks es 0 q hr hq;exact ⟨a, MapKept.run_findKey hT.und h1, h2⟩
 ·simp only [Classical.not_forall, ne_eq, Classical.not_not] at hna;obtain ⟨n, e', q0, hka⟩ := hna;obtain ⟨a, h1, h2⟩ := qZ (w := w) hT hka hk ks es 0 q hr hq;refine ⟨a, ?_, h2⟩;rw [run_findKey_eq w (by rw [hT.und, hT.arr hka]) kv es];exact h1
def K.keyOk : K → V → Bool
 | .int _, .int _ _ => true
 | .str, .str _ => true
 | .bool, .bool _ => true
 | .arr n _ (some q), .agg [.int k _, .int k' _] => decide (n = 2)
 | _, _ => false
theorem kJ {t : TypeId} {r : TI} {i : TypeInfo} {d : TypeDesc} {z : Value} (hT : TIs P t r i d z) {key : V} {kv : Value} (hk : VRel c key kv) (ho : r.kind.keyOk key = true) (em : Bool) (w : World) :
 (Instr.checkKey em 10000 t kv).run P w = .ok () w := by
 by_cases hna : ∃ n e' q, r.kind = .arr n e' (some q)
 ·obtain ⟨n, e', q, hka⟩ := hna;rw [hka] at ho;unfold K.keyOk at ho;split at ho <;> first | (cases ‹K.arr _ _ _ = _›; done) | skip
  ·rename_i n1 q1 k1 a1 k2 b1 hk1;cases hk1;have hn2 := of_decide_eq_true ho;subst hn2;obtain ⟨hd, he, i', hi, hc1⟩ := hT.arrQ hka;subst hd;simp only [VRel, VList] at hk;obtain ⟨cs, rfl, _, _, hcs, rfl, _, _, rfl, rfl, rfl⟩ := hk;have e1 : cs = #[.int k1 a1, .int k2 b1] := Array.toList_inj.1 hcs;rw [e1];exact Jz hT.und he em 9998 _ _ (by rw [run_sizeOf w hi, hc1])
  ·cases ho
 unfold Instr.checkKey;simp only [Sem.run_bind, hT.run_und, Result.andThen];cases hkk : r.kind <;> rw [hkk] at ho <;> cases key <;> simp only [K.keyOk, Bool.false_eq_true] at ho <;> simp only [VRel] at hk
 ·subst hk; rw [hT.bool hkk]; rfl
 ·subst hk; rw [hT.int hkk]; rfl
 ·obtain ⟨s, rfl, _⟩ := hk; rw [hT.str hkk]; rfl
 ·rename_i q vs;cases q with
  | none => split at ho <;> first | (cases ‹K.arr _ _ _ = _›; done) | (cases ho; done) | skip
  | some q => exact absurd ⟨_, _, _, hkk⟩ hna
def wz (kd : K) (key : V) (ks vs : List V) (zero : V) (commaOk : Bool) : PV :=
 match iH kd key ks with
 | some (some n) => (True, bif commaOk then .tup [vs.getD n .any, .bool true] else vs.getD n .any)
 | some none => (True, bif commaOk then .tup [zero, .bool false] else zero)
 | none => eG
def su (P : Program) (h : H) (t : TypeId) (x key : V) (commaOk : Bool) : PV :=
 match ti P t with
 | some r => match r.kind with
  | .map kt et => match ti P kt, ti P et with
   | some rk, some re => match x with
    | .nilm => (rk.kind.keyOk key = true, bif commaOk then .tup [re.zero, .bool false] else re.zero)
    | .im ks vs => let q := wz rk.kind key ks vs re.zero commaOk; (rk.kind.keyOk key = true ∧ q.1, q.2)
    | .lm id => match h[id]? with
     | some (.map ks vs) => let q := wz rk.kind key ks vs re.zero commaOk; (rk.kind.keyOk key = true ∧ q.1, q.2)
     | _ => eG
    | _ => eG
   | _, _ => eG
  | _ => eG
 | none => eG
theorem VF {m : C} {kt et : TypeId} {rk re : TI} {ik ie : TypeInfo} {dk de : TypeDesc} {zk ze : Value} (hK : TIs P kt rk ik dk zk) (hE : TIs P et re ie de ze)
 {key : V} {kv : Value} (hk : VRel m key kv) {ks vs : List V} {es : Array MapEntry} (h1 : VList m ks (es.toList.map (·.key))) (h2 : VList m vs (es.toList.map (·.val)))
 {commaOk : Bool} (hq : (wz rk.kind key ks vs re.zero commaOk).1) :
 (∃ j v, (Instr.findKey kt kv es.toList).run P w = .ok (some (j, v)) w ∧ VRel m (wz rk.kind key ks vs re.zero commaOk).2 (if commaOk then .tuple #[v, .bool true] else v)) ∨
 ((Instr.findKey kt kv es.toList).run P w = .ok none w ∧ VRel m (wz rk.kind key ks vs re.zero commaOk).2 (if commaOk then .tuple #[ze, .bool false] else ze)) := by
 unfold wz at hq ⊢;split at hq
 ·rename_i n hn;obtain ⟨a, h3, en, h4, rfl⟩ := nz (w := w) hK hk ks es.toList _ h1 hn;have hlen := h2.length;have hlt : n < es.toList.length := (List.getElem?_eq_some_iff.1 h4).1;obtain ⟨v, hv⟩ : ∃ v, vs[n]? = some v := ⟨_, List.getElem?_eq_getElem (by simp at hlen hlt; omega)⟩;obtain ⟨x, hx1, hx2⟩ := h2.get n v hv;rw [List.getElem?_map, h4] at hx1;simp at hx1; subst hx1;refine .inl ⟨_, _, h3, ?_⟩;simp only [List.getD_eq_getElem?_getD, hv, Option.getD_some];cases commaOk
  ·exact hx2
  ·simp only [cond_true, if_true, VRel, VList]; exact ⟨_, rfl, _, _, rfl, hx2, _, _, rfl, rfl, rfl⟩
 ·rename_i hn;obtain ⟨a, h3, rfl⟩ := nz (w := w) hK hk ks es.toList _ h1 hn;have hz : VRel m re.zero ze := hE.zv ▸ dQ m ze;refine .inr ⟨h3, ?_⟩;cases commaOk
  ·exact hz
  ·simp only [cond_true, if_true, VRel, VList]; exact ⟨_, rfl, _, _, rfl, hz, _, _, rfl, rfl, rfl⟩
 ·exact hq.elim
theorem Em (hs : HSim e ok pl h w) {t : TypeId} {x key : V} {xv kv : Value} {commaOk : Bool} (hx : VRel (cx ok pl w) x xv) (hk : VRel (cx ok pl w) key kv) :
 aJ P (cx ok pl w) (Instr.lookup t xv kv commaOk) (su P h t x key commaOk) := by
 unfold su;split
 ·rename_i r hr;obtain ⟨i, d, z, hT⟩ := aN hr;split
  ·rename_i kt et hkd;have hd := hT.map hkd;subst hd;split
   ·rename_i rk re hrk hre;obtain ⟨ik, dk, zk, hK⟩ := aN hrk;obtain ⟨ie, de, ze, hE⟩ := aN hre;have fin : ∀ (es : Array MapEntry) (ks vs : List V), ((xv = .map none ∧ es = #[]) ∨ ∃ b clk, xv = .map (some b) ∧ w.heap[b]? = some (.map es clk)) →
     VList (cx ok pl w) ks (es.toList.map (·.key)) → VList (cx ok pl w) vs (es.toList.map (·.val)) →
     (rk.kind.keyOk key = true ∧ (wz rk.kind key ks vs re.zero commaOk).1) →
     ∃ y, (Instr.lookup t xv kv commaOk).run P w = .ok y w ∧ VRel (cx ok pl w) (wz rk.kind key ks vs re.zero commaOk).2 y := by
     rintro es ks vs hxv h1 h2 ⟨h3, h4⟩;rcases VF (P := P) (w := w) hK hE hk h1 h2 h4 with ⟨j, v, h5, h6⟩ | ⟨h5, h6⟩
     ·refine ⟨_, ?_, h6⟩;rcases hxv with ⟨rfl, rfl⟩ | ⟨b, clk, rfl, hb⟩
      ·simp [Instr.lookup, hT.run_und, Result.andThen, kJ hK hk h3, h5]
      ·simp [Instr.lookup, hT.run_und, Result.andThen, MapKept.run_getObj_map hb, kJ hK hk h3, h5]
     ·refine ⟨_, ?_, h6⟩;rcases hxv with ⟨rfl, rfl⟩ | ⟨b, clk, rfl, hb⟩
      ·simp [Instr.lookup, hT.run_und, Result.andThen, kJ hK hk h3, h5, hE.run_zero]
      ·simp [Instr.lookup, hT.run_und, Result.andThen, MapKept.run_getObj_map hb, kJ hK hk h3, h5, hE.run_zero]
    split
    ·intro hko;simp only [VRel] at hx; subst hx;obtain ⟨y, hy1, hy2⟩ := fin #[] [] [] (.inl ⟨rfl, rfl⟩) (by simp [VList]) (by simp [VList]) ⟨hko, by simp [wz, iH]⟩;exact ⟨y, hy1, by simpa [wz, iH] using hy2⟩
    ·rename_i ks vs;intro hko;simp only [VRel] at hx;obtain ⟨b, es, clk, rfl, h1, h2, h3, h4⟩ := hx;exact fin es ks vs (.inr ⟨b, clk, rfl, h2⟩) (VList.ofdata _ _ h3) (VList.ofdata _ _ h4.1) hko
    ·rename_i id;split
     ·rename_i ks vs ho;intro hko;simp only [VRel] at hx;obtain ⟨b, hb, rfl⟩ := hx;obtain ⟨o, ho', hat⟩ := hs.obj id b hb;rw [ho] at ho';cases ho';obtain ⟨es, clk, h2, h3, h4⟩ := hat;exact fin es ks vs (.inr ⟨b, clk, rfl, h2⟩) h3 h4.1 hko
     ·exact aJ.no
    ·exact aJ.no
   ·exact aJ.no
  ·exact aJ.no
 ·exact aJ.no
def _root_.Go.Abs.K.isSlice : K → Bool | .slice _ => true | _ => false
def _root_.Go.Abs.K.isMap : K → Bool | .map _ _ => true | _ => false
def Rz (P : Program) (h : H) (t : TypeId) (x : V) : PV :=
 match ti P t with
 | some r => match x with
  | .str l => (r.kind = .str, .int .i64 l.length)
  | .nils => (r.kind.isSlice = true, .int .i64 0)
  | .is _ _ es => (r.kind.isSlice = true, .int .i64 es.length)
  | .ls _ _ _ len _ => (r.kind.isSlice = true, .int .i64 len)
  | .nilm => (r.kind.isMap = true, .int .i64 0)
  | .im ks _ => (r.kind.isMap = true, .int .i64 ks.length)
  | .lm id => match h[id]? with
   | some (.map ks _) => (r.kind.isMap = true, .int .i64 ks.length)
   | _ => eG
  | _ => match r.kind with
   | .arr n _ _ => (True, .int .i64 n)
   | _ => eG
 | none => eG
theorem qE {k : K} (h : k.isSlice = true) : ∃ e, k = .slice e := by cases k <;> simp_all [K.isSlice]
theorem yh {k : K} (h : k.isMap = true) : ∃ a b, k = .map a b := by cases k <;> simp_all [K.isMap]
theorem RD (hs : HSim e ok pl h w) {ts : Array TypeId} {t ty : TypeId} {x : V} {xv : Value} (ht : ts[0]? = some t) (hx : VRel (cx ok pl w) x xv) :
 aJ P (cx ok pl w) (Builtin.len_ ts ty #[xv]) (Rz P h t x) := by
 unfold Rz;split
 ·rename_i r hr;obtain ⟨i, d, z, hT⟩ := aN hr;have mp : ∀ ks : List V, (∃ b es clk, xv = .map (some b) ∧ w.heap[b]? = some (.map es clk) ∧ es.size = ks.length) → r.kind.isMap = true → (Builtin.len_ ts ty #[xv]).run P w = .ok (.int .i64 ks.length) w := by
   rintro ks ⟨b, es, clk, rfl, hb, hl⟩ hk;obtain ⟨k1, k2, hk⟩ := yh hk;have hu : P.underlying t = some (.map k1 k2) := by rw [hT.und, hT.map hk]
   simp [Builtin.len_, ht, run_underlying hu, MapKept.run_getObj_map hb, Result.andThen, hl, goInt]
  split
  ·refine aJ.int fun hk => ?_;simp only [VRel] at hx;obtain ⟨s, rfl, rfl, _⟩ := hx;have hu : P.underlying t = some .string := by rw [hT.und, hT.str hk]
   rw [← fD];simp [Builtin.len_, ht, run_underlying hu, Result.andThen, goInt]
  ·refine aJ.int fun hk => ?_;simp only [VRel] at hx; subst hx;obtain ⟨k1, hk⟩ := qE hk;have hu : P.underlying t = some (.slice k1) := by rw [hT.und, hT.slice hk]
   simp [Builtin.len_, ht, run_underlying hu, Result.andThen, goInt]
  ·refine aJ.int fun hk => ?_;simp only [VRel] at hx;obtain ⟨a, cp, rfl, _⟩ := hx;obtain ⟨k1, hk⟩ := qE hk;have hu : P.underlying t = some (.slice k1) := by rw [hT.und, hT.slice hk]
   simp [Builtin.len_, ht, run_underlying hu, Result.andThen, goInt]
  ·refine aJ.int fun hk => ?_;simp only [VRel] at hx;obtain ⟨a, cp, rfl, _⟩ := hx;obtain ⟨k1, hk⟩ := qE hk;have hu : P.underlying t = some (.slice k1) := by rw [hT.und, hT.slice hk]
   simp [Builtin.len_, ht, run_underlying hu, Result.andThen, goInt]
  ·refine aJ.int fun hk => ?_;simp only [VRel] at hx; subst hx;obtain ⟨k1, k2, hk⟩ := yh hk;have hu : P.underlying t = some (.map k1 k2) := by rw [hT.und, hT.map hk]
   simp [Builtin.len_, ht, run_underlying hu, Result.andThen, goInt]
  ·refine aJ.int fun hk => ?_;simp only [VRel] at hx;obtain ⟨b, es, clk, rfl, _, hb, h1, _⟩ := hx;exact mp _ ⟨b, es, clk, rfl, hb, by have := h1.length; simpa using this⟩ hk
  ·rename_i id;split
   ·rename_i ks vs ho;refine aJ.int fun hk => ?_;simp only [VRel] at hx;obtain ⟨b, hb, rfl⟩ := hx;obtain ⟨o, ho', hat⟩ := hs.obj id b hb;rw [ho] at ho';cases ho';obtain ⟨es, clk, h2, h3, h4⟩ := hat;exact mp _ ⟨b, es, clk, rfl, h2, by have := h3.length; simpa using this⟩ hk
   ·exact aJ.no
  ·split
   ·rename_i n el _ hk;refine aJ.int fun _ => ?_;have hu : P.underlying t = some (.array n el) := by rw [hT.und, hT.arr hk]
    simp [Builtin.len_, ht, run_underlying hu, Result.andThen, goInt]
   ·exact aJ.no
 ·exact aJ.no
def Lu (args : List V) : PV :=
 match args with
 | [.int k a, .int _ b] => (True, .int k (if b < a then b else a))
 | [.int k a, .int _ b, .int _ c] => (True, .int k (let m := if b < a then b else a; if c < m then c else m))
 | _ => eG
def LC (args : List V) : PV :=
 match args with
 | [.int k a, .int _ b] => (True, .int k (if a < b then b else a))
 | _ => eG
theorem RG {ts : Array TypeId} {ty : TypeId} {args : List V} {xs : List Value} (h : VList c args xs) : aJ P c (Builtin.min_ ts ty xs.toArray) (Lu args) := by
 unfold Lu;split
 ·simp only [VList, VRel] at h;obtain ⟨_, _, rfl, rfl, _, _, rfl, rfl, rfl⟩ := h;exact aJ.int fun _ => run_min_int2 ..
 ·simp only [VList, VRel] at h;obtain ⟨_, _, rfl, rfl, _, _, rfl, rfl, _, _, rfl, rfl, rfl⟩ := h;exact aJ.int fun _ => run_min_int3 ..
 ·exact aJ.no
theorem RH {ts : Array TypeId} {ty : TypeId} {args : List V} {xs : List Value} (h : VList c args xs) : aJ P c (Builtin.max_ ts ty xs.toArray) (LC args) := by
 unfold LC;split
 ·simp only [VList, VRel] at h;obtain ⟨_, _, rfl, rfl, _, _, rfl, rfl, rfl⟩ := h;exact aJ.int fun _ => run_max_int2 ..
 ·exact aJ.no
end
def PV.and (p : Prop) (q : PV) : PV := (p ∧ q.1, q.2)
theorem aJ.and {P : Program} {c : C} {s : Sem Value} {p : Prop} {q : PV} (h : p → aJ P c s q) : aJ P c s (PV.and p q) :=
 fun ⟨h1, h2⟩ => h h1 h2
def FN (c a b : V) : PV :=
 match c.sv with
 | .bool t => match a.sv, b.sv with
  | .bool x, .bool y => (c.sc ∧ (t = true → a.sc) ∧ (t = false → b.sc), .bool (bif t then x else y))
  | .bool x, _ => (c.sc ∧ a.sc ∧ t = true, .bool x)
  | _, .bool y => (c.sc ∧ b.sc ∧ t = false, .bool y)
  | _, _ => eG
 | _ => eG
theorem LD {P : Program} {m : C} {c a b : V} {cv av bv : Value} (hc : VRel m c cv) (ha : VRel m a av) (hb : VRel m b bv) :
 aJ P m (do pure (if ← asBool cv then av else bv)) (FN c a b) := by
 unfold FN;split
 ·rename_i t ht;have key : c.sc → cv = .bool t := fun h => by have := hc.sv h; rw [ht] at this; simpa only [VRel] using this
  split
  ·rename_i x y hx hy;rintro ⟨h1, h2, h3⟩;have := key h1; subst this;cases t
   ·have hb' := hb.sv (h3 rfl); rw [hy] at hb';exact ⟨bv, by simp [asBool, Result.andThen], by simpa only [cond_false] using hb'⟩
   ·have ha' := ha.sv (h2 rfl); rw [hx] at ha';exact ⟨av, by simp [asBool, Result.andThen], by simpa only [cond_true] using ha'⟩
  ·rename_i x hx _;rintro ⟨h1, h2, rfl⟩;have := key h1; subst this;have ha' := ha.sv h2; rw [hx] at ha';exact ⟨av, by simp [asBool, Result.andThen], ha'⟩
  ·rename_i y hy _;rintro ⟨h1, h2, rfl⟩;have := key h1; subst this;have hb' := hb.sv h2; rw [hy] at hb';exact ⟨bv, by simp [asBool, Result.andThen], hb'⟩
  ·exact aJ.no
 ·exact aJ.no
def fE : List V → Option (List UInt8)
 | [] => some []
 | .int .u8 n :: vs => (fE vs).map (UInt8.ofNat n.toNat :: ·)
 | _ => none
def o9 (P : Program) (h : H) (src dst : TypeId) (x : V) : PV :=
 match ti P src, ti P dst with
 | some rs, some rd => match rd.kind, x with
  | .int k, .int _ n => (True, .int k (k.wrap n))
  | .str, .str l => (True, .str l)
  | .str, .nils => match rs.kind with
   | .slice el => match ti P el with
    | some re => (re.kind = .int .u8, .str [])
    | none => eG
   | _ => eG
  | .str, .is _ k es => match rs.kind with
   | .slice el => match ti P el, fE es with
    | some re, some l => (re.kind = .int .u8 ∧ k = 1, .str l)
    | _, _ => eG
   | _ => eG
  | .str, .ls id k off len _ => match rs.kind with
   | .slice el => match ti P el, fE (((gY h id).drop off).take len) with
    | some re, some l => (re.kind = .int .u8 ∧ k = 1 ∧ off + len ≤ (gY h id).length, .str l)
    | _, _ => eG
   | _ => eG
  | _, _ => eG
 | _, _ => eG
theorem oC {c : C} : ∀ {vs : List V} {xs : List Value} {l : List UInt8}, VList c vs xs → fE vs = some l → ∃ ns : List Int, xs = ns.map (Value.int .u8) ∧ ns.map (fun n => UInt8.ofNat n.toNat) = l
 | [], xs, l, h, hb => by simp only [VList] at h; simp only [fE] at hb; cases hb; subst h; exact ⟨[], rfl, rfl⟩
 | .int .u8 n :: vs, xs, l, h, hb => by
  simp only [VList] at h;obtain ⟨y, ys, rfl, h1, h2⟩ := h;simp only [fE] at hb;cases hv : fE vs with
  | none => rw [hv] at hb; cases hb
  | some l' => rw [hv] at hb; cases hb;obtain ⟨ns, rfl, h4⟩ := oC h2 hv;simp only [VRel] at h1; subst h1;exact ⟨n :: ns, rfl, by simp [h4]⟩
 | .int .i8 _ :: _, _, _, _, hb | .int .i16 _ :: _, _, _, _, hb | .int .i32 _ :: _, _, _, _, hb | .int .i64 _ :: _, _, _, _, hb | .int .u16 _ :: _, _, _, _, hb
 | .int .u32 _ :: _, _, _, _, hb | .int .u64 _ :: _, _, _, _, hb => by simp [fE] at hb
 | .any :: _, _, _, _, hb | .bool _ :: _, _, _, _, hb | .str _ :: _, _, _, _, hb | .nilp :: _, _, _, _, hb | .lp _ _ :: _, _, _, _, hb | .ip _ :: _, _, _, _, hb
 | .nils :: _, _, _, _, hb | .ls _ _ _ _ _ :: _, _, _, _, hb | .is _ _ _ :: _, _, _, _, hb | .nilm :: _, _, _, _, hb | .lm _ :: _, _, _, _, hb | .im _ _ :: _, _, _, _, hb
 | .fn _ _ _ :: _, _, _, _, hb | .yd _ :: _, _, _, _, hb | .nilf :: _, _, _, _, hb | .iface _ _ :: _, _, _, _, hb | .nili :: _, _, _, _, hb | .agg _ :: _, _, _, _, hb
 | .tup _ :: _, _, _, _, hb | .grd _ _ :: _, _, _, _, hb => by simp [fE] at hb
theorem VElems.list {c : C} {b : Nat} : ∀ {es : List V} {off : Nat}, VElems c 1 es b off → (∀ v ∈ es, v.one = true) →
 ∃ xs : List Value, xs.length = es.length ∧ (∀ j v, xs[j]? = some v → c.w.cell? ⟨b, off + j, none⟩ = some v) ∧ VList c es xs
 | [], off, _, _ => ⟨[], rfl, by simp, by simp only [VList]⟩
 | e :: es, off, h, ho => by
  simp only [VElems] at h;obtain ⟨⟨ev, h1, h2, h3⟩, h4⟩ := h;obtain ⟨xs, h5, h6, h7⟩ := VElems.list h4 (fun v hv => ho v (by simp [hv]));have hone := h3.one (ho e (by simp));refine ⟨ev :: xs, by simp [h5], fun j v hj => ?_, by simp only [VList]; exact ⟨ev, xs, rfl, h3, h7⟩⟩;cases j with
  | zero => simp at hj; subst hj;have := (h2 0 (by rw [hone]; simp)).2;rw [hone] at this; simpa using this
  | succ j =>
   have := h6 j v (by simpa using hj)
   rwa [show off + 1 + j = off + (j + 1) by omega] at this
theorem wV : ∀ {vs : List V} {l : List UInt8}, fE vs = some l → ∀ v ∈ vs, v.one = true
 | [], _, _, _, hv => by simp at hv
 | u :: vs, l, h, v, hv => by
  cases u <;> try (simp [fE] at h; done)
  rename_i k n;cases k <;> try (simp [fE] at h; done)
  simp only [fE] at h;cases hvs : fE vs with
  | none => rw [hvs] at h; cases h
  | some l' =>
   rcases List.mem_cons.1 hv with rfl | hv
   ·rfl
   ·exact wV hvs v hv
theorem kZ : ∀ {vs : List V} {l : List UInt8}, fE vs = some l → l.length = vs.length
 | [], _, h => by simp only [fE] at h; cases h; rfl
 | u :: vs, l, h => by
  cases u <;> try (simp [fE] at h; done)
  rename_i k n;cases k <;> try (simp [fE] at h; done)
  simp only [fE] at h;cases hvs : fE vs with
  | none => rw [hvs] at h; cases h
  | some l' => rw [hvs] at h; cases h; simp [kZ hvs]
section
variable {P : Program} {c : C} {e : E} {ok : Nat → Prop} {pl : Nat → Option Nat} {w : World} {h : H}
theorem LG (hs : HSim e ok pl h w) {src dst : TypeId} {x : V} {xv : Value} (hx : VRel (cx ok pl w) x xv) : aJ P (cx ok pl w) (convert src dst xv) (o9 P h src dst x) := by
 unfold o9;split
 ·rename_i rs rd hrs hrd;obtain ⟨is, ds, zs, hS⟩ := aN hrs;obtain ⟨id, dd, zd, hD⟩ := aN hrd;split
  ·rename_i k k' n hk;simp only [VRel] at hx; subst hx;refine aJ.int fun _ => ?_;have hd := hD.int hk; subst hd;simp [convert, hS.run_und, hD.run_und, Conv.intToInt, Result.andThen]
  ·rename_i l hk;simp only [VRel] at hx;obtain ⟨s, rfl, rfl, hl⟩ := hx;have hd := hD.str hk; subst hd;intro _;refine ⟨.string s, ?_, by simp only [VRel]; exact ⟨s, rfl, rfl, hl⟩⟩;unfold convert;simp only [Sem.run_bind, hS.run_und, hD.run_und, Result.andThen];cases ds <;> rfl
  ·rename_i hk;split
   ·rename_i el hsl;have hds := hS.slice hsl; subst hds;have hd := hD.str hk; subst hd;split
    ·rename_i re hre;obtain ⟨ie, de, ze, hE⟩ := aN hre;intro hu;have hde := hE.int hu; subst hde;simp only [VRel] at hx; subst hx;refine ⟨.string .empty, ?_, by simp only [VRel]; exact ⟨.empty, rfl, rfl, by simp⟩⟩;unfold convert;simp only [Sem.run_bind, hS.run_und, hD.run_und, hE.run_und, Result.andThen];rfl
    ·exact aJ.no
   ·exact aJ.no
  ·rename_i ex k es hk;split
   ·rename_i el hsl;have hds := hS.slice hsl; subst hds;have hd := hD.str hk; subst hd;split
    ·rename_i re l hre hb;obtain ⟨ie, de, ze, hE⟩ := aN hre;rintro ⟨hu, rfl⟩;have hde := hE.int hu; subst hde;simp only [VRel] at hx;obtain ⟨a, cp, rfl, h1, h2, h3, h4⟩ := hx;have hll := kZ hb;rcases h4 with rfl | ⟨b, off, rfl, hel⟩
     ·simp only [fE] at hb; cases hb;refine ⟨.string .empty, ?_, by simp only [VRel]; exact ⟨.empty, rfl, rfl, by simp⟩⟩;unfold convert;simp only [Sem.run_bind, hS.run_und, hD.run_und, hE.run_und, Result.andThen];cases a
      ·rfl
      ·rfl
     ·obtain ⟨xs, h5, h6, h7⟩ := hel.list (wV hb);obtain ⟨ns, rfl, h8⟩ := oC h7 hb;refine ⟨.string (strOfNums ns), ?_, ?_⟩
      ·refine run_convert_bytes_arg _ src el hS.und hE.und b off es.length cp ns (by simpa using h5) (fun i hi => ?_) dst hD.und;have hl' : i < ns.length := by simp at h5; omega
       refine h6 i _ ?_;simp [hl', List.getElem?_eq_getElem hl', List.getD_eq_getElem?_getD]
      ·simp only [VRel];exact ⟨_, rfl, by rw [strOfNums_data, h8], by omega⟩
    ·exact aJ.no
   ·exact aJ.no
  ·rename_i id k off len cap hk;split
   ·rename_i el hsl;have hds := hS.slice hsl; subst hds;have hd := hD.str hk; subst hd;split
    ·rename_i re l hre hb;obtain ⟨ie, de, ze, hE⟩ := aN hre;rintro ⟨hu, rfl, hle⟩;have hde := hE.int hu; subst hde;simp only [VRel] at hx;obtain ⟨a, cp, rfl, h1, h2, h3, h4⟩ := hx;have hll := kZ hb;have hlen : (((gY h id).drop off).take len).length = len := by rw [List.length_take, List.length_drop]; omega
     rcases h4 with rfl | ⟨b, arr, el', fz, hpl, rfl, _⟩
     ·have hl0 : len = 0 := by omega
      subst hl0;have hl' : l = [] := List.length_eq_zero_iff.1 (by omega);subst hl';refine ⟨.string .empty, ?_, by simp only [VRel]; exact ⟨.empty, rfl, rfl, by simp⟩⟩;unfold convert;simp only [Sem.run_bind, hS.run_und, hD.run_und, hE.run_und, Result.andThen];cases a
      ·rfl
      ·rfl
     ·obtain ⟨xs, h5, h6, h7⟩ := hs.cellsTake hpl off len hle;obtain ⟨ns, rfl, h8⟩ := oC h7 hb;refine ⟨.string (strOfNums ns), ?_, ?_⟩
      ·refine run_convert_bytes_arg _ src el hS.und hE.und b off len cp ns (by simpa using h5) (fun i hi => ?_) dst hD.und;have hl' : i < ns.length := by simp at h5; omega
       refine h6 i _ ?_;simp [hl', List.getElem?_eq_getElem hl', List.getD_eq_getElem?_getD]
      ·simp only [VRel];exact ⟨_, rfl, by rw [strOfNums_data, h8], by omega⟩
    ·exact aJ.no
   ·exact aJ.no
  ·exact aJ.no
 ·exact aJ.no
def V.vc : V → List V
 | .agg vs => vs
 | v => [v]
def V.fit (v : V) : Bool := v.one || (match v with | .agg _ => true | _ => false)
theorem VRel.vc {v : V} {x : Value} (h : VRel c v x) (hf : v.fit = true) : VList c v.vc x.cells.toList := by
 cases v <;> first
  | (rw [h.one (by simpa [V.fit] using hf)]; simp only [V.vc, VList]; exact ⟨_, _, rfl, h, rfl⟩)
  | skip
 case agg vs => simp only [VRel] at h; obtain ⟨cs, rfl, hcs⟩ := h; exact hcs
def dR (cs : List V) (off : Nat) (vs : List V) : List V := cs.take off ++ vs ++ cs.drop (off + vs.length)
def yj (place : Nat → Option (Nat × Nat)) : List V → List (Nat × V) → Option (List V)
 | cs, [] => some cs
 | cs, (i, v) :: rest => match place i with
  | none => none
  | some (off, size) => if v.fit = true ∧ v.vc.length = size ∧ off + size ≤ cs.length then yj place (dR cs off v.vc) rest else none
theorem sZ (off : Nat) : ∀ (ys : List Value) (k : Nat) (cs : Array Value), off + k + ys.length ≤ cs.size →
 ((ys.zipIdx k).foldl (fun cs (p : Value × Nat) => cs.setIfInBounds (off + p.2) p.1) cs).toList = cs.toList.take (off + k) ++ ys ++ cs.toList.drop (off + k + ys.length)
 | [], k, cs, h => by simp
 | y :: ys, k, cs, h => by
  simp only [List.zipIdx_cons, List.foldl_cons];rw [show off + k = off + k from rfl];have ih := sZ off ys (k + 1) (cs.setIfInBounds (off + k) y) (by simp; simp at h; omega);rw [ih];simp only [List.length_cons] at h;have hlt : off + k < cs.toList.length := by simp; omega
  have e1 : (cs.setIfInBounds (off + k) y).toList = cs.toList.set (off + k) y := by simp
  rw [e1];apply List.ext_getElem?;intro i;simp only [List.length_cons];simp only [List.getElem?_append, List.getElem?_take, List.getElem?_drop, List.length_append, List.length_take, List.length_set, List.getElem?_set, List.length_drop, List.getElem?_cons];have hsz : cs.toList.length = cs.size := by simp
  repeat' split
  all_goals first
   | rfl
   | omega
   | (congr 1; omega)
   | (exfalso; omega)
   | (simp_all; (try omega); done)
   | (simp only [Array.getElem?_toList]; congr 1; simp_all; omega)
theorem FO {place : Nat → Option (Nat × Nat)} : ∀ {parts : List (Nat × V)} {xs : List (Nat × Value)} {cs : List V} {cells : Array Value} {r : List V},
 VList c cs cells.toList → xs.map (·.1) = parts.map (·.1) → VList c (parts.map (·.2)) (xs.map (·.2)) → yj place cs parts = some r →
 ∃ res, Instr.fill place cells xs = some res ∧ VList c r res.toList
 | [], xs, cs, cells, r, h1, h2, h3, h4 => by
  have : xs = [] := by simpa using h2
  subst this;simp only [yj] at h4; cases h4;exact ⟨cells, rfl, h1⟩
 | (i, v) :: parts, [], cs, cells, r, h1, h2, h3, h4 => by simp at h2
 | (i, v) :: parts, (j, y) :: xs, cs, cells, r, h1, h2, h3, h4 => by
  simp only [List.map_cons, List.cons.injEq] at h2;obtain ⟨rfl, h2⟩ := h2;simp only [List.map_cons, VList] at h3;obtain ⟨_, _, he, h5, h6⟩ := h3;cases he;simp only [yj] at h4;cases hp : place j with
  | none => rw [hp] at h4; cases h4
  | some q =>
   obtain ⟨off, size⟩ := q;rw [hp] at h4;dsimp only at h4;split at h4
   ·rename_i hc;obtain ⟨hf, hl, hle⟩ := hc;have hvc := h5.vc hf;have hyl : y.cells.toList.length = size := by rw [hvc.length, hl]
    have hcl := h1.length;have hfold := sZ off y.cells.toList 0 cells (by simp at hcl hyl ⊢; omega);have hlist : VList c (dR cs off v.vc) (cells.toList.take off ++ y.cells.toList ++ cells.toList.drop (off + y.cells.toList.length)) := by unfold dR;rw [← hvc.length];exact ((h1.take off).append hvc).append (h1.dropN _)
    obtain ⟨res, hr1, hr2⟩ := FO (cells := (y.cells.zipIdx.foldl (fun cs (p : Value × Nat) => cs.setIfInBounds (off + p.2) p.1) cells)) (by
     rw [← Array.foldl_toList, Array.toList_zipIdx, hfold]; simpa using hlist) h2 h6 h4
    refine ⟨res, ?_, hr2⟩;simp only [Instr.fill, hp];have h7 : ¬ (y.cells.size ≠ size ∨ off + y.cells.size > cells.size) := by simp at hyl hcl; omega
    simp only [ne_eq, Bool.or_eq_true, decide_eq_true_eq] at h7 ⊢;rw [if_neg h7];exact hr1
   ·cases h4
end
section
variable {P : Program} {c : C} {e : E} {ok : Nat → Prop} {pl : Nat → Option Nat} {w : World} {h : H}
def lg (P : Program) : List (Nat × Nat) → Option (List (Nat × Nat))
 | [] => some []
 | (off, ft) :: fs => match ti P ft, lg P fs with
  | some r, some l => some ((off, r.size) :: l)
  | _, _ => none
theorem tq : ∀ {fs : List Field} {l : List (Nat × Nat)}, lg P (fs.map fun f => (f.offset, f.type)) = some l →
 fs.mapM (fun f => (P.info? f.type).map fun i => (f.offset, i.size)) = some l
 | [], l, h => by simp only [List.map_nil, lg] at h; cases h; rfl
 | f :: fs, l, h => by
  simp only [List.map_cons, lg] at h;split at h
  ·rename_i r l' hr hl;cases h;obtain ⟨i, d, z, hT⟩ := aN hr;have ih := tq hl;simp [List.mapM_cons, hT.info, ih, hT.size]
  ·cases h
def yt (P : Program) (t : TypeId) (parts : List (Nat × V)) : PV :=
 match ti P t with
 | some r => match r.kind with
  | .struct fs => match lg P fs with
   | some places => match yj (fun i => places[i]?) r.zero.vc parts with
    | some cs => (r.zero.fit = true, .agg cs)
    | none => eG
   | none => eG
  | .arr _ el _ => match ti P el with
   | some re => match yj (fun i => some (i * re.size, re.size)) r.zero.vc parts with
    | some cs => (r.zero.fit = true, .agg cs)
    | none => eG
   | none => eG
  | _ => eG
 | none => eG
theorem JA {t : TypeId} {parts : List (Nat × V)} {xs : Array (Nat × Value)} (h2 : xs.toList.map (·.1) = parts.map (·.1)) (h3 : VList c (parts.map (·.2)) (xs.toList.map (·.2))) :
 aJ P c (Instr.build t xs) (yt P t parts) := by
 unfold yt;split
 ·rename_i r hr;obtain ⟨i, d, z, hT⟩ := aN hr;have fin : ∀ (place : Nat → Option (Nat × Nat)) (cs : List V), r.zero.fit = true → yj place r.zero.vc parts = some cs → (∀ cells, Instr.fill place z.cells xs.toList = some cells → P.built t xs.toList = some cells) →
   ∃ x, (Instr.build t xs).run P c.w = .ok x c.w ∧ VRel c (.agg cs) x := by
   intro place cs hfit hf hb;have hz : VList c r.zero.vc z.cells.toList := by
    rw [hT.zv] at hfit ⊢;exact (dQ c z).vc hfit
   obtain ⟨cells, h4, h5⟩ := FO hz h2 h3 hf;exact ⟨.agg cells, run_build _ _ _ _ (hb cells h4), by simp only [VRel]; exact ⟨cells, rfl, h5⟩⟩
  split
  ·rename_i fs hk;obtain ⟨gs, rfl, hfs⟩ := hT.struct hk;split
   ·rename_i places hp;rw [hfs] at hp;have hp' := tq hp;split
    ·rename_i cs hcs;intro hft;refine fin _ cs hft hcs fun cells hc => ?_;simp [Program.built, hT.info, hT.und, hT.zero, hp', hc]
    ·exact aJ.no
   ·exact aJ.no
  ·rename_i n el hk;have hd := hT.arr hk; subst hd;split
   ·rename_i re hre;obtain ⟨ie, de, ze, hE⟩ := aN hre;split
    ·rename_i cs hcs;intro hft;refine fin _ cs hft hcs fun cells hc => ?_;rw [hE.size] at hc;simp [Program.built, hT.info, hT.und, hT.zero, hE.info, hc]
    ·exact aJ.no
   ·exact aJ.no
  ·exact aJ.no
 ·exact aJ.no
def dY (k : Nat) : List V → Bool
 | [] => true
 | v :: vs => v.fit && v.dat && (v.vc.length == k) && dY k vs
def lh (k : Nat) : List V → Bool
 | [] => true
 | v :: vs => v.fit && (v.vc.length == k) && lh k vs
theorem dY.l {k : Nat} : ∀ {vs : List V}, dY k vs = true → lh k vs = true
 | [], _ => rfl
 | v :: vs, h => by simp only [dY, lh, Bool.and_eq_true] at h ⊢;exact ⟨⟨h.1.1.1, h.1.2⟩, dY.l h.2⟩
theorem mf {k : Nat} {c : C} : ∀ {vs : List V} {xs : List Value}, VList c vs xs → lh k vs = true → ∀ x ∈ xs, x.cells.size = k
 | [], xs, h, _ => by simp only [VList] at h; subst h; simp
 | v :: vs, xs, h, hf => by
  simp only [VList] at h;obtain ⟨y, ys, rfl, h1, h2⟩ := h;simp only [lh, Bool.and_eq_true, beq_iff_eq] at hf;obtain ⟨⟨f1, f3⟩, f4⟩ := hf;intro x hx;rcases List.mem_cons.1 hx with rfl | hx
  ·have := (h1.vc f1).length;rw [f3] at this; simpa using this
  ·exact mf h2 f4 x hx
def YT (P : Program) (t : TypeId) (len : Nat) (is : List Nat) (vs : List V) : PV :=
 match ti P t with
 | some r => match r.kind with
  | .slice el => match ti P el with
   | some re => bif dY re.size vs then (is = List.range len ∧ len * re.size ≤ 2 ^ 24 ∧ (len = 0 ∨ 0 < re.size), .is true re.size vs)
    else (is = List.range len ∧ lh re.size vs = true ∧ len * re.size ≤ 2 ^ 24 ∧ 0 < re.size, .row re.size vs)
   | none => eG
  | _ => eG
 | none => eG
theorem FP {k : Nat} : ∀ (xs : List Value) (i : Nat) (cells : Array Value), cells.size = (i + xs.length) * k → (∀ x ∈ xs, x.cells.size = k) →
 ∃ res, Instr.fill (fun j => some (j * k, k)) cells ((List.range' i xs.length).zip xs) = some res ∧ res.toList = cells.toList.take (i * k) ++ xs.flatMap (·.cells.toList)
 | [], i, cells, hs, _ => by refine ⟨cells, rfl, ?_⟩;simp only [List.flatMap_nil, List.append_nil];rw [List.take_of_length_le];simp at hs ⊢; omega
 | x :: xs, i, cells, hs, hx => by
  have hxk := hx x (by simp);have hlen : (x :: xs).length = xs.length + 1 := rfl;rw [hlen] at hs ⊢;have e1 : (i + (xs.length + 1)) * k = i * k + k + xs.length * k := by rw [Nat.add_mul, Nat.add_mul]; omega
  have hyl : x.cells.toList.length = k := by simpa using hxk
  have hfold := sZ (i * k) x.cells.toList 0 cells (by rw [hyl]; omega);obtain ⟨cells', hc'⟩ : ∃ cells', x.cells.zipIdx.foldl (fun cs (p : Value × Nat) => cs.setIfInBounds (i * k + p.2) p.1) cells = cells' := ⟨_, rfl⟩;have hcl : cells'.toList = cells.toList.take (i * k) ++ x.cells.toList ++ cells.toList.drop (i * k + k) := by rw [← hc', ← Array.foldl_toList, Array.toList_zipIdx, hfold, hyl]; simp
  have hsz' : cells'.size = ((i + 1) + xs.length) * k := by
   have : cells'.toList.length = cells.toList.length := by rw [hcl]; simp only [List.length_append, List.length_take, List.length_drop, hyl, Array.length_toList]; omega
   simp only [Array.length_toList] at this;rw [this, hs]; congr 1; omega
  obtain ⟨res, h1, h2⟩ := FP xs (i + 1) cells' hsz' (fun y hy => hx y (by simp [hy]));refine ⟨res, ?_, ?_⟩
  ·rw [List.range'_succ, List.zip_cons_cons];simp only [Instr.fill];rw [if_neg (by simp only [ne_eq, Bool.or_eq_true, decide_eq_true_eq]; omega)];rw [hc']; exact h1
  ·rw [h2, hcl];have e2 : (i + 1) * k = i * k + k := by rw [Nat.add_mul]; omega
   rw [e2];have e3 : (cells.toList.take (i * k)).length = i * k := by rw [List.length_take, Array.length_toList]; omega
   have e4 : (cells.toList.take (i * k) ++ x.cells.toList).length = i * k + k := by rw [List.length_append, e3, hyl]
   rw [List.take_append_of_le_length (by omega), List.take_of_length_le (by omega)];simp
theorem tu {k : Nat} : ∀ {vs : List V} {xs : List Value}, VList c vs xs → dY k vs = true →
 (∀ x ∈ xs, x.cells.size = k) ∧ (∀ (i : Nat) (v : V) (x : Value), vs[i]? = some v → xs[i]? = some x → VRel c.data v x)
 | [], xs, h, _ => by simp only [VList] at h; subst h; simp
 | v :: vs, xs, h, hf => by
  simp only [VList] at h;obtain ⟨y, ys, rfl, h1, h2⟩ := h;simp only [dY, Bool.and_eq_true, beq_iff_eq] at hf;obtain ⟨⟨⟨f1, f2⟩, f3⟩, f4⟩ := hf;obtain ⟨g1, g2⟩ := tu h2 f4;refine ⟨fun x hx => ?_, fun i u x hu hx => ?_⟩
  ·rcases List.mem_cons.1 hx with rfl | hx
   ·have := (h1.vc f1).length;rw [f3] at this; simpa using this
   ·exact g1 x hx
  ·cases i with
   | zero => simp at hu hx; subst hu; subst hx; exact h1.todata _ _ f2
   | succ i => exact g2 i u x (by simpa using hu) (by simpa using hx)
theorem yu {k : Nat} : ∀ {xs : List Value} (i : Nat) {x : Value}, (∀ x ∈ xs, x.cells.size = k) → xs[i]? = some x → ∀ j, j < k → (xs.flatMap (·.cells.toList))[i * k + j]? = x.cells[j]?
 | [], i, x, _, h, j, hj => by simp at h
 | y :: ys, i, x, hx, h, j, hj => by
  have hy := hx y (by simp);rw [List.flatMap_cons];cases i with
  | zero => simp at h; subst h;rw [List.getElem?_append_left (by simp; omega)];simp
  | succ i => rw [List.getElem?_append_right (by rw [Nat.add_mul]; simp; omega)];have := yu (xs := ys) i (x := x) (fun z hz => hx z (by simp [hz])) (by simpa using h) j hj;rw [← this]; congr 1;rw [Nat.add_mul]; simp; omega
theorem VElems.fresh {k : Nat} {vs : List V} {xs : List Value} (hs : HSim e ok pl h w) (hv : VList (cx ok pl w) vs xs) (hf : dY k vs = true) {arr : Array Value} {el : TypeId} {fz : Nat × Nat} {b : Nat} {w' : World}
 (x : WExt w w') (hb : w.heap.size ≤ b) (ha : w'.heap[b]? = some (.cells arr el fz)) (hpre : ∀ i, i < (xs.flatMap (·.cells.toList)).length → arr[i]? = (xs.flatMap (·.cells.toList))[i]?) :
 VElems (cx ok pl w').data k vs b 0 := by
 obtain ⟨g1, g2⟩ := tu hv hf;have hlen := hv.length;refine iw fun i v hi => ?_;have hlt : i < vs.length := (List.getElem?_eq_some_iff.1 hi).1;obtain ⟨y, hy⟩ : ∃ y, xs[i]? = some y := ⟨_, List.getElem?_eq_getElem (by omega)⟩;have hyk := g1 y (List.mem_of_getElem? hy);refine ⟨y, hyk, fun j hj => ?_, ?_⟩
 ·have hflat := yu i g1 hy j (by omega);refine ⟨⟨hs.fresh b hb, fun q hq => by have := hs.lt q b hq; omega⟩, ?_⟩;have hj' : y.cells[j]? = some y.cells[j] := by simp [hj]
  have hin : i * k + j < (xs.flatMap (·.cells.toList)).length := by rw [hj'] at hflat;exact (List.getElem?_eq_some_iff.1 hflat).1
  have := hpre _ hin;rw [hflat] at this;show w'.cell? _ = _;simp only [World.cell?, ha, Nat.zero_add];simpa using this
 ·have h1 := g2 i v y hi hy;exact VRel.mono ((x.keeps hs).cext.data) _ _ h1
theorem yw {k : Nat} {vs : List V} {xs : List Value} (hs : HSim e ok pl h w) (hv : VList (cx ok pl w) vs xs) (hf : lh k vs = true) {arr : Array Value} {el : TypeId} {fz : Nat × Nat} {b : Nat} {w' : World}
 (x : WExt w w') (hb : w.heap.size ≤ b) (ha : w'.heap[b]? = some (.cells arr el fz)) (hpre : ∀ i, i < (xs.flatMap (·.cells.toList)).length → arr[i]? = (xs.flatMap (·.cells.toList))[i]?) :
 VElems (cx ok pl w') k vs b 0 := by
 have g1 := mf hv hf;have hlen := hv.length;refine iw fun i v hi => ?_;have hlt : i < vs.length := (List.getElem?_eq_some_iff.1 hi).1;obtain ⟨y, hy, hrel⟩ := hv.get i v hi;have hyk := g1 y (List.mem_of_getElem? hy);refine ⟨y, hyk, fun j hj => ?_, VRel.mono (x.keeps hs).cext _ _ hrel⟩;have hflat := yu i g1 hy j (by omega);refine ⟨⟨hs.fresh b hb, fun q hq => by have := hs.lt q b hq; omega⟩, ?_⟩;have hj' : y.cells[j]? = some y.cells[j] := by simp [hj]
 have hin : i * k + j < (xs.flatMap (·.cells.toList)).length := by rw [hj'] at hflat;exact (List.getElem?_eq_some_iff.1 hflat).1
 have := hpre _ hin;rw [hflat] at this;show w'.cell? _ = _;simp only [World.cell?, ha, Nat.zero_add];simpa using this
end
end Go.Abs
