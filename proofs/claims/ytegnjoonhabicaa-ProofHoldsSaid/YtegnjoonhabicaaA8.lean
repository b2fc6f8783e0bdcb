/- Abstract values, heaps and frames over the calculus, part 8. -/
import Derived.Test.YtegnjoonhabicaaA7
set_option linter.unusedVariables false
set_option linter.unusedSimpArgs false
namespace Go.Abs
open Go.RowKit

/-! ### Maps: keys -/
def keq : K → V → V → Option Bool
  | .int _, .int k a, .int k' b => if k = k' then some (a == b) else none
  | .str, .str a, .str b => some (a == b)
  | .bool, .bool a, .bool b => some (a == b)
  | _, _, _ => none

/-- The first place of a key. -/
def mfind (kd : K) (key : V) : List V → Option (Option Nat)
  | [] => some none
  | k :: ks => match keq kd key k with
    | some true => some (some 0)
    | some false => match mfind kd key ks with
      | some (some i) => some (some (i + 1))
      | r => r
    | none => none

section
variable {P : Program} {c : C} {e : E} {ok : Nat → Prop} {pl : Nat → Option Nat} {w : World} {h : H}

theorem keq_ok {t : TypeId} {r : TI} {i : TypeInfo} {d : TypeDesc} {z : Value} (hT : TIs P t r i d z) {a b : V} {av bv : Value} {q : Bool} (ha : VRel c a av) (hb : VRel c b bv)
    (hq : keq r.kind a b = some q) : Instr.sameNow d av bv = some q := by
  unfold keq at hq
  split at hq
  · rename_i hk
    rw [hT.int hk]
    simp only [VRel] at ha hb
    subst ha; subst hb
    simpa [Instr.sameNow] using hq
  · rename_i hk
    rw [hT.str hk]
    simp only [VRel] at ha hb
    obtain ⟨s, rfl, rfl, _⟩ := ha
    obtain ⟨u, rfl, rfl, _⟩ := hb
    rw [← hq]
    simp only [Instr.sameNow, beq_toListBytes, ByteArray.toList_eq]
  · rename_i hk
    rw [hT.bool hk]
    simp only [VRel] at ha hb
    subst ha; subst hb
    simpa [Instr.sameNow] using hq
  · cases hq

theorem mfind_ok {t : TypeId} {r : TI} {i : TypeInfo} {d : TypeDesc} {z : Value} (hT : TIs P t r i d z) {key : V} {kv : Value} (hk : VRel c key kv) :
    ∀ (ks : List V) (es : List MapEntry) (j : Nat) (q : Option Nat), VList c ks (es.map (·.key)) → mfind r.kind key ks = some q →
      ∃ a, Instr.findNow d kv es j = some a ∧ (match q with
        | none => a = none
        | some n => ∃ en, es[n]? = some en ∧ a = some (j + n, en.val))
  | [], es, j, q, hr, hq => by
    simp only [VList] at hr
    have : es = [] := by simpa using hr
    subst this
    simp only [mfind] at hq
    cases hq
    exact ⟨none, rfl, rfl⟩
  | k :: ks, es, j, q, hr, hq => by
    simp only [VList] at hr
    obtain ⟨y, ys, h1, h2, h3⟩ := hr
    cases es with
    | nil => cases h1
    | cons en es =>
      simp only [List.map_cons, List.cons.injEq] at h1
      obtain ⟨rfl, rfl⟩ := h1
      simp only [mfind] at hq
      split at hq
      · rename_i hb
        cases hq
        exact ⟨some (j, en.val), by simp [Instr.findNow, keq_ok hT hk h2 hb], en, rfl, by simp⟩
      · rename_i hb
        have hf : ∀ (q' : Option Nat), mfind r.kind key ks = some q' → ∃ a, Instr.findNow d kv es (j + 1) = some a ∧ (match q' with
            | none => a = none
            | some n => ∃ en, es[n]? = some en ∧ a = some (j + 1 + n, en.val)) := fun q' hq' => mfind_ok hT hk ks es (j + 1) q' h3 hq'
        split at hq
        · rename_i n hn
          cases hq
          obtain ⟨a, h4, en', h5, h6⟩ := hf _ hn
          refine ⟨a, by simp [Instr.findNow, keq_ok hT hk h2 hb, h4], en', by simpa using h5, ?_⟩
          rw [h6]; congr 2; omega
        · rename_i r' hr'
          cases hm : mfind r.kind key ks with
          | none => rw [hm] at hq; cases hq
          | some q' =>
            cases q' with
            | some n => exact absurd hm (hr' n)
            | none =>
              rw [hm] at hq; cases hq
              obtain ⟨a, h4, h5⟩ := hf none hm
              exact ⟨a, by simp [Instr.findNow, keq_ok hT hk h2 hb, h4], h5⟩
      · cases hq

def K.keyOk : K → V → Bool
  | .int _, .int _ _ => true
  | .str, .str _ => true
  | .bool, .bool _ => true
  | _, _ => false

theorem run_keyOk {t : TypeId} {r : TI} {i : TypeInfo} {d : TypeDesc} {z : Value} (hT : TIs P t r i d z) {key : V} {kv : Value} (hk : VRel c key kv) (ho : r.kind.keyOk key = true) (em : Bool) (w : World) :
    (Instr.checkKey em 10000 t kv).run P w = .ok () w := by
  unfold Instr.checkKey
  simp only [Sem.run_bind, hT.run_und, Result.andThen]
  cases hkk : r.kind <;> rw [hkk] at ho <;> cases key <;> simp only [K.keyOk, Bool.false_eq_true] at ho <;> simp only [VRel] at hk
  · subst hk; rw [hT.bool hkk]; rfl
  · subst hk; rw [hT.int hkk]; rfl
  · obtain ⟨s, rfl, _⟩ := hk; rw [hT.str hkk]; rfl

/-- A key looked up among keys and values. -/
def mget (kd : K) (key : V) (ks vs : List V) (zero : V) (commaOk : Bool) : PV :=
  match mfind kd key ks with
  | some (some n) => (True, bif commaOk then .tup [vs.getD n .any, .bool true] else vs.getD n .any)
  | some none => (True, bif commaOk then .tup [zero, .bool false] else zero)
  | none => pvNo

def pvLookup (P : Program) (h : H) (t : TypeId) (x key : V) (commaOk : Bool) : PV :=
  match ti P t with
  | some r => match r.kind with
    | .map kt et => match ti P kt, ti P et with
      | some rk, some re => match x with
        | .nilm => (rk.kind.keyOk key = true, bif commaOk then .tup [re.zero, .bool false] else re.zero)
        | .im ks vs => let q := mget rk.kind key ks vs re.zero commaOk; (rk.kind.keyOk key = true ∧ q.1, q.2)
        | .lm id => match h[id]? with
          | some (.map ks vs) => let q := mget rk.kind key ks vs re.zero commaOk; (rk.kind.keyOk key = true ∧ q.1, q.2)
          | _ => pvNo
        | _ => pvNo
      | _, _ => pvNo
    | _ => pvNo
  | none => pvNo

theorem mget_ok {m : C} {kt et : TypeId} {rk re : TI} {ik ie : TypeInfo} {dk de : TypeDesc} {zk ze : Value} (hK : TIs P kt rk ik dk zk) (hE : TIs P et re ie de ze)
    {key : V} {kv : Value} (hk : VRel m key kv) {ks vs : List V} {es : Array MapEntry} (h1 : VList m ks (es.toList.map (·.key))) (h2 : VList m vs (es.toList.map (·.val)))
    {commaOk : Bool} (hq : (mget rk.kind key ks vs re.zero commaOk).1) :
    (∃ j v, (Instr.findKey kt kv es.toList).run P w = .ok (some (j, v)) w ∧ VRel m (mget rk.kind key ks vs re.zero commaOk).2 (if commaOk then .tuple #[v, .bool true] else v)) ∨
    ((Instr.findKey kt kv es.toList).run P w = .ok none w ∧ VRel m (mget rk.kind key ks vs re.zero commaOk).2 (if commaOk then .tuple #[ze, .bool false] else ze)) := by
  unfold mget at hq ⊢
  split at hq
  · rename_i n hn
    obtain ⟨a, h3, en, h4, rfl⟩ := mfind_ok hK hk ks es.toList 0 _ h1 hn
    have hlen := h2.length
    have hlt : n < es.toList.length := (List.getElem?_eq_some_iff.1 h4).1
    obtain ⟨v, hv⟩ : ∃ v, vs[n]? = some v := ⟨_, List.getElem?_eq_getElem (by simp at hlen hlt; omega)⟩
    obtain ⟨x, hx1, hx2⟩ := h2.get n v hv
    rw [List.getElem?_map, h4] at hx1
    simp at hx1; subst hx1
    refine .inl ⟨_, _, MapKept.run_findKey hK.und h3, ?_⟩
    simp only [List.getD_eq_getElem?_getD, hv, Option.getD_some]
    cases commaOk
    · exact hx2
    · simp only [cond_true, if_true, VRel, VList]; exact ⟨_, rfl, _, _, rfl, hx2, _, _, rfl, rfl, rfl⟩
  · rename_i hn
    obtain ⟨a, h3, rfl⟩ := mfind_ok hK hk ks es.toList 0 _ h1 hn
    have hz : VRel m re.zero ze := hE.zv ▸ ofZero_rel m ze
    refine .inr ⟨MapKept.run_findKey hK.und h3, ?_⟩
    cases commaOk
    · exact hz
    · simp only [cond_true, if_true, VRel, VList]; exact ⟨_, rfl, _, _, rfl, hz, _, _, rfl, rfl, rfl⟩
  · exact hq.elim

theorem pvLookup_ok (hs : HSim e ok pl h w) {t : TypeId} {x key : V} {xv kv : Value} {commaOk : Bool} (hx : VRel (cx ok pl w) x xv) (hk : VRel (cx ok pl w) key kv) :
    Gives P (cx ok pl w) (Instr.lookup t xv kv commaOk) (pvLookup P h t x key commaOk) := by
  unfold pvLookup
  split
  · rename_i r hr
    obtain ⟨i, d, z, hT⟩ := ti_some hr
    split
    · rename_i kt et hkd
      have hd := hT.map hkd
      subst hd
      split
      · rename_i rk re hrk hre
        obtain ⟨ik, dk, zk, hK⟩ := ti_some hrk
        obtain ⟨ie, de, ze, hE⟩ := ti_some hre
        have fin : ∀ (es : Array MapEntry) (ks vs : List V), ((xv = .map none ∧ es = #[]) ∨ ∃ b clk, xv = .map (some b) ∧ w.heap[b]? = some (.map es clk)) →
            VList (cx ok pl w) ks (es.toList.map (·.key)) → VList (cx ok pl w) vs (es.toList.map (·.val)) →
            (rk.kind.keyOk key = true ∧ (mget rk.kind key ks vs re.zero commaOk).1) →
            ∃ y, (Instr.lookup t xv kv commaOk).run P w = .ok y w ∧ VRel (cx ok pl w) (mget rk.kind key ks vs re.zero commaOk).2 y := by
          rintro es ks vs hxv h1 h2 ⟨h3, h4⟩
          rcases mget_ok (P := P) (w := w) hK hE hk h1 h2 h4 with ⟨j, v, h5, h6⟩ | ⟨h5, h6⟩
          · refine ⟨_, ?_, h6⟩
            rcases hxv with ⟨rfl, rfl⟩ | ⟨b, clk, rfl, hb⟩
            · simp [Instr.lookup, hT.run_und, Result.andThen, run_keyOk hK hk h3, h5]
            · simp [Instr.lookup, hT.run_und, Result.andThen, MapKept.run_getObj_map hb, run_keyOk hK hk h3, h5]
          · refine ⟨_, ?_, h6⟩
            rcases hxv with ⟨rfl, rfl⟩ | ⟨b, clk, rfl, hb⟩
            · simp [Instr.lookup, hT.run_und, Result.andThen, run_keyOk hK hk h3, h5, hE.run_zero]
            · simp [Instr.lookup, hT.run_und, Result.andThen, MapKept.run_getObj_map hb, run_keyOk hK hk h3, h5, hE.run_zero]
        split
        · intro hko
          simp only [VRel] at hx; subst hx
          obtain ⟨y, hy1, hy2⟩ := fin #[] [] [] (.inl ⟨rfl, rfl⟩) (by simp [VList]) (by simp [VList]) ⟨hko, by simp [mget, mfind]⟩
          exact ⟨y, hy1, by simpa [mget, mfind] using hy2⟩
        · rename_i ks vs
          intro hko
          simp only [VRel] at hx
          obtain ⟨b, es, clk, rfl, h1, h2, h3, h4⟩ := hx
          exact fin es ks vs (.inr ⟨b, clk, rfl, h2⟩) (VList.ofdata _ _ h3) (VList.ofdata _ _ h4.1) hko
        · rename_i id
          split
          · rename_i ks vs ho
            intro hko
            simp only [VRel] at hx
            obtain ⟨b, hb, rfl⟩ := hx
            obtain ⟨o, ho', hat⟩ := hs.obj id b hb
            rw [ho] at ho'
            cases ho'
            obtain ⟨es, clk, h2, h3, h4⟩ := hat
            exact fin es ks vs (.inr ⟨b, clk, rfl, h2⟩) h3 h4.1 hko
          · exact Gives.no
        · exact Gives.no
      · exact Gives.no
    · exact Gives.no
  · exact Gives.no

/-! ### Lengths; the least and the greatest -/
def _root_.Go.Abs.K.isSlice : K → Bool | .slice _ => true | _ => false
def _root_.Go.Abs.K.isMap : K → Bool | .map _ _ => true | _ => false
def pvLen (P : Program) (h : H) (t : TypeId) (x : V) : PV :=
  match ti P t with
  | some r => match x with
    | .str l => (r.kind = .str, .int .i64 l.length)
    | .nils => (r.kind.isSlice = true, .int .i64 0)
    | .is _ _ es => (r.kind.isSlice = true, .int .i64 es.length)
    | .ls _ _ _ len _ => (r.kind.isSlice = true, .int .i64 len)
    | .nilm => (r.kind.isMap = true, .int .i64 0)
    | .im ks _ => (r.kind.isMap = true, .int .i64 ks.length)
    | .lm id => match h[id]? with
      | some (.map ks _) => (r.kind.isMap = true, .int .i64 ks.length)
      | _ => pvNo
    | _ => match r.kind with
      | .arr n _ => (True, .int .i64 n)
      | _ => pvNo
  | none => pvNo

theorem K.slice_of {k : K} (h : k.isSlice = true) : ∃ e, k = .slice e := by cases k <;> simp_all [K.isSlice]
theorem K.map_of {k : K} (h : k.isMap = true) : ∃ a b, k = .map a b := by cases k <;> simp_all [K.isMap]

theorem pvLen_ok (hs : HSim e ok pl h w) {ts : Array TypeId} {t ty : TypeId} {x : V} {xv : Value} (ht : ts[0]? = some t) (hx : VRel (cx ok pl w) x xv) :
    Gives P (cx ok pl w) (Builtin.len_ ts ty #[xv]) (pvLen P h t x) := by
  unfold pvLen
  split
  · rename_i r hr
    obtain ⟨i, d, z, hT⟩ := ti_some hr
    have mp : ∀ ks : List V, (∃ b es clk, xv = .map (some b) ∧ w.heap[b]? = some (.map es clk) ∧ es.size = ks.length) → r.kind.isMap = true → (Builtin.len_ ts ty #[xv]).run P w = .ok (.int .i64 ks.length) w := by
      rintro ks ⟨b, es, clk, rfl, hb, hl⟩ hk
      obtain ⟨k1, k2, hk⟩ := K.map_of hk
      have hu : P.underlying t = some (.map k1 k2) := by rw [hT.und, hT.map hk]
      simp [Builtin.len_, ht, run_underlying hu, MapKept.run_getObj_map hb, Result.andThen, hl, goInt]
    split
    · refine Gives.int fun hk => ?_
      simp only [VRel] at hx
      obtain ⟨s, rfl, rfl, _⟩ := hx
      have hu : P.underlying t = some .string := by rw [hT.und, hT.str hk]
      rw [← size_data]
      simp [Builtin.len_, ht, run_underlying hu, Result.andThen, goInt]
    · refine Gives.int fun hk => ?_
      simp only [VRel] at hx; subst hx
      obtain ⟨k1, hk⟩ := K.slice_of hk
      have hu : P.underlying t = some (.slice k1) := by rw [hT.und, hT.slice hk]
      simp [Builtin.len_, ht, run_underlying hu, Result.andThen, goInt]
    · refine Gives.int fun hk => ?_
      simp only [VRel] at hx
      obtain ⟨a, cp, rfl, _⟩ := hx
      obtain ⟨k1, hk⟩ := K.slice_of hk
      have hu : P.underlying t = some (.slice k1) := by rw [hT.und, hT.slice hk]
      simp [Builtin.len_, ht, run_underlying hu, Result.andThen, goInt]
    · refine Gives.int fun hk => ?_
      simp only [VRel] at hx
      obtain ⟨a, cp, rfl, _⟩ := hx
      obtain ⟨k1, hk⟩ := K.slice_of hk
      have hu : P.underlying t = some (.slice k1) := by rw [hT.und, hT.slice hk]
      simp [Builtin.len_, ht, run_underlying hu, Result.andThen, goInt]
    · refine Gives.int fun hk => ?_
      simp only [VRel] at hx; subst hx
      obtain ⟨k1, k2, hk⟩ := K.map_of hk
      have hu : P.underlying t = some (.map k1 k2) := by rw [hT.und, hT.map hk]
      simp [Builtin.len_, ht, run_underlying hu, Result.andThen, goInt]
    · refine Gives.int fun hk => ?_
      simp only [VRel] at hx
      obtain ⟨b, es, clk, rfl, _, hb, h1, _⟩ := hx
      exact mp _ ⟨b, es, clk, rfl, hb, by have := h1.length; simpa using this⟩ hk
    · rename_i id
      split
      · rename_i ks vs ho
        refine Gives.int fun hk => ?_
        simp only [VRel] at hx
        obtain ⟨b, hb, rfl⟩ := hx
        obtain ⟨o, ho', hat⟩ := hs.obj id b hb
        rw [ho] at ho'
        cases ho'
        obtain ⟨es, clk, h2, h3, h4⟩ := hat
        exact mp _ ⟨b, es, clk, rfl, h2, by have := h3.length; simpa using this⟩ hk
      · exact Gives.no
    · split
      · rename_i n el hk
        refine Gives.int fun _ => ?_
        have hu : P.underlying t = some (.array n el) := by rw [hT.und, hT.arr hk]
        simp [Builtin.len_, ht, run_underlying hu, Result.andThen, goInt]
      · exact Gives.no
  · exact Gives.no

def pvMin (args : List V) : PV :=
  match args with
  | [.int k a, .int _ b] => (True, .int k (if b < a then b else a))
  | [.int k a, .int _ b, .int _ c] => (True, .int k (let m := if b < a then b else a; if c < m then c else m))
  | _ => pvNo
def pvMax (args : List V) : PV :=
  match args with
  | [.int k a, .int _ b] => (True, .int k (if a < b then b else a))
  | _ => pvNo

theorem pvMin_ok {ts : Array TypeId} {ty : TypeId} {args : List V} {xs : List Value} (h : VList c args xs) : Gives P c (Builtin.min_ ts ty xs.toArray) (pvMin args) := by
  unfold pvMin
  split
  · simp only [VList, VRel] at h
    obtain ⟨_, _, rfl, rfl, _, _, rfl, rfl, rfl⟩ := h
    exact Gives.int fun _ => run_min_int2 ..
  · simp only [VList, VRel] at h
    obtain ⟨_, _, rfl, rfl, _, _, rfl, rfl, _, _, rfl, rfl, rfl⟩ := h
    exact Gives.int fun _ => run_min_int3 ..
  · exact Gives.no

theorem pvMax_ok {ts : Array TypeId} {ty : TypeId} {args : List V} {xs : List Value} (h : VList c args xs) : Gives P c (Builtin.max_ ts ty xs.toArray) (pvMax args) := by
  unfold pvMax
  split
  · simp only [VList, VRel] at h
    obtain ⟨_, _, rfl, rfl, _, _, rfl, rfl, rfl⟩ := h
    exact Gives.int fun _ => run_max_int2 ..
  · exact Gives.no

end
end Go.Abs
