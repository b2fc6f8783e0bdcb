/- Lemmas for the statement of this claim, part F12: they hold with no conditions but those that each one names. -/
import Derived.Test.YtboolnpmlmgpkaaGreatDoorF11
import Derived.Test.YtboolnpmlmgpkaaGreatDoorF10
import Derived.Test.YtboolnpmlmgpkaaGreatDoorA11
import Derived.Test.YtboolnpmlmgpkaaGreatDoorF09
import Derived.Test.YtboolnpmlmgpkaaGreatDoorF04
set_option linter.unusedVariables false
set_option maxRecDepth 20000
set_option linter.unusedSimpArgs false
set_option linter.unnecessarySimpa false
namespace Go.Proofs.YtboolnpmlmgpkaaGreatDoor
open Go Go.Proofs Go.Abs
def zjn (s magic : S) : V := match zdI s magic with
 | .error (w, e) => .tup [.agg [vi 0, vi 0, vi 0, vi 0, vi 0, vi 0, vi 0, vi 0, vi 0], vi 0, zL s w e]
 | .ok (l, b) => .tup [.agg (l.map vi), vi b, .agg [vi 0, vi 0, vi 0]]
abbrev b9 : O := .cells [vi 0, vi 0, vi 0, vi 0, vi 0, vi 0, vi 0, vi 0, vi 0]
def zpw : Plan := .take 1 <| .take 2 <| .take 3 <| .alt 0 (.alt 4 (.alt 5 (.one 6 <| .take 7 <| .one 8 <| .fin) (.one 6 (.take 7 <| .one 5 <| .one 8 <| .fin))) (.alt 5 (.alt 4 (.one 6 <| .take 7 <| .one 8 <| .fin) (.one 6 (.one 4 <| .take 7 <| .one 8 <| .fin))) (.one 6 (.alt 4 (.take 7 <| .one 5 <| .one 8 <| .fin) (.one 5 (.one 4 <| .take 7 <| .one 8 <| .fin)))))) (.alt 4 (.alt 0 (.alt 5 (.one 6 <| .take 7 <| .one 8 <| .fin) (.one 6 (.take 7 <| .one 5 <| .one 8 <| .fin))) (.one 5 (.one 0 <| .one 6 <| .take 7 <| .one 8 <| .fin))) (.one 5 (.alt 0 (.alt 4 (.one 6 <| .take 7 <| .one 8 <| .fin) (.one 6 (.one 4 <| .take 7 <| .one 8 <| .fin))) (.one 4 (.one 0 <| .one 6 <| .take 7 <| .one 8 <| .fin)))))
set_option maxHeartbeats 4000000 in
theorem zna (s magic : S) (hs : s.length ≤ 100000) : Ev TE 53 [.str s, .str magic] (zjn s magic) := by
 have hM : maxLen = 9223372036854775807 := rfl
 refine za0 ?_
 refine za7 rfl Tryz.func53 rfl (by simp [nts]) fun ok pl0 w0 => ?_
 simp only [nts]
 refine zdv (Q := fun _ _ _ => False) ?_ (fun _ _ _ h => by obtain ⟨_, _, _, _, _, _, h⟩ := h; exact h.elim)
 refine vm ?_
 simp only [wq.down, Nat.reduceLT]
 obtain ⟨F0, hF0⟩ : ∃ F0 : Fr, F0 = (((Fr.init [V.str s, V.str magic]).put (some 4) (.lp 0 0)).put (some 5) (vi 0)).put (some 6) (.lp 1 0) := ⟨_, rfl⟩
 have hsc : ∀ (x : Operand), x ∈ #[Operand.tmp 9, Operand.tmp 6] → (Fr.ev TE (((((Fr.init [V.str s, V.str magic]).put (some 4) (.lp 0 0)).put (some 5) (vi 0)).put (some 6) (.lp 1 0)).put (some 9) (.str s)) x).sc := fun x hx => by
  simp only [List.mem_toArray, List.mem_cons, List.not_mem_nil, or_false] at hx
  rcases hx with rfl | rfl
  ·simp only [wq.down, ↓reduceIte]
  ·simp only [wq.down, seval]
 refine zff (fn := Tryz.f53) (q := 67) (avs := [.str s, .lp 1 0]) (F1 := ((((Fr.init [V.str s, V.str magic]).put (some 4) (.lp 0 0)).put (some 5) (vi 0)).put (some 6) (.lp 1 0)).put (some 9) (.str s)) rfl ⟨rfl, by simp only [wq.down, Nat.reduceLT], by simp only [wq.down, seval], rfl, rfl, rfl, ⟨.func 67, #[.tmp 9, .tmp 6], _, [], rfl, by simp only [wq.down], by simp only [wq.down], hsc, by simp only [wq.down, seval]⟩, by simp only [wq.down]⟩ rfl rfl fun d => ?_
 obtain ⟨ee, hee⟩ : ∃ ee : E, ee = { TE with tl := [d] } := ⟨_, rfl⟩
 have hP : ee.P = P := by rw [hee]; rfl
 have hmix : ee.P.follows .mixedOrders = true := by rw [hP]; exact mixed
 have hT : ∀ {g : FuncId} {args : List V} {h : H} {R : AEnd → H → (Nat → Bool) → Prop}, zb TE g args h R → zb ee g args h R := fun hc => by rw [hee]; exact hc.tl _
 rw [← hee]
 obtain ⟨QP, eQP⟩ : ∃ QP : XE → Fr → H → Prop, QP = LV TE Tryz.f53 (fun ae h x => match ae with | AEnd.ret v => zo TE h v (zjn s magic) | AEnd.pan v => False) [(67, [V.str s, V.lp 1 0])] := ⟨_, rfl⟩
 refine zK (Q := QP) (fun xe f' h' hq => by rw [eQP] at hq; exact hq) ?_
 have hkd : ∀ {f' : Fr}, (∀ j, f'.k j = true → 4 ≤ j) → ∀ x ∈ [((67 : FuncId), [V.str s, V.lp 1 0])], V.drops f'.k x.2 = x.2 := fun {f'} h x hx => by
  have z : f'.k 1 = false := by
   cases hj : f'.k 1 with
   | false => rfl
   | true => exact absurd (h 1 hj) (by decide)
  simp only [List.mem_singleton] at hx
  subst hx
  simp [V.drops, V.drop, z]
 have hpan : ∀ {w : Nat} {e : Int} {f' : Fr} {h : H}, zdI s magic = .error (w, e) → f'.d = [] → (∀ j, f'.k j = true → 4 ≤ j) → f'.t 4 = .lp 0 0 → f'.t 5 = vi 0 → f'.t 6 = .lp 1 0 → h[0]? = some b9 → h[1]? = some bF → QP (.pan (zec w e)) f' h := by
  intro w e f' h hp hd hk t4 t5 t6 g0 g1
  have l0 : 0 < h.length := (List.getElem?_eq_some_iff.1 g0).1
  have l1 : 1 < h.length := (List.getElem?_eq_some_iff.1 g1).1
  have hv : zjn s magic = .tup [.agg [vi 0, vi 0, vi 0, vi 0, vi 0, vi 0, vi 0, vi 0, vi 0], vi 0, zL s w e] := by unfold zjn; rw [hp]
  have hf : ∃ x y z, zL s w e = .agg [vi x, vi y, vi z] := by unfold zL; split <;> exact ⟨_, _, _, rfl⟩
  obtain ⟨e1, e2, e3, hf⟩ := hf
  rw [eQP, hv]
  refine ⟨hd, hkd hk, ?_⟩
  refine zfB w e (by omega) g1 fun X => ⟨fun y hy => (by cases hy), ?_⟩
  have r0 : (h.set 1 (.cells (zL s w e).vc) ++ [X])[0]? = some b9 := by
   rw [List.getElem?_append_left (by rw [List.length_set]; exact l0), List.getElem?_set_ne (by decide)]; exact g0
  have r1 : (h.set 1 (.cells (zL s w e).vc) ++ [X])[1]? = some (.cells [vi e1, vi e2, vi e3]) := by
   rw [List.getElem?_append_left (by rw [List.length_set]; exact l1), List.getElem?_set_self l1, hf]; rfl
  obtain ⟨h3, eh3⟩ : ∃ h3, h3 = h.set 1 (.cells (zL s w e).vc) ++ [X] := ⟨_, rfl⟩
  rw [← eh3] at r0 r1 ⊢
  unfold LVr
  simp only [Tryz.results53, nts]
  simp only [wq.down, seval, hd, t4, t5, t6, r0, r1]
  rw [hf]
  exact zo.dat rfl
 have hret : ∀ {l : Cl} {b : Nat} {f' : Fr} {h : H}, zdI s magic = .ok (l, b) → f'.d = [] → (∀ j, f'.k j = true → 4 ≤ j) → f'.t 4 = .lp 0 0 → f'.t 5 = vi b → f'.t 6 = .lp 1 0 → h[0]? = some (.cells (l.map vi)) → h[1]? = some bF → QP .ret f' h := by
  intro l b f' h hv hd hk t4 t5 t6 g0 g1
  obtain ⟨a0, a1, a2, a3, a4, a5, a6, rfl, _⟩ := zg9 hv
  rw [eQP, show zjn s magic = .tup [.agg [vi a0, vi a1, vi a2, vi a3, vi a4, vi a5, vi a6, vi 0, vi 0], vi b, .agg [vi 0, vi 0, vi 0]] by unfold zjn; rw [hv]; rfl]
  refine ⟨hd, hkd hk, ?_⟩
  refine zfA fun X => ⟨fun y hy => (by cases hy), ?_⟩
  have r0 : (h ++ [X])[0]? = some (.cells [vi a0, vi a1, vi a2, vi a3, vi a4, vi a5, vi a6, vi 0, vi 0]) := by rw [List.getElem?_append_left (List.getElem?_eq_some_iff.1 g0).1]; exact g0
  have r1 : (h ++ [X])[1]? = some bF := by rw [List.getElem?_append_left (List.getElem?_eq_some_iff.1 g1).1]; exact g1
  unfold LVr
  simp only [Tryz.results53, nts]
  simp only [wq.down, seval, hd, t4, t5, t6, r0, r1]
  exact zo.dat rfl
 refine za (zz hmix _ _ _ _ ?_)
 simp only [wq.down, seval, hP]
 refine za (zz hmix _ _ _ _ ?_)
 simp only [wq.down, seval, hP]
 refine hT (zil (k := 2) (a0 := 0) (T := []) rfl hs (fun l b hh => ?_) (fun w e hh b X => ?_))
 ·obtain ⟨a0, a1, a2, a3, a4, a5, a6, rfl, _⟩ := zg9 hh
  rw [show hR 2 s b [] [b9, bF, .cells [.str s, vi 0]] [.cells ([a0, a1, a2, a3, a4, a5, a6, 0, 0].map vi)] = [b9, bF, .cells [.str s, vi b], .cells [vi a0, vi a1, vi a2, vi a3, vi a4, vi a5, vi a6, vi 0, vi 0]] from rfl]
  simp only [wq.down, seval, hP]
  refine za ?_
  refine zO hmix zpw (fun f h => f.d = [] ∧ (∀ j, f.k j = true → 4 ≤ j) ∧ f.t 4 = .lp 0 0 ∧ f.t 5 = vi b ∧ f.t 6 = .lp 1 0 ∧ h[0]? = some (.cells [vi a0, vi a1, vi a2, vi a3, vi a4, vi a5, vi a6, vi 0, vi 0]) ∧ h[1]? = some bF) (by rw [hP]; decide +kernel) (by decide +kernel) ?_ ?_
  ·simp only [wq.down, seval, zpw, hP]
  ·rintro f h ⟨hd, hk, t4, t5, t6, g0, g1⟩
   show awp _ _ _ _ _ _ _
   refine zz hmix _ _ _ _ ?_
   simp only [wq.down]
   exact hret hh hd hk t4 t5 t6 g0 g1
 ·simp only [wq.down, zY]
  simp only [XE.seq]
  exact hpan hh rfl (fun j hj => (by cases hj)) rfl rfl rfl rfl rfl
theorem zir : BT 100 := ⟨by kernel_rfl, fun k => by kernel_rfl⟩
abbrev wH (id bid : Nat) (out : S) (h : H) : H := (h.set bid (.typed 5 (out.map vb))).set id (.typed 100 [.lp id 0, .ls bid 1 0 out.length out.length])
structure WOk (id bid : Nat) (h : H) : Prop where
 ne : id ≠ bid
 l1 : id < h.length
 l2 : bid < h.length
 cl : ∀ j o, h[j]? = some o → j ≠ id → j ≠ bid → o.drop (· == bid) = o
theorem WOk.at1 {id bid : Nat} {h : H} (w : WOk id bid h) (out : S) : (wH id bid out h)[id]? = some (.typed 100 [.lp id 0, .ls bid 1 0 out.length out.length]) := by
 have := w.l1
 rw [wH, List.getElem?_set_self (by simpa using this)]
theorem WOk.at2 {id bid : Nat} {h : H} (w : WOk id bid h) (out : S) : (wH id bid out h)[bid]? = some (.typed 5 (out.map vb)) := by
 have := w.l2
 rw [wH, List.getElem?_set_ne w.ne, List.getElem?_set_self this]
theorem WOk.step {id bid : Nat} {h : H} (w : WOk id bid h) (out out2 : S) : (((wH id bid out h).map (O.drop (· == bid))).set bid (.typed 5 (out2.map vb))).set id (.typed 100 [.lp id 0, .ls bid 1 0 out2.length out2.length]) = wH id bid out2 h := by
 refine List.ext_getElem? fun j => ?_
 have l1 := w.l1
 have l2 := w.l2
 by_cases h1 : j = id
 ·subst h1
  rw [w.at1, List.getElem?_set_self (by simpa using l1)]
 ·by_cases h2 : j = bid
  ·subst h2
   rw [w.at2, List.getElem?_set_ne w.ne, List.getElem?_set_self (by simpa using l2)]
  ·rw [wH, wH, List.getElem?_set_ne (Ne.symm h1), List.getElem?_set_ne (Ne.symm h2), List.getElem?_set_ne (Ne.symm h1), List.getElem?_set_ne (Ne.symm h2), List.getElem?_map, List.getElem?_set_ne (Ne.symm h1), List.getElem?_set_ne (Ne.symm h2)]
   cases ho : h[j]? with
   | none => rfl
   | some o => rw [Option.map_some, w.cl j o ho h1 h2]
def zrR (i : Nat) (n : Int) : S := (if i = 0 then [] else [32]) ++ Lib.itoa n
def lnP (l : Cl) (i : Nat) : S := (List.range i).flatMap fun j => zrR j (l.getD j 0)
theorem zoG {l : Cl} {i : Nat} (h : i < l.length) : lnP l (i + 1) = lnP l i ++ zrR i l[i] := by
 unfold lnP
 rw [List.range_succ, List.flatMap_append, List.flatMap_singleton, zt h]
theorem zrS : ∀ l : Cl, lnG l = ((List.range l.length).flatMap fun j => 32 :: Lib.itoa (l.getD j 0)) ++ [10]
 | [] => rfl
 | n :: l => by
  unfold lnG
  rw [zrS l, List.length_cons, List.range_succ_eq_map, List.flatMap_cons, List.flatMap_map]
  simp
theorem zss (l : Cl) : lnT l = lnP l l.length ++ [10] := by
 cases l with
 | nil => rfl
 | cons n l =>
  show Lib.itoa n ++ lnG l = _
  unfold lnP
  rw [zrS l, List.length_cons, List.range_succ_eq_map, List.flatMap_cons, List.flatMap_map]
  simp [zrR]
theorem znb {l : Cl} (hl : ∀ n ∈ l, 0 ≤ n ∧ n ≤ 2147483647) : ∀ i, i ≤ l.length → (lnP l i).length ≤ 11 * i
 | 0, _ => by simp [lnP]
 | i + 1, h => by
  have h1 := znb hl i (by omega)
  have h2 : i < l.length := by omega
  have h3 := hl _ (List.getElem_mem h2)
  have h4 := zdB l[i] h3.1 h3.2
  rw [zoG h2, List.length_append]
  have : (zrR i l[i]).length ≤ 11 := by unfold zrR; split <;> simp <;> omega
  omega
open Go.RowKit
set_option maxHeartbeats 1000000 in
set_option maxRecDepth 100000 in
theorem zjo (b : Nat) (w : World) (c1 : w.drew.cell? ⟨b, 1, none⟩ = some (.slice none 0 0)) :
 Calls Tryz.prog 60 #[.pointer (some ⟨b, 0, none⟩)] w fun e w' => e = .returned (.string ⟨#[]⟩) ∧ w' = w.drew := by
 have hSD : (Builtin.unsafeSliceData_ #[96] 194 #[.slice none 0 0]).run Tryz.prog w.drew = .ok (.pointer none) w.drew :=
  Lib.run_unsafeSliceData_nil w.drew _ _ _ _
 have hUS : (Builtin.unsafeString_ #[194, 3] 9 #[.pointer none, .int .i64 0]).run Tryz.prog w.drew = .ok (.string .empty) w.drew :=
  Lib.run_unsafeString_none w.drew 194 3 9 none
 go_enter Tryz.func60, Tryz.ntmps60
 go_wp2
 go_region
 all_goals (go_wp2; go_ret; exact ⟨rfl, rfl⟩)
theorem zj8 {T id : Nat} {a : V} {h : H} {R : AEnd → H → (Nat → Bool) → Prop} (hh : h[id]? = some (.typed T [a, .nils])) (hr : R (.ret (.str [])) h (fun _ => false)) : zb TE 60 [.lp id 0] h R := by
 intro ok pl w vs hs hv
 simp only [VList, VRel] at hv
 obtain ⟨y, ys, rfl, ⟨b, hpb, rfl⟩, rfl⟩ := hv
 have hpb : pl id = some b := hpb
 obtain ⟨o, ho, hat⟩ := hs.obj id b hpb
 rw [hh] at ho; cases ho
 obtain ⟨arr, fz, g1, g2, g3, g4⟩ := hat
 have g1 : w.heap[b]? = some (.cells arr T fz) := g1
 obtain ⟨x1, e1, r1⟩ := VList.get 1 .nils g4 rfl
 have e1 : arr[1]? = some x1 := by
  rw [List.getElem?_take_of_lt (by simp)] at e1
  simpa using e1
 simp only [VRel] at r1
 have hcell : w.drew.cell? ⟨b, 1, none⟩ = some (.slice none 0 0) := by
  rw [Lib.cell_of_heap (w := w.drew) g1, e1, r1]
 refine (zjo b w hcell).mono ?_
 rintro en w' ⟨rfl, rfl⟩
 have x : WExt w w.drew := WExt.drew w
 exact ⟨fun _ => false, pl, h, .ret (.str []), hs.wext x, x.keeps hs, by show VRel _ _ _; simp only [VRel]; exact ⟨_, rfl, by simp, by decide⟩, hr⟩
def tH (mb : O) : S → H
 | [] => [mb, .typed 100 [.nilp, .nils]]
 | c :: s => [mb, .typed 100 [.lp 1 0, .ls 2 1 0 (c :: s).length (c :: s).length], .typed 5 ((c :: s).map vb)]
theorem zoH {mb : O} (hm : mb.drop (· == 2) = mb) {out s : S} (hs : s ≠ []) (hl : out.length + s.length ≤ 20000000000000) {R : AEnd → H → (Nat → Bool) → Prop} (hr : R (.ret (.tup [vi s.length, .nili])) (tH mb (out ++ s)) (· == 2)) : zb TE 58 [.lp 1 0, .str s] (tH mb out) R := by
 refine zb.kp (· == 2) ?_
 cases out with
 | nil =>
  refine zfi zir s (.inl rfl) rfl hs (by simpa using hl) ⟨fun j hj => (by cases hj), ?_⟩
  cases s with
  | nil => exact absurd rfl hs
  | cons c s => exact hr
 | cons c out =>
  refine zgW zir (c :: out) s (.inr rfl) (by decide) rfl rfl hl ⟨fun j hj => hj, ?_⟩
  have e : (((tH mb (c :: out)).map (O.drop (· == 2))).set 2 (O.typed 5 ((c :: out ++ s).map vb))).set 1 (.typed 100 [.lp 1 0, .ls 2 1 0 (c :: out ++ s).length (c :: out ++ s).length]) = tH mb (c :: out ++ s) := by
   simp only [tH, List.map_cons, List.map_nil, hm, List.set_cons_succ, List.set_cons_zero, List.cons_append]
  rw [e]
  exact hr
theorem zrT {mb : O} {out : S} (hl : out.length ≤ 20000000000000) {R : AEnd → H → (Nat → Bool) → Prop} (hr : ∀ h', h'[0]? = some (mb.drop (· == 2)) ∨ h'[0]? = some mb → R (.ret (.str out)) h' (· == 2)) : zb TE 60 [.lp 1 0] (tH mb out) R := by
 refine zb.kp (· == 2) ?_
 cases out with
 | nil => exact zj8 (a := .nilp) (T := 100) rfl ⟨fun j hj => (by cases hj), hr _ (.inr rfl)⟩
 | cons c out => exact zi5 (c :: out) rfl rfl (by simp) hl ⟨fun j hj => hj, hr _ (.inl rfl)⟩
def nmL (c : UInt8) (i : Nat) (s : S) : S := c :: (Lib.itoa i ++ 32 :: (s ++ [10]))
def nmP (c : UInt8) (l : List S) (i : Nat) : S := (List.range i).flatMap fun j => nmL c j (l.getD j [])
theorem zoI {c : UInt8} {l : List S} {i : Nat} (h : i < l.length) : nmP c l (i + 1) = nmP c l i ++ nmL c i l[i] := by
 unfold nmP
 rw [List.range_succ, List.flatMap_append, List.flatMap_singleton, zt h]
theorem zrU {c : UInt8} : ∀ (l : List S) (b : Nat), nmT c b l = (List.range l.length).flatMap fun j => nmL c (b + j) (l.getD j [])
 | [], b => rfl
 | s :: l, b => by
  unfold nmT
  rw [zrU l (b + 1), List.length_cons, List.range_succ_eq_map, List.flatMap_cons, List.flatMap_map]
  simp [nmL, Nat.add_assoc, Nat.add_comm 1]
theorem znc {c : UInt8} (l : List S) : nmT c 0 l = nmP c l l.length := by
 rw [zrU]; simp [nmP]
def ltr (k : Nat) : UInt8 := [(105 : UInt8), 108, 111].getD k 0
def zdl (L : List (List S)) (k : Nat) : S := (List.range k).flatMap fun j => nmT (ltr j) 0 (L.getD j [])
theorem zlc {L : List (List S)} {k : Nat} (h : k < L.length) : zdl L (k + 1) = zdl L k ++ nmT (ltr k) 0 L[k] := by
 unfold zdl
 rw [List.range_succ, List.flatMap_append, List.flatMap_singleton, zt h]
theorem znd (m : Mo) : zdl [m.ins, m.lat, m.out] 3 = zcB m := by simp [zdl, zcB, ltr, List.range_succ]
theorem zrV {c : UInt8} {l : List S} {i : Nat} (h : i ≤ l.length) : (nmP c l i).length ≤ (nmT c 0 l).length := by
 rw [znc]
 unfold nmP
 obtain ⟨n, hn⟩ : ∃ n, l.length = i + n := ⟨l.length - i, by omega⟩
 rw [hn, List.range_add, List.flatMap_append, List.length_append]
 omega
theorem zoJ {L : List (List S)} {k : Nat} (h : k ≤ L.length) : (zdl L k).length ≤ (zdl L L.length).length := by
 unfold zdl
 obtain ⟨n, hn⟩ : ∃ n, L.length = k + n := ⟨L.length - k, by omega⟩
 rw [hn, List.range_add, List.flatMap_append, List.length_append]
 omega
theorem zqu {L : List (List S)} {k : Nat} (h : k < L.length) : ((L.map zU).getD k .any) = zU L[k] := by simp [List.getD_eq_getElem?_getD, h]
theorem zqv {l : List S} {k : Nat} (h : k < l.length) : ((l.map V.str).getD k .any) = V.str l[k] := by simp [List.getD_eq_getElem?_getD, h]
theorem zne {k : Nat} (h : k < 3) : (([105, 108, 111, 98, 99] : S).drop k).take (k + 1 - k) = [ltr k] := by
 rcases k with _|_|_|k
 ·rfl
 ·rfl
 ·rfl
 ·omega
def zpx : Plan := .take 0 <| .take 1 <| .take 2 <| .take 3 <| .take 4 <| .take 5 <| .take 6 <| .take 7 <| .take 11 <| .one 8 <| .one 9 <| .one 10 <| .one 12 <| .one 13 <| .one 14 <| .fin
set_option maxHeartbeats 4000000 in
theorem zqw (m : Mo) (hb1 : m.ins.length ≤ 100000) (hb2 : m.lat.length ≤ 100000) (hb3 : m.out.length ≤ 100000) (ht : (zcB m).length ≤ 10000000000000) : Ev TE 19 [m.v] (.str (zcB m)) := by
 have hM : maxLen = 9223372036854775807 := rfl
 obtain ⟨L, hL⟩ : ∃ L, L = [m.ins, m.lat, m.out] := ⟨_, rfl⟩
 have hL3 : L.length = 3 := by rw [hL]; rfl
 have hLb : ∀ l ∈ L, l.length ≤ 100000 := by rw [hL]; intro l hl; simp at hl; rcases hl with rfl | rfl | rfl <;> assumption
 have hrow : zdl L L.length = zcB m := by rw [hL3, hL]; exact znd m
 have hLm : [zU m.ins, zU m.lat, zU m.out] = L.map zU := by rw [hL]; rfl
 obtain ⟨mb, hmb⟩ : ∃ mb : O, mb = .cells (vi m.g.ins :: zr m.g.next :: zr m.g.init :: prs m.g.ands :: zr m.g.outs :: L.map zU) := ⟨_, rfl⟩
 have hmd : mb.drop (· == 2) = mb := by rw [hmb, hL]; rfl
 rw [← hrow] at ht ⊢
 refine zh Tryz.func19 rfl (by simp [nts]) ?_
 refine za (vm ?_)
 simp only [wq.down, seval, Tryz.results19]
 refine za (za6 ?_)
 refine zj rfl rfl ?_
 simp only [wq.down]
 refine zag rfl rfl ?_
 refine zn4 rfl (by simp only [wq.down, ↓reduceIte]) (by simp only [wq.down, ↓reduceIte]) ?_
 simp only [wq.down, ↓reduceIte]
 refine zj rfl rfl ?_
 simp only [wq.down, ↓reduceIte]
 refine zac ?_
 simp only [wq.down]
 refine za ?_
 refine za ?_
 refine vm ?_
 simp only [wq.down, ↓reduceIte, Nat.reduceEqDiff, Nat.reduceLT, Nat.reduceLeDiff, Nat.reduceAdd, reduceCtorEq, Nat.reduceMul]
 rw [hLm, ← hmb]
 refine ⟨⟨rfl, by decide⟩, ?_⟩
 refine zu ?_
 refine zw (fun mm f h' => ∃ k, mm + k = L.length ∧ f.t 3 = .lp 1 0 ∧ f.t 16 = .is true 1 (L.map zU) ∧ f.t 17 = vi L.length ∧ f.t 18 = vi k ∧ f.d = [] ∧ h' = tH mb (zdl L k)) L.length ⟨0, by simp, by simp only [wq.down, seval], by simp only [wq.down, seval], by rw [hL3]; rfl, rfl, rfl, rfl⟩ ?_
 rintro mm f h' ⟨k, hm, h3, h16, h17, h18, hd, rfl⟩
 refine za (vm ?_)
 simp only [wq.down, Nat.reduceLT, h17, h18]
 refine za (vm ?_)
 simp only [wq.down, ↓reduceIte]
 refine vcB.mk (fun hlt => ?_) (fun hlt => ?_)
 ·simp only [decide_eq_true_eq, Int.ofNat_lt] at hlt
  have hgk := zqu hlt
  have hlk := hLb _ (List.getElem_mem hlt)
  have hk3 : k < 3 := by omega
  have hrk := zoJ (L := L) (k := k + 1) (by omega)
  have hsk := zlc hlt
  obtain ⟨l, hl⟩ : ∃ l, l = L[k] := ⟨_, rfl⟩
  rw [← hl] at hgk hlk hsk
  refine za (zu ?_)
  refine za (vm ?_)
  simp only [wq.down, seval, h16, h18, hgk]
  refine ⟨⟨by omega, by omega⟩, ?_⟩
  refine za ?_
  refine vm ?_
  simp only [wq.down, seval]
  refine zu ?_
  refine zw (fun m2 f h' => ∃ i, m2 + i = l.length ∧ f.t 3 = .lp 1 0 ∧ f.t 4 = vi k ∧ f.t 16 = .is true 1 (L.map zU) ∧ f.t 17 = vi L.length ∧ f.t 18 = vi k ∧ f.t 23 = zU l ∧ f.t 24 = vi l.length ∧ f.t 25 = vi i ∧ f.d = [] ∧ h' = tH mb (zdl L k ++ nmP (ltr k) l i)) l.length ⟨0, by simp, by simp only [wq.down, seval, h3], by simp only [wq.down, seval], by simp only [wq.down, seval, h16], by simp only [wq.down, seval, h17], by simp only [wq.down, seval, h18], by simp only [wq.down, seval], by simp only [wq.down, seval], rfl, by simp only [wq.down, hd], by simp [nmP]⟩ ?_
  rintro m2 f h' ⟨i, hm2, h3, h4, h16, h17, h18, h23, h24, h25, hd, rfl⟩
  refine za (vm ?_)
  simp only [wq.down, Nat.reduceLT, h24, h25]
  refine za (vm ?_)
  simp only [wq.down, ↓reduceIte]
  refine vcB.mk (fun hlt2 => ?_) (fun hlt2 => ?_)
  ·simp only [decide_eq_true_eq, Int.ofNat_lt] at hlt2
   have hgi := zqv hlt2
   have hni := zrV (c := ltr k) (l := l) (i := i + 1) hlt2
   have hsi := zoI (c := ltr k) hlt2
   have hw := zm (show i < maxLen by omega)
   have hwk := zm (show k < maxLen by omega)
   have hlen : (zdl L k ++ nmP (ltr k) l i).length + (nmL (ltr k) i l[i]).length ≤ 10000000000000 := by
    have e1 := congrArg List.length hsi
    have e2 := congrArg List.length hsk
    rw [List.length_append] at e1 e2 ⊢
    omega
   refine za (zu ?_)
   refine za (vm ?_)
   simp only [wq.down, seval, h23, h25, hgi]
   refine ⟨⟨by omega, by omega⟩, ?_⟩
   refine zO mixed zpx (fun f' h' => f'.t 3 = .lp 1 0 ∧ f'.t 4 = vi k ∧ f'.t 16 = .is true 1 (L.map zU) ∧ f'.t 17 = vi L.length ∧ f'.t 18 = vi k ∧ f'.t 23 = zU l ∧ f'.t 24 = vi l.length ∧ f'.t 25 = vi i ∧ f'.d = [] ∧ h' = tH mb (zdl L k ++ nmP (ltr k) l (i + 1))) (by decide +kernel) (by decide +kernel) ?_ ?_
   ·simp only [wq.down, seval, zpx, h3, h4, hwk, zne hk3]
    refine ⟨⟨by omega, by omega, by omega⟩, zb.ev (zgX (i : Int) (by omega) (by omega)) rfl ?_⟩
    simp only [wq.down, seval]
    have hil := zdB (i : Int) (by omega) (by omega)
    have hll : l[i].length ≤ 10000000000000 := by
     rw [List.length_append] at hlen
     simp only [nmL, List.length_cons, List.length_append] at hlen
     omega
    have en : (ltr k :: (Lib.itoa (i : Int) ++ [32] ++ l[i] ++ [10]) : S) = nmL (ltr k) i l[i] := by simp [nmL]
    rw [en]
    refine ⟨by omega, by omega, by omega, by omega, zoH hmd (by simp [nmL]) (by omega) ?_⟩
    rw [show zdl L k ++ nmP (ltr k) l i ++ nmL (ltr k) i l[i] = zdl L k ++ nmP (ltr k) l (i + 1) by rw [hsi, List.append_assoc]]
    simp only [wq.down, seval, zam, h3, h4, h16, h17, h18, h23, h24, h25, hd]
   ·rintro f h' ⟨h3, h4, h16, h17, h18, h23, h24, h25, hd, rfl⟩
    simp only [wq.down]
    refine vm ?_
    simp only [wq.down, seval, h25, hw]
    exact .inl ⟨m2 - 1, by omega, i + 1, by omega, by simp only [wq.down, seval, h3], by simp only [wq.down, seval, h4], by simp only [wq.down, seval, h16], by simp only [wq.down, seval, h17], by simp only [wq.down, seval, h18], by simp only [wq.down, seval, h23], by simp only [wq.down, seval, h24], rfl, hd, rfl⟩
  ·simp only [decide_eq_false_iff_not, Int.ofNat_lt] at hlt2
   have hi : i = l.length := by omega
   subst hi
   have hw := zm (show k < maxLen by omega)
   rw [← znc, ← hsk]
   simp only [wq.down]
   refine vm ?_
   simp only [wq.down, seval, h18, hw]
   exact .inl ⟨mm - 1, by omega, k + 1, by omega, by simp only [wq.down, seval, h3], by simp only [wq.down, seval, h16], by simp only [wq.down, seval, h17], rfl, hd, rfl⟩
 ·simp only [decide_eq_false_iff_not, Int.ofNat_lt] at hlt
  have hk : k = L.length := by omega
  subst hk
  simp only [wq.down]
  refine za (vm ?_)
  simp only [wq.down, seval, h3]
  refine zrT (by omega) (fun h' _ => ?_)
  simp only [wq.down, seval, zam, hd]
  refine vm ?_
  simp only [wq.down, ↓reduceIte, hd]
  exact zo.dat rfl
theorem zaF {l : Cl} (hl : ∀ n ∈ l, 0 ≤ n ∧ n ≤ 2147483647) : (lnT l).length ≤ 11 * l.length + 1 := by
 have := znb hl l.length (Nat.le_refl _)
 rw [zss, List.length_append, List.length_singleton]
 omega
theorem zcP {f : Nat → S} {n : Nat} : (List.range (n + 1)).flatMap f = (List.range n).flatMap f ++ f n := by
 rw [List.range_succ, List.flatMap_append, List.flatMap_singleton]
theorem zbB {f : Nat → S} {c n : Nat} (h : ∀ i, i < n → (f i).length ≤ c) : ∀ i, i ≤ n → ((List.range i).flatMap f).length ≤ c * i
 | 0, _ => by simp
 | i + 1, hi => by
  have := zbB h i (by omega)
  have := h i (by omega)
  rw [zcP, List.length_append, Nat.mul_succ]
  omega
def tB1 (g : Gr) : S := [97, 97, 103, 32] ++ lnT (zaV g)
def tBI (g : Gr) (i : Nat) : S := tB1 g ++ zsc i
def tBL (g : Gr) (i : Nat) : S := tBI g g.ins.toNat ++ zmY g i
def tBO (g : Gr) (i : Nat) : S := tBL g g.next.length ++ zez g.outs i
def tBA (g : Gr) (i : Nat) : S := tBO g g.outs.length ++ zmZ g i
structure GSm (g : Gr) : Prop where
 i0 : 0 ≤ g.ins
 i2 : g.ins + g.next.length + g.ands.length ≤ 4000
 i3 : g.outs.length ≤ 4000
 hil : g.init.length = g.next.length
 hin : ∀ a ∈ g.init, 0 ≤ a ∧ a ≤ 2
 nx : ∀ a ∈ g.next, 0 ≤ a ∧ a ≤ 10000
 ou : ∀ a ∈ g.outs, 0 ≤ a ∧ a ≤ 10000
 an : ∀ i (h : i < g.ands.length), 0 ≤ g.ands[i].1 ∧ g.ands[i].1 ≤ 10000 ∧ 0 ≤ g.ands[i].2 ∧ g.ands[i].2 ≤ 10000
theorem GSm.of {g : Gr} (hg : g.chk = 0) : GSm g := by
 obtain ⟨_, i0, i1, i2, i3, i4, i5⟩ := zE hg
 obtain ⟨r1, r2, r3, r4⟩ := zaj i4
 have wf : g.first = 1 + g.ins + g.next.length := rfl
 have wa : g.all = 2 * (g.first + g.ands.length) := rfl
 exact ⟨i0, i2, by omega, r1, r2, fun a ha => by have := r3 a ha; omega, fun a ha => by have := r4 a ha; omega, fun i hi => by
  obtain ⟨o1, o2, o3, o4⟩ := zaK i5 hi
  omega⟩
theorem GSm.head {g : Gr} (s : GSm g) : ∀ n ∈ zaV g, 0 ≤ n ∧ n ≤ 2147483647 := fun n hn => by
 have := s.i0; have := s.i2; have := s.i3
 have wf : g.first = 1 + g.ins + g.next.length := rfl
 simp only [zaV, List.mem_cons, List.not_mem_nil, or_false] at hn
 omega
theorem GSm.in1 {g : Gr} (s : GSm g) {i : Nat} (h : i < g.ins.toNat) : ∀ n ∈ [2 * ((i : Int) + 1)], 0 ≤ n ∧ n ≤ 2147483647 := fun n hn => by
 have := s.i2
 simp only [List.mem_singleton] at hn
 omega
theorem GSm.la {g : Gr} (s : GSm g) {i : Nat} (h : i < g.next.length) : (∀ n ∈ zpp g i, 0 ≤ n ∧ n ≤ 2147483647) ∧ (zpp g i).length ≤ 3 := by
 have := s.i0; have := s.i2
 have h1 := s.nx _ (List.getElem_mem h)
 rw [← zt (d := (0 : Int)) h] at h1
 unfold zpp
 refine ⟨fun n hn => ?_, ?_⟩
 ·rw [List.mem_cons, List.mem_cons] at hn
  rcases hn with hn | hn | hn
  ·omega
  ·omega
  ·split at hn
   ·simp at hn
   ·split at hn
    ·simp at hn; omega
    ·simp at hn; omega
 ·split
  ·simp
  ·split <;> simp
theorem GSm.o1 {g : Gr} (s : GSm g) {i : Nat} (h : i < g.outs.length) : ∀ n ∈ [g.outs.getD i 0], 0 ≤ n ∧ n ≤ 2147483647 := fun n hn => by
 have h1 := s.ou _ (List.getElem_mem h)
 rw [← zt (d := (0 : Int)) h] at h1
 simp only [List.mem_singleton] at hn
 omega
theorem GSm.a1 {g : Gr} (s : GSm g) {i : Nat} (h : i < g.ands.length) : ∀ n ∈ [2 * (g.first + (i : Int)), (g.ands.getD i (0, 0)).1, (g.ands.getD i (0, 0)).2], 0 ≤ n ∧ n ≤ 2147483647 := fun n hn => by
 have := s.i0; have := s.i2
 have h1 := s.an i h
 rw [← zt (d := ((0, 0) : Pr)) h] at h1
 have wf : g.first = 1 + g.ins + g.next.length := rfl
 simp only [List.mem_cons, List.not_mem_nil, or_false] at hn
 omega
theorem GSm.lens {g : Gr} (s : GSm g) : (tB1 g).length ≤ 100 ∧ (∀ i, i ≤ g.ins.toNat → (tBI g i).length ≤ 200000) ∧ (∀ i, i ≤ g.next.length → (tBL g i).length ≤ 400000) ∧ (∀ i, i ≤ g.outs.length → (tBO g i).length ≤ 600000) ∧ (∀ i, i ≤ g.ands.length → (tBA g i).length ≤ 800000) := by
 have := s.i0; have := s.i2; have := s.i3
 have z0 : (tB1 g).length ≤ 100 := by
  have := zaF s.head
  unfold tB1
  rw [List.length_append]
  simp only [zaV, List.length_cons, List.length_nil] at this ⊢
  omega
 have z1 : ∀ i, i ≤ g.ins.toNat → (tBI g i).length ≤ 200000 := fun i hi => by
  have := zbB (f := fun i : Nat => lnT [2 * ((i : Int) + 1)]) (c := 12) (n := g.ins.toNat) (fun i hi => zaF (s.in1 hi)) i hi
  unfold tBI zsc
  rw [List.length_append]
  omega
 have z2 : ∀ i, i ≤ g.next.length → (tBL g i).length ≤ 400000 := fun i hi => by
  have := zbB (f := fun i : Nat => lnT (zpp g i)) (c := 34) (n := g.next.length) (fun i hi => by have := zaF (s.la hi).1; have := (s.la hi).2; omega) i hi
  have := z1 g.ins.toNat (Nat.le_refl _)
  unfold tBL zmY
  rw [List.length_append]
  omega
 have z3 : ∀ i, i ≤ g.outs.length → (tBO g i).length ≤ 600000 := fun i hi => by
  have := zbB (f := fun i : Nat => lnT [g.outs.getD i 0]) (c := 12) (n := g.outs.length) (fun i hi => zaF (s.o1 hi)) i hi
  have := z2 g.next.length (Nat.le_refl _)
  unfold tBO zez
  rw [List.length_append]
  omega
 have z4 : ∀ i, i ≤ g.ands.length → (tBA g i).length ≤ 800000 := fun i hi => by
  have := zbB (f := fun i : Nat => lnT [2 * (g.first + (i : Int)), (g.ands.getD i (0, 0)).1, (g.ands.getD i (0, 0)).2]) (c := 34) (n := g.ands.length) (fun i hi => zaF (s.a1 hi)) i hi
  have := z3 g.outs.length (Nat.le_refl _)
  unfold tBA zmZ
  rw [List.length_append]
  omega
 exact ⟨z0, z1, z2, z3, z4⟩
abbrev mbO (m : Mo) : O := .cells [vi m.g.ins, zr m.g.next, zr m.g.init, prs m.g.ands, zr m.g.outs, zU m.ins, zU m.lat, zU m.out]
abbrev gbO (g : Gr) : O := .cells [vi g.ins, zr g.next, zr g.init, prs g.ands, zr g.outs]
abbrev hP (m : Mo) (out : S) (X : H) : H := mbO m :: gbO m.g :: .typed 100 [.lp 2 0, .ls 3 1 0 out.length out.length] :: .typed 5 (out.map vb) :: X
def zqx (X : H) : Prop := ∀ o ∈ X, ∀ p, o.drop p = o
theorem zfC {c : UInt8} : ∀ (l : List S) (b : Nat), (∀ x ∈ l, x.length ≤ 40) → b + l.length ≤ 100000 → (nmT c b l).length ≤ 60 * l.length
 | [], b, _, _ => by simp [nmT]
 | s :: l, b, h, hb => by
  rw [List.length_cons] at hb
  have h1 := zfC (c := c) l (b + 1) (fun x hx => h x (by simp [hx])) (by omega)
  have h2 := h s (by simp)
  have h3 := zdB (b : Int) (by omega) (by omega)
  simp only [nmT, List.length_cons, List.length_append]
  omega
theorem zbZ {s : S} (h : zaY s = true) : s.length ≤ 40 := by
 unfold zaY at h
 simp only [Bool.and_eq_true, decide_eq_true_eq] at h
 exact h.2.2
theorem zoK (n : Mo) (h1 : n.ins.length ≤ 10000) (h2 : n.lat.length ≤ 10000) (h3 : n.out.length ≤ 10000) (h : ∀ x, x ∈ n.ins ∨ x ∈ n.lat ∨ x ∈ n.out → zaY x = true) : (zcB n).length ≤ 2000000 := by
 have a1 := zfC (c := 105) n.ins 0 (fun x hx => zbZ (h x (.inl hx))) (by omega)
 have a2 := zfC (c := 108) n.lat 0 (fun x hx => zbZ (h x (.inr (.inl hx)))) (by omega)
 have a3 := zfC (c := 111) n.out 0 (fun x hx => zbZ (h x (.inr (.inr hx)))) (by omega)
 simp only [zcB, List.length_append]
 omega
def zsD (r : RE Mo) (g1 : Int) (g2 g3 : Cl) (g4 : List (Int × Int)) (g5 : Cl) (n1 n2 n3 : List S) : Bool := match r with
 | .ok ⟨⟨a, b, c, d, e⟩, f, g, h⟩ => decide ((a : Int) = g1) && decide (b = g2) && decide (c = g3) && decide (d = g4) && decide (e = g5) && decide (f = n1) && decide (g = n2) && decide (h = n3)
 | .error _ => false
theorem zqy {r : RE Mo} {g1 : Int} {g2 g3 : Cl} {g4 : List (Int × Int)} {g5 : Cl} {n1 n2 n3 : List S} (h : zsD r g1 g2 g3 g4 g5 n1 n2 n3 = true) : r = .ok ⟨⟨g1, g2, g3, g4, g5⟩, n1, n2, n3⟩ := by
 unfold zsD at h
 split at h
 ·simp only [Bool.and_eq_true, decide_eq_true_eq] at h
  obtain ⟨⟨⟨⟨⟨⟨⟨h1, rfl⟩, rfl⟩, rfl⟩, rfl⟩, rfl⟩, rfl⟩, rfl⟩ := h
  subst h1
  rfl
 ·cases h
def erB {α : Type} (r : RE α) (w : Nat) (e : Int) : Bool := match r with
 | .error (a, b) => decide (a = w) && decide (b = e)
 | .ok _ => false
theorem zrW {α : Type} {r : RE α} {w : Nat} {e : Int} (h : erB r w e = true) : r = .error (w, e) := by
 unfold erB at h
 split at h
 ·simp only [Bool.and_eq_true, decide_eq_true_eq] at h
  obtain ⟨rfl, rfl⟩ := h
  rfl
 ·cases h
def wA : S := [97, 97, 103, 32, 48, 32, 48, 32, 48, 32, 49, 32, 48, 10, 49, 10]
def wB : S := [97, 97, 103, 32, 51, 32, 49, 32, 49, 32, 49, 32, 49, 10, 50, 10, 52, 32, 55, 32, 52, 10, 54, 10, 54, 32, 50, 32, 52, 10, 105, 48, 32, 97, 10, 99, 10, 120]
def wC : S := [97, 97, 103, 32, 49, 32, 49, 32, 48, 32, 48, 32, 48, 10, 51, 10]
theorem zqz {l : List Pr} {r : List V} (hb : V.bnds (prs l :: r)) : l.length ≤ maxLen := by
 simp only [V.bnds, V.bnd, List.length_map] at hb
 exact hb.1.1
theorem znf (a b : List S) : Ev TE 77 [zU a, zU b] (.bool (a == b)) := by
 refine Ev.bnd fun hb => ?_
 have hlen := zdz hb
 refine zh Tryz.func77 rfl (by simp [nts]) (vm ?_)
 simp only [wq.down, seval, Tryz.results77]
 refine vcB.mk (fun hc => ?_) (fun hc => ?_)
 ·simp only [wq.down, seval]
  refine zB rfl ?_
  simp only [bne_iff_ne, ne_eq, Int.natCast_inj] at hc
  have : ¬ a = b := fun h => hc (by rw [h])
  simp [this]
 ·have hl : a.length = b.length := by simpa [Int.natCast_inj] using hc
  simp only [wq.down, seval]
  refine zw (fun m f h => ∃ i, m + i = a.length ∧ f.t 0 = zU a ∧ f.t 1 = zU b ∧ f.t 12 = .int .i64 (a.length : Int) ∧ f.t 13 = .int .i64 (i : Int) ∧ f.d = [] ∧ a.take i = b.take i) a.length ⟨0, by simp, rfl, rfl, rfl, rfl, rfl, by simp⟩ ?_
  rintro m f h ⟨i, hm, h0, h1, h12, h13, hd, hall⟩
  refine vm ?_
  simp only [wq.down, seval, h12, h13]
  refine vcB.mk (fun hc => ?_) (fun hc => ?_)
  ·simp only [decide_eq_true_eq, Int.ofNat_lt] at hc
   have hc2 : i < b.length := by omega
   simp only [wq.down, seval, h0, h1, h13, zo6 hc, zo6 hc2]
   refine ⟨by decide +kernel, ⟨by omega, by omega⟩, ⟨by omega, by omega⟩, vcB.mk (fun hc => ?_) (fun hc => ?_)⟩
   ·simp only [wq.down, seval, hd]
    refine zB rfl ?_
    have : ¬ a = b := fun h => by subst h; simp at hc
    simp [this]
   ·simp only [wq.down, seval, h13, zm (show i < maxLen by omega)]
    exact .inl ⟨m - 1, by omega, i + 1, by omega, h0, h1, h12, rfl, hd, zgT hall (by omega) (by omega) (by simpa using hc)⟩
  ·simp only [decide_eq_false_iff_not, Int.ofNat_lt] at hc
   simp only [wq.down, seval, hd]
   refine zB rfl ?_
   rw [List.take_of_length_le (by omega), List.take_of_length_le (by omega)] at hall
   simp [hall]
theorem zrX (a b : List Pr) : Ev TE 79 [prs a, prs b] (.bool (a == b)) := by
 refine Ev.bnd fun hb => ?_
 have hlen := zqz hb
 refine zh Tryz.func79 rfl (by simp [nts]) (vm ?_)
 simp only [wq.down, seval, Tryz.results79]
 refine vcB.mk (fun hc => ?_) (fun hc => ?_)
 ·simp only [wq.down, seval]
  refine zB rfl ?_
  simp only [bne_iff_ne, ne_eq, Int.natCast_inj] at hc
  have : ¬ a = b := fun h => hc (by rw [h])
  simp [this]
 ·have hl : a.length = b.length := by simpa [Int.natCast_inj] using hc
  simp only [wq.down, seval]
  refine zw (fun m f h => ∃ i, m + i = a.length ∧ f.t 0 = prs a ∧ f.t 1 = prs b ∧ f.t 12 = .int .i64 (a.length : Int) ∧ f.t 13 = .int .i64 (i : Int) ∧ f.d = [] ∧ a.take i = b.take i) a.length ⟨0, by simp, rfl, rfl, rfl, rfl, rfl, by simp⟩ ?_
  rintro m f h ⟨i, hm, h0, h1, h12, h13, hd, hall⟩
  refine vm ?_
  simp only [wq.down, seval, h12, h13]
  refine vcB.mk (fun hc => ?_) (fun hc => ?_)
  ·simp only [decide_eq_true_eq, Int.ofNat_lt] at hc
   have hc2 : i < b.length := by omega
   simp only [wq.down, seval, h0, h1, h13, zeo hc, zeo hc2]
   refine ⟨by decide +kernel, ⟨by omega, by omega⟩, ⟨by omega, by omega⟩, zmS, vcB.mk (fun hc => ?_) (fun hc => ?_)⟩
   ·simp only [wq.down, seval, hd]
    refine zB rfl ?_
    have : ¬ a = b := fun h => by subst h; simp at hc
    simp [this]
   ·simp only [wq.down, seval, h13, zm (show i < maxLen by omega)]
    exact .inl ⟨m - 1, by omega, i + 1, by omega, h0, h1, h12, rfl, hd, zgT hall (by omega) (by omega) (by
     have hc : a[i].1 = b[i].1 ∧ a[i].2 = b[i].2 := by simpa using hc
     exact Prod.ext hc.1 hc.2)⟩
  ·simp only [decide_eq_false_iff_not, Int.ofNat_lt] at hc
   simp only [wq.down, seval, hd]
   refine zB rfl ?_
   rw [List.take_of_length_le (by omega), List.take_of_length_le (by omega)] at hall
   simp [hall]
def Gr.same (g k : Gr) : Bool := (g.ins == k.ins) && ((g.next == k.next) && ((g.init == k.init) && ((g.ands == k.ands) && (g.outs == k.outs))))
def Mo.sameB (m k : Mo) : Bool := m.g.same k.g && ((m.ins == k.ins) && ((m.lat == k.lat) && (m.out == k.out)))
theorem zis (m : Mo) : m.sameB m = true := by simp [Mo.sameB, Gr.same]
set_option maxHeartbeats 4000000 in
theorem zld (g k : Gr) : Ev TE 23 [g.v, k.v] (.bool (g.same k)) := by
 have h1 := zmJ g.next k.next
 have h2 := zmJ g.init k.init
 have h3 := zrX g.ands k.ands
 have h4 := zmJ g.outs k.outs
 unfold Gr.v Gr.same
 obtain ⟨e0, he0⟩ : ∃ e0, e0 = (g.ins == k.ins) := ⟨_, rfl⟩
 obtain ⟨e1, he1⟩ : ∃ e1, e1 = (g.next == k.next) := ⟨_, rfl⟩
 obtain ⟨e2, he2⟩ : ∃ e2, e2 = (g.init == k.init) := ⟨_, rfl⟩
 obtain ⟨e3, he3⟩ : ∃ e3, e3 = (g.ands == k.ands) := ⟨_, rfl⟩
 obtain ⟨e4, he4⟩ : ∃ e4, e4 = (g.outs == k.outs) := ⟨_, rfl⟩
 rw [← he1] at h1
 rw [← he2] at h2
 rw [← he3] at h3
 rw [← he4] at h4
 rw [← he0, ← he1, ← he2, ← he3, ← he4]
 refine zh Tryz.func23 rfl (by simp [nts]) (vm ?_)
 simp only [wq.down, seval, Tryz.results23]
 rw [← he0]
 clear he0 he1 he2 he3 he4
 cases e0 with
 | false =>
  simp only [wq.down, seval]
  repeat (first | exact zo.dat rfl | (refine ⟨.bool false, ?_⟩; simp only [wq.down, seval]))
 | true =>
  simp only [wq.down, seval]
  refine zb.ev h1 (by simp only [V.dats, V.dat, Bool.and_self]) ?_
  simp only [wq.down, seval]
  cases e1 with
  | false =>
   simp only [wq.down, seval]
   repeat (first | exact zo.dat rfl | (refine ⟨.bool false, ?_⟩; simp only [wq.down, seval]))
  | true =>
   simp only [wq.down, seval]
   refine zb.ev h2 (by simp only [V.dats, V.dat, Bool.and_self]) ?_
   simp only [wq.down, seval]
   cases e2 with
   | false =>
    simp only [wq.down, seval]
    repeat (first | exact zo.dat rfl | (refine ⟨.bool false, ?_⟩; simp only [wq.down, seval]))
   | true =>
    simp only [wq.down, seval]
    refine zb.ev h3 (by simp only [V.dats, V.dat, Bool.and_self]) ?_
    simp only [wq.down, seval]
    cases e3 with
    | false =>
     simp only [wq.down, seval]
     repeat (first | exact zo.dat rfl | (refine ⟨.bool false, ?_⟩; simp only [wq.down]))
    | true =>
     simp only [wq.down, seval]
     refine zb.ev h4 (by simp only [V.dats, V.dat, Bool.and_self]) ?_
     simp only [wq.down, seval]
     exact zo.dat rfl
set_option maxHeartbeats 4000000 in
theorem zoL (m k : Mo) : Ev TE 22 [m.v, k.v] (.bool (m.sameB k)) := by
 have h1 := zld m.g k.g
 have h2 := znf m.ins k.ins
 have h3 := znf m.lat k.lat
 have h4 := znf m.out k.out
 unfold Gr.v at h1
 unfold Mo.v Mo.sameB
 obtain ⟨e0, he0⟩ : ∃ e0, e0 = m.g.same k.g := ⟨_, rfl⟩
 obtain ⟨e1, he1⟩ : ∃ e1, e1 = (m.ins == k.ins) := ⟨_, rfl⟩
 obtain ⟨e2, he2⟩ : ∃ e2, e2 = (m.lat == k.lat) := ⟨_, rfl⟩
 obtain ⟨e3, he3⟩ : ∃ e3, e3 = (m.out == k.out) := ⟨_, rfl⟩
 rw [← he0] at h1
 rw [← he1] at h2
 rw [← he2] at h3
 rw [← he3] at h4
 rw [← he0, ← he1, ← he2, ← he3]
 clear he0 he1 he2 he3
 refine zh Tryz.func22 rfl (by simp [nts]) (vm ?_)
 simp only [wq.down, seval, Tryz.results22]
 refine zb.ev h1 (by simp only [V.dats, V.dat, Bool.and_self]) ?_
 simp only [wq.down, seval]
 cases e0 with
 | false =>
  simp only [wq.down, seval]
  repeat (first | exact zo.dat rfl | (refine ⟨.bool false, ?_⟩; simp only [wq.down, seval]))
 | true =>
  simp only [wq.down, seval]
  refine zb.ev h2 (by simp only [V.dats, V.dat, Bool.and_self]) ?_
  simp only [wq.down, seval]
  cases e1 with
  | false =>
   simp only [wq.down, seval]
   repeat (first | exact zo.dat rfl | (refine ⟨.bool false, ?_⟩; simp only [wq.down, seval]))
  | true =>
   simp only [wq.down, seval]
   refine zb.ev h3 (by simp only [V.dats, V.dat, Bool.and_self]) ?_
   simp only [wq.down, seval]
   cases e2 with
   | false =>
    simp only [wq.down, seval]
    repeat (first | exact zo.dat rfl | (refine ⟨.bool false, ?_⟩; simp only [wq.down]))
   | true =>
    simp only [wq.down, seval]
    refine zb.ev h4 (by simp only [V.dats, V.dat, Bool.and_self]) ?_
    simp only [wq.down, seval]
    exact zo.dat rfl
theorem zaW {g : Gr} {p : List Pr × Cl} : (zbf g p).ins = g.ins ∧ (zbf g p).next.length = g.next.length ∧ (zbf g p).outs.length = g.outs.length := by
 unfold zbf
 simp
theorem zgj {g : Gr} : (zaE g).ins = g.ins ∧ (zaE g).next.length = g.next.length ∧ (zaE g).outs.length = g.outs.length := by
 unfold zaE
 dsimp only
 exact ⟨zaW.1.trans zaW.1, zaW.2.1.trans zaW.2.1, zaW.2.2.trans zaW.2.2⟩
theorem zit {m : Mo} (h : m.chk = 0) : m.g.chk = 0 := by
 unfold Mo.chk at h
 split at h
 ·exact h
 ·rename_i hn
  simpa using hn
theorem ziu {g : Gr} {use : Nat → Bool} : ∀ i, ∃ R, (zF g use i).2 = zbU g.first.toNat ++ R
 | 0 => ⟨[], by simp [zF]⟩
 | i + 1 => by
  obtain ⟨R, h⟩ := ziu (g := g) (use := use) i
  unfold zF zbW
  split
  ·exact ⟨R ++ [_], by rw [← List.append_assoc, ← h]⟩
  ·exact ⟨R ++ [0], by rw [← List.append_assoc, ← h]⟩
theorem zoM {R : Cl} {n v : Nat} (h : v < n) : zaa (zbU n ++ R) (2 * (v : Int)) = 2 * (v : Int) := by
 unfold zaa
 rw [if_neg (by omega), show (2 * (v : Int) / 2).toNat = v by omega, List.getD_eq_getElem?_getD, List.getElem?_append_left (by rw [zcA]; exact h)]
 unfold zbU
 simp [h]
theorem zj9 {g : Gr} {use : Nat → Bool} {k i v : Nat} (hv : (v : Int) < g.first) (ho : g.outs.getD i 0 = 2 * (v : Int)) (hi : i < g.outs.length) : (zbf g (zF g use k)).outs.getD i 0 = 2 * (v : Int) := by
 obtain ⟨R, hR⟩ := ziu (g := g) (use := use) k
 unfold zbf
 dsimp only
 rw [hR, List.getD_eq_getElem?_getD, List.getElem?_map]
 rw [List.getD_eq_getElem?_getD] at ho
 rw [List.getElem?_eq_getElem hi] at ho ⊢
 simp only [Option.map_some, Option.getD_some] at ho ⊢
 rw [ho]
 exact zoM (by omega)
theorem zng {g : Gr} {i v : Nat} (hv : (v : Int) < g.first) (ho : g.outs.getD i 0 = 2 * (v : Int)) (hi : i < g.outs.length) : (zaE g).outs.getD i 0 = 2 * (v : Int) := by
 unfold zaE
 dsimp only
 refine zj9 ?_ (zj9 hv ho hi) (by rw [zaW.2.2]; exact hi)
 unfold Gr.first
 rw [zaW.1, zaW.2.1]
 exact hv
theorem zdL {m : Mo} (h : m.chk = 0) : m.norm.chk = 0 := by
 have hg := zit h
 have hn : m.norm.g.chk = 0 := zar (zar hg _) _
 obtain ⟨l1, l2, l3⟩ := zgj (g := m.g)
 have hl : m.norm.lens = m.lens := by
  unfold Mo.lens Mo.norm
  dsimp only
  rw [l1, l2, l3]
 have e1 : m.norm.names = m.names := rfl
 have e2 : m.norm.twos = m.twos := rfl
 have e3 : m.other m.out.length = false → m.norm.other m.out.length = false := by
  intro ho
  have hle : m.lens = false := by
   cases hle : m.lens with
   | false => rfl
   | true => unfold Mo.chk at h; rw [hg, hle] at h; simp at h
  unfold Mo.lens at hle
  simp only [Bool.or_eq_false_iff, bne_eq_false_iff_eq] at hle
  obtain ⟨⟨q1, q2⟩, q3⟩ := hle
  unfold Mo.other at ho ⊢
  rw [List.any_eq_false] at ho ⊢
  intro i hi hb
  have hb0 := ho i hi
  have hpl : m.norm.place (m.norm.out.getD i []) = m.place (m.out.getD i []) := rfl
  rw [hpl] at hb
  obtain ⟨p, hp⟩ : ∃ p, p = m.place (m.out.getD i []) := ⟨_, rfl⟩
  have hpb : p ≤ (m.ins ++ m.lat).length := by
   have := zmt (m.ins ++ m.lat) (· == m.out.getD i [])
   rw [hp]; unfold Mo.place; split <;> omega
  rw [← hp] at hb hb0
  simp only [Bool.and_eq_true, decide_eq_true_eq, bne_iff_ne, ne_eq, not_and, Classical.not_not] at hb hb0
  have hz := hb0 hb.1
  rw [List.length_append] at hpb
  obtain ⟨v, hv⟩ : ∃ v : Nat, p = v := ⟨p.toNat, by omega⟩
  rw [hv] at hz hb
  refine hb.2 (zng ?_ hz ?_)
  ·unfold Gr.first; omega
  ·have : i < m.out.length := by simpa using hi
   omega
 unfold Mo.chk at h ⊢
 rw [hl, e1, e2, hn]
 rw [hg] at h
 simp only [ne_eq, not_true, if_false] at h ⊢
 rw [show m.norm.out = m.out from rfl]
 repeat' split at h
 all_goals first
  | (cases h; done)
  | skip
 simp_all
theorem znh {m : Mo} (h : m.chk = 0) : m.norm.g.Sm := by
 have hg := zE (zit (zdL h))
 have := hg.i0
 have := hg.i2
 exact ⟨by omega, by omega⟩
theorem zka {use : Nat → Bool} : ∀ k, (∀ i, i < k → use i = true) → zc3 use k = k
 | 0, _ => rfl
 | k + 1, h => by rw [zdE, zka k (fun i hi => h i (by omega)), h k (by omega)]; rfl
theorem zoN {f n v : Nat} {use : Nat → Bool} (h : ∀ i, i < n → use i = true) (hv : v < f + n) : zdQ f use v = v := by
 unfold zdQ
 split
 ·rfl
 ·rw [zka _ (fun i hi => h i (by omega))]; omega
theorem zjp {f n : Nat} {l : Int} {use : Nat → Bool} (h : ∀ i, i < n → use i = true) (h0 : 0 ≤ l) (hv : l < 2 * ((f : Int) + n)) : reA f use l = l := by
 unfold reA
 rw [zoN h (by omega)]
 omega
theorem zni {g : Gr} (hg : g.chk = 0) (hga : zg2 g.ands) {use : Nat → Bool} (hu : ∀ i, i < g.ands.length → use i = true) : zbf g (zF g use g.ands.length) = g := by
 obtain ⟨_, i0, i1, i2, i3, i4, i5⟩ := zE hg
 obtain ⟨r1, r2, r3, r4⟩ := zaj i4
 have hf := zan i0
 have hfn : (g.first.toNat : Int) = g.first := by omega
 have hle : zqi g use := fun i hi _ => by
  obtain ⟨o1, o2, o3, o4⟩ := zaK i5 hi
  refine ⟨?_, ?_⟩
  ·by_cases h : (g.ands[i].1 / 2).toNat < g.first.toNat
   ·exact .inl h
   ·exact .inr (hu _ (by omega))
  ·by_cases h : (g.ands[i].2 / 2).toNat < g.first.toNat
   ·exact .inl h
   ·exact .inr (hu _ (by omega))
 obtain ⟨p1, p2⟩ := zd9 hg hga hle g.ands.length (Nat.le_refl _)
 have hlive : ∀ v, v < g.first.toNat + g.ands.length → znx g.first.toNat use v := fun v hv => by
  by_cases h : v < g.first.toNat
  ·exact .inl h
  ·exact .inr (hu _ (by omega))
 have hkp : zfU g use g.ands.length = g.ands := by
  unfold zfU
  rw [List.filter_eq_self.2 (fun i hi => hu i (List.mem_range.1 hi))]
  refine List.ext_getElem (by simp) (fun i h1 h2 => ?_)
  obtain ⟨o1, o2, o3, o4⟩ := zaK i5 h2
  simp only [List.getElem_map, List.getElem_range]
  rw [zt h2, zjp hu o1 (by omega), zjp hu o2 (by omega)]
 have hcm : ∀ a, 0 ≤ a → a < g.all → zaa (zF g use g.ands.length).2 a = a := fun a h0 h1 => by
  unfold Gr.all at h1
  have hv : (a / 2).toNat < g.first.toNat + g.ands.length := by omega
  rw [zeM (p2 _ hv (hlive _ hv)), zjp hu h0 (by omega)]
 have hmap : ∀ l : Cl, (∀ a ∈ l, 0 ≤ a ∧ a < g.all) → l.map (zaa (zF g use g.ands.length).2) = l := fun l hl => by
  conv => rhs; rw [← List.map_id l]
  exact List.map_congr_left fun a ha => hcm a (hl a ha).1 (hl a ha).2
 unfold zbf
 rw [hmap _ r3, hmap _ r4, p1, hkp]
theorem zkb {g : Gr} (hg : g.chk = 0) : zaE (zaE g) = zaE g := by
 have hst := zep hg
 have hx : (zbf g (zF g (fun _ => true) g.ands.length)).chk = 0 := zar hg _
 have hy : (zaE g).chk = 0 := zar hx _
 have hga : zg2 (zaE g).ands := zcN (zE hx).i0 _ _
 obtain ⟨y, hyy⟩ : ∃ y, y = zaE g := ⟨_, rfl⟩
 rw [← hyy] at hst hy hga ⊢
 have h1 : zbf y (zF y (fun _ => true) y.ands.length) = y := zni hy hga (fun _ _ => rfl)
 unfold zaE
 rw [h1]
 refine zni hy hga (fun i hi => ?_)
 unfold zft at hst
 simp only [Bool.not_eq_true', List.any_eq_false, List.mem_range] at hst
 have := hst i hi
 unfold zsb at this
 simp only [Bool.or_eq_true, not_or, Bool.not_eq_true', Bool.not_eq_false] at this
 exact this.2.2.2.1
theorem zoO {g : Gr} (s : GSm g) {a b c d : Nat} (ha : g.ins.toNat ≤ a) (hb : g.next.length ≤ b) (hc : g.outs.length ≤ c) (hd : g.ands.length ≤ d) : (zoy g).length ≤ 60 + 12 * a + 34 * b + 12 * c + 34 * d := by
 have h0 := zaF s.head
 have h0' : (zaV g).length = 5 := rfl
 have h1 := zbB (f := fun i : Nat => lnT [2 * ((i : Int) + 1)]) (c := 12) (n := g.ins.toNat) (fun i hi => zaF (s.in1 hi)) g.ins.toNat (Nat.le_refl _)
 have h2 := zbB (f := fun i : Nat => lnT (zpp g i)) (c := 34) (n := g.next.length) (fun i hi => by
  have := zaF (s.la hi).1
  have := (s.la hi).2
  omega) g.next.length (Nat.le_refl _)
 have h3 := zbB (f := fun i : Nat => lnT [g.outs.getD i 0]) (c := 12) (n := g.outs.length) (fun i hi => zaF (s.o1 hi)) g.outs.length (Nat.le_refl _)
 have h4 := zbB (f := fun i : Nat => lnT [2 * (g.first + (i : Int)), (g.ands.getD i (0, 0)).1, (g.ands.getD i (0, 0)).2]) (c := 34) (n := g.ands.length) (fun i hi => zaF (s.a1 hi)) g.ands.length (Nat.le_refl _)
 unfold zoy zsc zmY zez zmZ
 simp only [List.length_append, List.length_cons, List.length_nil]
 omega
theorem zoP {m : Mo} (hf : m.few = true) (h : m.chk = 0) : (zoz m.norm).length ≤ 20000 := by
 have hg := zit h
 obtain ⟨l1, l2, l3⟩ := zgj (g := m.g)
 have hs : GSm m.norm.g := GSm.of (zit (zdL h))
 obtain ⟨_, q1, q2, q3, q4⟩ := zaO h
 unfold Mo.few at hf
 simp only [Bool.and_eq_true] at hf
 obtain ⟨f0, f1, f2, f3⟩ := hf
 unfold zkT at f1 f2 f3
 unfold Gr.few at f0
 simp only [Bool.and_eq_true, decide_eq_true_eq, List.all_eq_true] at f0 f1 f2 f3
 have hx : (zbf m.g (zF m.g (fun _ => true) m.g.ands.length)).chk = 0 := zar hg _
 have hand : m.norm.g.ands.length ≤ 60 := by
  have a1 := (zaU (zE hg).i0 (fun _ => true) m.g.ands.length).1
  have a2 := (zaU (zE hx).i0 (fun i => (zey (zbf m.g (zF m.g (fun _ => true) m.g.ands.length))).getD ((zbf m.g (zF m.g (fun _ => true) m.g.ands.length)).first + (i : Int)).toNat false) (zbf m.g (zF m.g (fun _ => true) m.g.ands.length)).ands.length).1
  have a3 : m.norm.g.ands.length ≤ (zbf m.g (zF m.g (fun _ => true) m.g.ands.length)).ands.length := a2
  have a4 : (zbf m.g (zF m.g (fun _ => true) m.g.ands.length)).ands.length ≤ m.g.ands.length := a1
  omega
 have hle : m.lens = false := by
  cases hle : m.lens with
  | false => rfl
  | true => unfold Mo.chk at h; rw [hg, hle] at h; simp at h
 unfold Mo.lens at hle
 simp only [Bool.or_eq_false_iff, bne_eq_false_iff_eq] at hle
 obtain ⟨⟨k1, k2⟩, k3⟩ := hle
 have e1 : m.norm.g.ins = m.g.ins := l1
 have e2 : m.norm.g.next.length = m.g.next.length := l2
 have e3 : m.norm.g.outs.length = m.g.outs.length := l3
 have hb := zoO hs (a := 40) (b := 40) (c := 60) (d := 60) (by omega) (by omega) (by omega) hand
 have hn : ∀ x, x ∈ m.ins ∨ x ∈ m.lat ∨ x ∈ m.out → zaY x = true := zcC h
 have a1 := zfC (c := 105) m.ins 0 (fun x hx => zbZ (hn x (.inl hx))) (by omega)
 have a2 := zfC (c := 108) m.lat 0 (fun x hx => zbZ (hn x (.inr (.inl hx)))) (by omega)
 have a3 := zfC (c := 111) m.out 0 (fun x hx => zbZ (hn x (.inr (.inr hx)))) (by omega)
 have ht : (zcB m.norm).length ≤ 10000 := by
  show (nmT 105 0 m.ins ++ (nmT 108 0 m.lat ++ nmT 111 0 m.out)).length ≤ _
  simp only [List.length_append]
  omega
 unfold zoz
 rw [List.length_append]
 omega
end Go.Proofs.YtboolnpmlmgpkaaGreatDoor
