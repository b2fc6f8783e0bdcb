/- Lemmas for the statement of this claim, part A12: they hold with no conditions but those that each one names. -/
import Derived.Test.YtfcpapokknfeeaaGreatDoorA11
set_option linter.unusedVariables false
set_option linter.unusedSimpArgs false
namespace Go.Abs
open Go Go.RowKit
section
variable {e : E} {n : Nat}
def DRs (c : C) : List Deferred → List (FuncId × List V) → Prop
 | [], [] => True
 | d :: ds, x :: l => (∃ (cs azs : Array Value), d = { target := .fn (.func x.1) cs, args := azs } ∧ VList c x.2 (azs ++ cs).toList) ∧ DRs c ds l
 | _, _ => False
theorem DRs.keeps {ok : Nat → Prop} {p : Nat → Bool} {pl pl' : Nat → Option Nat} {w w' : World} (k : Keeps p pl w pl' w') : ∀ {ds : List Deferred} {l : List (FuncId × List V)}, DRs (cx ok pl w) ds l → (∀ x ∈ l, V.drops p x.2 = x.2) → DRs (cx ok pl' w') ds l
 | [], [], _, _ => trivial
 | [], _ :: _, h, _ => h.elim
 | _ :: _, [], h, _ => h.elim
 | d :: ds, x :: l, ⟨⟨cs, azs, h1, h2⟩, h3⟩, hd => by
  refine ⟨⟨cs, azs, h1, ?_⟩, h3.keeps k fun y hy => hd y (by simp [hy])⟩;have := VList.mdrop k.cext _ _ h2
  rwa [hd x (by simp)] at this
def LVr (e : E) (fn : Func) (R : AEnd → H → (Nat → Bool) → Prop) : List (FuncId × List V) → Fr → H → Prop
 | [], f, h => Ez e.P fn.results.toList (fun v h k => R (.ret v) h k) f h
 | x :: l, f, h => lG e x.1 x.2 h fun h' p => (∀ y ∈ l, V.drops p y.2 = y.2) ∧ LVr e fn R l (f.drop p) h'
def LVp (e : E) (fn : Func) (R : AEnd → H → (Nat → Bool) → Prop) (v : V) : List (FuncId × List V) → Fr → H → Prop
 | [], _, _ => False
 | x :: l, f, h => uo e x.1 x.2 v h fun h' p => (∀ y ∈ l, V.drops p y.2 = y.2) ∧ LVr e fn R l (f.drop p) h'
theorem Nu {T : List Deferred} {fn : Func} {R : AEnd → H → (Nat → Bool) → Prop} {ok : Nat → Prop} {pl0 : Nat → Option Nat} {w0 : World} {a : Act} : ∀ {l : List (FuncId × List V)} {ds : List Deferred} {f : Fr} {h : H} {pl : Nat → Option Nat} {w : World}, SSim { e with tl := T } fn.ntmps ok pl0 w0 f h pl w a → (∀ x ∈ l, aj e.P x.1 = true) → f.d = [] → DRs (cx ok pl w) ds l → LVr e fn R l f h →
 LeavesInM (RF none) 0 e.P fn a.tmps (endR e ok pl0 w0 R) ds .returning w
 | [], d :: ds, f, h, pl, w, s, hen, hd, hD, hL => hD.elim
 | x :: l, [], f, h, pl, w, s, hen, hd, hD, hL => hD.elim
 | [], [], f, h, pl, w, s, hen, hd, hD, hL => by unfold LVr Ez at hL;rw [hd] at hL;simp only [lC] at hL;obtain ⟨u, hu1, hu2⟩ := Bf (f := f) (e := e) s.hs.untl s.val hL.1;exact ⟨u, hu1, f.k, pl, h, .ret _, s.hs.untl, s.kp, hu2, hL.2⟩
 | x :: l, d :: ds, f, h, pl, w, s, hen, hd, ⟨⟨cs, azs, ed, hv⟩, hD⟩, hL => by
  have hinv : (invoke d.target d.args).run e.P w = .ok (.enter x.1 (azs ++ cs)) w := by rw [ed];simp only [invoke];exact nD (hen x (by simp)) _ _
  refine ⟨by simp, .inr ⟨(fun hh => by rw [lq] at hh; cases hh), Fn.func x.1, cs, x.1, azs ++ cs, (by rw [ed]), hinv, (fun g _ => gq none g), ?_⟩⟩;refine CallsDIn.mono (hL ok pl w (azs ++ cs).toList s.hs.untl hv) ?_;rintro en u' w4 ⟨⟨z, rfl⟩, rfl, p, pl4, h4', hs4, k4, hdr, hK⟩;have s4 := s.next (hs4.tl _) k4 (p := p) (by rw [hd]; intro i hi; cases hi)
  exact Nu s4 (fun y hy => hen y (by simp [hy])) hd (hD.keeps k4 hdr) hK
theorem XP {T : List Deferred} {fn : Func} {R : AEnd → H → (Nat → Bool) → Prop} {ok : Nat → Prop} {pl0 : Nat → Option Nat} {w0 : World} {a : Act} {v : V} {y : Value} {l : List (FuncId × List V)} {ds : List Deferred} {f : Fr} {h : H} {pl : Nat → Option Nat} {w : World} (s : SSim { e with tl := T } fn.ntmps ok pl0 w0 f h pl w a) (hen : ∀ x ∈ l, aj e.P x.1 = true) (hd : f.d = []) (hD : DRs (cx ok pl w) ds l) (hy : VRel (cx ok pl w) v y) (hL : LVp e fn R v l f h) :
 LeavesInM (RF none) 0 e.P fn a.tmps (endR e ok pl0 w0 R) ds (.panicking [{ v := y, recovered := false }]) w := by
 cases l with
 | nil => exact hL.elim
 | cons x l =>
  cases ds with
  | nil => exact hD.elim
  | cons d ds =>
   obtain ⟨⟨cs, azs, ed, hv⟩, hD⟩ := hD;have hinv : (invoke d.target d.args).run e.P w = .ok (.enter x.1 (azs ++ cs)) w := by rw [ed];simp only [invoke];exact nD (hen x (by simp)) _ _
   refine ⟨by simp, .inr ⟨(fun hh => by rw [lq] at hh; cases hh), Fn.func x.1, cs, x.1, azs ++ cs, (by rw [ed]), hinv, (fun g _ => gq none g), ?_⟩⟩;refine CallsDIn.mono (hL ok pl w (azs ++ cs).toList y s.hs.untl hv hy) ?_;rintro en u' w4 ⟨⟨z, rfl⟩, rfl, p, pl4, h4', hs4, k4, hdr, hK⟩;have s4 := s.next (hs4.tl _) k4 (p := p) (by rw [hd]; intro i hi; cases hi)
   exact Nu s4 (fun y hy => hen y (by simp [hy])) hd (hD.keeps k4 hdr) hK
structure DefOk (e : E) (n : Nat) (mk df : Oper) (f F1 : Fr) (h : H) (q : FuncId) (avs : List V) : Prop where
 hmg : mk.guard = none
 hmd : jb n mk.dst = true
 hmp : (sF e.P mk (f.ev e) h).1
 hmf : f.put mk.dst (sF e.P mk (f.ev e) h).2 = F1
 hdg : df.guard = none
 hdd : df.dst = none
 hdop : ∃ (fx : Operand) (args : Array Operand) (ts : Array TypeId) (caps : List V), df.op = .defer { callee := .value fx, args := args, argTypes := ts } ∧ (F1.ev e fx).sv = .fn (.func q) [] caps ∧ (F1.ev e fx).sc ∧ (∀ x ∈ args, (F1.ev e x).sc) ∧ avs = args.toList.map (fun x => (F1.ev e x).sv) ++ caps
 hfd : f.d = []
theorem VList.app {c : C} : ∀ {l m : List V} {x y : List Value}, VList c l x → VList c m y → VList c (l ++ m) (x ++ y) := fun h1 h2 => VList.append h1 h2
theorem yP {e' : E} {ok : Nat → Prop} {pl0 : Nat → Option Nat} {w0 : World} {f F1 : Fr} {h : H} {id : Nat} {mk df : Oper} {rest : Code} {q : FuncId} {avs : List V} {M : Exit → Act → World → Prop} (hd : DefOk e' n mk df f F1 h q avs)
 {pl : Nat → Option Nat} {w : World} {a : Act} (s : SSim e' n ok pl0 w0 f h pl w a)
 (hrest : ∀ d w1 a1, (∃ (cs azs : Array Value), d = { target := .fn (.func q) cs, args := azs } ∧ VList (cx ok pl w1) avs (azs ++ cs).toList) → Keeps (fun _ => false) pl w pl w1 → a1.defers = d :: e'.tl →
  SSim { e' with tl := d :: e'.tl } n ok pl w1 { F1 with k := fun _ => false } h pl w1 a1 → rest.wpIn (RF none) 0 e'.P M a1 w1) :
 (Code.seq (.region id [mk, df].toArray false) rest).wpIn (RF none) 0 e'.P M a w := by
 obtain ⟨hmg, hmd, hmp, hmf, hdg, hdd, ⟨fx, args, ts, caps, hdop, hfx, hsc, hasc, havs⟩, hfd⟩ := hd;refine wpIn_seq (wpIn_region_lit ?_);have hgd : gd [mk, df].toArray f mk = some true := by unfold gd; rw [hmg]
 unfold wpListIn;rw [if_pos (qH s.val hgd)];refine ⟨fun g _ => gq none g, ?_⟩;have hq := mg (e := e') hmp ok pl w a.eval s.hs s.evs;have hnd : mk.semAt (RF none).round a.eval = execOp a.eval mk := by rw [dM, Oper.semAt_none]
 rw [hnd];have hF1d : F1.d = [] := by
  rw [← hmf];cases mk.dst with
  | none => exact hfd
  | some i => exact hfd
 have fin : ∀ x w1, WExt w w1 ∧ VRel (cx ok pl w1) (sF e'.P mk (f.ev e') h).2 x → wpListIn (RF none) 0 e'.P [mk, df].toArray (Exit.then (rest.wpIn (RF none) 0 e'.P M) M) [df] (a.put mk.dst x) w1 := by
  rintro x w1 ⟨hx, hv⟩;have kx := hx.keeps s.hs;have s1 := (s.next0 (s.hs.wext hx) kx).put hmd hv;rw [hmf] at s1;generalize ha1 : a.put mk.dst x = a1 at s1 ⊢;have hgd1 : gd [mk, df].toArray F1 df = some true := by unfold gd; rw [hdg]
  unfold wpListIn;rw [if_pos (qH s1.val hgd1)];refine ⟨fun g _ => gq none g, ?_⟩;have h1 := (s1.ev fx).sv hsc;rw [hfx] at h1;simp only [VRel] at h1;obtain ⟨fs, cs, h2, h3, h4⟩ := h1;have hfs : fs = #[] := by
   simp only [VList] at h3;exact Array.toList_eq_nil_iff.1 h3
  subst hfs;obtain ⟨d, ed⟩ : ∃ d : Deferred, d = { target := .fn (.func q) cs, args := args.map a1.eval } := ⟨_, rfl⟩;have hrun : (execOp a1.eval df).run e'.P w1 = .ok (.defer d) w1 := by
   rw [ed];simp [execOp, hdop, resolve, h2, Deferred.ofValue, Result.andThen]
  rw [dM, Oper.semAt_none, hrun, Oper.uponIn_defer, hdd];have hdf1 : a1.defers = e'.tl := by
   have := s1.dfr;rw [hF1d] at this;exact this
  have s2 : SSim { e' with tl := d :: e'.tl } n ok pl w1 { F1 with k := fun _ => false } h pl w1 { a1 with defers := d :: a1.defers } :=
   ⟨s1.hs.tl _, dH pl w1, s1.size, s1.val, by
    show Ef _ (d :: e'.tl) F1.d (d :: a1.defers);rw [hF1d, hdf1]; rfl⟩
  have hargs : ∀ (l : List Operand), (∀ x ∈ l, (F1.ev e' x).sc) → VList (cx ok pl w1) (l.map fun x => (F1.ev e' x).sv) (l.map a1.eval) := by
   intro l
   induction l with
   | nil => intro _; simp [VList]
   | cons b l ih => intro hb;simp only [List.map_cons, VList];exact ⟨_, _, rfl, (s1.ev b).sv (hb b (by simp)), ih fun x hx => hb x (by simp [hx])⟩
  refine hrest d w1 { a1 with defers := d :: a1.defers } ⟨cs, _, ed, ?_⟩ kx (by show d :: a1.defers = _; rw [hdf1]) s2;rw [havs, Array.toList_append, Array.toList_map];exact VList.app (hargs _ fun x hx => hasc x (by simpa using hx)) h4
 revert hq
 cases hrun : (execOp a.eval mk).run e'.P w with
 | halt x w' => intro hq; exact hq.elim
 | ok nx w' =>
  intro hq;cases nx <;> try exact hq.elim
  case value x => exact fin x w' hq
  case skip => exact fin undef w' hq
  case enter g args =>
   refine ⟨fun hh => (by rw [lq] at hh; cases hh), fF (Calls.mono hq ?_)⟩;rintro en w'' ⟨x, rfl, hx⟩;exact fin x w'' hx
def LV (e : E) (fn : Func) (R : AEnd → H → (Nat → Bool) → Prop) (l : List (FuncId × List V)) (xe : XE) (f : Fr) (h : H) : Prop :=
 f.d = [] ∧ (∀ x ∈ l, V.drops f.k x.2 = x.2) ∧ match xe with
  | .pan v => LVp e fn R v l f h
  | .ret => LVr e fn R l f h
  | _ => False
theorem LV.leaves {T : List Deferred} {fn : Func} {R : AEnd → H → (Nat → Bool) → Prop} {ok : Nat → Prop} {pl0 : Nat → Option Nat} {w0 : World} {l : List (FuncId × List V)} (hen : ∀ x ∈ l, aj e.P x.1 = true) (hT : DRs (cx ok pl0 w0) T l) {ex : Exit} {a : Act} {w : World}
 (hp : iq { e with tl := T } fn.ntmps ok pl0 w0 (LV e fn R l) ex a w) : bodyPostM (RF none) 0 e.P fn (endR e ok pl0 w0 R) ex a w := by
 obtain ⟨pl3, f3, h3, xe, s3, hx3, hd3, hcap, hq⟩ := hp;have hdf3 : a.defers = T := by have := s3.dfr;rw [hd3] at this;exact this
 have hD := hT.keeps s3.kp hcap;cases xe <;> cases ex <;> (try exact hx3.elim) <;> (try exact hq.elim)
 case ret.ret =>
  show LeavesInM (RF none) 0 e.P fn a.tmps _ a.defers .returning w;rw [hdf3];exact Nu s3 hen hd3 hD hq
 case pan.panic =>
  obtain ⟨y, rfl, hy⟩ := hx3;show LeavesInM (RF none) 0 e.P fn a.tmps _ a.defers (.panicking _) w;rw [hdf3];exact XP s3 hen hd3 hD hy hq
theorem BA {R : AEnd → H → (Nat → Bool) → Prop} {ok : Nat → Prop} {pl0 pl1 : Nat → Option Nat} {w0 w1 : World} (k : Keeps (fun _ => false) pl0 w0 pl1 w1) {en : Ending} {w : World} (h : endR e ok pl1 w1 R en w) : endR e ok pl0 w0 R en w := by obtain ⟨p, pl', h', ae, h1, h2, h3, h4⟩ := h;exact ⟨p, pl', h', ae, h1, (k.trans h2).weaken (q := p) (fun i hi => by simpa using hi), h3, h4⟩
theorem ig {fn : Func} {tmps : Array Value} {R R' : Ending → World → Prop} (hr : ∀ en w, R en w → R' en w) : ∀ {ds : List Deferred} {u : FrameMode} {w : World}, LeavesInM (RF none) 0 e.P fn tmps R ds u w → LeavesInM (RF none) 0 e.P fn tmps R' ds u w
 | [], .returning, w, ⟨v, h1, h2⟩ => ⟨v, h1, hr _ _ h2⟩
 | [], .panicking ch, w, h => hr _ _ h
 | [], .run, w, h => h
 | d :: ds, u, w, ⟨h0, h⟩ => by
  refine ⟨h0, ?_⟩;rcases h with ⟨r, w', h1, h2, h3⟩ | ⟨hn, fv, cap, f, args, h1, h2, h3, h4⟩
  ·exact .inl ⟨r, w', h1, h2, ig hr h3⟩
  ·refine .inr ⟨hn, fv, cap, f, args, h1, h2, h3, CallsDIn.mono h4 ?_⟩;intro en u' w' h5;cases en with
   | returned v => exact ig hr h5
   | panicked ch => exact ig hr h5
   | outgrown => exact hr _ _ h5
theorem nZ {fn : Func} {R R' : Ending → World → Prop} (hr : ∀ en w, R en w → R' en w) {ex : Exit} {a : Act} {w : World} (h : bodyPostM (RF none) 0 e.P fn R ex a w) : bodyPostM (RF none) 0 e.P fn R' ex a w := by
 cases ex with
 | normal => exact ig hr h
 | ret => exact ig hr h
 | panic ch => exact ig hr h
 | exit id => exact h
 | goto l => exact h
 | outgrown => exact hr _ _ h
theorem BB (htl : e.tl = []) {fn : Func} {R : AEnd → H → (Nat → Bool) → Prop} {ok : Nat → Prop} {pl0 : Nat → Option Nat} {w0 : World} {f F1 : Fr} {h : H} {id : Nat} {mk df : Oper} {rest : Code} {q : FuncId} {avs : List V}
 (hd : DefOk e fn.ntmps mk df f F1 h q avs) (hen : aj e.P q = true) (hfk : f.k = fun _ => false)
 (hrest : ∀ d, awp { e with tl := [d] } fn.ntmps none rest (LV e fn R [(q, avs)]) { F1 with k := fun _ => false } h) :
 XM e fn.ntmps (bodyPostM (RF none) 0 e.P fn (endR e ok pl0 w0 R)) ok pl0 w0 (.seq (.region id [mk, df].toArray false) rest) f h := by
 intro pl w a s;refine yP hd s fun d w1 a1 hdd kx hdf s2 => ?_;rw [htl] at s2;have kk : Keeps (fun _ => false) pl0 w0 pl w1 := ((hfk ▸ s.kp).trans kx).weaken (q := fun _ => false) (fun i hi => by simp at hi);refine wpIn_mono (hrest d ok pl w1 pl w1 _ s2) fun ex a3 w3 hp => ?_;exact nZ (fun en w he => BA kk he) (LV.leaves (T := [d]) (fun x hx => by simp at hx; subst hx; exact hen) (show DRs _ [d] [(q, avs)] from ⟨hdd, trivial⟩) hp)
theorem Nv (htl : e.tl = []) {fn : Func} {R : AEnd → H → (Nat → Bool) → Prop} {ok : Nat → Prop} {pl0 : Nat → Option Nat} {w0 : World} {f F1 F2 : Fr} {h : H} {id id2 : Nat} {mk df mk2 df2 : Oper} {rest : Code} {q q2 : FuncId} {avs avs2 : List V}
 (hd : DefOk e fn.ntmps mk df f F1 h q avs) (hen : aj e.P q = true) (hfk : f.k = fun _ => false)
 (hd2 : ∀ tl, DefOk { e with tl := tl } fn.ntmps mk2 df2 { F1 with k := fun _ => false } F2 h q2 avs2) (hen2 : aj e.P q2 = true)
 (hrest : ∀ d d2, awp { e with tl := [d2, d] } fn.ntmps none rest (LV e fn R [(q2, avs2), (q, avs)]) { F2 with k := fun _ => false } h) :
 XM e fn.ntmps (bodyPostM (RF none) 0 e.P fn (endR e ok pl0 w0 R)) ok pl0 w0 (.seq (.region id [mk, df].toArray false) (.seq (.region id2 [mk2, df2].toArray false) rest)) f h := by
 intro pl w a s;refine yP hd s fun d w1 a1 hdd kx hdf s2 => ?_;rw [htl] at s2;have kk : Keeps (fun _ => false) pl0 w0 pl w1 := ((hfk ▸ s.kp).trans kx).weaken (q := fun _ => false) (fun i hi => by simp at hi);refine yP (hd2 [d]) s2 fun d2 w2 a2 hdd2 kx2 hdf2 s3 => ?_;have kk2 : Keeps (fun _ => false) pl0 w0 pl w2 := (kk.trans kx2).weaken (q := fun _ => false) (fun i hi => by simp at hi);have hD1 : DRs (cx ok pl w2) [d] [(q, avs)] := DRs.keeps kx2 (ds := [d]) (l := [(q, avs)]) ⟨hdd, trivial⟩ (fun x _ => V.drop_none.V.drops_none _);refine wpIn_mono (hrest d d2 ok pl w2 pl w2 _ s3) fun ex a3 w3 hp => ?_;exact nZ (fun en w he => BA kk2 he) (LV.leaves (T := [d2, d]) (fun x hx => by
  simp only [List.mem_cons, List.not_mem_nil, or_false] at hx;rcases hx with rfl | rfl
  ·exact hen2
  ·exact hen) (show DRs _ [d2, d] [(q2, avs2), (q, avs)] from ⟨hdd2, hD1⟩) hp)
end
section
variable {e : E} {n : Nat} {r : Option Nat} {o : Oper} {f : Fr} {h : H} {K : Fr → H → Prop} {Q : XE → Fr → H → Prop}
theorem F8 {t : TypeId} {x : Operand} (hop : o.op = .box t x) (hsc : (f.ev e x).sc) (hf : (f.ev e x).sv.fit = true)
 (hk : K (f.put o.dst (.lp h.length 0)) (h ++ [.typed t (f.ev e x).sv.vc])) : Eff e n r o f h K Q := by
 refine aW ?_ (fun c => by rw [hop]; exact fun h => by cases h);intro ok pl w ev hs hr;have h0 := ((hr x (by simp [hop, Op.operands])).sv hsc).vc hf;have hzl := h0.length;simp only [Array.length_toList] at hzl;obtain ⟨h1, h2⟩ := xm hs (cs := (f.ev e x).sv.vc) (arr := (ev x).cells) (by omega) (by rw [List.take_of_length_le (by simp; omega)]; exact h0) t (bW w);refine ⟨fun _ => false, .lp h.length 0, _, _, _, .pointer (some ⟨w.heap.size, 0, none⟩), .inl ?_, h1, h2, ?_, fun _ _ => rfl, by simpa using hk⟩
 ·have h3 : execOp ev o = (do pure (Next.value (← Instr.box t (ev x)))) := by simp [execOp, hop]
  rw [h3]; exact gm rfl
 ·simp only [VRel]; exact ⟨w.heap.size, by simp [cx, aZ], rfl⟩
end
def bl (n k : Nat) : Array Bool := ((List.range n).map fun i => k.testBit i).toArray
noncomputable def yQ : Code → Nat → List (Array Oper)
 | .region i ops _, k => if i == k then [ops] else []
 | .seq a b, k => yQ a k ++ yQ b k
 | .cond _ a b, k => yQ a k ++ yQ b k
 | .loop a, k => yQ a k
 | .block _ a, k => yQ a k
 | _, _ => []
noncomputable def aH (f : Func) (k : Nat) : Array Oper := match f.body with
 | some c => (yQ c k).headD #[]
 | none => #[]
section
variable {P : Program} {ops : Array Oper} {i k : Nat} {p q : Plan} {L L' : Array Bool}
theorem V4 (h0 : (match ops[i]? with | some o => lT P o.op && (Region.ready .any ops L).contains i && Region.free .any ops L i | none => false) = true) (hL : L.setIfInBounds i true = L') (hp : ai P ops p k L' = true) : ai P ops (.take i p) (k + 1) L = true := by
 unfold ai;cases ho : ops[i]? with
 | none => rw [ho] at h0; cases h0
 | some o => rw [ho] at h0;dsimp only at h0 ⊢;rw [h0, hL, hp];rfl
theorem XQ (h0 : (Region.ready .any ops L == [i]) = true) (hL : L.setIfInBounds i true = L') (hp : ai P ops p k L' = true) : ai P ops (.one i p) (k + 1) L = true := by unfold ai;dsimp only;rw [h0, hL, hp];rfl
theorem XR (h0 : (Region.ready .any ops L == i :: q.heads) = true) (hL : L.setIfInBounds i true = L') (hp : ai P ops p k L' = true) (hq : ai.planAlts P ops q k L = true) : ai P ops (.alt i p q) (k + 1) L = true := by unfold ai;dsimp only;rw [h0, hL, hp, hq];rfl
theorem XT (hL : L.setIfInBounds i true = L') (hp : ai P ops p k L' = true) : ai.planAlts P ops (.one i p) k L = true := by unfold ai.planAlts;rw [hL, hp]
theorem XU (hL : L.setIfInBounds i true = L') (hp : ai P ops p k L' = true) (hq : ai.planAlts P ops q k L = true) : ai.planAlts P ops (.alt i p q) k L = true := by unfold ai.planAlts;rw [hL, hp, hq];rfl
theorem okT (hp : ai P ops p k L' = true) (h0 : (match ops[i]? with | some o => lT P o.op && (Region.ready .any ops L).contains i && Region.free .any ops L i | none => false) = true := by decide +kernel) (hL : L.setIfInBounds i true = L' := by decide +kernel) : ai P ops (.take i p) (k + 1) L = true := V4 h0 hL hp
theorem okO (hp : ai P ops p k L' = true) (h0 : (Region.ready .any ops L == [i]) = true := by decide +kernel) (hL : L.setIfInBounds i true = L' := by decide +kernel) : ai P ops (.one i p) (k + 1) L = true := XQ h0 hL hp
theorem okA (hp : ai P ops p k L' = true) (hq : ai.planAlts P ops q k L = true) (h0 : (Region.ready .any ops L == i :: q.heads) = true := by decide +kernel) (hL : L.setIfInBounds i true = L' := by decide +kernel) : ai P ops (.alt i p q) (k + 1) L = true := XR h0 hL hp hq
theorem alO (hp : ai P ops p k L' = true) (hL : L.setIfInBounds i true = L' := by decide +kernel) : ai.planAlts P ops (.one i p) k L = true := XT hL hp
theorem alA (hp : ai P ops p k L' = true) (hq : ai.planAlts P ops q k L = true) (hL : L.setIfInBounds i true = L' := by decide +kernel) : ai.planAlts P ops (.alt i p q) k L = true := XU hL hp hq
end
section
variable {e : E} {n : Nat}
theorem rQ (htl : e.tl = []) {q : FuncId} {fn : Func} {args : List V} {h : H} {K : H → (Nat → Bool) → Prop} {c : Code} (hf : e.P.funcs[q]? = some fn)
 (hb : fn.body = some c) (hr0 : fn.results.toList = []) (hn : args.length ≤ fn.ntmps)
 (hv : awp e fn.ntmps none c (fun xe f h => (xe = .normal ∨ xe = .ret) ∧ f.d = [] ∧ K h f.k) (Fr.init args) h) : lG e q args h K := by
 intro ok pl w vs hs hl;refine CallsDIn.mono (R := fun en u' w' => u' = .returning ∧ ((∃ y, en = .returned y) ∧ ∃ p pl' h', HSim e ok pl' h' w' ∧ Keeps p pl w pl' w' ∧ K h' p)) (callsDIn_of_wp hf hb (gq none q) ?_ rfl) (fun en u' w' hq => ⟨hq.2.1, hq.1, hq.2.2⟩);have s0 := SSim.init htl (n := fn.ntmps) hs hl hn;refine wpIn_mono (hv ok pl w pl w _ s0) ?_;rintro ex a w' ⟨pl3, f3, h3, xe, s3, hx3, hxe, hd3, hk3⟩;have hdf : a.defers = [] := by
  have := s3.dfr;rw [hd3] at this;exact Eq.trans this htl
 have hres : ∃ y, (results fn a.tmps).run e.P w' = .ok y w' := by
  have hp : (ug e.P f3 h3 fn.results.toList).1 := by rw [hr0]; trivial
  obtain ⟨y, h1, _⟩ := Bf (f := f3) s3.hs s3.val hp;exact ⟨y, h1⟩
 obtain ⟨y, hy⟩ := hres;have fin : a.defers = [] ∧ ∃ v, (results fn a.tmps).run e.P w' = .ok v w' ∧ ((∃ y, Ending.returned v = .returned y) ∧ ∃ p pl' h', HSim e ok pl' h' w' ∧ Keeps p pl w pl' w' ∧ K h' p) :=
  ⟨hdf, y, hy, ⟨y, rfl⟩, f3.k, pl3, h3, s3.hs, s3.kp, hk3⟩
 rcases hxe with rfl | rfl <;> cases ex <;> (try exact hx3.elim)
 ·exact fin
 ·exact fin
end
def V5 (ops : Array Oper) : Bool := (List.range ops.size).all fun i => match ops[i]? with
 | some o => o.after.all fun q => !(Region.binds .any q) || decide (q.on < i)
 | none => true
section
variable {e : E} {n : Nat} {r : Option Nat} {ops : Array Oper} {Q : XE → Fr → H → Prop} {ok : Nat → Prop} {pl0 : Nat → Option Nat} {w0 : World}
theorem BC (hB : V5 ops = true) {listed : Array Bool} (hs : listed.size = ops.size) (hr : Region.ready .any ops listed = []) : ∀ (k i : Nat), i < k → i < ops.size → listed.getD i false = true := by
 intro k
 induction k with
 | zero => intro i hi; exact absurd hi (Nat.not_lt_zero _)
 | succ k ih =>
  intro i hik hi;apply Classical.byContradiction;intro hn;have hn : listed.getD i false = false := by simpa using hn
  have : i ∈ Region.ready .any ops listed := by
   refine mem_ready.2 ⟨?_, ops[i], by simp [hi], fun q hq hb => ?_⟩
   ·have : i < listed.size := by omega
    simpa [Array.getD, this] using hn
   ·have h1 := List.all_eq_true.1 hB i (by simpa using hi);have hio : ops[i]? = some ops[i] := by simp [hi]
    rw [hio] at h1;dsimp only at h1;have h2 := (Array.all_eq_true_iff_forall_mem.1 h1) q hq;rw [hb] at h2;simp only [Bool.not_true, Bool.false_or, decide_eq_true_eq] at h2;exact ih q.on (by omega) (by omega)
  rw [hr] at this;cases this
def xu (L : Array Bool) : Nat := L.toList.countP (!·)
theorem xx {L : Array Bool} {i : Nat} (h : i < L.size) (hl : L.getD i true = false) : xu L = xu (L.setIfInBounds i true) + 1 := by
 have hi : i < L.toList.length := by simpa using h
 have hg : L.toList[i] = false := by simpa [Array.getD, h] using hl
 unfold xu;rw [Array.toList_setIfInBounds, List.countP_set hi, hg];have : 0 < L.toList.countP (!·) := List.countP_pos_iff.2 ⟨L.toList[i], List.getElem_mem hi, by rw [hg]; rfl⟩;rw [if_pos (show (!false) = true from rfl), if_neg (show ¬ (!true) = true by decide)];omega
theorem UN (I : Array Bool → Fr → H → Prop)
 (hstep : ∀ L f h i, sK ops L → I L f h → i ∈ Region.ready .any ops L → xg e n ops i (fun f' h' => I (L.setIfInBounds i true) f' h') Q f h)
 (hend : ∀ L f h, L.size = ops.size → I L f h → Region.ready .any ops L = [] → Q .normal f h) :
 ∀ (fuel : Nat) (L : Array Bool) (f : Fr) (h : H), L.size = ops.size → sK ops L → xu L ≤ fuel → I L f h → ∀ pl w a, SSim e n ok pl0 w0 f h pl w a → wpAnyIn (RF r) 0 e.P .any ops (iq e n ok pl0 w0 Q) fuel L a w := by
 intro fuel
 induction fuel with
 | zero =>
  intro L f h hs hc hu hI pl w a s;have hr : Region.ready .any ops L = [] := by
   match hm : Region.ready .any ops L with
   | [] => rfl
   | i :: _ => obtain ⟨h0, o, ho, _⟩ := mem_ready.1 (show i ∈ Region.ready .any ops L by rw [hm]; simp);have hlt := (Array.getElem?_eq_some_iff.1 ho).1;have := xx (L := L) (i := i) (by omega) h0;omega
  exact wpAnyIn_done hr ⟨pl, f, h, .normal, s, trivial, hend L f h hs hI hr⟩ 0
 | succ fuel ih =>
  intro L f h hs hc hu hI pl w a s;by_cases hr : Region.ready .any ops L = []
  ·exact wpAnyIn_done hr ⟨pl, f, h, .normal, s, trivial, hend L f h hs hI hr⟩ (fuel + 1)
  ·refine ⟨fun h0 => absurd h0 hr, fun i hi => ?_⟩;obtain ⟨h0, o, ho, _⟩ := mem_ready.1 hi;have hlt := (Array.getElem?_eq_some_iff.1 ho).1;have hun := xx (L := L) (i := i) (by omega) h0;exact kw (hstep L f h i hc hI hi) (fun f h pl w a s hk => ih _ f h (by simpa using hs) (hc.set hi) (by omega) hk pl w a s) s
theorem V6 (hm : e.P.follows .mixedOrders = true) {id : Nat} (I : Array Bool → Fr → H → Prop) (R : Fr → H → Prop) {f : Fr} {h : H} (hB : V5 ops = true)
 (h0 : I (Array.replicate ops.size false) f h)
 (hstep : ∀ L f h i, sK ops L → I L f h → i ∈ Region.ready .any ops L → xg e n ops i (fun f' h' => I (L.setIfInBounds i true) f' h') (oM R) f h)
 (hend : ∀ L f h, (∀ i, i < ops.size → L.getD i false = true) → I L f h → R f h)
 (hk : ∀ f h, R f h → Q .normal f h) : awp e n r (.region id ops true) Q f h := by
 intro ok pl0 w0 pl w a s;have x : WExt w { w with drawn := w.drawn + 1 } := WExt.drew w;have := UN (e := e) (n := n) (r := r) (ops := ops) (Q := oM R) (ok := ok) (pl0 := pl0) (w0 := w0) I hstep
  (fun L f h hs hI hr => hend L f h (fun i hi => BC hB hs hr (i + 1) i (Nat.lt_succ_self i) hi) hI)
  ops.size (Array.replicate ops.size false) f h (by simp) sK.none (by unfold xu; exact Nat.le_trans (List.countP_le_length) (by simp)) h0 pl _ a (s.next0 (s.hs.wext x) (x.keeps s.hs))
 refine wpIn_mono (wpIn_region_any hm this) ?_;rintro ex a' w' ⟨pl', f', h', xe, s', hx, hq⟩;cases xe <;> first
  | exact hq.elim
  | exact ⟨pl', f', h', _, s', hx, hk _ _ hq⟩
def XV (ops : Array Oper) (i : Nat) (l : List Nat) : Bool := match ops[i]? with
 | some o => l.all fun j => o.after.any fun q => Region.binds .any q && (q.on == j)
 | none => false
theorem aX {L : Array Bool} {i : Nat} (hi : i ∈ Region.ready .any ops L) {l : List Nat} (hl : XV ops i l = true) : ∀ j ∈ l, L.getD j false = true := by intro j hj;obtain ⟨_, o, ho, hall⟩ := mem_ready.1 hi;unfold XV at hl;rw [ho] at hl;have h1 := List.all_eq_true.1 hl j hj;rw [Array.any_eq_true] at h1;obtain ⟨q, hq, h3⟩ := h1;rw [Bool.and_eq_true, beq_iff_eq] at h3;rw [← h3.2];have hmem : o.after[q] ∈ o.after := Array.getElem_mem hq;have := hall _ hmem h3.1;simpa using this
theorem jA {L : Array Bool} {i : Nat} (hi : i ∈ Region.ready .any ops L) : L.getD i false = false := by
 obtain ⟨h0, o, ho, _⟩ := mem_ready.1 hi;rcases Nat.lt_or_ge i L.size with h | h
 ·simpa [Array.getD, h] using h0
 ·simp [Array.getD, Nat.not_lt.2 h]
theorem F9 {L : Array Bool} {i : Nat} (hi : i ∈ Region.ready .any ops L) : i < ops.size := by obtain ⟨_, o, ho, _⟩ := mem_ready.1 hi;exact (Array.getElem?_eq_some_iff.1 ho).1
theorem nI {L : Array Bool} {i : Nat} (hi : i ∈ Region.ready .any ops L) : i < L.size := by
 obtain ⟨h0, o, ho, _⟩ := mem_ready.1 hi;rcases Nat.lt_or_ge i L.size with h | h
 ·exact h
 ·simp [Array.getD, Nat.not_lt.2 h] at h0
theorem SL (hm : e.P.follows .mixedOrders = true) {id : Nat} (I : Array Bool → Fr → H → Prop) {f : Fr} {h : H} (hB : V5 ops = true)
 (h0 : I (Array.replicate ops.size false) f h)
 (hstep : ∀ L f h i, sK ops L → I L f h → i ∈ Region.ready .any ops L → xg e n ops i (fun f' h' => I (L.setIfInBounds i true) f' h') Q f h)
 (hend : ∀ L f h, (∀ i, i < ops.size → L.getD i false = true) → I L f h → Q .normal f h) : awp e n r (.region id ops true) Q f h := by
 intro ok pl0 w0 pl w a s;have x : WExt w { w with drawn := w.drawn + 1 } := WExt.drew w;have := UN (e := e) (n := n) (r := r) (ops := ops) (Q := Q) (ok := ok) (pl0 := pl0) (w0 := w0) I hstep
  (fun L f h hs hI hr => hend L f h (fun i hi => BC hB hs hr (i + 1) i (Nat.lt_succ_self i) hi) hI)
  ops.size (Array.replicate ops.size false) f h (by simp) sK.none (by unfold xu; exact Nat.le_trans (List.countP_le_length) (by simp)) h0 pl _ a (s.next0 (s.hs.wext x) (x.keeps s.hs))
 exact wpIn_region_any hm this
def FA (L : Array Bool) (f : Fr) (l : List (Nat × Nat × V)) : Prop := ∀ q ∈ l, L.getD q.1 false = true → f.t q.2.1 = q.2.2
theorem FA.put {L : Array Bool} {f : Fr} {l : List (Nat × Nat × V)} {i d : Nat} {v : V} (hf : FA L f l)
 (h1 : ∀ q ∈ l, q.1 = i → q.2.1 = d ∧ q.2.2 = v) (h2 : ∀ q ∈ l, q.2.1 = d → q.1 = i) : FA (L.setIfInBounds i true) (f.put (some d) v) l := by
 intro q hq hl;by_cases hqi : q.1 = i
 ·obtain ⟨e1, e2⟩ := h1 q hq hqi;rw [e1, e2];simp [Fr.put]
 ·have hqd : q.2.1 ≠ d := fun h => hqi (h2 q hq h);rw [getD_set_ne false (Ne.symm hqi)] at hl;have := hf q hq hl;simpa [Fr.put, hqd] using this
theorem FA.skip {L : Array Bool} {f : Fr} {l : List (Nat × Nat × V)} {i : Nat} (hf : FA L f l) (h1 : ∀ q ∈ l, q.1 ≠ i) : FA (L.setIfInBounds i true) f l := by intro q hq hl;rw [getD_set_ne false (Ne.symm (h1 q hq))] at hl;exact hf q hq hl
theorem FA.none {m : Nat} {f : Fr} {l : List (Nat × Nat × V)} : FA (Array.replicate m false) f l := by
 intro q _ hl;exfalso;rcases Nat.lt_or_ge q.1 m with h | h
 ·simp [h] at hl
 ·simp [h] at hl
end
section
variable {e : E} {n : Nat} {r : Option Nat} {o : Oper} {f : Fr} {h : H} {Kn : Fr → H → Prop} {Q : XE → Fr → H → Prop}
theorem yR {x : Operand} {t el m : Nat} {q re : TI} {qq : Option IntKind} (hop : o.op = .slice t x none none none) (hti : Abs.ti e.P t = some q) (hkind : q.kind = .arr m el qq) (hre : Abs.ti e.P el = some re)
 (hc : (f.ev e x).sc) {id off : Nat} (hx : (f.ev e x).sv = .lp id off) {cs : List V} (hid : h[id]? = some (.cells cs)) (hl : off + m * re.size ≤ cs.length) (hm : m ≤ maxLen) (hk : Kn (f.put o.dst (.ls id re.size off m m)) h) : Eff e n r o f h Kn Q := by
 refine iP (v := .ls id re.size off m m) (fC fun ok pl w ev hs hr => ?_) hk;obtain ⟨i, d, z, hT⟩ := aN hti;obtain ⟨i', d', z', hT'⟩ := aN hre;have hd := hT.arr hkind;subst hd;have h1 := (hr x (by simp [hop, Op.operands])).sv hc;rw [hx] at h1;simp only [VRel] at h1;obtain ⟨b, hb, hev⟩ := h1;obtain ⟨o', ho', hat⟩ := hs.obj id b hb;rw [hid] at ho';cases ho';obtain ⟨arr, el', fz, hw, _, hsz, _⟩ := hat;refine ⟨.slice (some ⟨b, off, none⟩) m m, ?_, ?_⟩
 ·have hex : execOp ev o = (do pure (Next.value (← Instr.sliceAt t (ev x) none none none))) := by simp [execOp, hop]
  rw [hex, hev];refine gm ?_;have hbd : (Instr.sliceBounds false m m none none none).run e.P w = .ok (0, m, m) w := by
   have := fP (P := e.P) (w := w) false m m .i64 none none none none none none 0 m m (.inl ⟨rfl, rfl⟩) (.inl ⟨rfl, rfl, rfl⟩) (.inl ⟨rfl, rfl⟩) (Int.le_refl _) (by omega) (Int.le_refl _) (Int.le_refl _);simpa using this
  simp [Instr.sliceAt, hT.run_und, Result.andThen, Instr.sureAddr, hbd, hT'.run_size, bY]
 ·simp only [VRel];exact ⟨_, m, rfl, Nat.le_refl _, Nat.le_refl _, hm, .inr ⟨b, arr, el', fz, hb, rfl, hw, by omega⟩⟩
end
section
variable {e : E} {n : Nat} {r : Option Nat} {o : Oper} {f : Fr} {h : H} {Kn : Fr → H → Prop} {Q : XE → Fr → H → Prop}
end
section
variable {e : E} {n : Nat} {r : Option Nat} {ops : Array Oper} {h : H} {Q : XE → Fr → H → Prop}
theorem AQ.lend {o : Oper} {fx : Operand} {args : Array Operand} {ts : Array TypeId} (hop : o.op = .call { callee := .value fx, args := args, argTypes := ts }) {ρ : Operand → V} {g : FuncId} {vs vs' : List V} {rv : V}
 (hon : kK e ρ fx args = some (g, vs)) (hsc : jJ ρ fx args) (hen : aj e.P g = true) (hr : aC e h vs vs') (hv : Ev e g vs' rv) (hp : rv.plain = true) : AQ e o ρ h rv := by
 intro ok pl w ev hs hre;obtain ⟨xs, hrun, hl⟩ := tX (e := e) hop hre hon hsc hen;rw [hrun];exact (hv ok w xs hs.lend (hr ok pl w xs hs hl)).mono fun en w' ⟨x, h1, h2, h3⟩ => ⟨x, h1, h2, h3.plain hp⟩
def pV (e : E) (h : H) (g : Bool) (q : FuncId) (vs : List V) (sc : Prop) (dst : Option Tmp) (Kn : Fr → Prop) (f : Fr) : Prop :=
 ∃ rv, (g = true → sc ∧ aj e.P q = true ∧ ((V.dats vs = true ∧ Ev e q vs rv) ∨ ∃ vs', aC e h vs vs' ∧ Ev e q vs' rv ∧ rv.plain = true)) ∧ Kn (f.put dst (V.guard g rv))
theorem pV.mk {q : FuncId} {vs vs' : List V} {dst : Option Tmp} {Kn : Fr → Prop} {f : Fr} {rv : V} (hv : Ev e q vs' rv) (h2 : aj e.P q = true) (hr : aC e h vs vs') (hp : rv.plain = true) (hk : Kn (f.put dst rv)) : pV e h true q vs True dst Kn f :=
 ⟨rv, fun _ => ⟨trivial, h2, .inr ⟨vs', hr, hv, hp⟩⟩, hk⟩
theorem mW {q : FuncId} {vs : List V} {dst : Option Tmp} {Kn : Fr → Prop} {f : Fr} {rv : V} (hv : Ev e q vs rv) (h2 : aj e.P q = true) (h3 : V.dats vs = true) (hk : Kn (f.put dst rv)) : pV e h true q vs True dst Kn f :=
 ⟨rv, fun _ => ⟨trivial, h2, .inl ⟨h3, hv⟩⟩, hk⟩
def eY (e : E) (n : Nat) (ops : Array Oper) (h : H) (Q : Fr → Prop) : List Oper → Fr → Prop
 | [], f => Q f
 | o :: rest, f =>
  match gd ops f o with
  | none => False
  | some g => jb n o.dst = true ∧
   match jl o.op with
   | true => match o.op with
    | .call { callee := .value fx, args, .. } => match kK e (f.ev e) fx args with
     | some (q, vs) => pV e h g q vs (jJ (f.ev e) fx args) o.dst (eY e n ops h Q rest) f
     | none => False
    | _ => False
   | false => goQ g (sF e.P o (f.ev e) h) o.dst (eY e n ops h Q rest) f
theorem jB {Q Q' : Fr → Prop} {tl : List Oper} (hq : ∀ f, Q f → lH e n ops h Q' tl f) : ∀ (l : List Oper) (f : Fr), (∀ o ∈ l, gz o = false) → eY e n ops h Q l f → lH e n ops h Q' (l ++ tl) f
 | [], f, _, hv => hq f hv
 | o :: rest, f, ha, hv => by
  have hal := ha o (by simp);have hr := fun f' => jB hq rest f' fun o' ho' => ha o' (by simp [ho']);simp only [eY] at hv;cases hg : gd ops f o with
  | none => rw [hg] at hv; exact hv.elim
  | some g =>
   rw [hg] at hv;obtain ⟨hd, hv⟩ := hv;cases he : jl o.op with
   | true =>
    rw [he] at hv;dsimp only at hv;split at hv
    ·rename_i fx args ts hop;split at hv
     ·rename_i q vs hon;obtain ⟨rv, h1, h2⟩ := hv;exact ⟨_, .inr ⟨hal, hd, g, rv, hg, fun hgt => by
       obtain ⟨c1, c2, c3⟩ := h1 hgt;rcases c3 with ⟨c3, c4⟩ | ⟨vs', c3, c4, c5⟩
       ·exact AQ.call hop hon c1 c2 c3 c4
       ·exact AQ.lend hop hon c1 c2 c3 c4 c5, rfl⟩, hr _ h2⟩
     ·exact hv.elim
    ·exact hv.elim
   | false => rw [he] at hv;dsimp only at hv;obtain ⟨h1, h2⟩ := hv;exact ⟨_, .inr ⟨hal, hd, g, _, hg, fun hgt => mg (h1 hgt), rfl⟩, hr _ h2⟩
theorem Nw (hm : e.P.follows .mixedOrders = true) {id : Nat} {f : Fr} (ia : Nat) (d : Tmp) (q : TI) (ha : AlOk e.P n ops ia d q) (hi : ops.size = ia + 2) (hB : UL ops = true)
 (hv : eY e n ops h (fun f1 => xg e n ops (ia + 1) (fun f' h' => Q .normal f' h') Q (f1.put (some d) (.lp h.length 0)) (h ++ [.cells q.zero.vc])) (ops.toList.take ia) f) : awp e n r (.region id ops true) Q f h := by
 intro ok pl0 w0 pl w a s;unfold UL at hB;simp only [Bool.and_eq_true, decide_eq_true_eq] at hB;obtain ⟨⟨hpos, hB1⟩, hB2⟩ := hB;have x : WExt w { w with drawn := w.drawn + 1 } := WExt.drew w;have hlen : (ops.toList.take (ops.size - 1)).length = ops.size - 1 := by rw [List.length_take]; simp
 have hpp : ∀ (f1 : Fr) (u v : V), (f1.put (some d) u).put (some d) v = f1.put (some d) v := fun f1 u v => by
  show Fr.mk (fun j => if j = d then v else if j = d then u else f1.t j) _ _ = Fr.mk (fun j => if j = d then v else f1.t j) _ _
  congr 1
  funext i
  split <;> rfl
 have hW : lH e n ops h (fun f1 => xg e n ops (ops.size - 1) (fun f' h' => Q .normal f' h') Q (f1.put (some d) (.lp h.length 0)) (h ++ [.cells q.zero.vc])) (ops.toList.take (ops.size - 1)) f := by
  obtain ⟨o, t, ho, hop, hg, hd, ht⟩ := ha.op;have hlt := (Array.getElem?_eq_some_iff.1 ho).1;have hsp : ops.toList.take (ops.size - 1) = ops.toList.take ia ++ [o] := by rw [hi, show ia + 2 - 1 = ia + 1 by omega, List.take_add_one, Array.getElem?_toList, ho]; rfl
  rw [hsp];refine jB (fun f1 hf1 => ?_) _ _ (fun o' ho' => ?_) hv
  ·refine ⟨.any, .inl ⟨by unfold gz; rw [hop], hg, by unfold jb; rw [hd]; exact decide_eq_true ha.dn, rfl⟩, ?_⟩;show xg e n ops (ops.size - 1) _ _ ((f1.put o.dst .any).put (some d) _) _;rw [hd, hpp, hi, show ia + 2 - 1 = ia + 1 by omega];exact hf1
  ·obtain ⟨j, hj, rfl⟩ := List.mem_take_iff_getElem.1 ho';have hj' : j < ops.size := by have := hj; simp at this; omega
   exact (ha.oth j _ (by rw [Array.getElem?_eq_getElem hj']; simp) (by have := hj; simp at this; omega)).1
 have hL := xq (e := e) (n := n) (h := h) (last := ops.size - 1) (ops.toList.take (ops.size - 1)) 0 (Array.replicate ops.size false) f V3 (by rw [hlen]; exact hB2) hW;rw [hlen] at hL;have := VZ (r := r) (ok := ok) (pl0 := pl0) (w0 := w0) ha hB1 _ _ _ hL sK.none (by simp) pl _ a (.inl ⟨by
  obtain ⟨o, _, ho, _⟩ := ha.op;have := (Array.getElem?_eq_some_iff.1 ho).1;simp [this], s.next0 (s.hs.wext x) (x.keeps s.hs)⟩)
 rw [show ops.size - 1 + 1 = ops.size by omega] at this;exact wpIn_region_any hm this
theorem Ny (hm : e.P.follows .mixedOrders = true) {id : Nat} {f : Fr} (tk pre : List Nat) (last : Nat) (p : Plan) (R : Fr → H → Prop) (hB : oP e.P ops tk pre last p = true)
 (hv : ∀ K : H → Fr → Prop, (∀ h' f1, eU e n ops (oM R) p f1 h' → K h' f1) → uy e n ops (oM R) (fun f h' => eY e n ops h' (K h') (wK ops pre) f) tk f h) (hk : ∀ f h, R f h → Q .normal f h) : awp e n r (.region id ops true) Q f h := by
 intro ok pl0 w0 pl w a s;have hv := hv _ fun h' f1 h => h;unfold oP at hB;simp only [Bool.and_eq_true, Bool.not_eq_true', decide_eq_true_eq] at hB;obtain ⟨⟨⟨⟨⟨⟨⟨b1, b2⟩, b3⟩, b4⟩, b5⟩, b6⟩, b7⟩, b8⟩ := hB;have hna : ∀ (j : Nat) (o : Oper), ops[j]? = some o → gz o = false := fun j o ho => by
  have h1 := Array.all_eq_true.1 b1;obtain ⟨hl, rfl⟩ := Array.getElem?_eq_some_iff.1 ho;simpa using h1 j hl
 have hl : last ∉ tk ∧ last ∉ pre := ⟨by simpa using b6.1, by simpa using b6.2⟩;have x : WExt w { w with drawn := w.drawn + 1 } := WExt.drew w;obtain ⟨c1, c2, c3, c4⟩ := uz (ops := ops) (tk := tk) tk (Array.replicate ops.size false) b3 sK.none (by simp) (fun i hi hni => absurd hi hni) (fun i hi => by
  rcases Nat.lt_or_ge i ops.size with h' | h' <;> simp [h']) (fun i hi => hi)
 have li : LI ops tk pre last (mV (Array.replicate ops.size false) tk) := ⟨c1, c2, c3, fun i h1 _ => c4 i h1⟩;have hQ : ∀ v f h, ¬ oM R (.pan v) f h := fun v f h hh => hh;have := yO (r := r) (ok := ok) (pl0 := pl0) (w0 := w0) (n := n) (e := e) (Q := oM R) (fuel := ops.size - tk.length - pre.length + pre.length) hQ b2 tk (Array.replicate ops.size false) f h b3 hv (fun f h pl w a hK s => by
  have hL := oO (e := e) (n := n) (h := h) pre (mV (Array.replicate ops.size false) tk) f b4 (by
   have := jB (tl := []) (fun f hf => hf) _ _ (fun o ho => ?_) hK
   ·rw [List.append_nil] at this; exact this
   ·unfold wK at ho;obtain ⟨j, _, hj⟩ := List.mem_filterMap.1 ho;exact hna j o hj)
  exact UM (r := r) hna hQ b2 b5 hl b7 _ _ _ hL li pl w a s) pl _ a (s.next0 (s.hs.wext x) (x.keeps s.hs))
 rw [show ops.size - tk.length - pre.length + pre.length + tk.length = ops.size by omega] at this;refine wpIn_mono (wpIn_region_any hm this) ?_;rintro ex a' w' ⟨pl', f', h', xe, s', hx, hq⟩;cases xe <;> first
  | exact ⟨pl', f', h', _, s', hx, hk _ _ hq⟩
  | exact hq.elim
theorem BD (hm : e.P.follows .mixedOrders = true) {id : Nat} {f : Fr} (last : Nat) (p : Plan) (R : Fr → H → Prop) (hB : oP e.P ops [] (List.range last) last p = true)
 (hv : ∀ K : Fr → Prop, (∀ f1, eU e n ops (oM R) p f1 h → K f1) → eY e n ops h K (ops.toList.take last) f) (hk : ∀ f h, R f h → Q .normal f h) : awp e n r (.region id ops true) Q f h :=
 Ny hm [] (List.range last) last p R hB (fun K hK => by
  show eY e n ops h (K h) (wK ops (List.range last)) f;rw [oQ];exact hv _ fun f1 h => hK _ f1 h) hk
theorem BF {c : Code} {f : Fr} (id j : Nat) (v : V) (hj : (f.t j).drop (fun i => !(i == id)) = f.t j) (hr : aG e (uh (· == id) 0 h) (f.t j) v) (hd : f.d = [])
 (hw : awp e n r c Q { f with t := fun i => if i = j then v else (f.t i).drop (· == id), k := fun i => f.k i || (i == id) } (nT (· == id) 0 h)) : awp e n r c Q f h := by
 refine F5 (· == id) _ (fun i => ?_) (by rw [hd]; simp) hw;by_cases hi : i = j
 ·subst hi;exact .inr ⟨hj, by rw [if_pos rfl]; exact hr⟩
 ·exact .inl (by rw [if_neg hi])
end
section
variable {P : Program} {w : World}
end
section
variable {e : E} {n : Nat} {r : Option Nat} {o : Oper} {f : Fr} {h : H} {Kn : Fr → H → Prop} {Q : XE → Fr → H → Prop}
end
end Go.Abs
