/- Lemmas for this claim, part F15: each holds under what it names. -/
import Derived.Test.YtfcpapokknfeeaaGreatDoorF14
import Derived.Test.YtfcpapokknfeeaaGreatDoorA10
import Derived.Test.YtfcpapokknfeeaaGreatDoorF09
import Derived.Test.YtfcpapokknfeeaaGreatDoorF07
import Derived.Test.YtfcpapokknfeeaaGreatDoorF03
import Derived.Test.YtfcpapokknfeeaaGreatDoorF08
set_option linter.unusedVariables false
set_option linter.unusedSimpArgs false
set_option linter.unnecessarySimpa false
set_option maxRecDepth 100000
set_option maxHeartbeats 8000000
namespace Go.Proofs.YtfcpapokknfeeaaGreatDoor
open Go Go.Proofs Go.Abs Go.RowKit
theorem Hw (b : Nat) (w : World) (c1 : w.drew.cell? ⟨b,1,none⟩ = some (.slice none 0 0)) :
 Calls Tryz.prog 29 #[.pointer (some ⟨b,0,none⟩)] w fun e w' => e = .returned (.string ⟨#[]⟩) ∧ w' = w.drew := by
 have hSD : (Builtin.unsafeSliceData_ #[55] 126 #[.slice none 0 0]).run Tryz.prog w.drew = .ok (.pointer none) w.drew :=
  Lib.run_unsafeSliceData_nil w.drew _ _ _ _
 have hUS : (Builtin.unsafeString_ #[126,3] 9 #[.pointer none,.int .i64 0]).run Tryz.prog w.drew = .ok (.string .empty) w.drew :=
  Lib.run_unsafeString_none w.drew 126 3 9 none
 go_enter Tryz.func29,Tryz.ntmps29
 go_wp2
 go_region
 all_goals (go_wp2;go_ret;exact ⟨rfl,rfl⟩)
theorem KY {T id : Nat} {a : V} {h : H} {R : AEnd → H → (Nat → Bool) → Prop} (hh : h[id]? = some (.typed T [a,.nils])) (hr : R (.ret (.str [])) h (fun _ => false)) : ah TE 29 [.lp id 0] h R := by
 intro ok pl w vs hs hv;simp only [VList,VRel] at hv;obtain ⟨y,ys,rfl,⟨b,hpb,rfl⟩,rfl⟩ := hv;have hpb : pl id = some b := hpb;obtain ⟨o,ho,hat⟩ := hs.obj id b hpb;rw [hh] at ho;cases ho;obtain ⟨arr,fz,g1,g2,g3,g4⟩ := hat;have g1 : w.heap[b]? = some (.cells arr T fz) := g1;obtain ⟨x1,e1,r1⟩ := VList.get 1 .nils g4 rfl;have e1 : arr[1]? = some x1 := by
  rw [List.getElem?_take_of_lt (by simp)] at e1;simpa using e1
 simp only [VRel] at r1;have hcell : w.drew.cell? ⟨b,1,none⟩ = some (.slice none 0 0) := by
  rw [Lib.cell_of_heap (w := w.drew) g1,e1,r1]
 refine (Hw b w hcell).mono ?_;rintro en w' ⟨rfl,rfl⟩;have x : WExt w w.drew := WExt.drew w;exact ⟨fun _ => false,pl,h,.ret (.str []),hs.wext x,x.keeps hs,by show VRel _ _ _;simp only [VRel];exact ⟨_,rfl,by simp,by decide⟩,hr⟩
def tH (mb : O) : S → H
 | [] => [mb,.typed 59 [.nilp,.nils]]
 | c :: s => [mb,.typed 59 [.lp 1 0,.ls 2 1 0 (c :: s).length (c :: s).length],.typed 5 ((c :: s).map vb)]
theorem Wv {mb : O} (hm : mb.drop (· == 2) = mb) {out s : S} (hs : s ≠ []) (hl : out.length + s.length ≤ 20000000000000) {R : AEnd → H → (Nat → Bool) → Prop} (hr : R (.ret (.tup [vi s.length,.nili])) (tH mb (out ++ s)) (· == 2)) : ah TE 27 [.lp 1 0,.str s] (tH mb out) R := by
 refine ah.kp (· == 2) ?_;cases out with
 | nil =>
  refine qM lI s (.inl rfl) rfl hs (by simpa using hl) ⟨fun j hj => (by cases hj),?_⟩;cases s with
  | nil => exact absurd rfl hs
  | cons c s => exact hr
 | cons c out =>
  refine uB lI (c :: out) s (.inr rfl) (by decide) rfl rfl hl ⟨fun j hj => hj,?_⟩;have e : (((tH mb (c :: out)).map (O.drop (· == 2))).set 2 (O.typed 5 ((c :: out ++ s).map vb))).set 1 (.typed 59 [.lp 1 0,.ls 2 1 0 (c :: out ++ s).length (c :: out ++ s).length]) = tH mb (c :: out ++ s) := by
   simp only [tH,List.map_cons,List.map_nil,hm,List.set_cons_succ,List.set_cons_zero,List.cons_append]
  rw [e];exact hr
theorem zaI {mb : O} {out : S} (hl : out.length ≤ 20000000000000) {R : AEnd → H → (Nat → Bool) → Prop} (hr : ∀ h',h'[0]? = some (mb.drop (· == 2)) ∨ h'[0]? = some mb → R (.ret (.str out)) h' (· == 2)) : ah TE 29 [.lp 1 0] (tH mb out) R := by
 refine ah.kp (· == 2) ?_;cases out with
 | nil => exact KY (a := .nilp) (T := 59) rfl ⟨fun j hj => (by cases hj),hr _ (.inr rfl)⟩
 | cons c out => exact Bi (c :: out) rfl rfl (by simp) hl ⟨fun j hj => hj,hr _ (.inl rfl)⟩
def nmL (c : UInt8) (i : Nat) (s : S) : S := c :: (Lib.itoa i ++ 32 :: (s ++ [10]))
def nmP (c : UInt8) (l : List S) (i : Nat) : S := (List.range i).flatMap fun j => nmL c j (l.getD j [])
theorem Wx {c : UInt8} {l : List S} {i : Nat} (h : i < l.length) : nmP c l (i + 1) = nmP c l i ++ nmL c i l[i] := by unfold nmP;rw [List.range_succ,List.flatMap_append,List.flatMap_singleton,aG h]
theorem zaJ {c : UInt8} : ∀ (l : List S) (b : Nat),nmT c b l = (List.range l.length).flatMap fun j => nmL c (b + j) (l.getD j [])
 | [],b => rfl
 | s :: l,b => by unfold nmT;rw [zaJ l (b + 1),List.length_cons,List.range_succ_eq_map,List.flatMap_cons,List.flatMap_map];simp [nmL,Nat.add_assoc,Nat.add_comm 1]
theorem TW {c : UInt8} (l : List S) : nmT c 0 l = nmP c l l.length := by rw [zaJ];simp [nmP]
def ltr (k : Nat) : UInt8 := [(105 : UInt8),108,111].getD k 0
def ql (L : List (List S)) (k : Nat) : S := (List.range k).flatMap fun j => nmT (ltr j) 0 (L.getD j [])
theorem NH {L : List (List S)} {k : Nat} (h : k < L.length) : ql L (k + 1) = ql L k ++ nmT (ltr k) 0 L[k] := by unfold ql;rw [List.range_succ,List.flatMap_append,List.flatMap_singleton,aG h]
theorem TY (m : Mo) : ql [m.ins,m.lat,m.out] 3 = mr m := by simp [ql,mr,ltr,List.range_succ]
theorem zaK {c : UInt8} {l : List S} {i : Nat} (h : i ≤ l.length) : (nmP c l i).length ≤ (nmT c 0 l).length := by rw [TW];unfold nmP;obtain ⟨n,hn⟩ : ∃ n,l.length = i + n := ⟨l.length - i,by omega⟩;rw [hn,List.range_add,List.flatMap_append,List.length_append];omega
theorem Wy {L : List (List S)} {k : Nat} (h : k ≤ L.length) : (ql L k).length ≤ (ql L L.length).length := by unfold ql;obtain ⟨n,hn⟩ : ∃ n,L.length = k + n := ⟨L.length - k,by omega⟩;rw [hn,List.range_add,List.flatMap_append,List.length_append];omega
theorem YV {L : List (List S)} {k : Nat} (h : k < L.length) : ((L.map aT).getD k .any) = aT L[k] := by simp [List.getD_eq_getElem?_getD,h]
theorem YW {l : List S} {k : Nat} (h : k < l.length) : ((l.map V.str).getD k .any) = V.str l[k] := by simp [List.getD_eq_getElem?_getD,h]
theorem TZ {k : Nat} (h : k < 3) : (([105,108,111,98,99] : S).drop k).take (k + 1 - k) = [ltr k] := by
 rcases k with _|_|_|k
 ·rfl
 ·rfl
 ·rfl
 ·omega
def XL : Plan := .take 0 <| .take 1 <| .take 2 <| .take 3 <| .take 4 <| .take 5 <| .take 6 <| .take 7 <| .take 11 <| .one 8 <| .one 9 <| .one 10 <| .one 12 <| .one 13 <| .one 14 <| .fin
theorem Ua (m : Mo) (hb1 : m.ins.length ≤ 100000) (hb2 : m.lat.length ≤ 100000) (hb3 : m.out.length ≤ 100000) (ht : (mr m).length ≤ 10000000000000) : Ev TE 11 [m.v] (.str (mr m)) := by
 have hM : maxLen = 9223372036854775807 := rfl;obtain ⟨L,hL⟩ : ∃ L,L = [m.ins,m.lat,m.out] := ⟨_,rfl⟩;have hL3 : L.length = 3 := by rw [hL];rfl
 have hLb : ∀ l ∈ L,l.length ≤ 100000 := by rw [hL];intro l hl;simp at hl;rcases hl with rfl | rfl | rfl <;> assumption
 have hrow : ql L L.length = mr m := by rw [hL3,hL];exact TY m
 have hLm : [aT m.ins,aT m.lat,aT m.out] = L.map aT := by rw [hL];rfl
 obtain ⟨mb,hmb⟩ : ∃ mb : O,mb = .cells (vi m.g.ins :: aH m.g.next :: aH m.g.init :: prs m.g.ands :: aH m.g.outs :: L.map aT) := ⟨_,rfl⟩;have hmd : mb.drop (· == 2) = mb := by rw [hmb,hL];rfl
 rw [← hrow] at ht ⊢;refine aA Tryz.func11 rfl (by simp [nts]) ?_;refine ag (vm ?_);simp only [wq.1,seval,Tryz.results11];refine ag (fB ?_);refine ay rfl rfl ?_;simp only [wq.1];refine bW rfl rfl ?_;refine Iw rfl (by simp only [wq.1,↓reduceIte]) (by simp only [wq.1,↓reduceIte]) ?_;simp only [wq.1,↓reduceIte];refine ay rfl rfl ?_;simp only [wq.1,↓reduceIte];refine bT ?_;simp only [wq.1];refine ag ?_;refine ag ?_;refine vm ?_;simp only [wq.1,↓reduceIte,Nat.reduceEqDiff,Nat.reduceLT,Nat.reduceLeDiff,Nat.reduceAdd,reduceCtorEq,Nat.reduceMul];rw [hLm,← hmb];refine ⟨⟨rfl,by decide⟩,?_⟩;refine az ?_;refine aF (fun mm f h' => ∃ k,mm + k = L.length ∧ f.t 3 = .lp 1 0 ∧ f.t 16 = .is true 1 (L.map aT) ∧ f.t 17 = vi L.length ∧ f.t 18 = vi k ∧ f.d = [] ∧ h' = tH mb (ql L k)) L.length ⟨0,by simp,by simp only [wq.1,seval],by simp only [wq.1,seval],by rw [hL3];rfl,rfl,rfl,rfl⟩ ?_;rintro mm f h' ⟨k,hm,h3,h16,h17,h18,hd,rfl⟩;refine ag (vm ?_);simp only [wq.1,Nat.reduceLT,h17,h18];refine ag (vm ?_);simp only [wq.1,↓reduceIte];refine vcB.mk (fun hlt => ?_) (fun hlt => ?_)
 ·simp only [decide_eq_true_eq,Int.ofNat_lt] at hlt;have hgk := YV hlt;have hlk := hLb _ (List.getElem_mem hlt);have hk3 : k < 3 := by omega
  have hrk := Wy (L := L) (k := k + 1) (by omega);have hsk := NH hlt;obtain ⟨l,hl⟩ : ∃ l,l = L[k] := ⟨_,rfl⟩;rw [← hl] at hgk hlk hsk;refine ag (az ?_);refine ag (vm ?_);simp only [wq.1,seval,h16,h18,hgk];refine ⟨⟨by omega,by omega⟩,?_⟩;refine ag ?_;refine vm ?_;simp only [wq.1,seval];refine az ?_;refine aF (fun m2 f h' => ∃ i,m2 + i = l.length ∧ f.t 3 = .lp 1 0 ∧ f.t 4 = vi k ∧ f.t 16 = .is true 1 (L.map aT) ∧ f.t 17 = vi L.length ∧ f.t 18 = vi k ∧ f.t 23 = aT l ∧ f.t 24 = vi l.length ∧ f.t 25 = vi i ∧ f.d = [] ∧ h' = tH mb (ql L k ++ nmP (ltr k) l i)) l.length ⟨0,by simp,by simp only [wq.1,seval,h3],by simp only [wq.1,seval],by simp only [wq.1,seval,h16],by simp only [wq.1,seval,h17],by simp only [wq.1,seval,h18],by simp only [wq.1,seval],by simp only [wq.1,seval],rfl,by simp only [wq.1,hd],by simp [nmP]⟩ ?_;rintro m2 f h' ⟨i,hm2,h3,h4,h16,h17,h18,h23,h24,h25,hd,rfl⟩;refine ag (vm ?_);simp only [wq.1,Nat.reduceLT,h24,h25];refine ag (vm ?_);simp only [wq.1,↓reduceIte];refine vcB.mk (fun hlt2 => ?_) (fun hlt2 => ?_)
  ·simp only [decide_eq_true_eq,Int.ofNat_lt] at hlt2;have hgi := YW hlt2;have hni := zaK (c := ltr k) (l := l) (i := i + 1) hlt2;have hsi := Wx (c := ltr k) hlt2;have hw := ax (show i < maxLen by omega);have hwk := ax (show k < maxLen by omega);have hlen : (ql L k ++ nmP (ltr k) l i).length + (nmL (ltr k) i l[i]).length ≤ 10000000000000 := by
    have e1 := congrArg List.length hsi;have e2 := congrArg List.length hsk;rw [List.length_append] at e1 e2 ⊢;omega
   refine ag (az ?_);refine ag (vm ?_);simp only [wq.1,seval,h23,h25,hgi];refine ⟨⟨by omega,by omega⟩,?_⟩;refine bu mixed XL (fun f' h' => f'.t 3 = .lp 1 0 ∧ f'.t 4 = vi k ∧ f'.t 16 = .is true 1 (L.map aT) ∧ f'.t 17 = vi L.length ∧ f'.t 18 = vi k ∧ f'.t 23 = aT l ∧ f'.t 24 = vi l.length ∧ f'.t 25 = vi i ∧ f'.d = [] ∧ h' = tH mb (ql L k ++ nmP (ltr k) l (i + 1))) (by decide +kernel) (by decide +kernel) ?_ ?_
   ·simp only [wq.1,seval,XL,h3,h4,hwk,TZ hk3];refine ⟨⟨by omega,by omega,by omega⟩,ah.ev (vX (i : Int) (by omega) (by omega)) rfl ?_⟩;simp only [wq.1,seval];have hil := oJ (i : Int) (by omega) (by omega);have hll : l[i].length ≤ 10000000000000 := by
     rw [List.length_append] at hlen;simp only [nmL,List.length_cons,List.length_append] at hlen;omega
    have en : (ltr k :: (Lib.itoa (i : Int) ++ [32] ++ l[i] ++ [10]) : S) = nmL (ltr k) i l[i] := by simp [nmL]
    rw [en];refine ⟨by omega,by omega,by omega,by omega,Wv hmd (by simp [nmL]) (by omega) ?_⟩;rw [show ql L k ++ nmP (ltr k) l i ++ nmL (ltr k) i l[i] = ql L k ++ nmP (ltr k) l (i + 1) by rw [hsi,List.append_assoc]];simp only [wq.1,seval,bg,h3,h4,h16,h17,h18,h23,h24,h25,hd]
   ·rintro f h' ⟨h3,h4,h16,h17,h18,h23,h24,h25,hd,rfl⟩;simp only [wq.1];refine vm ?_;simp only [wq.1,seval,h25,hw];exact .inl ⟨m2 - 1,by omega,i + 1,by omega,by simp only [wq.1,seval,h3],by simp only [wq.1,seval,h4],by simp only [wq.1,seval,h16],by simp only [wq.1,seval,h17],by simp only [wq.1,seval,h18],by simp only [wq.1,seval,h23],by simp only [wq.1,seval,h24],rfl,hd,rfl⟩
  ·simp only [decide_eq_false_iff_not,Int.ofNat_lt] at hlt2;have hi : i = l.length := by omega
   subst hi;have hw := ax (show k < maxLen by omega);rw [← TW,← hsk];simp only [wq.1];refine vm ?_;simp only [wq.1,seval,h18,hw];exact .inl ⟨mm - 1,by omega,k + 1,by omega,by simp only [wq.1,seval,h3],by simp only [wq.1,seval,h16],by simp only [wq.1,seval,h17],rfl,hd,rfl⟩
 ·simp only [decide_eq_false_iff_not,Int.ofNat_lt] at hlt;have hk : k = L.length := by omega
  subst hk;simp only [wq.1];refine ag (vm ?_);simp only [wq.1,seval,h3];refine zaI (by omega) (fun h' _ => ?_);simp only [wq.1,seval,bg,hd];refine vm ?_;simp only [wq.1,↓reduceIte,hd];exact aC.dat rfl
theorem gz {l : Cl} (hl : ∀ n ∈ l,0 ≤ n ∧ n ≤ 2147483647) : (lnT l).length ≤ 11 * l.length + 1 := by have := Hu hl l.length (Nat.le_refl _);rw [zaH,List.length_append,List.length_singleton];omega
theorem ja {f : Nat → S} {n : Nat} : (List.range (n + 1)).flatMap f = (List.range n).flatMap f ++ f n := by rw [List.range_succ,List.flatMap_append,List.flatMap_singleton]
theorem jR {f : Nat → S} {c n : Nat} (h : ∀ i,i < n → (f i).length ≤ c) : ∀ i,i ≤ n → ((List.range i).flatMap f).length ≤ c * i
 | 0,_ => by simp
 | i + 1,hi => by have := jR h i (by omega);have := h i (by omega);rw [ja,List.length_append,Nat.mul_succ];omega
def tB1 (g : Gr) : S := [97,97,103,32] ++ lnT (cu g)
def tBI (g : Gr) (i : Nat) : S := tB1 g ++ Xw i
def tBL (g : Gr) (i : Nat) : S := tBI g g.ins.toNat ++ BD g i
def tBO (g : Gr) (i : Nat) : S := tBL g g.next.length ++ oZ g.outs i
def tBA (g : Gr) (i : Nat) : S := tBO g g.outs.length ++ BF g i
theorem zaL (g : Gr) : tBA g g.ands.length = Ei g := by simp [tBA,tBO,tBL,tBI,tB1,Ei]
theorem WA (g : Gr) (i : Nat) : tBI g (i + 1) = tBI g i ++ lnT [2 * ((i : Int) + 1)] := by unfold tBI Xw;rw [ja,List.append_assoc]
theorem WB (g : Gr) (i : Nat) : tBL g (i + 1) = tBL g i ++ lnT (Nk g i) := by unfold tBL BD;rw [ja,List.append_assoc]
theorem WC (g : Gr) (i : Nat) : tBO g (i + 1) = tBO g i ++ lnT [g.outs.getD i 0] := by unfold tBO oZ;rw [ja,List.append_assoc]
theorem WE (g : Gr) (i : Nat) : tBA g (i + 1) = tBA g i ++ lnT [2 * (g.first + (i : Int)),(g.ands.getD i (0,0)).1,(g.ands.getD i (0,0)).2] := by unfold tBA BF;rw [ja,List.append_assoc]
structure GSm (g : Gr) : Prop where
 i0 : 0 ≤ g.ins
 i2 : g.ins + g.next.length + g.ands.length ≤ 4000
 i3 : g.outs.length ≤ 4000
 hil : g.init.length = g.next.length
 hin : ∀ a ∈ g.init,0 ≤ a ∧ a ≤ 2
 nx : ∀ a ∈ g.next,0 ≤ a ∧ a ≤ 10000
 ou : ∀ a ∈ g.outs,0 ≤ a ∧ a ≤ 10000
 an : ∀ i (h : i < g.ands.length),0 ≤ g.ands[i].1 ∧ g.ands[i].1 ≤ 10000 ∧ 0 ≤ g.ands[i].2 ∧ g.ands[i].2 ≤ 10000
theorem GSm.of {g : Gr} (hg : g.chk = 0) : GSm g := by
 obtain ⟨_,i0,i1,i2,i3,i4,i5⟩ := bf hg;obtain ⟨r1,r2,r3,r4⟩ := dB i4;have wf : g.first = 1 + g.ins + g.next.length := rfl
 have wa : g.all = 2 * (g.first + g.ands.length) := rfl;exact ⟨i0,i2,by omega,r1,r2,fun a ha => by have := r3 a ha;omega,fun a ha => by have := r4 a ha;omega,fun i hi => by
  obtain ⟨o1,o2,o3,o4⟩ := dY i5 hi;omega⟩
theorem GSm.head {g : Gr} (s : GSm g) : ∀ n ∈ cu g,0 ≤ n ∧ n ≤ 2147483647 := fun n hn => by
 have := s.i0;have := s.i2;have := s.i3;have wf : g.first = 1 + g.ins + g.next.length := rfl
 simp only [cu,List.mem_cons,List.not_mem_nil,or_false] at hn;omega
theorem GSm.in1 {g : Gr} (s : GSm g) {i : Nat} (h : i < g.ins.toNat) : ∀ n ∈ [2 * ((i : Int) + 1)],0 ≤ n ∧ n ≤ 2147483647 := fun n hn => by have := s.i2;simp only [List.mem_singleton] at hn;omega
theorem GSm.la {g : Gr} (s : GSm g) {i : Nat} (h : i < g.next.length) : (∀ n ∈ Nk g i,0 ≤ n ∧ n ≤ 2147483647) ∧ (Nk g i).length ≤ 3 := by
 have := s.i0;have := s.i2;have h1 := s.nx _ (List.getElem_mem h);rw [← aG (d := (0 : Int)) h] at h1;unfold Nk;refine ⟨fun n hn => ?_,?_⟩
 ·rw [List.mem_cons,List.mem_cons] at hn;rcases hn with hn | hn | hn
  ·omega
  ·omega
  ·split at hn
   ·simp at hn
   ·split at hn
    ·simp at hn;omega
    ·simp at hn;omega
 ·split
  ·simp
  ·split <;> simp
theorem GSm.o1 {g : Gr} (s : GSm g) {i : Nat} (h : i < g.outs.length) : ∀ n ∈ [g.outs.getD i 0],0 ≤ n ∧ n ≤ 2147483647 := fun n hn => by have h1 := s.ou _ (List.getElem_mem h);rw [← aG (d := (0 : Int)) h] at h1;simp only [List.mem_singleton] at hn;omega
theorem GSm.a1 {g : Gr} (s : GSm g) {i : Nat} (h : i < g.ands.length) : ∀ n ∈ [2 * (g.first + (i : Int)),(g.ands.getD i (0,0)).1,(g.ands.getD i (0,0)).2],0 ≤ n ∧ n ≤ 2147483647 := fun n hn => by
 have := s.i0;have := s.i2;have h1 := s.an i h;rw [← aG (d := ((0,0) : Pr)) h] at h1;have wf : g.first = 1 + g.ins + g.next.length := rfl
 simp only [List.mem_cons,List.not_mem_nil,or_false] at hn;omega
theorem GSm.lens {g : Gr} (s : GSm g) : (tB1 g).length ≤ 100 ∧ (∀ i,i ≤ g.ins.toNat → (tBI g i).length ≤ 200000) ∧ (∀ i,i ≤ g.next.length → (tBL g i).length ≤ 400000) ∧ (∀ i,i ≤ g.outs.length → (tBO g i).length ≤ 600000) ∧ (∀ i,i ≤ g.ands.length → (tBA g i).length ≤ 800000) := by
 have := s.i0;have := s.i2;have := s.i3;have z0 : (tB1 g).length ≤ 100 := by have := gz s.head;unfold tB1;rw [List.length_append];simp only [cu,List.length_cons,List.length_nil] at this ⊢;omega
 have z1 : ∀ i,i ≤ g.ins.toNat → (tBI g i).length ≤ 200000 := fun i hi => by have := jR (f := fun i : Nat => lnT [2 * ((i : Int) + 1)]) (c := 12) (n := g.ins.toNat) (fun i hi => gz (s.in1 hi)) i hi;unfold tBI Xw;rw [List.length_append];omega
 have z2 : ∀ i,i ≤ g.next.length → (tBL g i).length ≤ 400000 := fun i hi => by have := jR (f := fun i : Nat => lnT (Nk g i)) (c := 34) (n := g.next.length) (fun i hi => by have := gz (s.la hi).1;have := (s.la hi).2;omega) i hi;have := z1 g.ins.toNat (Nat.le_refl _);unfold tBL BD;rw [List.length_append];omega
 have z3 : ∀ i,i ≤ g.outs.length → (tBO g i).length ≤ 600000 := fun i hi => by
  have := jR (f := fun i : Nat => lnT [g.outs.getD i 0]) (c := 12) (n := g.outs.length) (fun i hi => gz (s.o1 hi)) i hi;have := z2 g.next.length (Nat.le_refl _)
  unfold tBO oZ;rw [List.length_append];omega
 have z4 : ∀ i,i ≤ g.ands.length → (tBA g i).length ≤ 800000 := fun i hi => by have := jR (f := fun i : Nat => lnT [2 * (g.first + (i : Int)),(g.ands.getD i (0,0)).1,(g.ands.getD i (0,0)).2]) (c := 34) (n := g.ands.length) (fun i hi => gz (s.a1 hi)) i hi;have := z3 g.outs.length (Nat.le_refl _);unfold tBA BF;rw [List.length_append];omega
 exact ⟨z0,z1,z2,z3,z4⟩
abbrev mbO (m : Mo) : O := .cells [vi m.g.ins,aH m.g.next,aH m.g.init,prs m.g.ands,aH m.g.outs,aT m.ins,aT m.lat,aT m.out]
abbrev gbO (g : Gr) : O := .cells [vi g.ins,aH g.next,aH g.init,prs g.ands,aH g.outs]
abbrev hP (m : Mo) (out : S) (X : H) : H := mbO m :: gbO m.g :: .typed 59 [.lp 2 0,.ls 3 1 0 out.length out.length] :: .typed 5 (out.map vb) :: X
def NI (X : H) : Prop := ∀ o ∈ X,∀ p,o.drop p = o
theorem zbj {m : Mo} {X : H} (hX : NI X) : WOk 2 3 (mbO m :: gbO m.g :: .dead :: .dead :: X) where
 ne := by decide
 l1 := by simp
 l2 := by simp
 cl := fun j o ho h1 h2 => by
  rcases j with _|_|_|_|j
  ·obtain rfl := Option.some.inj ho;rfl
  ·obtain rfl := Option.some.inj ho;rfl
  ·exact absurd rfl h1
  ·exact absurd rfl h2
  ·exact hX o (List.mem_of_getElem? (show X[j]? = some o from ho)) _
theorem jS {m : Mo} {out : S} {X : H} {l : Cl} {ex : Bool} {R : AEnd → H → (Nat → Bool) → Prop} (hX : NI X) (hl : ∀ n ∈ l,0 ≤ n ∧ n ≤ 2147483647) (hlen : out.length + 11 * l.length + 1 ≤ 20000000000000)
 (hr : R (.ret (.tup [])) (hP m (out ++ lnT l) X) (· == 3)) : ah TE 28 [.lp 2 0,.is ex 1 (l.map vi)] (hP m out X) R :=
 NG (zbj hX) hl hlen hr
theorem xA {c : UInt8} : ∀ (l : List S) (b : Nat),(∀ x ∈ l,x.length ≤ 40) → b + l.length ≤ 100000 → (nmT c b l).length ≤ 60 * l.length
 | [],b,_,_ => by simp [nmT]
 | s :: l,b,h,hb => by rw [List.length_cons] at hb;have h1 := xA (c := c) l (b + 1) (fun x hx => h x (by simp [hx])) (by omega);have h2 := h s (by simp);have h3 := oJ (b : Int) (by omega) (by omega);simp only [nmT,List.length_cons,List.length_append];omega
theorem lJ {s : S} (h : iP s = true) : s.length ≤ 40 := by unfold iP at h;simp only [Bool.and_eq_true,decide_eq_true_eq] at h;exact h.2.2
theorem KZ (n : Mo) (h1 : n.ins.length ≤ 10000) (h2 : n.lat.length ≤ 10000) (h3 : n.out.length ≤ 10000) (h : ∀ x,x ∈ n.ins ∨ x ∈ n.lat ∨ x ∈ n.out → iP x = true) : (mr n).length ≤ 2000000 := by have a1 := xA (c := 105) n.ins 0 (fun x hx => lJ (h x (.inl hx))) (by omega);have a2 := xA (c := 108) n.lat 0 (fun x hx => lJ (h x (.inr (.inl hx)))) (by omega);have a3 := xA (c := 111) n.out 0 (fun x hx => lJ (h x (.inr (.inr hx)))) (by omega);simp only [mr,List.length_append];omega
def XM : Plan := .take 0 <| .take 1 <| .take 2 <| .alt 3 (.one 4 <| .one 5 <| .one 6 <| .take 7 <| .take 8 <| .fin) (.one 4 (.one 3 <| .one 5 <| .one 6 <| .take 7 <| .take 8 <| .fin))
theorem WF (m : Mo) (hs : m.g.Sm) : Ev TE 8 [m.v] (.tup [.str (IV m).1,vi (IV m).2]) := by
 have hM : maxLen = 9223372036854775807 := rfl;have hn := yJ m hs;unfold Qd at hn;unfold IV;by_cases hc : m.chk = 0
 ·rw [if_pos hc] at hn ⊢;have hgc := (dP hc).1;have hst := Qg (g := fZ m.g) (eF (eF hgc _) _);rw [nT hgc] at hst;have gs : GSm (fZ m.g) := GSm.of (eF (eF hgc _) _);obtain ⟨n,hnm⟩ : ∃ n,n = m.norm := ⟨_,rfl⟩;rw [← hnm] at hn ⊢;have hng : fZ m.g = n.g := by rw [hnm];rfl
  rw [hng] at hst gs;have hls : (m.ins.length : Int) = m.g.ins ∧ (m.lat.length : Int) = m.g.next.length ∧ (m.out.length : Int) = m.g.outs.length := by
   simpa [Mo.lens,Bool.or_eq_false_iff,and_assoc] using (dP hc).2.1
  have hnm4 := jd hc;have hok := bf hgc;have ho1 := hok.i0;have ho2 := hok.i2;have ho3 := hok.i3;have hni : n.ins = m.ins ∧ n.lat = m.lat ∧ n.out = m.out := by rw [hnm];exact ⟨rfl,rfl,rfl⟩
  have bl1 : n.ins.length ≤ 10000 := by rw [hni.1];omega
  have bl2 : n.lat.length ≤ 10000 := by rw [hni.2.1];omega
  have bl3 : n.out.length ≤ 10000 := by rw [hni.2.2];omega
  have htl := KZ n bl1 bl2 bl3 (by rw [hni.1,hni.2.1,hni.2.2];exact hnm4);have g0 := gs.i0;have g2 := gs.i2;have g3 := gs.i3;have gl := gs.lens;obtain ⟨L1,L2,L3,L4,L5⟩ := gl;have wf : n.g.first = 1 + n.g.ins + n.g.next.length := rfl
  refine aA Tryz.func8 rfl (by simp [nts]) ?_;refine ag (vm ?_);simp only [wq.1,seval,Tryz.results8];refine ag (vm ?_);simp only [wq.1,seval];refine ah.ev hn rfl ?_;simp only [wq.1,seval];refine ag (vm ?_);simp only [wq.1,seval];refine ah.ev hst rfl ?_;simp only [wq.1,seval];refine ag (vm ?_);simp only [wq.1,seval];refine ag (vm ?_);simp only [wq.1,seval];refine ag (fB ?_);refine ay rfl rfl ?_;simp only [wq.1];refine bW rfl rfl ?_;refine Iw rfl (by simp only [wq.1,↓reduceIte]) (by simp only [wq.1,↓reduceIte]) ?_;simp only [wq.1,seval];refine ay rfl rfl ?_;simp only [wq.1,↓reduceIte];refine bT ?_;simp only [wq.1];refine ag (vm ?_);simp only [wq.1,seval];refine qM lI [97,97,103,32] (.inl rfl) rfl (by simp) (by simp) ?_;simp only [wq.1,Nat.reduceAdd];have w1 : IntKind.i64.wrap (1 + n.g.ins) = 1 + n.g.ins := aZ (by omega) (by omega);have w2 : IntKind.i64.wrap (1 + n.g.ins + (n.g.next.length : Int)) = n.g.first := aZ (by omega) (by omega)
  have w3 : IntKind.i64.wrap (n.g.first - 1) = n.g.first - 1 := aZ (by omega) (by omega)
  have w4 : IntKind.i64.wrap (n.g.first - 1 + (n.g.ands.length : Int)) = n.g.first - 1 + (n.g.ands.length : Int) := aZ (by omega) (by omega)
  have hPl0 : NI [] := fun o ho => by cases ho
  refine ag (vm ?_);simp only [wq.1,↓reduceIte,Nat.reduceEqDiff,Nat.reduceLT,Nat.reduceLeDiff,Nat.reduceAdd,reduceCtorEq,Nat.reduceMul,w1,w2,w3,w4];refine ⟨⟨rfl,by decide⟩,jS (m := n) (out := [97,97,103,32]) (X := []) (l := cu n.g) hPl0 gs.head (by simp [cu]) ?_⟩;obtain ⟨B1,hB1⟩ : ∃ B1,B1 = tB1 n.g := ⟨_,rfl⟩;rw [show ([97,97,103,32] ++ lnT (cu n.g) : S) = B1 by rw [hB1];rfl];simp only [wq.1,bg];refine ag ?_;refine ag ?_;refine vm ?_;simp only [wq.1,seval];refine az ?_;refine aF (fun mm f h' => ∃ i,mm + i = n.g.ins.toNat ∧ f.t 1 = .lp 0 0 ∧ f.t 5 = .lp 1 0 ∧ f.t 6 = vi n.g.first ∧ f.t 7 = .lp 2 0 ∧ f.t 66 = vi n.g.ins ∧ f.t 67 = vi i ∧ f.d = [] ∧ h' = hP n (tBI n.g i) []) n.g.ins.toNat ⟨0,by simp,by simp only [wq.1,seval],by simp only [wq.1,seval],by simp only [wq.1,seval],by simp only [wq.1,seval],by simp only [wq.1,seval],rfl,rfl,by rw [hB1];simp [tBI,Xw]⟩ ?_;rintro mm f h' ⟨i,hm,h1,h5,h6,h7,h66,h67,hd,rfl⟩;refine ag (vm ?_);simp only [wq.1,Nat.reduceLT,h66,h67];refine ag (vm ?_);simp only [wq.1,↓reduceIte];refine vcB.mk (fun hlt => ?_) (fun hlt => ?_)
  ·simp only [decide_eq_true_eq] at hlt;have hi : i < n.g.ins.toNat := by omega
   have hw := ax (show i < maxLen by omega);have hw2 : IntKind.i64.wrap (2 * ((i + 1 : Nat) : Int)) = 2 * ((i : Int) + 1) := by rw [aZ (by omega) (by omega)];omega
   have hlb := L2 i (by omega);refine ag (az ?_);refine ag (vm ?_);simp only [wq.1,↓reduceIte,Nat.reduceEqDiff,Nat.reduceLT,h67];refine vm ?_;simp only [wq.1,↓reduceIte,Nat.reduceEqDiff,Nat.reduceLT,reduceCtorEq,Nat.reduceMul,h7,hw,hw2];refine ⟨⟨rfl,by decide⟩,jS (m := n) (out := tBI n.g i) (X := []) (l := [2 * ((i : Int) + 1)]) hPl0 (gs.in1 hi) (by simp;omega) ?_⟩;rw [← WA];simp only [wq.1,bg,hd];refine vm ?_;simp only [wq.1,seval,h67,hw];exact .inl ⟨mm - 1,by omega,i + 1,by omega,by simp only [wq.1,seval,h1],by simp only [wq.1,seval,h5],by simp only [wq.1,seval,h6],by simp only [wq.1,seval,h7],by simp only [wq.1,seval,h66],rfl,by simp only [wq.1,hd],rfl⟩
  ·simp only [decide_eq_false_iff_not] at hlt;have hi : i = n.g.ins.toNat := by omega
   subst hi;clear h66 h67 hm;simp only [wq.1];refine ag ?_;refine ag ?_;refine vm ?_;simp only [wq.1,seval,h5];refine az ?_;refine aF (fun mm f h' => ∃ i,mm + i = n.g.next.length ∧ f.t 1 = .lp 0 0 ∧ f.t 5 = .lp 1 0 ∧ f.t 6 = vi n.g.first ∧ f.t 7 = .lp 2 0 ∧ f.t 78 = aH n.g.next ∧ f.t 79 = vi n.g.next.length ∧ f.t 80 = vi i ∧ f.d = [] ∧ h' = hP n (tBL n.g i) []) n.g.next.length ⟨0,by simp,by simp only [wq.1,seval,h1],by simp only [wq.1,seval,h5],by simp only [wq.1,seval,h6],by simp only [wq.1,seval,h7],by simp only [wq.1,seval],by simp only [wq.1,seval],rfl,by simp only [wq.1,hd],by simp [tBL,BD]⟩ ?_
   rintro mm f h' ⟨i,hm,h1,h5,h6,h7,h78,h79,h80,hd,rfl⟩;refine ag (vm ?_);simp only [wq.1,Nat.reduceLT,h79,h80];refine ag (vm ?_);simp only [wq.1,↓reduceIte];refine vcB.mk (fun hlt => ?_) (fun hlt => ?_)
   ·simp only [decide_eq_true_eq,Int.ofNat_lt] at hlt;have hw := ax (show i < maxLen by omega);have hg1 : (n.g.next.map vi).getD i .any = vi n.g.next[i] := xU hlt _
    have hli : i < n.g.init.length := by rw [gs.hil];exact hlt
    have hg2 : (n.g.init.map vi).getD i .any = vi n.g.init[i] := xU hli _;have hib := gs.hin _ (List.getElem_mem hli);have hlb := L3 i (by omega);have wA : IntKind.i64.wrap (1 + n.g.ins + (i : Int)) = 1 + n.g.ins + (i : Int) := aZ (by omega) (by omega);have wB : IntKind.i64.wrap (2 * (1 + n.g.ins + (i : Int))) = 2 * (1 + n.g.ins + (i : Int)) := aZ (by omega) (by omega);obtain ⟨nx,hnx⟩ : ∃ nx,nx = n.g.next[i] := ⟨_,rfl⟩
    obtain ⟨v,hv⟩ : ∃ v,v = n.g.init[i] := ⟨_,rfl⟩;obtain ⟨lit,hlit⟩ : ∃ lit,lit = 2 * (1 + n.g.ins + (i : Int)) := ⟨_,rfl⟩;have hla : Nk n.g i = lit :: nx :: (if v = 0 then [] else if v = 1 then [1] else [lit]) := by unfold Nk;rw [aG hlt,aG hli,hnx,hv,hlit]
    rw [← hnx] at hg1;rw [← hv] at hg2 hib;rw [← hlit] at wB;have hll := gs.la hlt;have hsu := WB n.g i;rw [hla] at hll hsu;refine ag (az ?_);refine ag (vm ?_);simp only [wq.1,seval,h78,h80,hg1];refine ⟨⟨by omega,by omega⟩,?_⟩;refine ag (vm ?_);simp only [wq.1,seval,-Int.reduceNatCast,-Int.reduceNatCast',ak,Tryz.results8,h1,h5,h6,h7,h78,h79,h80,hd,w1,wA,← hlit,wB];have hv3 : v = 0 ∨ v = 1 ∨ v = 2 := by omega
    have fin : ∀ (l : Cl),(∀ n ∈ l,0 ≤ n ∧ n ≤ 2147483647) → l.length ≤ 3 → tBL n.g (i + 1) = tBL n.g i ++ lnT l → ∀ {R : AEnd → H → (Nat → Bool) → Prop},R (.ret (.tup [])) (hP n (tBL n.g (i + 1)) []) (· == 3) → ah TE 28 [.lp 2 0,.is true 1 (l.map vi)] (hP n (tBL n.g i) []) R := fun l h1 h2 h3 R hr => by rw [h3] at hr;exact jS (m := n) (out := tBL n.g i) (X := []) (l := l) hPl0 h1 (by omega) hr
    rcases hv3 with hv0 | hv0 | hv0
    all_goals
     rw [hv0] at hg2 hll hsu;refine vm ?_;simp only [wq.1,↓reduceIte,Nat.reduceEqDiff,Nat.reduceLT,Nat.reduceLeDiff,Nat.reduceAdd,Nat.reduceSub,Int.reduceToNat,Nat.reduceDiv,Int.reduceLT,Int.reduceLE,Int.reduceNeg,Int.reduceBEq,Int.reduceBNe,Int.reduceAdd,Int.reduceSub,Nat.reduceBEq,reduceCtorEq,Nat.reduceMul,ak,Tryz.results8,h1,h5,h6,h7,h78,h79,h80,hd,hg2]
    ·refine ⟨⟨rfl,by decide⟩,⟨rfl,by decide⟩,⟨rfl,by decide⟩,⟨rfl,by decide⟩,⟨by omega,by omega⟩,by decide,fin [lit,nx] hll.1 hll.2 hsu ?_⟩;simp only [wq.1,bg,hd];refine vm ?_;simp only [wq.1,seval,h80,hw];exact .inl ⟨mm - 1,by omega,i + 1,by omega,by simp only [wq.1,seval,h1],by simp only [wq.1,seval,h5],by simp only [wq.1,seval,h6],by simp only [wq.1,seval,h7],by simp only [wq.1,seval,h78],by simp only [wq.1,seval,-Int.reduceNatCast,-Int.reduceNatCast',ak,Tryz.results8,h79],rfl,by simp only [wq.1,↓reduceIte,Nat.reduceEqDiff,Nat.reduceLT,Nat.reduceLeDiff,Nat.reduceAdd,Nat.reduceSub,Int.reduceToNat,Nat.reduceDiv,Int.reduceLT,Int.reduceLE,Int.reduceNeg,Int.reduceBEq,Int.reduceBNe,Int.reduceAdd,Int.reduceSub,Nat.reduceBEq,reduceCtorEq,Nat.reduceMul,ak,Tryz.results8,hd],rfl⟩
    ·refine ⟨⟨rfl,by decide⟩,⟨rfl,by decide⟩,⟨rfl,by decide⟩,⟨rfl,by decide⟩,⟨by omega,by omega⟩,by decide,fin [lit,nx,1] hll.1 hll.2 hsu ?_⟩;simp only [wq.1,bg,hd];refine vm ?_;simp only [wq.1,seval,h80,hw];exact .inl ⟨mm - 1,by omega,i + 1,by omega,by simp only [wq.1,seval,h1],by simp only [wq.1,seval,h5],by simp only [wq.1,seval,h6],by simp only [wq.1,seval,h7],by simp only [wq.1,seval,h78],by simp only [wq.1,seval,-Int.reduceNatCast,-Int.reduceNatCast',ak,Tryz.results8,h79],rfl,by simp only [wq.1,↓reduceIte,Nat.reduceEqDiff,Nat.reduceLT,Nat.reduceLeDiff,Nat.reduceAdd,Nat.reduceSub,Int.reduceToNat,Nat.reduceDiv,Int.reduceLT,Int.reduceLE,Int.reduceNeg,Int.reduceBEq,Int.reduceBNe,Int.reduceAdd,Int.reduceSub,Nat.reduceBEq,reduceCtorEq,Nat.reduceMul,ak,Tryz.results8,hd],rfl⟩
    ·refine ⟨⟨rfl,by decide⟩,⟨rfl,by decide⟩,⟨rfl,by decide⟩,⟨rfl,by decide⟩,⟨by omega,by omega⟩,by decide,fin [lit,nx,lit] hll.1 hll.2 hsu ?_⟩;simp only [wq.1,bg,hd];refine vm ?_;simp only [wq.1,seval,h80,hw];exact .inl ⟨mm - 1,by omega,i + 1,by omega,by simp only [wq.1,seval,h1],by simp only [wq.1,seval,h5],by simp only [wq.1,seval,h6],by simp only [wq.1,seval,h7],by simp only [wq.1,seval,h78],by simp only [wq.1,seval,h79],rfl,by simp only [wq.1,hd],rfl⟩
   ·simp only [decide_eq_false_iff_not,Int.ofNat_lt] at hlt;have hi : i = n.g.next.length := by omega
    subst hi;clear h78 h79 h80 hm;simp only [wq.1];refine ag ?_;refine ag ?_;refine vm ?_;simp only [wq.1,seval,h5];refine az ?_;refine aF (fun mm f h' => ∃ i,mm + i = n.g.outs.length ∧ f.t 1 = .lp 0 0 ∧ f.t 5 = .lp 1 0 ∧ f.t 6 = vi n.g.first ∧ f.t 7 = .lp 2 0 ∧ f.t 113 = aH n.g.outs ∧ f.t 114 = vi n.g.outs.length ∧ f.t 115 = vi i ∧ f.d = [] ∧ h' = hP n (tBO n.g i) []) n.g.outs.length ⟨0,by simp,by simp only [wq.1,seval,h1],by simp only [wq.1,seval,h5],by simp only [wq.1,seval,h6],by simp only [wq.1,seval,h7],by simp only [wq.1,seval],by simp only [wq.1,seval],rfl,by simp only [wq.1,hd],by simp [tBO,oZ]⟩ ?_;rintro mm f h' ⟨i,hm,h1,h5,h6,h7,h78,h79,h80,hd,rfl⟩;refine ag (vm ?_);simp only [wq.1,Nat.reduceLT,h79,h80];refine ag (vm ?_);simp only [wq.1,↓reduceIte];refine vcB.mk (fun hlt => ?_) (fun hlt => ?_)
    ·simp only [decide_eq_true_eq,Int.ofNat_lt] at hlt;have hw := ax (show i < maxLen by omega);have hg1 : (n.g.outs.map vi).getD i .any = vi (n.g.outs.getD i 0) := by rw [aG hlt];exact xU hlt _
     have hlb := L4 i (by omega);refine ag (az ?_);refine ag (vm ?_);simp only [wq.1,↓reduceIte,Nat.reduceEqDiff,Nat.reduceLT,h78,h80,hg1];refine ⟨⟨by omega,by omega⟩,?_⟩;refine vm ?_;simp only [wq.1,↓reduceIte,Nat.reduceEqDiff,Nat.reduceLT,reduceCtorEq,Nat.reduceMul,h7];refine ⟨⟨rfl,by decide⟩,jS (m := n) (out := tBO n.g i) (X := []) (l := [n.g.outs.getD i 0]) hPl0 (gs.o1 hlt) (by simp;omega) ?_⟩;rw [← WC];simp only [wq.1,bg,hd];refine vm ?_;simp only [wq.1,seval,h80,hw];exact .inl ⟨mm - 1,by omega,i + 1,by omega,by simp only [wq.1,seval,h1],by simp only [wq.1,seval,h5],by simp only [wq.1,seval,h6],by simp only [wq.1,seval,h7],by simp only [wq.1,seval,h78],by simp only [wq.1,seval,h79],rfl,by simp only [wq.1,hd],rfl⟩
    ·simp only [decide_eq_false_iff_not,Int.ofNat_lt] at hlt;have hi : i = n.g.outs.length := by omega
     subst hi;clear h78 h79 h80 hm;simp only [wq.1];refine ag ?_;refine ag ?_;refine vm ?_;simp only [wq.1,seval,h5];refine az ?_;refine aF (fun mm f h' => ∃ i X,mm + i = n.g.ands.length ∧ f.t 1 = .lp 0 0 ∧ f.t 5 = .lp 1 0 ∧ f.t 6 = vi n.g.first ∧ f.t 7 = .lp 2 0 ∧ f.t 125 = prs n.g.ands ∧ f.t 126 = vi n.g.ands.length ∧ f.t 127 = vi i ∧ f.d = [] ∧ h' = hP n (tBA n.g i) [] ++ X) n.g.ands.length ⟨0,[],by simp,by simp only [wq.1,seval,h1],by simp only [wq.1,seval,h5],by simp only [wq.1,seval,h6],by simp only [wq.1,seval,h7],by simp only [wq.1,seval],by simp only [wq.1,seval],rfl,by simp only [wq.1,hd],by simp [tBA,BF]⟩ ?_;rintro mm f h' ⟨i,X,hm,h1,h5,h6,h7,h78,h79,h80,hd,rfl⟩;have hcl : dO (hP n (tBA n.g i) []) := fun p hp => by
      have q2 := hp 2 (by show 2 < 4;decide);have q3 := hp 3 (by show 3 < 4;decide);have d2 := kC (p := p) (tBA n.g i);simp only [wq.1,↓reduceIte,O.drop,V.drops,V.drop,q2,q3,d2]
     refine eU (by rw [hd];simp) ?_;rw [hcl.from_];obtain ⟨f',hf'⟩ : ∃ f',f' = f.drop (Abs.bC (hP n (tBA n.g i) []).length) := ⟨_,rfl⟩;have u1 : f'.t 1 = .lp 0 0 := by rw [hf'];show (f.t 1).drop _ = _;rw [h1];rfl
     have u5 : f'.t 5 = .lp 1 0 := by rw [hf'];show (f.t 5).drop _ = _;rw [h5];rfl
     have u6 : f'.t 6 = vi n.g.first := by rw [hf'];show (f.t 6).drop _ = _;rw [h6];rfl
     have u7 : f'.t 7 = .lp 2 0 := by rw [hf'];show (f.t 7).drop _ = _;rw [h7];rfl
     have u78 : f'.t 125 = prs n.g.ands := by rw [hf'];show (f.t 125).drop _ = _;rw [h78];rfl
     have u79 : f'.t 126 = vi n.g.ands.length := by rw [hf'];show (f.t 126).drop _ = _;rw [h79];rfl
     have u80 : f'.t 127 = vi i := by rw [hf'];show (f.t 127).drop _ = _;rw [h80];rfl
     have ud : f'.d = [] := by rw [hf'];exact hd
     rw [← hf'];clear hf' h1 h5 h6 h7 h78 h79 h80 hd X;refine ag (vm ?_);simp only [wq.1,Nat.reduceLT,u79,u80];refine ag (vm ?_);simp only [wq.1,↓reduceIte];refine vcB.mk (fun hlt => ?_) (fun hlt => ?_)
     ·simp only [decide_eq_true_eq,Int.ofNat_lt] at hlt;have hw := ax (show i < maxLen by omega);have hg1 := nR hlt V.any;have hlb := L5 i (by omega);have wA : IntKind.i64.wrap (n.g.first + (i : Int)) = n.g.first + (i : Int) := aZ (by omega) (by omega)
      have wB : IntKind.i64.wrap (2 * (n.g.first + (i : Int))) = 2 * (n.g.first + (i : Int)) := aZ (by omega) (by omega);have hal := gs.a1 hlt;have hsu := WE n.g i;rw [aG hlt] at hal hsu;refine ag (az ?_);refine ag (vm ?_);simp only [wq.1,seval,-Int.reduceNatCast,-Int.reduceNatCast',ak,Tryz.results8,u1,u5,u6,u7,u78,u79,u80,ud,hg1];refine ⟨⟨by omega,by omega⟩,?_⟩;refine vm ?_;simp only [wq.1,↓reduceIte,Nat.reduceEqDiff,Nat.reduceLT,Nat.reduceLeDiff,Nat.reduceAdd,Nat.reduceSub,Int.reduceToNat,Nat.reduceDiv,Int.reduceLT,Int.reduceLE,Int.reduceNeg,Int.reduceBEq,Int.reduceBNe,Int.reduceAdd,Int.reduceSub,Nat.reduceBEq,reduceCtorEq,Nat.reduceMul,ak,Tryz.results8,u1,u5,u6,u7,u78,u79,u80,ud,wA,wB];refine ⟨by omega,by omega,⟨rfl,by decide⟩,jS (m := n) (out := tBA n.g i) (X := [.cells [vi n.g.ands[i].1,vi n.g.ands[i].2]]) (l := [2 * (n.g.first + (i : Int)),n.g.ands[i].1,n.g.ands[i].2]) (fun o ho p => by rw [List.mem_singleton] at ho;subst ho;rfl) hal (by simp;omega) ?_⟩;rw [← hsu];simp only [wq.1,bg,ud];refine vm ?_;simp only [wq.1,seval,u80,hw];exact .inl ⟨mm - 1,by omega,i + 1,[.cells [vi n.g.ands[i].1,vi n.g.ands[i].2]],by omega,by simp only [wq.1,seval,u1],by simp only [wq.1,seval,u5],by simp only [wq.1,seval,u6],by simp only [wq.1,seval,u7],by simp only [wq.1,seval,u78],by simp only [wq.1,seval,u79],rfl,by simp only [wq.1,ud],rfl⟩
     ·simp only [decide_eq_false_iff_not,Int.ofNat_lt] at hlt;have hi : i = n.g.ands.length := by omega
      subst hi;have hte := Ua n (by omega) (by omega) (by omega) (by omega);have htt : tBA n.g n.g.ands.length ++ mr n = qW n := by rw [zaL];rfl
      have hlb := L5 n.g.ands.length (Nat.le_refl _);have hBne : tBA n.g n.g.ands.length ≠ [] := by simp [tBA,tBO,tBL,tBI,tB1]
      obtain ⟨B,hB⟩ : ∃ B,B = tBA n.g n.g.ands.length := ⟨_,rfl⟩;simp only [wq.1];rw [← hB] at htt hlb hBne ⊢;refine ag ?_;refine bu mixed XM (fun f' h' => f'.t 2 = .str (qW n) ∧ f'.t 3 = vi 0 ∧ f'.d = []) (by decide +kernel) (by decide +kernel) ?_ ?_
      ·simp only [wq.1,seval,XM,u1,u7]
       repeat' apply And.intro
       all_goals
        refine Bi B rfl rfl hBne (by omega) ?_;simp only [wq.1,seval,bg,u1,ud];refine ah.ev hte rfl ?_;simp only [wq.1,seval,ud,htt];omega
      ·rintro f h' ⟨h2,h3,hd⟩;simp only [wq.1];refine vm ?_;simp only [wq.1,h2,h3,hd];exact aC.dat rfl
 ·rw [if_neg hc] at hn ⊢;refine aA Tryz.func8 rfl (by simp [nts]) ?_;refine ag (vm ?_);simp only [wq.1,seval,Tryz.results8];refine ag (vm ?_);simp only [wq.1,seval];refine ah.ev hn rfl ?_;simp only [wq.1,seval];have hc' : (m.chk != 0) = true := by simpa using hc
  refine ag (vm ?_);simp only [wq.1,seval,hc'];refine ⟨.bool true,?_⟩;simp only [wq.1,seval];exact aC.dat rfl
def zbt (r : RE Mo) (g1 : Int) (g2 g3 : Cl) (g4 : List (Int × Int)) (g5 : Cl) (n1 n2 n3 : List S) : Bool := match r with
 | .ok ⟨⟨a,b,c,d,e⟩,f,g,h⟩ => decide ((a : Int) = g1) && decide (b = g2) && decide (c = g3) && decide (d = g4) && decide (e = g5) && decide (f = n1) && decide (g = n2) && decide (h = n3)
 | .error _ => false
theorem YX {r : RE Mo} {g1 : Int} {g2 g3 : Cl} {g4 : List (Int × Int)} {g5 : Cl} {n1 n2 n3 : List S} (h : zbt r g1 g2 g3 g4 g5 n1 n2 n3 = true) : r = .ok ⟨⟨g1,g2,g3,g4,g5⟩,n1,n2,n3⟩ := by
 unfold zbt at h;split at h
 ·simp only [Bool.and_eq_true,decide_eq_true_eq] at h;obtain ⟨⟨⟨⟨⟨⟨⟨h1,rfl⟩,rfl⟩,rfl⟩,rfl⟩,rfl⟩,rfl⟩,rfl⟩ := h;subst h1;rfl
 ·cases h
def erB {α : Type} (r : RE α) (w : Nat) (e : Int) : Bool := match r with
 | .error (a,b) => decide (a = w) && decide (b = e)
 | .ok _ => false
theorem zaM {α : Type} {r : RE α} {w : Nat} {e : Int} (h : erB r w e = true) : r = .error (w,e) := by
 unfold erB at h;split at h
 ·simp only [Bool.and_eq_true,decide_eq_true_eq] at h;obtain ⟨rfl,rfl⟩ := h;rfl
 ·cases h
def wA : S := [97,97,103,32,48,32,48,32,48,32,49,32,48,10,49,10]
def wB : S := [97,97,103,32,51,32,49,32,49,32,49,32,49,10,50,10,52,32,55,32,52,10,54,10,54,32,50,32,52,10,105,48,32,97,10,99,10,120]
def wC : S := [97,97,103,32,49,32,49,32,48,32,48,32,48,10,51,10]
theorem YY {l : List Pr} {r : List V} (hb : V.bnds (prs l :: r)) : l.length ≤ maxLen := by simp only [V.bnds,V.bnd,List.length_map] at hb;exact hb.1.1
theorem Ub (a b : List S) : Ev TE 62 [aT a,aT b] (.bool (a == b)) := by
 refine Ev.bnd fun hb => ?_;have hlen := qL hb;refine aA Tryz.func62 rfl (by simp [nts]) (vm ?_);simp only [wq.1,seval,Tryz.results62];refine vcB.mk (fun hc => ?_) (fun hc => ?_)
 ·simp only [wq.1,seval];refine aV rfl ?_;simp only [bne_iff_ne,ne_eq,Int.natCast_inj] at hc;have : ¬ a = b := fun h => hc (by rw [h]);simp [this]
 ·have hl : a.length = b.length := by simpa [Int.natCast_inj] using hc
  simp only [wq.1,seval];refine aF (fun m f h => ∃ i,m + i = a.length ∧ f.t 0 = aT a ∧ f.t 1 = aT b ∧ f.t 12 = .int .i64 (a.length : Int) ∧ f.t 13 = .int .i64 (i : Int) ∧ f.d = [] ∧ a.take i = b.take i) a.length ⟨0,by simp,rfl,rfl,rfl,rfl,rfl,by simp⟩ ?_;rintro m f h ⟨i,hm,h0,h1,h12,h13,hd,hall⟩;refine vm ?_;simp only [wq.1,seval,h12,h13];refine vcB.mk (fun hc => ?_) (fun hc => ?_)
  ·simp only [decide_eq_true_eq,Int.ofNat_lt] at hc;have hc2 : i < b.length := by omega
   simp only [wq.1,seval,h0,h1,h13,Xd hc,Xd hc2];refine ⟨by decide +kernel,⟨by omega,by omega⟩,⟨by omega,by omega⟩,vcB.mk (fun hc => ?_) (fun hc => ?_)⟩
   ·simp only [wq.1,seval,hd];refine aV rfl ?_;have : ¬ a = b := fun h => by subst h;simp at hc
    simp [this]
   ·simp only [wq.1,seval,h13,ax (show i < maxLen by omega)];exact .inl ⟨m - 1,by omega,i + 1,by omega,h0,h1,h12,rfl,hd,Bg hall (by omega) (by omega) (by simpa using hc)⟩
  ·simp only [decide_eq_false_iff_not,Int.ofNat_lt] at hc;simp only [wq.1,seval,hd];refine aV rfl ?_;rw [List.take_of_length_le (by omega),List.take_of_length_le (by omega)] at hall;simp [hall]
theorem zaN (a b : List Pr) : Ev TE 111 [prs a,prs b] (.bool (a == b)) := by
 refine Ev.bnd fun hb => ?_;have hlen := YY hb;refine aA Tryz.func111 rfl (by simp [nts]) (vm ?_);simp only [wq.1,seval,Tryz.results111];refine vcB.mk (fun hc => ?_) (fun hc => ?_)
 ·simp only [wq.1,seval];refine aV rfl ?_;simp only [bne_iff_ne,ne_eq,Int.natCast_inj] at hc;have : ¬ a = b := fun h => hc (by rw [h]);simp [this]
 ·have hl : a.length = b.length := by simpa [Int.natCast_inj] using hc
  simp only [wq.1,seval];refine aF (fun m f h => ∃ i,m + i = a.length ∧ f.t 0 = prs a ∧ f.t 1 = prs b ∧ f.t 12 = .int .i64 (a.length : Int) ∧ f.t 13 = .int .i64 (i : Int) ∧ f.d = [] ∧ a.take i = b.take i) a.length ⟨0,by simp,rfl,rfl,rfl,rfl,rfl,by simp⟩ ?_;rintro m f h ⟨i,hm,h0,h1,h12,h13,hd,hall⟩;refine vm ?_;simp only [wq.1,seval,h12,h13];refine vcB.mk (fun hc => ?_) (fun hc => ?_)
  ·simp only [decide_eq_true_eq,Int.ofNat_lt] at hc;have hc2 : i < b.length := by omega
   simp only [wq.1,seval,h0,h1,h13,nR hc,nR hc2];refine ⟨by decide +kernel,⟨by omega,by omega⟩,⟨by omega,by omega⟩,G9,vcB.mk (fun hc => ?_) (fun hc => ?_)⟩
   ·simp only [wq.1,seval,hd];refine aV rfl ?_;have : ¬ a = b := fun h => by subst h;simp at hc
    simp [this]
   ·simp only [wq.1,seval,h13,ax (show i < maxLen by omega)];exact .inl ⟨m - 1,by omega,i + 1,by omega,h0,h1,h12,rfl,hd,Bg hall (by omega) (by omega) (by
     have hc : a[i].1 = b[i].1 ∧ a[i].2 = b[i].2 := by simpa using hc
     exact Prod.ext hc.1 hc.2)⟩
  ·simp only [decide_eq_false_iff_not,Int.ofNat_lt] at hc;simp only [wq.1,seval,hd];refine aV rfl ?_;rw [List.take_of_length_le (by omega),List.take_of_length_le (by omega)] at hall;simp [hall]
def Gr.same (g k : Gr) : Bool := (g.ins == k.ins) && ((g.next == k.next) && ((g.init == k.init) && ((g.ands == k.ands) && (g.outs == k.outs))))
def Mo.sameB (m k : Mo) : Bool := m.g.same k.g && ((m.ins == k.ins) && ((m.lat == k.lat) && (m.out == k.out)))
theorem FB (m : Mo) : m.sameB m = true := by simp [Mo.sameB,Gr.same]
theorem NJ (g k : Gr) : Ev TE 61 [g.v,k.v] (.bool (g.same k)) := by
 have h1 := P5 g.next k.next
 have h2 := P5 g.init k.init;have h3 := zaN g.ands k.ands;have h4 := P5 g.outs k.outs;unfold Gr.v Gr.same;obtain ⟨e0,he0⟩ : ∃ e0,e0 = (g.ins == k.ins) := ⟨_,rfl⟩;obtain ⟨e1,he1⟩ : ∃ e1,e1 = (g.next == k.next) := ⟨_,rfl⟩;obtain ⟨e2,he2⟩ : ∃ e2,e2 = (g.init == k.init) := ⟨_,rfl⟩;obtain ⟨e3,he3⟩ : ∃ e3,e3 = (g.ands == k.ands) := ⟨_,rfl⟩;obtain ⟨e4,he4⟩ : ∃ e4,e4 = (g.outs == k.outs) := ⟨_,rfl⟩;rw [← he1] at h1;rw [← he2] at h2;rw [← he3] at h3;rw [← he4] at h4;rw [← he0,← he1,← he2,← he3,← he4];refine aA Tryz.func61 rfl (by simp [nts]) (vm ?_);simp only [wq.1,seval,Tryz.results61];rw [← he0];clear he0 he1 he2 he3 he4;cases e0 with
 | false =>
  simp only [wq.1,seval]
  repeat (first | exact aC.dat rfl | (refine ⟨.bool false,?_⟩;simp only [wq.1,seval]))
 | true =>
  simp only [wq.1,seval];refine ah.ev h1 (by simp only [V.dats,V.dat,Bool.and_self]) ?_;simp only [wq.1,seval];cases e1 with
  | false =>
   simp only [wq.1,seval]
   repeat (first | exact aC.dat rfl | (refine ⟨.bool false,?_⟩;simp only [wq.1,seval]))
  | true =>
   simp only [wq.1,seval];refine ah.ev h2 (by simp only [V.dats,V.dat,Bool.and_self]) ?_;simp only [wq.1,seval];cases e2 with
   | false =>
    simp only [wq.1,seval]
    repeat (first | exact aC.dat rfl | (refine ⟨.bool false,?_⟩;simp only [wq.1,seval]))
   | true =>
    simp only [wq.1,seval];refine ah.ev h3 (by simp only [V.dats,V.dat,Bool.and_self]) ?_;simp only [wq.1,seval];cases e3 with
    | false =>
     simp only [wq.1,seval]
     repeat (first | exact aC.dat rfl | (refine ⟨.bool false,?_⟩;simp only [wq.1]))
    | true => simp only [wq.1,seval];refine ah.ev h4 (by simp only [V.dats,V.dat,Bool.and_self]) ?_;simp only [wq.1,seval];exact aC.dat rfl
theorem WG (m k : Mo) : Ev TE 19 [m.v,k.v] (.bool (m.sameB k)) := by
 have h1 := NJ m.g k.g;have h2 := Ub m.ins k.ins;have h3 := Ub m.lat k.lat;have h4 := Ub m.out k.out;unfold Gr.v at h1;unfold Mo.v Mo.sameB;obtain ⟨e0,he0⟩ : ∃ e0,e0 = m.g.same k.g := ⟨_,rfl⟩;obtain ⟨e1,he1⟩ : ∃ e1,e1 = (m.ins == k.ins) := ⟨_,rfl⟩;obtain ⟨e2,he2⟩ : ∃ e2,e2 = (m.lat == k.lat) := ⟨_,rfl⟩;obtain ⟨e3,he3⟩ : ∃ e3,e3 = (m.out == k.out) := ⟨_,rfl⟩;rw [← he0] at h1;rw [← he1] at h2;rw [← he2] at h3;rw [← he3] at h4;rw [← he0,← he1,← he2,← he3];clear he0 he1 he2 he3;refine aA Tryz.func19 rfl (by simp [nts]) (vm ?_);simp only [wq.1,seval,Tryz.results19];refine ah.ev h1 (by simp only [V.dats,V.dat,Bool.and_self]) ?_;simp only [wq.1,seval];cases e0 with
 | false =>
  simp only [wq.1,seval]
  repeat (first | exact aC.dat rfl | (refine ⟨.bool false,?_⟩;simp only [wq.1,seval]))
 | true =>
  simp only [wq.1,seval];refine ah.ev h2 (by simp only [V.dats,V.dat,Bool.and_self]) ?_;simp only [wq.1,seval];cases e1 with
  | false =>
   simp only [wq.1,seval]
   repeat (first | exact aC.dat rfl | (refine ⟨.bool false,?_⟩;simp only [wq.1,seval]))
  | true =>
   simp only [wq.1,seval];refine ah.ev h3 (by simp only [V.dats,V.dat,Bool.and_self]) ?_;simp only [wq.1,seval];cases e2 with
   | false =>
    simp only [wq.1,seval]
    repeat (first | exact aC.dat rfl | (refine ⟨.bool false,?_⟩;simp only [wq.1]))
   | true => simp only [wq.1,seval];refine ah.ev h4 (by simp only [V.dats,V.dat,Bool.and_self]) ?_;simp only [wq.1,seval];exact aC.dat rfl
theorem iL {g : Gr} {p : List Pr × Cl} : (jk g p).ins = g.ins ∧ (jk g p).next.length = g.next.length ∧ (jk g p).outs.length = g.outs.length := by unfold jk;simp
theorem y8 {g : Gr} : (fZ g).ins = g.ins ∧ (fZ g).next.length = g.next.length ∧ (fZ g).outs.length = g.outs.length := by unfold fZ;dsimp only;exact ⟨iL.1.trans iL.1,iL.2.1.trans iL.2.1,iL.2.2.trans iL.2.2⟩
theorem FC {m : Mo} (h : m.chk = 0) : m.g.chk = 0 := by
 unfold Mo.chk at h;split at h
 ·exact h
 ·rename_i hn;simpa using hn
theorem FD {g : Gr} {use : Nat → Bool} : ∀ i,∃ R,(bH g use i).2 = lq g.first.toNat ++ R
 | 0 => ⟨[],by simp [bH]⟩
 | i + 1 => by
  obtain ⟨R,h⟩ := FD (g := g) (use := use) i;unfold bH lw;split
  ·exact ⟨R ++ [_],by rw [← List.append_assoc,← h]⟩
  ·exact ⟨R ++ [0],by rw [← List.append_assoc,← h]⟩
theorem WH {R : Cl} {n v : Nat} (h : v < n) : dR (lq n ++ R) (2 * (v : Int)) = 2 * (v : Int) := by unfold dR;rw [if_neg (by omega),show (2 * (v : Int) / 2).toNat = v by omega,List.getD_eq_getElem?_getD,List.getElem?_append_left (by rw [nP];exact h)];unfold lq;simp [h]
theorem La {g : Gr} {use : Nat → Bool} {k i v : Nat} (hv : (v : Int) < g.first) (ho : g.outs.getD i 0 = 2 * (v : Int)) (hi : i < g.outs.length) : (jk g (bH g use k)).outs.getD i 0 = 2 * (v : Int) := by obtain ⟨R,hR⟩ := FD (g := g) (use := use) k;unfold jk;dsimp only;rw [hR,List.getD_eq_getElem?_getD,List.getElem?_map];rw [List.getD_eq_getElem?_getD] at ho;rw [List.getElem?_eq_getElem hi] at ho ⊢;simp only [Option.map_some,Option.getD_some] at ho ⊢;rw [ho];exact WH (by omega)
theorem Uc {g : Gr} {i v : Nat} (hv : (v : Int) < g.first) (ho : g.outs.getD i 0 = 2 * (v : Int)) (hi : i < g.outs.length) : (fZ g).outs.getD i 0 = 2 * (v : Int) := by
 unfold fZ;dsimp only;refine La ?_ (La hv ho hi) (by rw [iL.2.2];exact hi);unfold Gr.first
 rw [iL.1,iL.2.1];exact hv
theorem oN {m : Mo} (h : m.chk = 0) : m.norm.chk = 0 := by
 have hg := FC h;have hn : m.norm.g.chk = 0 := eF (eF hg _) _;obtain ⟨l1,l2,l3⟩ := y8 (g := m.g);have hl : m.norm.lens = m.lens := by unfold Mo.lens Mo.norm;dsimp only;rw [l1,l2,l3]
 have e1 : m.norm.names = m.names := rfl;have e2 : m.norm.twos = m.twos := rfl;have e3 : m.other m.out.length = false → m.norm.other m.out.length = false := by
  intro ho;have hle : m.lens = false := by
   cases hle : m.lens with
   | false => rfl
   | true => unfold Mo.chk at h;rw [hg,hle] at h;simp at h
  unfold Mo.lens at hle;simp only [Bool.or_eq_false_iff,bne_eq_false_iff_eq] at hle;obtain ⟨⟨q1,q2⟩,q3⟩ := hle;unfold Mo.other at ho ⊢;rw [List.any_eq_false] at ho ⊢;intro i hi hb;have hb0 := ho i hi;have hpl : m.norm.place (m.norm.out.getD i []) = m.place (m.out.getD i []) := rfl;rw [hpl] at hb;obtain ⟨p,hp⟩ : ∃ p,p = m.place (m.out.getD i []) := ⟨_,rfl⟩;have hpb : p ≤ (m.ins ++ m.lat).length := by
   have := PG (m.ins ++ m.lat) (· == m.out.getD i []);rw [hp];unfold Mo.place;split <;> omega
  rw [← hp] at hb hb0;simp only [Bool.and_eq_true,decide_eq_true_eq,bne_iff_ne,ne_eq,not_and,Classical.not_not] at hb hb0;have hz := hb0 hb.1;rw [List.length_append] at hpb;obtain ⟨v,hv⟩ : ∃ v : Nat,p = v := ⟨p.toNat,by omega⟩;rw [hv] at hz hb;refine hb.2 (Uc ?_ hz ?_)
  ·unfold Gr.first;omega
  ·have : i < m.out.length := by simpa using hi
   omega
 unfold Mo.chk at h ⊢;rw [hl,e1,e2,hn];rw [hg] at h;simp only [ne_eq,not_true,if_false] at h ⊢;rw [show m.norm.out = m.out from rfl]
 repeat' split at h
 all_goals first
  | (cases h;done)
  | skip
 simp_all
theorem YZ {m : Mo} (h : m.chk = 0) : m.norm.g.Sm := by have hg := bf (FC (oN h));have := hg.i0;have := hg.i2;exact ⟨by omega,by omega⟩
theorem NK {m : Mo} (h : m.chk = 0) : jO (qW m.norm) = .ok m.norm := by
 have := Nu (oN h) (r := []) (.inl rfl)
 rwa [List.append_nil] at this
theorem Lc {use : Nat → Bool} : ∀ k,(∀ i,i < k → use i = true) → pq use k = k
 | 0,_ => rfl
 | k + 1,h => by rw [qQ,Lc k (fun i hi => h i (by omega)),h k (by omega)];rfl
theorem WI {f n v : Nat} {use : Nat → Bool} (h : ∀ i,i < n → use i = true) (hv : v < f + n) : rH f use v = v := by
 unfold rH;split
 ·rfl
 ·rw [Lc _ (fun i hi => h i (by omega))];omega
theorem Hy {f n : Nat} {l : Int} {use : Nat → Bool} (h : ∀ i,i < n → use i = true) (h0 : 0 ≤ l) (hv : l < 2 * ((f : Int) + n)) : reA f use l = l := by unfold reA;rw [WI h (by omega)];omega
theorem Ud {g : Gr} (hg : g.chk = 0) (hga : BA g.ands) {use : Nat → Bool} (hu : ∀ i,i < g.ands.length → use i = true) : jk g (bH g use g.ands.length) = g := by
 obtain ⟨_,i0,i1,i2,i3,i4,i5⟩ := bf hg;obtain ⟨r1,r2,r3,r4⟩ := dB i4;have hf := fC i0;have hfn : (g.first.toNat : Int) = g.first := by omega
 have hle : YD g use := fun i hi _ => by
  obtain ⟨o1,o2,o3,o4⟩ := dY i5 hi;refine ⟨?_,?_⟩
  ·by_cases h : (g.ands[i].1 / 2).toNat < g.first.toNat
   ·exact .inl h
   ·exact .inr (hu _ (by omega))
  ·by_cases h : (g.ands[i].2 / 2).toNat < g.first.toNat
   ·exact .inl h
   ·exact .inr (hu _ (by omega))
 obtain ⟨p1,p2⟩ := sK hg hga hle g.ands.length (Nat.le_refl _);have hlive : ∀ v,v < g.first.toNat + g.ands.length → UA g.first.toNat use v := fun v hv => by
  by_cases h : v < g.first.toNat
  ·exact .inl h
  ·exact .inr (hu _ (by omega))
 have hkp : xY g use g.ands.length = g.ands := by unfold xY;rw [List.filter_eq_self.2 (fun i hi => hu i (List.mem_range.1 hi))];refine List.ext_getElem (by simp) (fun i h1 h2 => ?_);obtain ⟨o1,o2,o3,o4⟩ := dY i5 h2;simp only [List.getElem_map,List.getElem_range];rw [aG h2,Hy hu o1 (by omega),Hy hu o2 (by omega)]
 have hcm : ∀ a,0 ≤ a → a < g.all → dR (bH g use g.ands.length).2 a = a := fun a h0 h1 => by
  unfold Gr.all at h1;have hv : (a / 2).toNat < g.first.toNat + g.ands.length := by omega
  rw [uF (p2 _ hv (hlive _ hv)),Hy hu h0 (by omega)]
 have hmap : ∀ l : Cl,(∀ a ∈ l,0 ≤ a ∧ a < g.all) → l.map (dR (bH g use g.ands.length).2) = l := fun l hl => by
  conv => rhs;rw [← List.map_id l]
  exact List.map_congr_left fun a ha => hcm a (hl a ha).1 (hl a ha).2
 unfold jk;rw [hmap _ r3,hmap _ r4,p1,hkp]
theorem WJ {g : Gr} (hg : g.chk = 0) : fZ (fZ g) = fZ g := by have hst := nT hg;have hx : (jk g (bH g (fun _ => true) g.ands.length)).chk = 0 := eF hg _;have hy : (fZ g).chk = 0 := eF hx _;have hga : BA (fZ g).ands := oL (bf hx).i0 _ _;obtain ⟨y,hyy⟩ : ∃ y,y = fZ g := ⟨_,rfl⟩;rw [← hyy] at hst hy hga ⊢;have h1 : jk y (bH y (fun _ => true) y.ands.length) = y := Ud hy hga (fun _ _ => rfl);unfold fZ;rw [h1];refine Ud hy hga (fun i hi => ?_);unfold nS at hst;simp only [Bool.not_eq_true',List.any_eq_false,List.mem_range] at hst;have := hst i hi;unfold Xv at this;simp only [Bool.or_eq_true,not_or,Bool.not_eq_true',Bool.not_eq_false] at this;exact this.2.2.2.1
theorem WL {g : Gr} (s : GSm g) {a b c d : Nat} (ha : g.ins.toNat ≤ a) (hb : g.next.length ≤ b) (hc : g.outs.length ≤ c) (hd : g.ands.length ≤ d) : (Ei g).length ≤ 60 + 12 * a + 34 * b + 12 * c + 34 * d := by
 have h0 := gz s.head;have h0' : (cu g).length = 5 := rfl;have h1 := jR (f := fun i : Nat => lnT [2 * ((i : Int) + 1)]) (c := 12) (n := g.ins.toNat) (fun i hi => gz (s.in1 hi)) g.ins.toNat (Nat.le_refl _);have h2 := jR (f := fun i : Nat => lnT (Nk g i)) (c := 34) (n := g.next.length) (fun i hi => by
  have := gz (s.la hi).1;have := (s.la hi).2;omega) g.next.length (Nat.le_refl _)
 have h3 := jR (f := fun i : Nat => lnT [g.outs.getD i 0]) (c := 12) (n := g.outs.length) (fun i hi => gz (s.o1 hi)) g.outs.length (Nat.le_refl _);have h4 := jR (f := fun i : Nat => lnT [2 * (g.first + (i : Int)),(g.ands.getD i (0,0)).1,(g.ands.getD i (0,0)).2]) (c := 34) (n := g.ands.length) (fun i hi => gz (s.a1 hi)) g.ands.length (Nat.le_refl _);unfold Ei Xw BD oZ BF;simp only [List.length_append,List.length_cons,List.length_nil];omega
theorem Ld {m : Mo} (hf : m.few = true) (h : m.chk = 0) : (qW m.norm).length ≤ 20000 := by
 have hg := FC h;obtain ⟨l1,l2,l3⟩ := y8 (g := m.g);have hs : GSm m.norm.g := GSm.of (FC (oN h));obtain ⟨_,q1,q2,q3,q4⟩ := dP h;unfold Mo.few at hf;simp only [Bool.and_eq_true] at hf;obtain ⟨f0,f1,f2,f3⟩ := hf;unfold MO at f1 f2 f3;unfold Gr.few at f0;simp only [Bool.and_eq_true,decide_eq_true_eq,List.all_eq_true] at f0 f1 f2 f3;have hx : (jk m.g (bH m.g (fun _ => true) m.g.ands.length)).chk = 0 := eF hg _;have hand : m.norm.g.ands.length ≤ 60 := by have a1 := (iG (bf hg).i0 (fun _ => true) m.g.ands.length).1;have a2 := (iG (bf hx).i0 (fun i => (uf (jk m.g (bH m.g (fun _ => true) m.g.ands.length))).getD ((jk m.g (bH m.g (fun _ => true) m.g.ands.length)).first + (i : Int)).toNat false) (jk m.g (bH m.g (fun _ => true) m.g.ands.length)).ands.length).1;have a3 : m.norm.g.ands.length ≤ (jk m.g (bH m.g (fun _ => true) m.g.ands.length)).ands.length := a2;have a4 : (jk m.g (bH m.g (fun _ => true) m.g.ands.length)).ands.length ≤ m.g.ands.length := a1;omega
 have hle : m.lens = false := by
  cases hle : m.lens with
  | false => rfl
  | true => unfold Mo.chk at h;rw [hg,hle] at h;simp at h
 unfold Mo.lens at hle;simp only [Bool.or_eq_false_iff,bne_eq_false_iff_eq] at hle;obtain ⟨⟨k1,k2⟩,k3⟩ := hle;have e1 : m.norm.g.ins = m.g.ins := l1;have e2 : m.norm.g.next.length = m.g.next.length := l2
 have e3 : m.norm.g.outs.length = m.g.outs.length := l3;have hb := WL hs (a := 40) (b := 40) (c := 60) (d := 60) (by omega) (by omega) (by omega) hand;have hn : ∀ x,x ∈ m.ins ∨ x ∈ m.lat ∨ x ∈ m.out → iP x = true := jd h;have a1 := xA (c := 105) m.ins 0 (fun x hx => lJ (hn x (.inl hx))) (by omega);have a2 := xA (c := 108) m.lat 0 (fun x hx => lJ (hn x (.inr (.inl hx)))) (by omega);have a3 := xA (c := 111) m.out 0 (fun x hx => lJ (hn x (.inr (.inr hx)))) (by omega);have ht : (mr m.norm).length ≤ 10000 := by show (nmT 105 0 m.ins ++ (nmT 108 0 m.lat ++ nmT 111 0 m.out)).length ≤ _;simp only [List.length_append];omega
 unfold qW;rw [List.length_append];omega
end Go.Proofs.YtfcpapokknfeeaaGreatDoor
