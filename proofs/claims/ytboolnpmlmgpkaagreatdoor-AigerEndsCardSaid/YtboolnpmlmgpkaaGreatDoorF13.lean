/- Lemmas for the statement of this claim, part F13: they hold with no conditions but those that each one names. -/
import Derived.Test.YtboolnpmlmgpkaaGreatDoorF12
import Derived.Test.YtboolnpmlmgpkaaGreatDoorA11
set_option linter.unusedVariables false
set_option maxRecDepth 20000
set_option linter.unusedSimpArgs false
set_option linter.unnecessarySimpa false
namespace Go.Proofs.YtboolnpmlmgpkaaGreatDoor
open Go Go.Proofs Go.Abs
theorem zwy {D V : Cl} {a n : Int} (hl : V.length = D.length) (h : a ∈ D) : znU (.int .i64) (vi a) (vi n) (D.map vi) (V.map vi) = some (D.map vi, (V.set (D.idxOf a) n).map vi) := by
 unfold znU
 rw [zeT]
 have h0 := zf5 (D := D) (a := a)
 rw [decide_eq_true h] at h0
 obtain ⟨i, hi⟩ := Option.isSome_iff_exists.1 h0
 obtain ⟨h1, h2, h3⟩ := List.findIdx?_eq_some_iff_getElem.1 hi
 have e : D.idxOf a = i := by
  rw [List.idxOf, List.findIdx_eq h1]
  exact ⟨h2, fun j hj => by simpa using h3 j hj⟩
 have hD : D.set i a = D := by
  have : D[i] = a := by simpa using h2
  rw [← this, List.set_getElem_self]
 rw [hi, e]
 simp only [Option.some.injEq, Prod.mk.injEq]
 exact ⟨by rw [← List.map_set, hD], by rw [List.map_set]⟩
theorem zhU {D : Cl} : ∀ {l V : Cl} {k : Int} {a : Int}, zgN D V k (l ++ [a]) = (zgN D V k l).set (D.idxOf (a / 2)) (k + l.length)
 | [], V, k, a => by simp [zgN]
 | b :: l, V, k, a => by
  rw [List.cons_append]
  unfold zgN
  rw [zhU]
  congr 1
  rw [List.length_cons]; omega
theorem zhV {D : Cl} {B : Int} : ∀ {l V : Cl} {k : Int}, 0 ≤ k → k + l.length ≤ B → (∀ v ∈ V, 0 ≤ v ∧ v ≤ B) → ∀ v ∈ zgN D V k l, 0 ≤ v ∧ v ≤ B
 | [], V, k, h0, h1, hV => hV
 | b :: l, V, k, h0, h1, hV => by
  unfold zgN
  rw [List.length_cons] at h1
  refine zhV (by omega) (by omega) fun v hv => ?_
  rcases List.mem_or_eq_of_mem_set hv with h | h
  ·exact hV v h
  ·subst h; omega
theorem zhW {A : List An} : ∀ {k i : Nat} {left : Cl} {out o : List Nat} {l : Cl}, zaZ A k i left out = (o, l) → (∀ j ∈ out, j < A.length) → (∀ j ∈ o, j < A.length) ∧ o.length + l.length = out.length + left.length
 | 0, i, left, out, o, l, h, ho => by
  simp only [zaZ, Prod.mk.injEq] at h
  obtain ⟨rfl, rfl⟩ := h
  exact ⟨ho, rfl⟩
 | k + 1, i, left, out, o, l, h, ho => by
  unfold zaZ at h
  split at h
  ·rename_i hi
   split at h
   ·rename_i hc
    obtain ⟨a1, a2⟩ := zhW h (fun j hj => by
     rcases List.mem_append.1 hj with h | h
     ·exact ho j h
     ·rw [List.mem_singleton] at h; omega)
    refine ⟨a1, ?_⟩
    have e1 := List.length_erase_of_mem hc.1
    have e2 := List.length_pos_of_mem hc.1
    rw [List.length_append, List.length_singleton] at a2
    omega
   ·exact zhW h ho
  ·simp only [Prod.mk.injEq] at h
   obtain ⟨rfl, rfl⟩ := h
   exact ⟨ho, rfl⟩
theorem zxf {l : List An} {i : Nat} (h : i < l.length) : (anV l).getD (i * 6) .any = vi l[i].lit := by
 have := zdl h
 have h2 := congrArg (fun z : List V => z.getD 0 .any) this
 simp only [List.getD_eq_getElem?_getD, List.getElem?_take, List.getElem?_drop] at h2 ⊢
 simpa using h2
def zs7 : Plan := .fin
theorem zs8 : zg P (zo Tryz.f74 16) zs7 0 (bl 29 536870911) = true := by decide +kernel
def zs9 : Plan := .one 28 zs7
theorem zta : zg P (zo Tryz.f74 16) zs9 1 (bl 29 268435455) = true := okO zs8
def ztb : Plan := .take 27 zs9
theorem ztc : zg P (zo Tryz.f74 16) ztb 2 (bl 29 134217727) = true := okT zta
def zql : Plan := .one 26 ztb
theorem zlG : zg P (zo Tryz.f74 16) zql 3 (bl 29 67108863) = true := okO ztc
def zqm : Plan := .one 25 zql
theorem zlH : zg P (zo Tryz.f74 16) zqm 4 (bl 29 33554431) = true := okO zlG
def zqn : Plan := .one 24 zqm
theorem zlI : zg P (zo Tryz.f74 16) zqn 5 (bl 29 16777215) = true := okO zlH
def znJ : Plan := .one 23 zqn
theorem zhX : zg P (zo Tryz.f74 16) znJ 6 (bl 29 8388607) = true := okO zlI
def znK : Plan := .one 22 znJ
theorem zhY : zg P (zo Tryz.f74 16) znK 7 (bl 29 4194303) = true := okO zhX
def ztd : Plan := .take 21 znK
theorem zte : zg P (zo Tryz.f74 16) ztd 8 (bl 29 2097151) = true := okT zhY
def ztf : Plan := .take 20 ztd
theorem ztg : zg P (zo Tryz.f74 16) ztf 9 (bl 29 1048575) = true := okT zte
def zlJ : Plan := .take 19 ztf
theorem zqo : zg P (zo Tryz.f74 16) zlJ 10 (bl 29 524287) = true := okT ztg
def zjv : Plan := .one 17 zlJ
theorem zjw : zg P (zo Tryz.f74 16) zjv 11 (bl 29 393215) = true := okO zqo
def zgW : Plan := .one 12 znJ
theorem zgf : zg P (zo Tryz.f74 16) zgW 7 (bl 29 8384511) = true := okO zhX
def zgX : Plan := .alt 12 znK (.one 22 zgW)
theorem zgg : zg P (zo Tryz.f74 16) zgX 8 (bl 29 4190207) = true := okA zhY (alO zgf)
def zlK : Plan := .take 21 zgX
theorem zqp : zg P (zo Tryz.f74 16) zlK 9 (bl 29 2093055) = true := okT zgg
def zlL : Plan := .take 20 zlK
theorem zqq : zg P (zo Tryz.f74 16) zlL 10 (bl 29 1044479) = true := okT zqp
def zlM : Plan := .take 19 zlL
theorem zqr : zg P (zo Tryz.f74 16) zlM 11 (bl 29 520191) = true := okT zqq
def zjx : Plan := .alt 12 zjv (.one 17 zlM)
theorem zjy : zg P (zo Tryz.f74 16) zjx 12 (bl 29 389119) = true := okA zjw (alO zqr)
def zgY : Plan := .one 11 zgW
theorem zgh : zg P (zo Tryz.f74 16) zgY 8 (bl 29 8382463) = true := okO zgf
def zgZ : Plan := .alt 11 zgX (.one 22 zgY)
theorem zgi : zg P (zo Tryz.f74 16) zgZ 9 (bl 29 4188159) = true := okA zgg (alO zgh)
def zlN : Plan := .take 21 zgZ
theorem zqs : zg P (zo Tryz.f74 16) zlN 10 (bl 29 2091007) = true := okT zgi
def zlO : Plan := .take 20 zlN
theorem zqt : zg P (zo Tryz.f74 16) zlO 11 (bl 29 1042431) = true := okT zqs
def zlP : Plan := .take 19 zlO
theorem zqu : zg P (zo Tryz.f74 16) zlP 12 (bl 29 518143) = true := okT zqt
def zjz : Plan := .alt 11 zjx (.one 17 zlP)
theorem zjA : zg P (zo Tryz.f74 16) zjz 13 (bl 29 387071) = true := okA zjy (alO zqu)
def zlQ : Plan := .take 10 zjz
theorem zqv : zg P (zo Tryz.f74 16) zlQ 14 (bl 29 386047) = true := okT zjA
def zlR : Plan := .take 9 zlQ
theorem zqw : zg P (zo Tryz.f74 16) zlR 15 (bl 29 385535) = true := okT zqv
def zlS : Plan := .take 8 zlR
theorem zqx : zg P (zo Tryz.f74 16) zlS 16 (bl 29 385279) = true := okT zqw
def zlT : Plan := .take 10 zgZ
theorem zqy : zg P (zo Tryz.f74 16) zlT 10 (bl 29 4187135) = true := okT zgi
def zlU : Plan := .take 9 zlT
theorem zqz : zg P (zo Tryz.f74 16) zlU 11 (bl 29 4186623) = true := okT zqy
def zlV : Plan := .take 8 zlU
theorem zqA : zg P (zo Tryz.f74 16) zlV 12 (bl 29 4186367) = true := okT zqz
def zlW : Plan := .take 10 zgY
theorem zqB : zg P (zo Tryz.f74 16) zlW 9 (bl 29 8381439) = true := okT zgh
def zlX : Plan := .take 9 zlW
theorem zqC : zg P (zo Tryz.f74 16) zlX 10 (bl 29 8380927) = true := okT zqB
def zlY : Plan := .take 8 zlX
theorem zqD : zg P (zo Tryz.f74 16) zlY 11 (bl 29 8380671) = true := okT zqC
def zjB : Plan := .one 6 zlY
theorem zjC : zg P (zo Tryz.f74 16) zjB 12 (bl 29 8380607) = true := okO zqD
def zjD : Plan := .alt 6 zlV (.one 22 zjB)
theorem zjE : zg P (zo Tryz.f74 16) zjD 13 (bl 29 4186303) = true := okA zqA (alO zjC)
def zlZ : Plan := .take 21 zjD
theorem zqE : zg P (zo Tryz.f74 16) zlZ 14 (bl 29 2089151) = true := okT zjE
def zl0 : Plan := .take 20 zlZ
theorem zqF : zg P (zo Tryz.f74 16) zl0 15 (bl 29 1040575) = true := okT zqE
def zl1 : Plan := .take 19 zl0
theorem zqG : zg P (zo Tryz.f74 16) zl1 16 (bl 29 516287) = true := okT zqF
def zl2 : Plan := .alt 6 zlS (.one 17 zl1)
theorem zqH : zg P (zo Tryz.f74 16) zl2 17 (bl 29 385215) = true := okA zqx (alO zqG)
def zl3 : Plan := .one 1 zql
theorem zqI : zg P (zo Tryz.f74 16) zl3 4 (bl 29 67108861) = true := okO zlG
def zl4 : Plan := .alt 1 zqm (.one 25 zl3)
theorem zqJ : zg P (zo Tryz.f74 16) zl4 5 (bl 29 33554429) = true := okA zlH (alO zqI)
def zl5 : Plan := .alt 1 zqn (.one 24 zl4)
theorem zqK : zg P (zo Tryz.f74 16) zl5 6 (bl 29 16777213) = true := okA zlI (alO zqJ)
def zjF : Plan := .alt 1 znJ (.one 23 zl5)
theorem zjG : zg P (zo Tryz.f74 16) zjF 7 (bl 29 8388605) = true := okA zhX (alO zqK)
def zjH : Plan := .alt 1 znK (.one 22 zjF)
theorem zjI : zg P (zo Tryz.f74 16) zjH 8 (bl 29 4194301) = true := okA zhY (alO zjG)
def zl6 : Plan := .take 21 zjH
theorem zqL : zg P (zo Tryz.f74 16) zl6 9 (bl 29 2097149) = true := okT zjI
def zl7 : Plan := .take 20 zl6
theorem zqM : zg P (zo Tryz.f74 16) zl7 10 (bl 29 1048573) = true := okT zqL
def zl8 : Plan := .take 19 zl7
theorem zqN : zg P (zo Tryz.f74 16) zl8 11 (bl 29 524285) = true := okT zqM
def zl9 : Plan := .alt 1 zjv (.one 17 zl8)
theorem zqO : zg P (zo Tryz.f74 16) zl9 12 (bl 29 393213) = true := okA zjw (alO zqN)
def zjJ : Plan := .alt 1 zgW (.one 12 zjF)
theorem zjK : zg P (zo Tryz.f74 16) zjJ 8 (bl 29 8384509) = true := okA zgf (alO zjG)
def zjL : Plan := .alt 1 zgX (.alt 12 zjH (.one 22 zjJ))
theorem zjM : zg P (zo Tryz.f74 16) zjL 9 (bl 29 4190205) = true := okA zgg (alA zjI (alO zjK))
def zma : Plan := .take 21 zjL
theorem zqP : zg P (zo Tryz.f74 16) zma 10 (bl 29 2093053) = true := okT zjM
def zmb : Plan := .take 20 zma
theorem zqQ : zg P (zo Tryz.f74 16) zmb 11 (bl 29 1044477) = true := okT zqP
def zmc : Plan := .take 19 zmb
theorem zqR : zg P (zo Tryz.f74 16) zmc 12 (bl 29 520189) = true := okT zqQ
def zmd : Plan := .alt 1 zjx (.alt 12 zl9 (.one 17 zmc))
theorem zqS : zg P (zo Tryz.f74 16) zmd 13 (bl 29 389117) = true := okA zjy (alA zqO (alO zqR))
def zjN : Plan := .alt 1 zgY (.one 11 zjJ)
theorem zjO : zg P (zo Tryz.f74 16) zjN 9 (bl 29 8382461) = true := okA zgh (alO zjK)
def zjP : Plan := .alt 1 zgZ (.alt 11 zjL (.one 22 zjN))
theorem zjQ : zg P (zo Tryz.f74 16) zjP 10 (bl 29 4188157) = true := okA zgi (alA zjM (alO zjO))
def zme : Plan := .take 21 zjP
theorem zqT : zg P (zo Tryz.f74 16) zme 11 (bl 29 2091005) = true := okT zjQ
def zmf : Plan := .take 20 zme
theorem zqU : zg P (zo Tryz.f74 16) zmf 12 (bl 29 1042429) = true := okT zqT
def zmg : Plan := .take 19 zmf
theorem zqV : zg P (zo Tryz.f74 16) zmg 13 (bl 29 518141) = true := okT zqU
def zmh : Plan := .alt 1 zjz (.alt 11 zmd (.one 17 zmg))
theorem zqW : zg P (zo Tryz.f74 16) zmh 14 (bl 29 387069) = true := okA zjA (alA zqS (alO zqV))
def zmi : Plan := .take 10 zmh
theorem zqX : zg P (zo Tryz.f74 16) zmi 15 (bl 29 386045) = true := okT zqW
def zmj : Plan := .take 9 zmi
theorem zqY : zg P (zo Tryz.f74 16) zmj 16 (bl 29 385533) = true := okT zqX
def zmk : Plan := .take 8 zmj
theorem zqZ : zg P (zo Tryz.f74 16) zmk 17 (bl 29 385277) = true := okT zqY
def zml : Plan := .take 10 zjP
theorem zq0 : zg P (zo Tryz.f74 16) zml 11 (bl 29 4187133) = true := okT zjQ
def zmm : Plan := .take 9 zml
theorem zq1 : zg P (zo Tryz.f74 16) zmm 12 (bl 29 4186621) = true := okT zq0
def zmn : Plan := .take 8 zmm
theorem zq2 : zg P (zo Tryz.f74 16) zmn 13 (bl 29 4186365) = true := okT zq1
def zmo : Plan := .take 10 zjN
theorem zq3 : zg P (zo Tryz.f74 16) zmo 10 (bl 29 8381437) = true := okT zjO
def zmp : Plan := .take 9 zmo
theorem zq4 : zg P (zo Tryz.f74 16) zmp 11 (bl 29 8380925) = true := okT zq3
def zmq : Plan := .take 8 zmp
theorem zq5 : zg P (zo Tryz.f74 16) zmq 12 (bl 29 8380669) = true := okT zq4
def zmr : Plan := .alt 1 zjB (.one 6 zmq)
theorem zq6 : zg P (zo Tryz.f74 16) zmr 13 (bl 29 8380605) = true := okA zjC (alO zq5)
def zms : Plan := .alt 1 zjD (.alt 6 zmn (.one 22 zmr))
theorem zq7 : zg P (zo Tryz.f74 16) zms 14 (bl 29 4186301) = true := okA zjE (alA zq2 (alO zq6))
def zmt : Plan := .take 21 zms
theorem zq8 : zg P (zo Tryz.f74 16) zmt 15 (bl 29 2089149) = true := okT zq7
def zmu : Plan := .take 20 zmt
theorem zq9 : zg P (zo Tryz.f74 16) zmu 16 (bl 29 1040573) = true := okT zq8
def zmv : Plan := .take 19 zmu
theorem zra : zg P (zo Tryz.f74 16) zmv 17 (bl 29 516285) = true := okT zq9
def zmw : Plan := .alt 1 zl2 (.alt 6 zmk (.one 17 zmv))
theorem zrb : zg P (zo Tryz.f74 16) zmw 18 (bl 29 385213) = true := okA zqH (alA zqZ (alO zra))
def zmx : Plan := .take 18 zmw
theorem zrc : zg P (zo Tryz.f74 16) zmx 19 (bl 29 123069) = true := okT zrb
def zmy : Plan := .take 16 zmx
theorem zrd : zg P (zo Tryz.f74 16) zmy 20 (bl 29 57533) = true := okT zrc
def zmz : Plan := .take 15 zmy
theorem zre : zg P (zo Tryz.f74 16) zmz 21 (bl 29 24765) = true := okT zrd
def zmA : Plan := .take 14 zmz
theorem zrf : zg P (zo Tryz.f74 16) zmA 22 (bl 29 8381) = true := okT zre
def zmB : Plan := .take 13 zmA
theorem zrg : zg P (zo Tryz.f74 16) zmB 23 (bl 29 189) = true := okT zrf
def zmC : Plan := .take 7 zmB
theorem zrh : zg P (zo Tryz.f74 16) zmC 24 (bl 29 61) = true := okT zrg
def zmD : Plan := .take 5 zmC
theorem zri : zg P (zo Tryz.f74 16) zmD 25 (bl 29 29) = true := okT zrh
def zmE : Plan := .take 4 zmD
theorem zrj : zg P (zo Tryz.f74 16) zmE 26 (bl 29 13) = true := okT zri
def zmF : Plan := .take 3 zmE
theorem zrk : zg P (zo Tryz.f74 16) zmF 27 (bl 29 5) = true := okT zrj
def zmG : Plan := .take 2 zmF
theorem zrl : zg P (zo Tryz.f74 16) zmG 28 (bl 29 1) = true := okT zrk
def zjR : Plan := .take 0 zmG
theorem zrm : zg P (zo Tryz.f74 16) zjR 29 #[false, false, false, false, false, false, false, false, false, false, false, false, false, false, false, false, false, false, false, false, false, false, false, false, false, false, false, false, false] = true := okT zrl
theorem zwz : zg P (zo Tryz.f74 16) zjR (zo Tryz.f74 16).size (Array.replicate (zo Tryz.f74 16).size false) = true := zrm
def zrn : Plan := .take 0 <| .take 1 <| .take 2 <| .take 3 <| .take 6 <| .take 7 <| .take 8 <| .take 9 <| .alt 4 (.alt 5 (.take 12 <| .one 10 <| .one 11 <| .one 13 <| .take 14 <| .one 15 <| .fin) (.one 10 (.one 5 <| .take 12 <| .one 11 <| .one 13 <| .take 14 <| .one 15 <| .fin))) (.one 10 (.one 4 <| .one 5 <| .take 12 <| .one 11 <| .one 13 <| .take 14 <| .one 15 <| .fin))
def zt0 : Plan := .take 0 <| .take 1 <| .take 2 <| .take 5 <| .take 6 <| .take 7 <| .alt 3 (.alt 4 (.alt 8 (.alt 9 (.one 10 <| .one 11 <| .fin) (.one 10 (.one 9 <| .one 11 <| .fin))) (.one 10 (.one 8 <| .one 9 <| .one 11 <| .fin))) (.alt 8 (.alt 4 (.alt 9 (.one 10 <| .one 11 <| .fin) (.one 10 (.one 9 <| .one 11 <| .fin))) (.one 10 (.one 4 <| .one 9 <| .one 11 <| .fin))) (.one 10 (.alt 4 (.one 8 <| .one 9 <| .one 11 <| .fin) (.one 8 (.one 4 <| .one 9 <| .one 11 <| .fin)))))) (.alt 8 (.alt 3 (.alt 4 (.alt 9 (.one 10 <| .one 11 <| .fin) (.one 10 (.one 9 <| .one 11 <| .fin))) (.one 10 (.one 4 <| .one 9 <| .one 11 <| .fin))) (.one 10 (.one 3 <| .one 4 <| .one 9 <| .one 11 <| .fin))) (.one 10 (.alt 3 (.alt 4 (.one 8 <| .one 9 <| .one 11 <| .fin) (.one 8 (.one 4 <| .one 9 <| .one 11 <| .fin))) (.one 8 (.one 3 <| .one 4 <| .one 9 <| .one 11 <| .fin)))))
def zt1 : Plan := .take 0 <| .take 1 <| .take 2 <| .take 4 <| .take 5 <| .take 6 <| .take 11 <| .alt 3 (.one 7 <| .one 8 <| .one 9 <| .one 10 <| .fin) (.one 7 (.one 3 <| .one 8 <| .one 9 <| .one 10 <| .fin))
set_option maxHeartbeats 8000000 in
theorem zkK {b0 b1 : O} {s : S} {mo : Int} {x : Fi} {Y : H} (hx : x.ins.length + x.lats.length + x.ands.length ≤ 8000) (hD : ∀ n ∈ x.ins ++ x.lats, 0 ≤ n ∧ n ≤ 2147483647 ∧ n / 2 ∈ x.D) (hnd : x.left.Nodup) (ha : ∀ a ∈ x.ands, 0 ≤ a.lit ∧ a.lit ≤ 2147483647 ∧ 0 ≤ a.p.1 ∧ a.p.1 ≤ 2147483647 ∧ 0 ≤ a.q.1 ∧ a.q.1 ≤ 2147483647 ∧ a.lit / 2 ∈ x.D) (hl1 : x.ands.length ≤ 4000) (hl2 : x.next.length ≤ 4000) (hl3 : x.outs.length ≤ 4000) (hu1 : ∀ u ∈ x.next, 0 ≤ u.1 ∧ u.1 ≤ 2147483647) (hu2 : ∀ u ∈ x.outs, 0 ≤ u.1 ∧ u.1 ≤ 2147483647) (hcl : ∀ W, zae (hG b0 b1 s mo x W Y)) {R : AEnd → H → (Nat → Bool) → Prop}
 (h1 : ∀ o left, zaZ x.ands ((x.ands.length + 1) * (x.ands.length + 1)) 0 x.left [] = (o, left) → x.ands.find? (fun a => decide (a.lit / 2 ∈ left)) = none → ∀ W X, R (.ret (zbT x o).v) (hG b0 b1 s mo x W (Y ++ X)) (fun _ => false))
 (h2 : ∀ o left a, zaZ x.ands ((x.ands.length + 1) * (x.ands.length + 1)) 0 x.left [] = (o, left) → x.ands.find? (fun a => decide (a.lit / 2 ∈ left)) = some a → ∀ W X, R (.pan (zaR a.pos 7)) (hG b0 b1 s mo x W (Y ++ X)) (fun _ => false)) :
 zb TE 74 [.lp 3 0] (hG b0 b1 s mo x (zB x) Y) R := by
 have hM : maxLen = 9223372036854775807 := rfl
 refine zb.fresh ?_
 obtain ⟨N, hNN⟩ : ∃ N, N = Y.length + 10 := ⟨_, rfl⟩
 obtain ⟨B, hB⟩ : ∃ B : Cl → H, ∀ W, B W = hG b0 b1 s mo x W Y := ⟨_, fun _ => rfl⟩
 have hBX : ∀ W X, B W ++ X = hG b0 b1 s mo x W (Y ++ X) := fun W X => by rw [hB]; rfl
 have hN : ∀ W, (B W).length = N := fun W => by rw [hB, hNN]; rfl
 have hB3 : ∀ W Z, (B W ++ Z)[3]? = some (rdT s x.a (fiG x mo)) := fun W Z => by rw [hB]; rfl
 have hB2 : ∀ W Z, (B W ++ Z)[2]? = some (.map (x.D.map vi) (W.map vi)) := fun W Z => by rw [hB]; rfl
 have hB9 : ∀ W Z, (B W ++ Z)[9]? = some (.cells (anV x.ands)) := fun W Z => by rw [hB]; rfl
 have hBs : ∀ W W' Z, (B W ++ Z).set 2 (.map (x.D.map vi) (W'.map vi)) = B W' ++ Z := fun W W' Z => by rw [hB, hB]; rfl
 have gN : ∀ W r k, (B W ++ r)[N + k]? = r[k]? := fun W r k => by rw [← hN W]; exact gE
 have gN0 : ∀ W r, (B W ++ r)[N]? = r[0]? := fun W r => by rw [← hN W]; exact gE0
 have gNs : ∀ W r k o, (B W ++ r).set (N + k) o = B W ++ r.set k o := fun W r k o => by rw [← hN W]; exact gS
 have gNs0 : ∀ W r o, (B W ++ r).set N o = B W ++ r.set 0 o := fun W r o => by rw [← hN W]; exact gS0
 have hBcl : ∀ W p, (∀ i, i < N → p i = false) → (B W).map (O.drop p) = B W := fun W p hp => by rw [hB]; exact hcl W p (fun i hi => hp i (by rw [hNN]; exact hi))
 rw [← hB]
 have hal := zgS x.ands
 obtain ⟨c, hc⟩ : ∃ c, c = x.ins ++ x.lats := ⟨_, rfl⟩
 have hcl' : c.length = x.ins.length + x.lats.length := by rw [hc, List.length_append]
 have hcc : Ev TE 147 [.is true 1 [zy x.ins, zy x.lats]] (zy c) := by
  have := zkr [x.ins, x.lats] (by simp; omega) (by simp)
  rw [hc]
  simpa using this
 refine zh Tryz.func74 rfl (by simp [nts]) ?_
 refine za (vm ?_)
 simp only [wq.down, Nat.reduceLT, Tryz.results74, hN]
 refine za (zN mixed zt0 (fun f' h' => f'.t 0 = .lp 3 0 ∧ f'.t 2 = .lp N 0 ∧ f'.t 3 = .lp (N + 1) 0 ∧ f'.d = [] ∧ (∀ j, f'.k j = true → N ≤ j) ∧ h' = B (zB x) ++ [.cells [vi 0, .nils, .nils, .nils, .nils], .cells [vi x.ins.length, .nils, zy x.init, .nils, .nils]]) (by decide +kernel) (by decide +kernel) ?_ ?_)
 ·simp only [wq.down, seval, zt0, hB3, hN, gN, gNs, List.append_assoc]
 ·rintro f h' ⟨t0, t2, t3, hd, hk, rfl⟩
  show awp _ _ _ _ _ _ _
  refine za ?_
  refine za ?_
  refine zN mixed zt1 (fun f' h' => f'.t 0 = .lp 3 0 ∧ f'.t 2 = .lp N 0 ∧ f'.t 3 = .lp (N + 1) 0 ∧ f'.t 30 = zy c ∧ f'.t 31 = vi c.length ∧ f'.t 32 = vi 0 ∧ f'.d = [] ∧ (∀ j, f'.k j = true → N ≤ j) ∧ h' = B (zB x) ++ [.cells [vi 0, .nils, .nils, .nils, .nils], .cells [vi x.ins.length, .nils, zy x.init, .nils, .nils]]) (by decide +kernel) (by decide +kernel) ?_ ?_
  ·simp only [wq.down, seval, zt1, t0, hB3]
   repeat' apply And.intro
   all_goals first
    | rfl
    | decide
    | skip
   all_goals
    refine zb.ev hcc rfl ?_
    simp only [wq.down, seval, t0, t2, t3, hd]
    exact fun j hj => hk j hj
  ·rintro f h' ⟨t0, t2, t3, t30, t31, t32, hd, hk, rfl⟩
   show awp _ _ _ _ _ _ _
   obtain ⟨V0, hV0⟩ : ∃ V0 : Nat → Cl, ∀ i, V0 i = zgN x.D (zB x) 1 (c.take i) := ⟨_, fun _ => rfl⟩
   have hV0l : ∀ i, (V0 i).length = x.D.length := fun i => by rw [hV0, zfd]; simp [zB]
   rw [show zB x = V0 0 by rw [hV0]; rfl]
   refine zj ?_
   refine zt (fun mm f h' => ∃ i, mm + i = c.length ∧ f.t 0 = .lp 3 0 ∧ f.t 2 = .lp N 0 ∧ f.t 3 = .lp (N + 1) 0 ∧ f.t 30 = zy c ∧ f.t 31 = vi c.length ∧ f.t 32 = vi i ∧ f.d = [] ∧ (∀ j, f.k j = true → N ≤ j) ∧ h' = B (V0 i) ++ [.cells [vi 0, .nils, .nils, .nils, .nils], .cells [vi x.ins.length, .nils, zy x.init, .nils, .nils]]) c.length ⟨0, by simp, t0, t2, t3, t30, t31, t32, hd, hk, rfl⟩ ?_
   clear t0 t2 t3 t30 t31 t32 hd hk
   rintro mm f h' ⟨i, hm, t0, t2, t3, t30, t31, t32, hd, hk, rfl⟩
   refine za (vm ?_)
   simp only [wq.down, Nat.reduceLT, t31, t32]
   refine za (vm ?_)
   simp only [wq.down, ↓reduceIte]
   refine vcB.mk (fun hlt => ?_) (fun hlt => ?_)
   ·simp only [decide_eq_true_eq, Int.ofNat_lt] at hlt
    have hgc : (c.map vi).getD i .any = vi c[i] := zkn hlt _
    have hw := zi (show i < maxLen by omega)
    have hci := hD c[i] (by rw [← hc]; exact List.getElem_mem hlt)
    have s1 := znV c[i]
    have hput := zwy (n := ((i + 1 : Nat) : Int)) (hV0l i) hci.2.2
    have hV1 : (V0 i).set (x.D.idxOf (c[i] / 2)) ((i + 1 : Nat) : Int) = V0 (i + 1) := by
     rw [hV0, hV0, List.take_add_one, List.getElem?_eq_getElem hlt, Option.toList_some, zhU, List.length_take, Nat.min_eq_left (by omega)]
     congr 1
     omega
    rw [hV1] at hput
    refine za (zj ?_)
    refine za (vm ?_)
    simp only [wq.down, seval, t30, t32, hgc]
    refine ⟨⟨by omega, by omega⟩, ?_⟩
    refine vm ?_
    simp only [wq.down, seval, t0, hB3, hB2, hBs, s1, K.keyOk, hput, hw]
    refine vm ?_
    simp only [wq.down, seval, t32, hw]
    exact .inl ⟨mm - 1, by omega, i + 1, by omega, by simp only [wq.down, seval, t0], by simp only [wq.down, seval, t2], by simp only [wq.down, seval, t3], by simp only [wq.down, seval, t30], by simp only [wq.down, seval, t31], rfl, by simp only [wq.down, hd], fun j hj => hk j hj, rfl⟩
   ·simp only [decide_eq_false_iff_not, Int.ofNat_lt] at hlt
    have hi : i = c.length := by omega
    subst hi
    clear t30 t31 t32
    simp only [wq.down]
    refine za (vm ?_)
    simp only [wq.down, seval, t0]
    obtain ⟨X0, hX0⟩ : ∃ X0 : H, X0 = [.cells [vi 0, .nils, .nils, .nils, .nils], .cells [vi x.ins.length, .nils, zy x.init, .nils, .nils]] := ⟨_, rfl⟩
    have hclX : zae (hG b0 b1 s mo x (V0 c.length) (Y ++ X0)) := fun p hp => by
     rw [← hBX, List.map_append, hBcl _ p (fun i hi => hp i (by rw [← hBX, List.length_append, hN]; omega)), hX0]
     rfl
    rw [← hX0, hBX]
    refine znI hl1 hnd (fun a h => ⟨(ha a h).1, (ha a h).2.1, (ha a h).2.2.1, (ha a h).2.2.2.1, (ha a h).2.2.2.2.1, (ha a h).2.2.2.2.2.1⟩) hclX (fun o left hso hfi X => ?_) (fun o left a hso hfi X => ?_)
    ·have h1 := h1 o left hso hfi
     obtain ⟨ho1, ho2⟩ := zhW hso (fun j hj => by cases hj)
     have hol : o.length ≤ 4000 := by
      have : x.left.length = x.ands.length := by simp [Fi.left]
      simp only [List.length_nil] at ho2
      omega
     clear hso hfi h2
     rw [List.append_assoc, ← hBX, hX0]
     obtain ⟨c2, hc2⟩ : ∃ c2 : Cl, c2 = o.map fun k => (x.ands.getD k .nil).lit := ⟨_, rfl⟩
     obtain ⟨V1, hV1⟩ : ∃ V1 : Nat → Cl, ∀ i, V1 i = zgN x.D (V0 c.length) (1 + x.ins.length + x.lats.length) (c2.take i) := ⟨_, fun _ => rfl⟩
     have hV1l : ∀ i, (V1 i).length = x.D.length := fun i => by rw [hV1, zfd]; exact hV0l _
     rw [show V0 c.length = V1 0 by rw [hV1]; rfl]
     obtain ⟨oi, hoi⟩ : ∃ oi : Cl, oi = o.map fun i : Nat => (i : Int) := ⟨_, rfl⟩
     have hoil : oi.length = o.length := by rw [hoi, List.length_map]
     rw [← hoi]
     have hc2l : c2.length = o.length := by rw [hc2, List.length_map]
     simp only [wq.down, seval]
     refine za ?_
     refine za ?_
     refine vm ?_
     simp only [wq.down, seval]
     refine zj ?_
     refine zt (fun mm f h' => ∃ i, mm + i = o.length ∧ f.t 0 = .lp 3 0 ∧ f.t 2 = .lp N 0 ∧ f.t 3 = .lp (N + 1) 0 ∧ f.t 6 = zy oi ∧ f.t 48 = zy oi ∧ f.t 49 = vi o.length ∧ f.t 50 = vi i ∧ f.d = [] ∧ (∀ j, f.k j = true → N ≤ j) ∧ h' = B (V1 i) ++ .cells [vi 0, .nils, .nils, .nils, .nils] :: .cells [vi x.ins.length, .nils, zy x.init, .nils, .nils] :: X) o.length ⟨0, by simp, by simp only [wq.down, seval, t0], by simp only [wq.down, seval, t2], by simp only [wq.down, seval, t3], by simp only [wq.down, seval], by simp only [wq.down, seval], by simp only [wq.down, seval, hoil], rfl, by simp only [wq.down, hd], fun j hj => hk j hj, rfl⟩ ?_
     clear t0 t2 t3 hd hk
     rintro mm f h' ⟨i, hm, t0, t2, t3, t6, t48, t49, t50, hd, hk, rfl⟩
     refine za (vm ?_)
     simp only [wq.down, Nat.reduceLT, t49, t50]
     refine za (vm ?_)
     simp only [wq.down, ↓reduceIte]
     refine vcB.mk (fun hlt => ?_) (fun hlt => ?_)
     ·simp only [decide_eq_true_eq, Int.ofNat_lt] at hlt
      have hgo : (oi.map vi).getD i .any = vi (o[i] : Int) := by
       rw [hoi, List.getD_eq_getElem?_getD, List.getElem?_map, List.getElem?_map, List.getElem?_eq_getElem hlt]; rfl
      have hoa := ho1 _ (List.getElem_mem hlt)
      have hat := zxf hoa
      have haa := ha _ (List.getElem_mem hoa)
      have s1 := znV x.ands[o[i]].lit
      have hw := zi (show i < maxLen by omega)
      have w1 : IntKind.i64.wrap (1 + (x.ins.length : Int)) = 1 + x.ins.length := z6 (by omega) (by omega)
      have w2 : IntKind.i64.wrap (1 + (x.ins.length : Int) + x.lats.length) = 1 + x.ins.length + x.lats.length := z6 (by omega) (by omega)
      have w3 : IntKind.i64.wrap (1 + (x.ins.length : Int) + x.lats.length + i) = 1 + x.ins.length + x.lats.length + i := z6 (by omega) (by omega)
      have hput := zwy (n := 1 + (x.ins.length : Int) + x.lats.length + i) (hV1l i) haa.2.2.2.2.2.2
      have hc2i : i < c2.length := by rw [hc2l]; exact hlt
      have hc2v : c2[i] = x.ands[o[i]].lit := by simp only [hc2, List.getElem_map]; rw [zA hoa]
      have hV2 : (V1 i).set (x.D.idxOf (x.ands[o[i]].lit / 2)) (1 + (x.ins.length : Int) + x.lats.length + i) = V1 (i + 1) := by
       rw [hV1, hV1, List.take_add_one, List.getElem?_eq_getElem hc2i, Option.toList_some, zhU, List.length_take, Nat.min_eq_left (by omega), hc2v]
      rw [hV2] at hput
      refine za (zj ?_)
      refine za (vm ?_)
      simp only [wq.down, seval, t48, t50, hgo]
      refine ⟨⟨by omega, by omega⟩, ?_⟩
      refine zoR mixed 27 (.one 27 <| .fin) (fun f' h' => f'.t 0 = .lp 3 0 ∧ f'.t 2 = .lp N 0 ∧ f'.t 3 = .lp (N + 1) 0 ∧ f'.t 6 = zy oi ∧ f'.t 48 = zy oi ∧ f'.t 49 = vi o.length ∧ f'.t 50 = vi i ∧ f'.d = [] ∧ (∀ j, f'.k j = true → N ≤ j) ∧ h' = B (V1 (i + 1)) ++ .cells [vi 0, .nils, .nils, .nils, .nils] :: .cells [vi x.ins.length, .nils, zy x.init, .nils, .nils] :: X) (by decide +kernel) ?_ ?_
      ·intro K hK
       simp only [List.take_succ_cons, List.take_zero]
       simp only [wq.down, seval, t0, hB3, hB9, hat, s1, w1, w2, w3]
       refine ⟨⟨by omega, by omega⟩, by omega, hK _ ?_⟩
       simp only [wq.down, seval, t0, t2, t3, t6, t48, t49, t50, hd, hB2, hBs, Abs.K.keyOk, hput]
       exact fun j hj => hk j hj
      ·rintro f' h' ⟨t0, t2, t3, t6, t48, t49, t50, hd, hk, rfl⟩
       simp only [wq.down]
       refine vm ?_
       simp only [wq.down, seval, t50, hw]
       exact .inl ⟨mm - 1, by omega, i + 1, by omega, by simp only [wq.down, seval, t0], by simp only [wq.down, seval, t2], by simp only [wq.down, seval, t3], by simp only [wq.down, seval, t6], by simp only [wq.down, seval, t48], by simp only [wq.down, seval, t49], rfl, by simp only [wq.down, hd], fun j hj => hk j hj, rfl⟩
     ·simp only [decide_eq_false_iff_not, Int.ofNat_lt] at hlt
      have hi : i = o.length := by omega
      subst hi
      clear t48 t49 t50 hm hlt
      obtain ⟨VV, hVV⟩ : ∃ VV, VV = x.vals o := ⟨_, rfl⟩
      have hV1e : V1 o.length = VV := by
       rw [hV1, hVV, List.take_of_length_le (by omega), hV0, List.take_length, hc2, hc]
       rfl
      have hVl : VV.length = x.D.length := by rw [← hV1e]; exact hV1l _
      have hVb : ∀ v ∈ VV, 0 ≤ v ∧ v ≤ 100000 := by
       rw [← hV1e, hV1]
       refine zhV (by omega) (by have := List.length_take_le o.length c2; omega) ?_
       rw [hV0]
       refine zhV (by omega) (by have := List.length_take_le c.length c; omega) ?_
       intro v hv
       obtain ⟨_, _, rfl⟩ := List.mem_map.1 hv
       decide
      rw [hV1e]
      obtain ⟨pr, hpr⟩ : ∃ pr : Nat → Pr, ∀ k, pr k = (zbS x.D VV (x.ands.getD k .nil).p, zbS x.D VV (x.ands.getD k .nil).q) := ⟨_, fun _ => rfl⟩
      simp only [wq.down]
      refine za ?_
      refine za ?_
      refine vm ?_
      simp only [wq.down, seval, t6]
      refine zj ?_
      refine zt (fun mm f h' => ∃ (i : Nat) (v : V) (X : H), mm + i = o.length ∧ f.t 0 = .lp 3 0 ∧ f.t 2 = .lp N 0 ∧ f.t 3 = .lp (N + 1) 0 ∧ f.t 83 = zy oi ∧ f.t 84 = vi o.length ∧ f.t 85 = vi i ∧ f.d = [] ∧ (∀ j, f.k j = true → N ≤ j) ∧ h' = B VV ++ .cells [vi 0, .nils, .nils, .nils, .nils] :: .cells [vi x.ins.length, .nils, zy x.init, v, .nils] :: X ∧ ((i = 0 ∧ v = .nils) ∨ (0 < i ∧ ∃ j, v = .ls (N + (j + 2)) 2 0 i i ∧ X[j]? = some (.cells (fl ((o.take i).map pr)))))) o.length ⟨0, .nils, X, by simp, by simp only [wq.down, seval, t0], by simp only [wq.down, seval, t2], by simp only [wq.down, seval, t3], by simp only [wq.down, seval], by simp only [wq.down, seval, hoil], rfl, by simp only [wq.down, hd], fun j hj => hk j hj, rfl, .inl ⟨rfl, rfl⟩⟩ ?_
      clear t0 t2 t3 t6 hd hk X
      rintro mm f h' ⟨i, v, X, hm, t0, t2, t3, t83, t84, t85, hd, hk, rfl, hrow⟩
      refine za (vm ?_)
      simp only [wq.down, Nat.reduceLT, t84, t85]
      refine za (vm ?_)
      simp only [wq.down, ↓reduceIte]
      refine vcB.mk (fun hlt => ?_) (fun hlt => ?_)
      ·simp only [decide_eq_true_eq, Int.ofNat_lt] at hlt
       have hgo : (oi.map vi).getD i .any = vi (o[i] : Int) := by
        rw [hoi, List.getD_eq_getElem?_getD, List.getElem?_map, List.getElem?_map, List.getElem?_eq_getElem hlt]; rfl
       have hoa := ho1 _ (List.getElem_mem hlt)
       have haa := ha _ (List.getElem_mem hoa)
       have hw := zi (show i < maxLen by omega)
       obtain ⟨a, hae⟩ : ∃ a, a = x.ands[o[i]] := ⟨_, rfl⟩
       have hc6 := zdl hoa
       rw [← hae] at haa hc6
       have hap : ((anV x.ands).drop (o[i] * 6 + 2)).take 2 = [vi a.p.1, vi a.p.2] := by
        have := congrArg (fun z : List V => (z.drop 2).take 2) hc6
        simpa [List.drop_take, List.take_take, List.drop_drop] using this
       have haq : ((anV x.ands).drop (o[i] * 6 + 4)).take 2 = [vi a.q.1, vi a.q.2] := by
        have := congrArg (fun z : List V => (z.drop 4).take 2) hc6
        simpa [List.drop_take, List.take_take, List.drop_drop] using this
       have hpi : pr o[i] = (zbS x.D VV a.p, zbS x.D VV a.q) := by rw [hpr, zA hoa, ← hae]
       have htk : (o.take (i + 1)).map pr = (o.take i).map pr ++ [(zbS x.D VV a.p, zbS x.D VV a.q)] := by
        rw [List.take_add_one, List.map_append, List.getElem?_eq_getElem hlt]; simp [hpi]
       refine za (zj ?_)
       refine za (vm ?_)
       simp only [wq.down, seval, t83, t85, hgo]
       refine ⟨⟨by omega, by omega⟩, ?_⟩
       refine zN mixed zjR (fun f' h' => f'.t 0 = .lp 3 0 ∧ f'.t 2 = .lp N 0 ∧ f'.t 3 = .lp (N + 1) 0 ∧ f'.t 83 = zy oi ∧ f'.t 84 = vi o.length ∧ f'.t 85 = vi i ∧ f'.d = [] ∧ (∀ j, f'.k j = true → N ≤ j) ∧ ∃ v X, h' = B VV ++ .cells [vi 0, .nils, .nils, .nils, .nils] :: .cells [vi x.ins.length, .nils, zy x.init, v, .nils] :: X ∧ ∃ j, v = .ls (N + (j + 2)) 2 0 (i + 1) (i + 1) ∧ X[j]? = some (.cells (fl ((o.take (i + 1)).map pr)))) zwz (by decide +kernel) ?_ ?_
       ·rcases hrow with ⟨rfl, rfl⟩ | ⟨hi0, j, rfl, hj⟩
        ·have hfin1 : ∀ X2 X3 : H, (X ++ (X2 ++ (X3 ++ [O.cells (List.flatMap V.vc [V.agg [vi (zbS x.D VV a.p), vi (zbS x.D VV a.q)]])])))[X.length + (X2.length + X3.length)]? = some (.cells (fl ((o.take (0 + 1)).map pr))) := fun X2 X3 => by
          rw [htk, gE, gE, gE0]; rfl
         simp only [wq.down, seval, zs7, zs9, ztb, zql, zqm, zqn, znJ, znK, ztd, ztf, zlJ, zjv, zgW, zgX, zlK, zlL, zlM, zjx, zgY, zgZ, zlN, zlO, zlP, zjz, zlQ, zlR, zlS, zlT, zlU, zlV, zlW, zlX, zlY, zjB, zjD, zlZ, zl0, zl1, zl2, zl3, zl4, zl5, zjF, zjH, zl6, zl7, zl8, zl9, zjJ, zjL, zma, zmb, zmc, zmd, zjN, zjP, zme, zmf, zmg, zmh, zmi, zmj, zmk, zml, zmm, zmn, zmo, zmp, zmq, zmr, zms, zmt, zmu, zmv, zmw, zmx, zmy, zmz, zmA, zmB, zmC, zmD, zmE, zmF, zmG, zjR, t0, t3, hB3, hB9, hap, haq, gN]
         repeat' apply And.intro
         all_goals first
          | omega
          | decide
          | skip
         all_goals
          rw [hBX]
          refine zc9 hVl hVb haa.2.2.1 haa.2.2.2.1 (fun X2 => ?_)
          rw [List.append_assoc, ← hBX]
          simp only [wq.down, seval, hB3, hB9, haq, gN]
         repeat' apply And.intro
         all_goals first
          | omega
          | decide
          | skip
         all_goals
          rw [hBX]
          refine zc9 hVl hVb haa.2.2.2.2.1 haa.2.2.2.2.2.1 (fun X3 => ?_)
          rw [List.append_assoc, ← hBX]
          simp only [wq.down, seval, t0, t2, t3, t83, t84, t85, hd, hN, gN, gNs, List.append_assoc]
         repeat' apply And.intro
         all_goals first
          | rfl
          | decide
          | omega
          | exact fun j hj => hk j hj
          | skip
         all_goals exact ⟨_, _, rfl, _, rfl, hfin1 X2 X3⟩
        ·have hjz : ∀ Z : H, (X ++ Z)[j]? = some (.cells (fl ((o.take i).map pr))) := fun Z => by
          rw [List.getElem?_append_left (List.getElem?_eq_some_iff.1 hj).1]; exact hj
         have hjl : j < X.length := (List.getElem?_eq_some_iff.1 hj).1
         have d1 : V.drops (fun x => x == N + (j + 2)) (fl ((o.take i).map pr)) = fl ((o.take i).map pr) := zbg
         have d2 : (B VV).map (O.drop fun x => x == N + (j + 2)) = B VV := hBcl _ _ (fun i hi => by simp; omega)
         have e2 : (N == N + (j + 2)) = false := by simp
         have e3 : (N + 1 == N + (j + 2)) = false := by simp
         have e4 : (3 == N + (j + 2)) = false := by simp; omega
         have hlen : (o.take i).length = i := by rw [List.length_take]; omega
         have hfl2 : (fl ((o.take i).map pr)).length = i * 2 := by rw [zpo, List.length_map, hlen]
         have hkk : ∀ j', (f.k j' || j' == N + (j + 2)) = true → N ≤ j' := fun j' hj' => by
          rcases (by simpa using hj' : f.k j' = true ∨ j' = N + (j + 2)) with h | h
          ·exact hk _ h
          ·omega
         have hfin2 : ∀ X2 X3 : H, ((X.map (O.drop fun x => x == N + (j + 2)) ++ (X2.map (O.drop fun x => x == N + (j + 2)) ++ X3.map (O.drop fun x => x == N + (j + 2)))).set j (.cells (fl ((o.take i).map pr) ++ V.drops (fun x => x == N + (j + 2)) (List.flatMap V.vc [V.agg [vi (zbS x.D VV a.p), vi (zbS x.D VV a.q)]]))))[j]? = some (.cells (fl ((o.take (i + 1)).map pr))) := fun X2 X3 => by
          rw [List.getElem?_set_self (by rw [List.length_append, List.length_map]; omega), htk]
          simp only [fl, List.flatMap_append]
          rfl
         simp only [wq.down, seval, zs7, zs9, ztb, zql, zqm, zqn, znJ, znK, ztd, ztf, zlJ, zjv, zgW, zgX, zlK, zlL, zlM, zjx, zgY, zgZ, zlN, zlO, zlP, zjz, zlQ, zlR, zlS, zlT, zlU, zlV, zlW, zlX, zlY, zjB, zjD, zlZ, zl0, zl1, zl2, zl3, zl4, zl5, zjF, zjH, zl6, zl7, zl8, zl9, zjJ, zjL, zma, zmb, zmc, zmd, zjN, zjP, zme, zmf, zmg, zmh, zmi, zmj, zmk, zml, zmm, zmn, zmo, zmp, zmq, zmr, zms, zmt, zmu, zmv, zmw, zmx, zmy, zmz, zmA, zmB, zmC, zmD, zmE, zmF, zmG, zjR, t0, t3, hB3, hB9, hap, haq, gN]
         repeat' apply And.intro
         all_goals first
          | omega
          | decide
          | skip
         all_goals
          rw [hBX]
          refine zc9 hVl hVb haa.2.2.1 haa.2.2.2.1 (fun X2 => ?_)
          rw [List.append_assoc, ← hBX]
          simp only [wq.down, seval, hB3, hB9, haq, gN]
         repeat' apply And.intro
         all_goals first
          | omega
          | decide
          | skip
         all_goals
          rw [hBX]
          refine zc9 hVl hVb haa.2.2.2.2.1 haa.2.2.2.2.2.1 (fun X3 => ?_)
          rw [List.append_assoc, ← hBX]
          simp only [wq.down, seval, t0, t2, t3, t83, t84, t85, hd, gN, gNs, List.append_assoc, hjz, d1, d2, e2, e3, e4]
         repeat' apply And.intro
         all_goals first
          | rfl
          | decide
          | exact hfl2
          | exact hkk
          | omega
          | skip
         all_goals exact ⟨_, _, rfl, _, rfl, hfin2 X2 X3⟩
       ·rintro f' h' ⟨t0, t2, t3, t83, t84, t85, hd, hk, v, X, rfl, j, rfl, hj⟩
        simp only [wq.down]
        refine vm ?_
        simp only [wq.down, seval, t85, hw]
        exact .inl ⟨mm - 1, by omega, i + 1, _, X, by omega, by simp only [wq.down, seval, t0], by simp only [wq.down, seval, t2], by simp only [wq.down, seval, t3], by simp only [wq.down, seval, t83], by simp only [wq.down, seval, t84], rfl, by simp only [wq.down, hd], fun j hj => hk j hj, rfl, .inr ⟨by omega, j, rfl, hj⟩⟩
      ·simp only [decide_eq_false_iff_not, Int.ofNat_lt] at hlt
       have hi : i = o.length := by omega
       subst hi
       clear t83 t84 t85 hm hlt
       rw [List.take_length] at hrow
       simp only [wq.down]
       have hN10 : 10 ≤ N := by omega
       obtain ⟨p, hp⟩ : ∃ p : Nat → Bool, p = fun i => decide (N + 2 ≤ i) := ⟨_, rfl⟩
       have hpB : ∀ i, i < N + 2 → p i = false := fun i hi => by rw [hp]; simp; omega
       refine zfA p (B VV ++ [.cells [vi 0, .nils, .nils, .nils, .nils], .cells [vi x.ins.length, .nils, zy x.init, prs (o.map pr), .nils]]) (fun i hi => ?_) (fun i q hi hq => ?_) (by simp only [wq.down, hd]) ?_
       ·have hi : i < N + 2 := by
         rw [hp] at hi; simpa using hi
        by_cases hiN : i < N
        ·refine .inl ?_
         rw [List.getElem?_append_left (by rw [hN]; exact hiN), List.getElem?_append_left (by rw [hN]; exact hiN)]
         conv => lhs; rw [← hBcl VV p (fun i hi => hpB i (by omega))]
         rw [List.getElem?_map]
        ·by_cases hi2 : i = N
         ·subst hi2
          exact .inl (by rw [gN0, gN0]; rfl)
         ·have hi3 : i = N + 1 := by omega
          subst hi3
          refine .inr ⟨[vi x.ins.length, .nils, zy x.init, v, .nils], [vi x.ins.length, .nils, zy x.init, prs (o.map pr), .nils], by rw [gN]; rfl, by rw [gN]; rfl, ⟨.inl rfl, .inl rfl, .inl rfl, .inr ?_, .inl rfl, trivial⟩⟩
          rcases hrow with ⟨h0, rfl⟩ | ⟨h0, j, rfl, hj⟩
          ·have : o = [] := List.eq_nil_of_length_eq_zero h0
           rw [this]
           exact ⟨rfl, zw.nils⟩
          ·have hpj : p (N + (j + 2)) = true := by rw [hp]; simp
           refine ⟨by simp [V.drop, hpj], ze9 ?_ (by simp)⟩
           rw [zc0, gN]
           show (X[j]?).map _ = _
           rw [hj]
           simp only [Option.map_some, Nat.zero_add, hpj, if_true]
           show some (O.cells (V.drops _ (fl (o.map pr)))) = _
           rw [zbg]
       ·have hi : N + 2 ≤ i := by rw [hp] at hi; simpa using hi
        rw [List.getElem?_eq_none (by rw [List.length_append, hN]; simpa using hi)] at hq
        cases hq
       ·obtain ⟨f', hf'⟩ : ∃ f' : Fr, f' = { t := fun i => V.drop p ((f.put (some 86) (V.bool (decide ((o.length : Int) < (o.length : Int))))).t i), d := (f.put (some 86) (V.bool (decide ((o.length : Int) < (o.length : Int))))).d, k := fun i => (f.put (some 86) (V.bool (decide ((o.length : Int) < (o.length : Int))))).k i || p i } := ⟨_, rfl⟩
        have u0 : f'.t 0 = .lp 3 0 := by rw [hf']; show V.drop p (f.t 0) = _; rw [t0]; simp [V.drop, hpB 3 (by omega)]
        have u2 : f'.t 2 = .lp N 0 := by rw [hf']; show V.drop p (f.t 2) = _; rw [t2]; simp [V.drop, hpB N (by omega)]
        have u3 : f'.t 3 = .lp (N + 1) 0 := by rw [hf']; show V.drop p (f.t 3) = _; rw [t3]; simp [V.drop, hpB (N + 1) (by omega)]
        have ud : f'.d = [] := by rw [hf']; exact hd
        have uk : ∀ j, f'.k j = true → N ≤ j := fun j hj => by
         rw [hf'] at hj
         rcases Bool.or_eq_true_iff.1 hj with h | h
         ·exact hk j h
         ·rw [hp] at h
          have : N + 2 ≤ j := by simpa using h
          omega
        rw [← hf']
        clear hf' t0 t2 t3 hd hk hrow X
        have hB6 : ∀ W Z, (hG b0 b1 s mo x W Z)[6]? = some (.cells (usV x.next)) := fun W Z => rfl
        have hB8 : ∀ W Z, (hG b0 b1 s mo x W Z)[8]? = some (.cells (usV x.outs)) := fun W Z => rfl
        have hclY : zae (hG b0 b1 s mo x VV (Y ++ [.cells [vi 0, .nils, .nils, .nils, .nils], .cells [vi x.ins.length, .nils, zy x.init, prs (o.map pr), .nils]])) := fun p hp => by
         rw [← hBX, List.map_append, hBcl _ p (fun i hi => hp i (by rw [← hBX, List.length_append, hN]; omega))]
         rfl
        refine za (zN mixed zrn (fun f' h' => f'.t 2 = .lp N 0 ∧ f'.t 3 = .lp (N + 1) 0 ∧ f'.d = [] ∧ (∀ j, f'.k j = true → N ≤ j) ∧ h' = B VV ++ [.cells [vi 0, .nils, .nils, .nils, .nils], .cells [vi x.ins.length, zy (x.next.map (zbS x.D VV)), zy x.init, prs (o.map pr), zy (x.outs.map (zbS x.D VV))]]) (by decide +kernel) (by decide +kernel) ?_ ?_)
        ·simp only [wq.down, seval, zrn, u0, hB3]
         repeat' apply And.intro
         all_goals
          rw [hBX]
          refine zgV hVl hVb (hB6 _ _) hl2 hu1 hclY ?_
          rw [← hBX]
          simp only [wq.down, seval, u3, hB3]
         repeat' apply And.intro
         all_goals
          rw [hBX]
          refine zgV hVl hVb (hB8 _ _) hl3 hu2 hclY ?_
          rw [← hBX]
          simp only [wq.down, seval, u2, u3, ud, gN, gNs]
          exact uk
        ·rintro f h ⟨t2, t3, hd, hk, rfl⟩
         refine za (vm ?_)
         simp only [wq.down, seval, t2, t3, gN, gN0, gNs0]
         refine vm ?_
         simp only [wq.down, seval, t2, hd, gN0]
         refine ⟨fun j hj => ?_, ?_⟩
         ·cases h : f.k j with
          | false => rfl
          | true => have := hk j h; omega
         ·have hpe : o.map pr = o.map fun k => (zbS x.D VV (x.ands.getD k .nil).p, zbS x.D VV (x.ands.getD k .nil).q) := List.map_congr_left fun k _ => hpr k
          have hge : (zbT x o).v = .agg [vi x.ins.length, zy (x.next.map (zbS x.D VV)), zy x.init, prs (o.map pr), zy (x.outs.map (zbS x.D VV))] := by
           rw [hpe, hVV]; rfl
          rw [← hge, hBX]
          exact h1 _ _
    ·simp only [wq.down, zR]
     simp only [XE.seq, zO]
     simp only [wq.down, hd]
     refine ⟨fun j hj => ?_, ?_⟩
     ·cases h : f.k j with
      | false => rfl
      | true => have := hk j h; omega
     ·rw [List.append_assoc]
      exact h2 o left a hso hfi _ _
structure FOk (x : Fi) : Prop where
 lin : ∀ n ∈ x.ins ++ x.lats, 0 ≤ n ∧ n ≤ 2147483647 ∧ n / 2 ∈ x.D
 an : ∀ a ∈ x.ands, 0 ≤ a.lit ∧ a.lit ≤ 2147483647 ∧ 0 ≤ a.p.1 ∧ a.p.1 ≤ 2147483647 ∧ 0 ≤ a.q.1 ∧ a.q.1 ≤ 2147483647 ∧ a.lit / 2 ∈ x.D
 nd : x.left.Nodup
 nx : ∀ u ∈ x.next, 0 ≤ u.1 ∧ u.1 ≤ 2147483647
 ou : ∀ u ∈ x.outs, 0 ≤ u.1 ∧ u.1 ≤ 2147483647
structure FLn (x : Fi) (n1 n2 n3 n4 : Nat) : Prop where
 l1 : x.ins.length = n1
 l2 : x.lats.length = n2
 l3 : x.next.length = n2
 l4 : x.init.length = n2
 l5 : x.outs.length = n3
 l6 : x.ands.length = n4
theorem FOk.a {x : Fi} (h : FOk x) {b : Nat} : FOk { x with a := b } := ⟨h.lin, h.an, h.nd, h.nx, h.ou⟩
theorem FOk.defd {x : Fi} (h : FOk x) {m : Int} {b : Nat} : FOk { x with a := b, D := x.D ++ [m] } :=
 ⟨fun n hn => ⟨(h.lin n hn).1, (h.lin n hn).2.1, List.mem_append_left _ (h.lin n hn).2.2⟩,
  fun a ha => ⟨(h.an a ha).1, (h.an a ha).2.1, (h.an a ha).2.2.1, (h.an a ha).2.2.2.1, (h.an a ha).2.2.2.2.1, (h.an a ha).2.2.2.2.2.1, List.mem_append_left _ (h.an a ha).2.2.2.2.2.2⟩, h.nd, h.nx, h.ou⟩
theorem zbY {s : S} {c : UInt8} {x y : Fi} (h : zaK s c x = .ok y) : y = { x with a := x.a + 1 } := by
 unfold zaK at h
 split at h
 ·cases h; rfl
 ·cases h
theorem zmH (a : Nat) : FOk (.start a) ∧ FLn (.start a) 0 0 0 0 :=
 ⟨⟨fun n hn => (by cases hn), fun n hn => (by cases hn), List.nodup_nil, fun n hn => (by cases hn), fun n hn => (by cases hn)⟩, ⟨rfl, rfl, rfl, rfl, rfl, rfl⟩⟩
theorem zro {s : S} {mo : Int} {x y : Fi} {n1 n2 n3 n4 : Nat} (h : za6 s mo x = .ok y) (hx : FOk x) (hl : FLn x n1 n2 n3 n4) : FOk y ∧ FLn y (n1 + 1) n2 n3 n4 := by
 unfold za6 at h
 cases hd : zlq s mo x with
 | error e => rw [hd] at h; cases h
 | ok v =>
  obtain ⟨n, z⟩ := v
  rw [hd] at h
  dsimp only at h
  obtain ⟨⟨b, rfl⟩, d0, d1, d2, d3, d4, d5⟩ := zeH hd
  obtain rfl := zbY h
  have h2 := hx.defd (m := n / 2) (b := b)
  refine ⟨⟨fun m hm => ?_, h2.an, h2.nd, h2.nx, h2.ou⟩, ⟨by simp [hl.l1], hl.l2, hl.l3, hl.l4, hl.l5, hl.l6⟩⟩
  rcases List.mem_append.1 hm with h | h
  ·rcases List.mem_append.1 h with h | h
   ·exact h2.lin m (List.mem_append_left _ h)
   ·rw [List.mem_singleton] at h; subst h
    exact ⟨d0, d1, List.mem_append_right _ (by simp)⟩
  ·exact h2.lin m (List.mem_append_right _ h)
theorem zrp {s : S} {lit : Int} {x y : Fi} {n : Int} (h : zee s lit x = .ok (n, y)) : ∃ b, y = { x with a := b } := by
 unfold zee at h
 split at h
 ·cases hn : ze1 s (x.a + 1) with
  | error e => rw [hn] at h; cases h
  | ok v =>
   obtain ⟨m, b⟩ := v
   rw [hn] at h
   dsimp only at h
   split at h
   ·simp only [Except.ok.injEq, Prod.mk.injEq] at h
    exact ⟨b, h.2.symm⟩
   ·cases h
 ·simp only [Except.ok.injEq, Prod.mk.injEq] at h
  exact ⟨x.a, h.2.symm⟩
theorem zrq {s : S} {mo : Int} {x y : Fi} {n1 n2 n3 n4 : Nat} (h : za7 s mo x = .ok y) (hx : FOk x) (hl : FLn x n1 n2 n3 n4) : FOk y ∧ FLn y n1 (n2 + 1) n3 n4 := by
 unfold za7 at h
 cases hd : zlq s mo x with
 | error e => rw [hd] at h; cases h
 | ok v =>
  obtain ⟨n, z⟩ := v
  rw [hd] at h
  dsimp only at h
  obtain ⟨⟨b, rfl⟩, d0, d1, d2, d3, d4, d5⟩ := zeH hd
  have h2 := hx.defd (m := n / 2) (b := b)
  cases hb : zaK s 32 { x with a := b, D := x.D ++ [n / 2] } with
  | error e => rw [hb] at h; cases h
  | ok z =>
   rw [hb] at h
   dsimp only at h
   obtain rfl := zbY hb
   cases hu : zh5 s mo { x with a := b + 1, D := x.D ++ [n / 2] } with
   | error e => rw [hu] at h; cases h
   | ok v =>
    obtain ⟨u, z⟩ := v
    rw [hu] at h
    dsimp only at h
    obtain ⟨⟨b2, rfl⟩, u0, u1, u2, u3⟩ := zcF hu
    cases hg : zee s n { x with a := b2, D := x.D ++ [n / 2], next := x.next ++ [u] } with
    | error e => rw [hg] at h; cases h
    | ok v =>
     obtain ⟨m, z⟩ := v
     rw [hg] at h
     dsimp only at h
     obtain ⟨b3, rfl⟩ := zrp hg
     obtain rfl := zbY h
     refine ⟨⟨fun k hk => ?_, h2.an, h2.nd, fun v hv => ?_, h2.ou⟩, ⟨hl.l1, by simp [hl.l2], by simp [hl.l3], by simp [hl.l4], hl.l5, hl.l6⟩⟩
     ·rcases List.mem_append.1 hk with h | h
      ·exact h2.lin k (List.mem_append_left _ h)
      ·rcases List.mem_append.1 h with h | h
       ·exact h2.lin k (List.mem_append_right _ h)
       ·rw [List.mem_singleton] at h; subst h
        exact ⟨d0, d1, List.mem_append_right _ (by simp)⟩
     ·rcases List.mem_append.1 hv with h | h
      ·exact hx.nx v h
      ·rw [List.mem_singleton] at h; subst h; exact ⟨u0, u1⟩
theorem znL {s : S} {mo : Int} {x y : Fi} {n1 n2 n3 n4 : Nat} (h : zap s mo x = .ok y) (hx : FOk x) (hl : FLn x n1 n2 n3 n4) : FOk y ∧ FLn y n1 n2 (n3 + 1) n4 := by
 unfold zap at h
 cases hu : zh5 s mo x with
 | error e => rw [hu] at h; cases h
 | ok v =>
  obtain ⟨u, z⟩ := v
  rw [hu] at h
  dsimp only at h
  obtain ⟨⟨b, rfl⟩, u0, u1, u2, u3⟩ := zcF hu
  obtain rfl := zbY h
  refine ⟨⟨hx.lin, hx.an, hx.nd, hx.nx, fun v hv => ?_⟩, ⟨hl.l1, hl.l2, hl.l3, hl.l4, by simp [hl.l5], hl.l6⟩⟩
  rcases List.mem_append.1 hv with h | h
  ·exact hx.ou v h
  ·rw [List.mem_singleton] at h; subst h; exact ⟨u0, u1⟩
theorem zth {s : S} {mo : Int} {x y : Fi} {n1 n2 n3 n4 : Nat} (h : zcO s mo x = .ok y) (hx : FOk x) (hl : FLn x n1 n2 n3 n4) : FOk y ∧ FLn y n1 n2 n3 (n4 + 1) := by
 unfold zcO at h
 cases hd : zlq s mo x with
 | error e => rw [hd] at h; cases h
 | ok v =>
  obtain ⟨n, z⟩ := v
  rw [hd] at h
  dsimp only at h
  obtain ⟨⟨b, rfl⟩, d0, d1, d2, d3, d4, d5⟩ := zeH hd
  have h2 := hx.defd (m := n / 2) (b := b)
  cases hb : zaK s 32 { x with a := b, D := x.D ++ [n / 2] } with
  | error e => rw [hb] at h; cases h
  | ok z =>
   rw [hb] at h
   dsimp only at h
   obtain rfl := zbY hb
   cases hu : zh5 s mo { x with a := b + 1, D := x.D ++ [n / 2] } with
   | error e => rw [hu] at h; cases h
   | ok v =>
    obtain ⟨p, z⟩ := v
    rw [hu] at h
    dsimp only at h
    obtain ⟨⟨b2, rfl⟩, u0, u1, u2, u3⟩ := zcF hu
    cases hb : zaK s 32 { x with a := b2, D := x.D ++ [n / 2] } with
    | error e => rw [hb] at h; cases h
    | ok z =>
     rw [hb] at h
     dsimp only at h
     obtain rfl := zbY hb
     cases hu : zh5 s mo { x with a := b2 + 1, D := x.D ++ [n / 2] } with
     | error e => rw [hu] at h; cases h
     | ok v =>
      obtain ⟨q, z⟩ := v
      rw [hu] at h
      dsimp only at h
      obtain ⟨⟨b3, rfl⟩, v0, v1, v2, v3⟩ := zcF hu
      cases hb : zaK s 10 { x with a := b3, D := x.D ++ [n / 2] } with
      | error e => rw [hb] at h; cases h
      | ok z =>
       rw [hb] at h
       dsimp only at h
       obtain rfl := zbY hb
       cases h
       refine ⟨⟨h2.lin, fun a ha => ?_, ?_, h2.nx, h2.ou⟩, ⟨hl.l1, hl.l2, hl.l3, hl.l4, hl.l5, by simp [hl.l6]⟩⟩
       ·rcases List.mem_append.1 ha with h | h
        ·exact h2.an a h
        ·rw [List.mem_singleton] at h; subst h
         exact ⟨d0, d1, u0, u1, v0, v1, List.mem_append_right _ (by simp)⟩
       ·show (List.map (fun a : An => a.lit / 2) (x.ands ++ [_])).Nodup
        rw [List.map_append, List.nodup_append]
        refine ⟨hx.nd, by simp, fun k hk j hj e => ?_⟩
        obtain ⟨a, ha, rfl⟩ := List.mem_map.1 hk
        simp only [List.map_cons, List.map_nil, List.mem_singleton] at hj
        rw [hj] at e
        exact d5 (e ▸ (hx.an a ha).2.2.2.2.2.2)
end Go.Proofs.YtboolnpmlmgpkaaGreatDoor
