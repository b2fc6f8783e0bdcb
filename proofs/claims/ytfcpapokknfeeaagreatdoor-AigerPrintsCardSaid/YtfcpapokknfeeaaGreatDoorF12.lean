/- Lemmas for the statement of this claim, part F12: they hold with no conditions but those that each one names. -/
import Derived.Test.YtfcpapokknfeeaaGreatDoorF11
import Derived.Test.YtfcpapokknfeeaaGreatDoorA11
set_option linter.unusedVariables false
set_option maxRecDepth 20000
set_option linter.unusedSimpArgs false
set_option linter.unnecessarySimpa false
namespace Go.Proofs.YtfcpapokknfeeaaGreatDoor
open Go Go.Proofs Go.Abs
theorem YC {D V : Cl} {a n : Int} (hl : V.length = D.length) (h : a ∈ D) : Ld (.int .i64) (vi a) (vi n) (D.map vi) (V.map vi) = some (D.map vi, (V.set (D.idxOf a) n).map vi) := by
 unfold Ld;rw [rJ];have h0 := vz (D := D) (a := a);rw [decide_eq_true h] at h0;obtain ⟨i, hi⟩ := Option.isSome_iff_exists.1 h0;obtain ⟨h1, h2, h3⟩ := List.findIdx?_eq_some_iff_getElem.1 hi;have e : D.idxOf a = i := by
  rw [List.idxOf, List.findIdx_eq h1];exact ⟨h2, fun j hj => by simpa using h3 j hj⟩
 have hD : D.set i a = D := by
  have : D[i] = a := by simpa using h2
  rw [← this, List.set_getElem_self]
 rw [hi, e];simp only [Option.some.injEq, Prod.mk.injEq];exact ⟨by rw [← List.map_set, hD], by rw [List.map_set]⟩
theorem Ae {D : Cl} : ∀ {l V : Cl} {k : Int} {a : Int}, KI D V k (l ++ [a]) = (KI D V k l).set (D.idxOf (a / 2)) (k + l.length)
 | [], V, k, a => by simp [KI]
 | b :: l, V, k, a => by
  rw [List.cons_append];unfold KI;rw [Ae]
  congr 1
  rw [List.length_cons]; omega
theorem Af {D : Cl} {B : Int} : ∀ {l V : Cl} {k : Int}, 0 ≤ k → k + l.length ≤ B → (∀ v ∈ V, 0 ≤ v ∧ v ≤ B) → ∀ v ∈ KI D V k l, 0 ≤ v ∧ v ≤ B
 | [], V, k, h0, h1, hV => hV
 | b :: l, V, k, h0, h1, hV => by
  unfold KI;rw [List.length_cons] at h1;refine Af (by omega) (by omega) fun v hv => ?_;rcases List.mem_or_eq_of_mem_set hv with h | h
  ·exact hV v h
  ·subst h; omega
theorem Ag {A : List An} : ∀ {k i : Nat} {left : Cl} {out o : List Nat} {l : Cl}, iJ A k i left out = (o, l) → (∀ j ∈ out, j < A.length) → (∀ j ∈ o, j < A.length) ∧ o.length + l.length = out.length + left.length
 | 0, i, left, out, o, l, h, ho => by simp only [iJ, Prod.mk.injEq] at h;obtain ⟨rfl, rfl⟩ := h;exact ⟨ho, rfl⟩
 | k + 1, i, left, out, o, l, h, ho => by
  unfold iJ at h;split at h
  ·rename_i hi;split at h
   ·rename_i hc;obtain ⟨a1, a2⟩ := Ag h (fun j hj => by
     rcases List.mem_append.1 hj with h | h
     ·exact ho j h
     ·rw [List.mem_singleton] at h; omega)
    refine ⟨a1, ?_⟩;have e1 := List.length_erase_of_mem hc.1;have e2 := List.length_pos_of_mem hc.1;rw [List.length_append, List.length_singleton] at a2;omega
   ·exact Ag h ho
  ·simp only [Prod.mk.injEq] at h;obtain ⟨rfl, rfl⟩ := h;exact ⟨ho, rfl⟩
theorem Zd {l : List An} {i : Nat} (h : i < l.length) : (anV l).getD (i * 6) .any = vi l[i].lit := by have := nR h;have h2 := congrArg (fun z : List V => z.getD 0 .any) this;simp only [List.getD_eq_getElem?_getD, List.getElem?_take, List.getElem?_drop] at h2 ⊢;simpa using h2
def Ug : Plan := .fin
theorem Uh : ai P (aH Tryz.f59 16) Ug 0 (bl 29 536870911) = true := by decide +kernel
def Ui : Plan := .one 28 Ug
theorem Uj : ai P (aH Tryz.f59 16) Ui 1 (bl 29 268435455) = true := okO Uh
def Uk : Plan := .take 27 Ui
theorem Ul : ai P (aH Tryz.f59 16) Uk 2 (bl 29 134217727) = true := okT Uj
def Px : Plan := .one 26 Uk
theorem GY : ai P (aH Tryz.f59 16) Px 3 (bl 29 67108863) = true := okO Ul
def Py : Plan := .one 25 Px
theorem GZ : ai P (aH Tryz.f59 16) Py 4 (bl 29 33554431) = true := okO GY
def Pz : Plan := .one 24 Py
theorem G6 : ai P (aH Tryz.f59 16) Pz 5 (bl 29 16777215) = true := okO GZ
def KN : Plan := .one 23 Pz
theorem Ah : ai P (aH Tryz.f59 16) KN 6 (bl 29 8388607) = true := okO G6
def KO : Plan := .one 22 KN
theorem Ai : ai P (aH Tryz.f59 16) KO 7 (bl 29 4194303) = true := okO Ah
def Um : Plan := .take 21 KO
theorem Un : ai P (aH Tryz.f59 16) Um 8 (bl 29 2097151) = true := okT Ai
def Uo : Plan := .take 20 Um
theorem Ur : ai P (aH Tryz.f59 16) Uo 9 (bl 29 1048575) = true := okT Un
def G7 : Plan := .take 19 Uo
theorem PD : ai P (aH Tryz.f59 16) G7 10 (bl 29 524287) = true := okT Ur
def Dx : Plan := .one 17 G7
theorem Dy : ai P (aH Tryz.f59 16) Dx 11 (bl 29 393215) = true := okO PD
def xN : Plan := .one 12 KN
theorem vP : ai P (aH Tryz.f59 16) xN 7 (bl 29 8384511) = true := okO Ah
def xO : Plan := .alt 12 KO (.one 22 xN)
theorem vT : ai P (aH Tryz.f59 16) xO 8 (bl 29 4190207) = true := okA Ai (alO vP)
def G8 : Plan := .take 21 xO
theorem PE : ai P (aH Tryz.f59 16) G8 9 (bl 29 2093055) = true := okT vT
def G9 : Plan := .take 20 G8
theorem PG : ai P (aH Tryz.f59 16) G9 10 (bl 29 1044479) = true := okT PE
def Ha : Plan := .take 19 G9
theorem PH : ai P (aH Tryz.f59 16) Ha 11 (bl 29 520191) = true := okT PG
def Dz : Plan := .alt 12 Dx (.one 17 Ha)
theorem DC : ai P (aH Tryz.f59 16) Dz 12 (bl 29 389119) = true := okA Dy (alO PH)
def xP : Plan := .one 11 xN
theorem vU : ai P (aH Tryz.f59 16) xP 8 (bl 29 8382463) = true := okO vP
def xQ : Plan := .alt 11 xO (.one 22 xP)
theorem vV : ai P (aH Tryz.f59 16) xQ 9 (bl 29 4188159) = true := okA vT (alO vU)
def He : Plan := .take 21 xQ
theorem PI : ai P (aH Tryz.f59 16) He 10 (bl 29 2091007) = true := okT vV
def Hf : Plan := .take 20 He
theorem PK : ai P (aH Tryz.f59 16) Hf 11 (bl 29 1042431) = true := okT PI
def Hg : Plan := .take 19 Hf
theorem PM : ai P (aH Tryz.f59 16) Hg 12 (bl 29 518143) = true := okT PK
def DD : Plan := .alt 11 Dz (.one 17 Hg)
theorem DF : ai P (aH Tryz.f59 16) DD 13 (bl 29 387071) = true := okA DC (alO PM)
def Hl : Plan := .take 10 DD
theorem PN : ai P (aH Tryz.f59 16) Hl 14 (bl 29 386047) = true := okT DF
def Hm : Plan := .take 9 Hl
theorem PO : ai P (aH Tryz.f59 16) Hm 15 (bl 29 385535) = true := okT PN
def Ho : Plan := .take 8 Hm
theorem PP : ai P (aH Tryz.f59 16) Ho 16 (bl 29 385279) = true := okT PO
def Hq : Plan := .take 10 xQ
theorem PQ : ai P (aH Tryz.f59 16) Hq 10 (bl 29 4187135) = true := okT vV
def Hr : Plan := .take 9 Hq
theorem PR : ai P (aH Tryz.f59 16) Hr 11 (bl 29 4186623) = true := okT PQ
def Ht : Plan := .take 8 Hr
theorem PS : ai P (aH Tryz.f59 16) Ht 12 (bl 29 4186367) = true := okT PR
def Hu : Plan := .take 10 xP
theorem PT : ai P (aH Tryz.f59 16) Hu 9 (bl 29 8381439) = true := okT vU
def Hw : Plan := .take 9 Hu
theorem PU : ai P (aH Tryz.f59 16) Hw 10 (bl 29 8380927) = true := okT PT
def Hy : Plan := .take 8 Hw
theorem PW : ai P (aH Tryz.f59 16) Hy 11 (bl 29 8380671) = true := okT PU
def DI : Plan := .one 6 Hy
theorem DJ : ai P (aH Tryz.f59 16) DI 12 (bl 29 8380607) = true := okO PW
def DK : Plan := .alt 6 Ht (.one 22 DI)
theorem DL : ai P (aH Tryz.f59 16) DK 13 (bl 29 4186303) = true := okA PS (alO DJ)
def Hz : Plan := .take 21 DK
theorem PX : ai P (aH Tryz.f59 16) Hz 14 (bl 29 2089151) = true := okT DL
def HY : Plan := .take 20 Hz
theorem PY : ai P (aH Tryz.f59 16) HY 15 (bl 29 1040575) = true := okT PX
def H5 : Plan := .take 19 HY
theorem PZ : ai P (aH Tryz.f59 16) H5 16 (bl 29 516287) = true := okT PY
def H6 : Plan := .alt 6 Ho (.one 17 H5)
theorem P5 : ai P (aH Tryz.f59 16) H6 17 (bl 29 385215) = true := okA PP (alO PZ)
def H7 : Plan := .one 1 Px
theorem P6 : ai P (aH Tryz.f59 16) H7 4 (bl 29 67108861) = true := okO GY
def H9 : Plan := .alt 1 Py (.one 25 H7)
theorem P7 : ai P (aH Tryz.f59 16) H9 5 (bl 29 33554429) = true := okA GZ (alO P6)
def Ia : Plan := .alt 1 Pz (.one 24 H9)
theorem P8 : ai P (aH Tryz.f59 16) Ia 6 (bl 29 16777213) = true := okA G6 (alO P7)
def DN : Plan := .alt 1 KN (.one 23 Ia)
theorem DR : ai P (aH Tryz.f59 16) DN 7 (bl 29 8388605) = true := okA Ah (alO P8)
def DT : Plan := .alt 1 KO (.one 22 DN)
theorem DU : ai P (aH Tryz.f59 16) DT 8 (bl 29 4194301) = true := okA Ai (alO DR)
def Ib : Plan := .take 21 DT
theorem P9 : ai P (aH Tryz.f59 16) Ib 9 (bl 29 2097149) = true := okT DU
def Ic : Plan := .take 20 Ib
theorem Qa : ai P (aH Tryz.f59 16) Ic 10 (bl 29 1048573) = true := okT P9
def Ie : Plan := .take 19 Ic
theorem Qb : ai P (aH Tryz.f59 16) Ie 11 (bl 29 524285) = true := okT Qa
def Ig : Plan := .alt 1 Dx (.one 17 Ie)
theorem Qc : ai P (aH Tryz.f59 16) Ig 12 (bl 29 393213) = true := okA Dy (alO Qb)
def DV : Plan := .alt 1 xN (.one 12 DN)
theorem DW : ai P (aH Tryz.f59 16) DV 8 (bl 29 8384509) = true := okA vP (alO DR)
def DX : Plan := .alt 1 xO (.alt 12 DT (.one 22 DV))
theorem DY : ai P (aH Tryz.f59 16) DX 9 (bl 29 4190205) = true := okA vT (alA DU (alO DW))
def Ih : Plan := .take 21 DX
theorem Qd : ai P (aH Tryz.f59 16) Ih 10 (bl 29 2093053) = true := okT DY
def Ii : Plan := .take 20 Ih
theorem Qe : ai P (aH Tryz.f59 16) Ii 11 (bl 29 1044477) = true := okT Qd
def Ij : Plan := .take 19 Ii
theorem Qg : ai P (aH Tryz.f59 16) Ij 12 (bl 29 520189) = true := okT Qe
def Ik : Plan := .alt 1 Dz (.alt 12 Ig (.one 17 Ij))
theorem Qh : ai P (aH Tryz.f59 16) Ik 13 (bl 29 389117) = true := okA DC (alA Qc (alO Qg))
def DZ : Plan := .alt 1 xP (.one 11 DV)
theorem D5 : ai P (aH Tryz.f59 16) DZ 9 (bl 29 8382461) = true := okA vU (alO DW)
def D6 : Plan := .alt 1 xQ (.alt 11 DX (.one 22 DZ))
theorem D7 : ai P (aH Tryz.f59 16) D6 10 (bl 29 4188157) = true := okA vV (alA DY (alO D5))
def Il : Plan := .take 21 D6
theorem Qi : ai P (aH Tryz.f59 16) Il 11 (bl 29 2091005) = true := okT D7
def Io : Plan := .take 20 Il
theorem Qj : ai P (aH Tryz.f59 16) Io 12 (bl 29 1042429) = true := okT Qi
def Ip : Plan := .take 19 Io
theorem Qk : ai P (aH Tryz.f59 16) Ip 13 (bl 29 518141) = true := okT Qj
def Iq : Plan := .alt 1 DD (.alt 11 Ik (.one 17 Ip))
theorem Ql : ai P (aH Tryz.f59 16) Iq 14 (bl 29 387069) = true := okA DF (alA Qh (alO Qk))
def Ir : Plan := .take 10 Iq
theorem Qm : ai P (aH Tryz.f59 16) Ir 15 (bl 29 386045) = true := okT Ql
def Iu : Plan := .take 9 Ir
theorem Qo : ai P (aH Tryz.f59 16) Iu 16 (bl 29 385533) = true := okT Qm
def Iw : Plan := .take 8 Iu
theorem Qp : ai P (aH Tryz.f59 16) Iw 17 (bl 29 385277) = true := okT Qo
def Iy : Plan := .take 10 D6
theorem Qq : ai P (aH Tryz.f59 16) Iy 11 (bl 29 4187133) = true := okT D7
def Iz : Plan := .take 9 Iy
theorem Qr : ai P (aH Tryz.f59 16) Iz 12 (bl 29 4186621) = true := okT Qq
def IA : Plan := .take 8 Iz
theorem Qs : ai P (aH Tryz.f59 16) IA 13 (bl 29 4186365) = true := okT Qr
def IB : Plan := .take 10 DZ
theorem Qu : ai P (aH Tryz.f59 16) IB 10 (bl 29 8381437) = true := okT D5
def IC : Plan := .take 9 IB
theorem Qv : ai P (aH Tryz.f59 16) IC 11 (bl 29 8380925) = true := okT Qu
def IE : Plan := .take 8 IC
theorem Qw : ai P (aH Tryz.f59 16) IE 12 (bl 29 8380669) = true := okT Qv
def IG : Plan := .alt 1 DI (.one 6 IE)
theorem Qx : ai P (aH Tryz.f59 16) IG 13 (bl 29 8380605) = true := okA DJ (alO Qw)
def II : Plan := .alt 1 DK (.alt 6 IA (.one 22 IG))
theorem Qy : ai P (aH Tryz.f59 16) II 14 (bl 29 4186301) = true := okA DL (alA Qs (alO Qx))
def IJ : Plan := .take 21 II
theorem Qz : ai P (aH Tryz.f59 16) IJ 15 (bl 29 2089149) = true := okT Qy
def IK : Plan := .take 20 IJ
theorem QA : ai P (aH Tryz.f59 16) IK 16 (bl 29 1040573) = true := okT Qz
def IL : Plan := .take 19 IK
theorem QB : ai P (aH Tryz.f59 16) IL 17 (bl 29 516285) = true := okT QA
def IM : Plan := .alt 1 H6 (.alt 6 Iw (.one 17 IL))
theorem QC : ai P (aH Tryz.f59 16) IM 18 (bl 29 385213) = true := okA P5 (alA Qp (alO QB))
def IP : Plan := .take 18 IM
theorem QD : ai P (aH Tryz.f59 16) IP 19 (bl 29 123069) = true := okT QC
def IQ : Plan := .take 16 IP
theorem QE : ai P (aH Tryz.f59 16) IQ 20 (bl 29 57533) = true := okT QD
def IR : Plan := .take 15 IQ
theorem QF : ai P (aH Tryz.f59 16) IR 21 (bl 29 24765) = true := okT QE
def IU : Plan := .take 14 IR
theorem QG : ai P (aH Tryz.f59 16) IU 22 (bl 29 8381) = true := okT QF
def IV : Plan := .take 13 IU
theorem QH : ai P (aH Tryz.f59 16) IV 23 (bl 29 189) = true := okT QG
def IW : Plan := .take 7 IV
theorem QI : ai P (aH Tryz.f59 16) IW 24 (bl 29 61) = true := okT QH
def IX : Plan := .take 5 IW
theorem QJ : ai P (aH Tryz.f59 16) IX 25 (bl 29 29) = true := okT QI
def IY : Plan := .take 4 IX
theorem QK : ai P (aH Tryz.f59 16) IY 26 (bl 29 13) = true := okT QJ
def IZ : Plan := .take 3 IY
theorem QM : ai P (aH Tryz.f59 16) IZ 27 (bl 29 5) = true := okT QK
def I4 : Plan := .take 2 IZ
theorem QN : ai P (aH Tryz.f59 16) I4 28 (bl 29 1) = true := okT QM
def D8 : Plan := .take 0 I4
theorem QO : ai P (aH Tryz.f59 16) D8 29 #[false, false, false, false, false, false, false, false, false, false, false, false, false, false, false, false, false, false, false, false, false, false, false, false, false, false, false, false, false] = true := okT QN
theorem YD : ai P (aH Tryz.f59 16) D8 (aH Tryz.f59 16).size (Array.replicate (aH Tryz.f59 16).size false) = true := QO
def QQ : Plan := .take 0 <| .take 1 <| .take 2 <| .take 3 <| .take 6 <| .take 7 <| .take 8 <| .take 9 <| .alt 4 (.alt 5 (.take 12 <| .one 10 <| .one 11 <| .one 13 <| .take 14 <| .one 15 <| .fin) (.one 10 (.one 5 <| .take 12 <| .one 11 <| .one 13 <| .take 14 <| .one 15 <| .fin))) (.one 10 (.one 4 <| .one 5 <| .take 12 <| .one 11 <| .one 13 <| .take 14 <| .one 15 <| .fin))
def Vb : Plan := .take 0 <| .take 1 <| .take 2 <| .take 5 <| .take 6 <| .take 7 <| .alt 3 (.alt 4 (.alt 8 (.alt 9 (.one 10 <| .one 11 <| .fin) (.one 10 (.one 9 <| .one 11 <| .fin))) (.one 10 (.one 8 <| .one 9 <| .one 11 <| .fin))) (.alt 8 (.alt 4 (.alt 9 (.one 10 <| .one 11 <| .fin) (.one 10 (.one 9 <| .one 11 <| .fin))) (.one 10 (.one 4 <| .one 9 <| .one 11 <| .fin))) (.one 10 (.alt 4 (.one 8 <| .one 9 <| .one 11 <| .fin) (.one 8 (.one 4 <| .one 9 <| .one 11 <| .fin)))))) (.alt 8 (.alt 3 (.alt 4 (.alt 9 (.one 10 <| .one 11 <| .fin) (.one 10 (.one 9 <| .one 11 <| .fin))) (.one 10 (.one 4 <| .one 9 <| .one 11 <| .fin))) (.one 10 (.one 3 <| .one 4 <| .one 9 <| .one 11 <| .fin))) (.one 10 (.alt 3 (.alt 4 (.one 8 <| .one 9 <| .one 11 <| .fin) (.one 8 (.one 4 <| .one 9 <| .one 11 <| .fin))) (.one 8 (.one 3 <| .one 4 <| .one 9 <| .one 11 <| .fin)))))
def Vd : Plan := .take 0 <| .take 1 <| .take 2 <| .take 4 <| .take 5 <| .take 6 <| .take 11 <| .alt 3 (.one 7 <| .one 8 <| .one 9 <| .one 10 <| .fin) (.one 7 (.one 3 <| .one 8 <| .one 9 <| .one 10 <| .fin))
set_option maxHeartbeats 8000000 in
theorem Fq {b0 b1 : O} {s : S} {mo : Int} {x : Fi} {Y : H} (hx : x.ins.length + x.lats.length + x.ands.length ≤ 8000) (hD : ∀ n ∈ x.ins ++ x.lats, 0 ≤ n ∧ n ≤ 2147483647 ∧ n / 2 ∈ x.D) (hnd : x.left.Nodup) (ha : ∀ a ∈ x.ands, 0 ≤ a.lit ∧ a.lit ≤ 2147483647 ∧ 0 ≤ a.p.1 ∧ a.p.1 ≤ 2147483647 ∧ 0 ≤ a.q.1 ∧ a.q.1 ≤ 2147483647 ∧ a.lit / 2 ∈ x.D) (hl1 : x.ands.length ≤ 4000) (hl2 : x.next.length ≤ 4000) (hl3 : x.outs.length ≤ 4000) (hu1 : ∀ u ∈ x.next, 0 ≤ u.1 ∧ u.1 ≤ 2147483647) (hu2 : ∀ u ∈ x.outs, 0 ≤ u.1 ∧ u.1 ≤ 2147483647) (hcl : ∀ W, dE (hG b0 b1 s mo x W Y)) {R : AEnd → H → (Nat → Bool) → Prop}
 (h1 : ∀ o left, iJ x.ands ((x.ands.length + 1) * (x.ands.length + 1)) 0 x.left [] = (o, left) → x.ands.find? (fun a => decide (a.lit / 2 ∈ left)) = none → ∀ W X, R (.ret (lW x o).v) (hG b0 b1 s mo x W (Y ++ X)) (fun _ => false))
 (h2 : ∀ o left a, iJ x.ands ((x.ands.length + 1) * (x.ands.length + 1)) 0 x.left [] = (o, left) → x.ands.find? (fun a => decide (a.lit / 2 ∈ left)) = some a → ∀ W X, R (.pan (gU a.pos 7)) (hG b0 b1 s mo x W (Y ++ X)) (fun _ => false)) :
 ah TE 59 [.lp 3 0] (hG b0 b1 s mo x (aS x) Y) R := by
 have hM : maxLen = 9223372036854775807 := rfl;refine ah.fresh ?_;obtain ⟨N, hNN⟩ : ∃ N, N = Y.length + 10 := ⟨_, rfl⟩;obtain ⟨B, hB⟩ : ∃ B : Cl → H, ∀ W, B W = hG b0 b1 s mo x W Y := ⟨_, fun _ => rfl⟩;have hBX : ∀ W X, B W ++ X = hG b0 b1 s mo x W (Y ++ X) := fun W X => by rw [hB]; rfl
 have hN : ∀ W, (B W).length = N := fun W => by rw [hB, hNN]; rfl
 have hB3 : ∀ W Z, (B W ++ Z)[3]? = some (rdT s x.a (fiG x mo)) := fun W Z => by rw [hB]; rfl
 have hB2 : ∀ W Z, (B W ++ Z)[2]? = some (.map (x.D.map vi) (W.map vi)) := fun W Z => by rw [hB]; rfl
 have hB9 : ∀ W Z, (B W ++ Z)[9]? = some (.cells (anV x.ands)) := fun W Z => by rw [hB]; rfl
 have hBs : ∀ W W' Z, (B W ++ Z).set 2 (.map (x.D.map vi) (W'.map vi)) = B W' ++ Z := fun W W' Z => by rw [hB, hB]; rfl
 have gN : ∀ W r k, (B W ++ r)[N + k]? = r[k]? := fun W r k => by rw [← hN W]; exact gE
 have gN0 : ∀ W r, (B W ++ r)[N]? = r[0]? := fun W r => by rw [← hN W]; exact gE0
 have gNs : ∀ W r k o, (B W ++ r).set (N + k) o = B W ++ r.set k o := fun W r k o => by rw [← hN W]; exact gS
 have gNs0 : ∀ W r o, (B W ++ r).set N o = B W ++ r.set 0 o := fun W r o => by rw [← hN W]; exact gS0
 have hBcl : ∀ W p, (∀ i, i < N → p i = false) → (B W).map (O.drop p) = B W := fun W p hp => by rw [hB]; exact hcl W p (fun i hi => hp i (by rw [hNN]; exact hi))
 rw [← hB];have hal := xI x.ands;obtain ⟨c, hc⟩ : ∃ c, c = x.ins ++ x.lats := ⟨_, rfl⟩;have hcl' : c.length = x.ins.length + x.lats.length := by rw [hc, List.length_append]
 have hcc : Ev TE 106 [.is true 1 [aF x.ins, aF x.lats]] (aF c) := by have := ER [x.ins, x.lats] (by simp; omega) (by simp);rw [hc];simpa using this
 refine ay Tryz.func59 rfl (by simp [nts]) ?_;refine ag (vm ?_);simp only [wq.1, Nat.reduceLT, Tryz.results59, hN];refine ag (bg mixed Vb (fun f' h' => f'.t 0 = .lp 3 0 ∧ f'.t 2 = .lp N 0 ∧ f'.t 3 = .lp (N + 1) 0 ∧ f'.d = [] ∧ (∀ j, f'.k j = true → N ≤ j) ∧ h' = B (aS x) ++ [.cells [vi 0, .nils, .nils, .nils, .nils], .cells [vi x.ins.length, .nils, aF x.init, .nils, .nils]]) (by decide +kernel) (by decide +kernel) ?_ ?_)
 ·simp only [wq.1, seval, Vb, hB3, hN, gN, gNs, List.append_assoc]
 ·rintro f h' ⟨t0, t2, t3, hd, hk, rfl⟩;show awp _ _ _ _ _ _ _;refine ag ?_;refine ag ?_;refine bg mixed Vd (fun f' h' => f'.t 0 = .lp 3 0 ∧ f'.t 2 = .lp N 0 ∧ f'.t 3 = .lp (N + 1) 0 ∧ f'.t 30 = aF c ∧ f'.t 31 = vi c.length ∧ f'.t 32 = vi 0 ∧ f'.d = [] ∧ (∀ j, f'.k j = true → N ≤ j) ∧ h' = B (aS x) ++ [.cells [vi 0, .nils, .nils, .nils, .nils], .cells [vi x.ins.length, .nils, aF x.init, .nils, .nils]]) (by decide +kernel) (by decide +kernel) ?_ ?_
  ·simp only [wq.1, seval, Vd, t0, hB3]
   repeat' apply And.intro
   all_goals first
    | rfl
    | decide
    | skip
   all_goals
    refine ah.ev hcc rfl ?_;simp only [wq.1, seval, t0, t2, t3, hd];exact fun j hj => hk j hj
  ·rintro f h' ⟨t0, t2, t3, t30, t31, t32, hd, hk, rfl⟩;show awp _ _ _ _ _ _ _;obtain ⟨V0, hV0⟩ : ∃ V0 : Nat → Cl, ∀ i, V0 i = KI x.D (aS x) 1 (c.take i) := ⟨_, fun _ => rfl⟩;have hV0l : ∀ i, (V0 i).length = x.D.length := fun i => by rw [hV0, Aa]; simp [aS]
   rw [show aS x = V0 0 by rw [hV0]; rfl];refine az ?_;refine aA (fun mm f h' => ∃ i, mm + i = c.length ∧ f.t 0 = .lp 3 0 ∧ f.t 2 = .lp N 0 ∧ f.t 3 = .lp (N + 1) 0 ∧ f.t 30 = aF c ∧ f.t 31 = vi c.length ∧ f.t 32 = vi i ∧ f.d = [] ∧ (∀ j, f.k j = true → N ≤ j) ∧ h' = B (V0 i) ++ [.cells [vi 0, .nils, .nils, .nils, .nils], .cells [vi x.ins.length, .nils, aF x.init, .nils, .nils]]) c.length ⟨0, by simp, t0, t2, t3, t30, t31, t32, hd, hk, rfl⟩ ?_;clear t0 t2 t3 t30 t31 t32 hd hk;rintro mm f h' ⟨i, hm, t0, t2, t3, t30, t31, t32, hd, hk, rfl⟩;refine ag (vm ?_);simp only [wq.1, Nat.reduceLT, t31, t32];refine ag (vm ?_);simp only [wq.1, ↓reduceIte];refine vcB.mk (fun hlt => ?_) (fun hlt => ?_)
   ·simp only [decide_eq_true_eq, Int.ofNat_lt] at hlt;have hgc : (c.map vi).getD i .any = vi c[i] := rU hlt _;have hw := ak (show i < maxLen by omega);have hci := hD c[i] (by rw [← hc]; exact List.getElem_mem hlt);have s1 := Le c[i];have hput := YC (n := ((i + 1 : Nat) : Int)) (hV0l i) hci.2.2;have hV1 : (V0 i).set (x.D.idxOf (c[i] / 2)) ((i + 1 : Nat) : Int) = V0 (i + 1) := by
     rw [hV0, hV0, List.take_add_one, List.getElem?_eq_getElem hlt, Option.toList_some, Ae, List.length_take, Nat.min_eq_left (by omega)]
     congr 1
     omega
    rw [hV1] at hput;refine ag (az ?_);refine ag (vm ?_);simp only [wq.1, seval, t30, t32, hgc];refine ⟨⟨by omega, by omega⟩, ?_⟩;refine vm ?_;simp only [wq.1, seval, t0, hB3, hB2, hBs, s1, K.keyOk, hput, hw];refine vm ?_;simp only [wq.1, seval, t32, hw];exact .inl ⟨mm - 1, by omega, i + 1, by omega, by simp only [wq.1, seval, t0], by simp only [wq.1, seval, t2], by simp only [wq.1, seval, t3], by simp only [wq.1, seval, t30], by simp only [wq.1, seval, t31], rfl, by simp only [wq.1, hd], fun j hj => hk j hj, rfl⟩
   ·simp only [decide_eq_false_iff_not, Int.ofNat_lt] at hlt;have hi : i = c.length := by omega
    subst hi;clear t30 t31 t32;simp only [wq.1];refine ag (vm ?_);simp only [wq.1, seval, t0];obtain ⟨X0, hX0⟩ : ∃ X0 : H, X0 = [.cells [vi 0, .nils, .nils, .nils, .nils], .cells [vi x.ins.length, .nils, aF x.init, .nils, .nils]] := ⟨_, rfl⟩;have hclX : dE (hG b0 b1 s mo x (V0 c.length) (Y ++ X0)) := fun p hp => by
     rw [← hBX, List.map_append, hBcl _ p (fun i hi => hp i (by rw [← hBX, List.length_append, hN]; omega)), hX0];rfl
    rw [← hX0, hBX];refine KL hl1 hnd (fun a h => ⟨(ha a h).1, (ha a h).2.1, (ha a h).2.2.1, (ha a h).2.2.2.1, (ha a h).2.2.2.2.1, (ha a h).2.2.2.2.2.1⟩) hclX (fun o left hso hfi X => ?_) (fun o left a hso hfi X => ?_)
    ·have h1 := h1 o left hso hfi;obtain ⟨ho1, ho2⟩ := Ag hso (fun j hj => by cases hj);have hol : o.length ≤ 4000 := by
      have : x.left.length = x.ands.length := by simp [Fi.left]
      simp only [List.length_nil] at ho2;omega
     clear hso hfi h2;rw [List.append_assoc, ← hBX, hX0];obtain ⟨c2, hc2⟩ : ∃ c2 : Cl, c2 = o.map fun k => (x.ands.getD k .nil).lit := ⟨_, rfl⟩;obtain ⟨V1, hV1⟩ : ∃ V1 : Nat → Cl, ∀ i, V1 i = KI x.D (V0 c.length) (1 + x.ins.length + x.lats.length) (c2.take i) := ⟨_, fun _ => rfl⟩;have hV1l : ∀ i, (V1 i).length = x.D.length := fun i => by rw [hV1, Aa]; exact hV0l _
     rw [show V0 c.length = V1 0 by rw [hV1]; rfl];obtain ⟨oi, hoi⟩ : ∃ oi : Cl, oi = o.map fun i : Nat => (i : Int) := ⟨_, rfl⟩;have hoil : oi.length = o.length := by rw [hoi, List.length_map]
     rw [← hoi];have hc2l : c2.length = o.length := by rw [hc2, List.length_map]
     simp only [wq.1, seval];refine ag ?_;refine ag ?_;refine vm ?_;simp only [wq.1, seval];refine az ?_;refine aA (fun mm f h' => ∃ i, mm + i = o.length ∧ f.t 0 = .lp 3 0 ∧ f.t 2 = .lp N 0 ∧ f.t 3 = .lp (N + 1) 0 ∧ f.t 6 = aF oi ∧ f.t 48 = aF oi ∧ f.t 49 = vi o.length ∧ f.t 50 = vi i ∧ f.d = [] ∧ (∀ j, f.k j = true → N ≤ j) ∧ h' = B (V1 i) ++ .cells [vi 0, .nils, .nils, .nils, .nils] :: .cells [vi x.ins.length, .nils, aF x.init, .nils, .nils] :: X) o.length ⟨0, by simp, by simp only [wq.1, seval, t0], by simp only [wq.1, seval, t2], by simp only [wq.1, seval, t3], by simp only [wq.1, seval], by simp only [wq.1, seval], by simp only [wq.1, seval, hoil], rfl, by simp only [wq.1, hd], fun j hj => hk j hj, rfl⟩ ?_;clear t0 t2 t3 hd hk;rintro mm f h' ⟨i, hm, t0, t2, t3, t6, t48, t49, t50, hd, hk, rfl⟩;refine ag (vm ?_);simp only [wq.1, Nat.reduceLT, t49, t50];refine ag (vm ?_);simp only [wq.1, ↓reduceIte];refine vcB.mk (fun hlt => ?_) (fun hlt => ?_)
     ·simp only [decide_eq_true_eq, Int.ofNat_lt] at hlt;have hgo : (oi.map vi).getD i .any = vi (o[i] : Int) := by
       rw [hoi, List.getD_eq_getElem?_getD, List.getElem?_map, List.getElem?_map, List.getElem?_eq_getElem hlt]; rfl
      have hoa := ho1 _ (List.getElem_mem hlt);have hat := Zd hoa;have haa := ha _ (List.getElem_mem hoa);have s1 := Le x.ands[o[i]].lit;have hw := ak (show i < maxLen by omega);have w1 : IntKind.i64.wrap (1 + (x.ins.length : Int)) = 1 + x.ins.length := bu (by omega) (by omega);have w2 : IntKind.i64.wrap (1 + (x.ins.length : Int) + x.lats.length) = 1 + x.ins.length + x.lats.length := bu (by omega) (by omega);have w3 : IntKind.i64.wrap (1 + (x.ins.length : Int) + x.lats.length + i) = 1 + x.ins.length + x.lats.length + i := bu (by omega) (by omega);have hput := YC (n := 1 + (x.ins.length : Int) + x.lats.length + i) (hV1l i) haa.2.2.2.2.2.2;have hc2i : i < c2.length := by rw [hc2l]; exact hlt
      have hc2v : c2[i] = x.ands[o[i]].lit := by simp only [hc2, List.getElem_map]; rw [aO hoa]
      have hV2 : (V1 i).set (x.D.idxOf (x.ands[o[i]].lit / 2)) (1 + (x.ins.length : Int) + x.lats.length + i) = V1 (i + 1) := by rw [hV1, hV1, List.take_add_one, List.getElem?_eq_getElem hc2i, Option.toList_some, Ae, List.length_take, Nat.min_eq_left (by omega), hc2v]
      rw [hV2] at hput;refine ag (az ?_);refine ag (vm ?_);simp only [wq.1, seval, t48, t50, hgo];refine ⟨⟨by omega, by omega⟩, ?_⟩;refine Ns mixed 27 (.one 27 <| .fin) (fun f' h' => f'.t 0 = .lp 3 0 ∧ f'.t 2 = .lp N 0 ∧ f'.t 3 = .lp (N + 1) 0 ∧ f'.t 6 = aF oi ∧ f'.t 48 = aF oi ∧ f'.t 49 = vi o.length ∧ f'.t 50 = vi i ∧ f'.d = [] ∧ (∀ j, f'.k j = true → N ≤ j) ∧ h' = B (V1 (i + 1)) ++ .cells [vi 0, .nils, .nils, .nils, .nils] :: .cells [vi x.ins.length, .nils, aF x.init, .nils, .nils] :: X) (by decide +kernel) ?_ ?_
      ·intro K hK;simp only [List.take_succ_cons, List.take_zero];simp only [wq.1, seval, t0, hB3, hB9, hat, s1, w1, w2, w3];refine ⟨⟨by omega, by omega⟩, by omega, hK _ ?_⟩;simp only [wq.1, seval, t0, t2, t3, t6, t48, t49, t50, hd, hB2, hBs, Abs.K.keyOk, hput];exact fun j hj => hk j hj
      ·rintro f' h' ⟨t0, t2, t3, t6, t48, t49, t50, hd, hk, rfl⟩;simp only [wq.1];refine vm ?_;simp only [wq.1, seval, t50, hw];exact .inl ⟨mm - 1, by omega, i + 1, by omega, by simp only [wq.1, seval, t0], by simp only [wq.1, seval, t2], by simp only [wq.1, seval, t3], by simp only [wq.1, seval, t6], by simp only [wq.1, seval, t48], by simp only [wq.1, seval, t49], rfl, by simp only [wq.1, hd], fun j hj => hk j hj, rfl⟩
     ·simp only [decide_eq_false_iff_not, Int.ofNat_lt] at hlt;have hi : i = o.length := by omega
      subst hi;clear t48 t49 t50 hm hlt;obtain ⟨VV, hVV⟩ : ∃ VV, VV = x.vals o := ⟨_, rfl⟩;have hV1e : V1 o.length = VV := by
       rw [hV1, hVV, List.take_of_length_le (by omega), hV0, List.take_length, hc2, hc];rfl
      have hVl : VV.length = x.D.length := by rw [← hV1e]; exact hV1l _
      have hVb : ∀ v ∈ VV, 0 ≤ v ∧ v ≤ 100000 := by rw [← hV1e, hV1];refine Af (by omega) (by have := List.length_take_le o.length c2; omega) ?_;rw [hV0];refine Af (by omega) (by have := List.length_take_le c.length c; omega) ?_;intro v hv;obtain ⟨_, _, rfl⟩ := List.mem_map.1 hv;decide
      rw [hV1e];obtain ⟨pr, hpr⟩ : ∃ pr : Nat → Pr, ∀ k, pr k = (l7 x.D VV (x.ands.getD k .nil).p, l7 x.D VV (x.ands.getD k .nil).q) := ⟨_, fun _ => rfl⟩;simp only [wq.1];refine ag ?_;refine ag ?_;refine vm ?_;simp only [wq.1, seval, t6];refine az ?_;refine aA (fun mm f h' => ∃ (i : Nat) (v : V) (X : H), mm + i = o.length ∧ f.t 0 = .lp 3 0 ∧ f.t 2 = .lp N 0 ∧ f.t 3 = .lp (N + 1) 0 ∧ f.t 83 = aF oi ∧ f.t 84 = vi o.length ∧ f.t 85 = vi i ∧ f.d = [] ∧ (∀ j, f.k j = true → N ≤ j) ∧ h' = B VV ++ .cells [vi 0, .nils, .nils, .nils, .nils] :: .cells [vi x.ins.length, .nils, aF x.init, v, .nils] :: X ∧ ((i = 0 ∧ v = .nils) ∨ (0 < i ∧ ∃ j, v = .ls (N + (j + 2)) 2 0 i i ∧ X[j]? = some (.cells (fl ((o.take i).map pr)))))) o.length ⟨0, .nils, X, by simp, by simp only [wq.1, seval, t0], by simp only [wq.1, seval, t2], by simp only [wq.1, seval, t3], by simp only [wq.1, seval], by simp only [wq.1, seval, hoil], rfl, by simp only [wq.1, hd], fun j hj => hk j hj, rfl, .inl ⟨rfl, rfl⟩⟩ ?_;clear t0 t2 t3 t6 hd hk X;rintro mm f h' ⟨i, v, X, hm, t0, t2, t3, t83, t84, t85, hd, hk, rfl, hrow⟩;refine ag (vm ?_);simp only [wq.1, Nat.reduceLT, t84, t85];refine ag (vm ?_);simp only [wq.1, ↓reduceIte];refine vcB.mk (fun hlt => ?_) (fun hlt => ?_)
      ·simp only [decide_eq_true_eq, Int.ofNat_lt] at hlt;have hgo : (oi.map vi).getD i .any = vi (o[i] : Int) := by
        rw [hoi, List.getD_eq_getElem?_getD, List.getElem?_map, List.getElem?_map, List.getElem?_eq_getElem hlt]; rfl
       have hoa := ho1 _ (List.getElem_mem hlt);have haa := ha _ (List.getElem_mem hoa);have hw := ak (show i < maxLen by omega);obtain ⟨a, hae⟩ : ∃ a, a = x.ands[o[i]] := ⟨_, rfl⟩;have hc6 := nR hoa;rw [← hae] at haa hc6;have hap : ((anV x.ands).drop (o[i] * 6 + 2)).take 2 = [vi a.p.1, vi a.p.2] := by have := congrArg (fun z : List V => (z.drop 2).take 2) hc6;simpa [List.drop_take, List.take_take, List.drop_drop] using this
       have haq : ((anV x.ands).drop (o[i] * 6 + 4)).take 2 = [vi a.q.1, vi a.q.2] := by have := congrArg (fun z : List V => (z.drop 4).take 2) hc6;simpa [List.drop_take, List.take_take, List.drop_drop] using this
       have hpi : pr o[i] = (l7 x.D VV a.p, l7 x.D VV a.q) := by rw [hpr, aO hoa, ← hae]
       have htk : (o.take (i + 1)).map pr = (o.take i).map pr ++ [(l7 x.D VV a.p, l7 x.D VV a.q)] := by rw [List.take_add_one, List.map_append, List.getElem?_eq_getElem hlt]; simp [hpi]
       refine ag (az ?_);refine ag (vm ?_);simp only [wq.1, seval, t83, t85, hgo];refine ⟨⟨by omega, by omega⟩, ?_⟩;refine bg mixed D8 (fun f' h' => f'.t 0 = .lp 3 0 ∧ f'.t 2 = .lp N 0 ∧ f'.t 3 = .lp (N + 1) 0 ∧ f'.t 83 = aF oi ∧ f'.t 84 = vi o.length ∧ f'.t 85 = vi i ∧ f'.d = [] ∧ (∀ j, f'.k j = true → N ≤ j) ∧ ∃ v X, h' = B VV ++ .cells [vi 0, .nils, .nils, .nils, .nils] :: .cells [vi x.ins.length, .nils, aF x.init, v, .nils] :: X ∧ ∃ j, v = .ls (N + (j + 2)) 2 0 (i + 1) (i + 1) ∧ X[j]? = some (.cells (fl ((o.take (i + 1)).map pr)))) YD (by decide +kernel) ?_ ?_
       ·rcases hrow with ⟨rfl, rfl⟩ | ⟨hi0, j, rfl, hj⟩
        ·have hfin1 : ∀ X2 X3 : H, (X ++ (X2 ++ (X3 ++ [O.cells (List.flatMap V.vc [V.agg [vi (l7 x.D VV a.p), vi (l7 x.D VV a.q)]])])))[X.length + (X2.length + X3.length)]? = some (.cells (fl ((o.take (0 + 1)).map pr))) := fun X2 X3 => by rw [htk, gE, gE, gE0]; rfl
         simp only [wq.1, seval, Ug, Ui, Uk, Px, Py, Pz, KN, KO, Um, Uo, G7, Dx, xN, xO, G8, G9, Ha, Dz, xP, xQ, He, Hf, Hg, DD, Hl, Hm, Ho, Hq, Hr, Ht, Hu, Hw, Hy, DI, DK, Hz, HY, H5, H6, H7, H9, Ia, DN, DT, Ib, Ic, Ie, Ig, DV, DX, Ih, Ii, Ij, Ik, DZ, D6, Il, Io, Ip, Iq, Ir, Iu, Iw, Iy, Iz, IA, IB, IC, IE, IG, II, IJ, IK, IL, IM, IP, IQ, IR, IU, IV, IW, IX, IY, IZ, I4, D8, t0, t3, hB3, hB9, hap, haq, gN]
         repeat' apply And.intro
         all_goals first
          | omega
          | decide
          | skip
         all_goals
          rw [hBX];refine ni hVl hVb haa.2.2.1 haa.2.2.2.1 (fun X2 => ?_);rw [List.append_assoc, ← hBX];simp only [wq.1, seval, hB3, hB9, haq, gN]
         repeat' apply And.intro
         all_goals first
          | omega
          | decide
          | skip
         all_goals
          rw [hBX];refine ni hVl hVb haa.2.2.2.2.1 haa.2.2.2.2.2.1 (fun X3 => ?_);rw [List.append_assoc, ← hBX];simp only [wq.1, seval, t0, t2, t3, t83, t84, t85, hd, hN, gN, gNs, List.append_assoc]
         repeat' apply And.intro
         all_goals first
          | rfl
          | decide
          | omega
          | exact fun j hj => hk j hj
          | skip
         all_goals exact ⟨_, _, rfl, _, rfl, hfin1 X2 X3⟩
        ·have hjz : ∀ Z : H, (X ++ Z)[j]? = some (.cells (fl ((o.take i).map pr))) := fun Z => by rw [List.getElem?_append_left (List.getElem?_eq_some_iff.1 hj).1]; exact hj
         have hjl : j < X.length := (List.getElem?_eq_some_iff.1 hj).1;have d1 : V.drops (fun x => x == N + (j + 2)) (fl ((o.take i).map pr)) = fl ((o.take i).map pr) := fV;have d2 : (B VV).map (O.drop fun x => x == N + (j + 2)) = B VV := hBcl _ _ (fun i hi => by simp; omega);have e2 : (N == N + (j + 2)) = false := by simp
         have e3 : (N + 1 == N + (j + 2)) = false := by simp
         have e4 : (3 == N + (j + 2)) = false := by simp; omega
         have hlen : (o.take i).length = i := by rw [List.length_take]; omega
         have hfl2 : (fl ((o.take i).map pr)).length = i * 2 := by rw [Ce, List.length_map, hlen]
         have hkk : ∀ j', (f.k j' || j' == N + (j + 2)) = true → N ≤ j' := fun j' hj' => by
          rcases (by simpa using hj' : f.k j' = true ∨ j' = N + (j + 2)) with h | h
          ·exact hk _ h
          ·omega
         have hfin2 : ∀ X2 X3 : H, ((X.map (O.drop fun x => x == N + (j + 2)) ++ (X2.map (O.drop fun x => x == N + (j + 2)) ++ X3.map (O.drop fun x => x == N + (j + 2)))).set j (.cells (fl ((o.take i).map pr) ++ V.drops (fun x => x == N + (j + 2)) (List.flatMap V.vc [V.agg [vi (l7 x.D VV a.p), vi (l7 x.D VV a.q)]]))))[j]? = some (.cells (fl ((o.take (i + 1)).map pr))) := fun X2 X3 => by rw [List.getElem?_set_self (by rw [List.length_append, List.length_map]; omega), htk];simp only [fl, List.flatMap_append];rfl
         simp only [wq.1, seval, Ug, Ui, Uk, Px, Py, Pz, KN, KO, Um, Uo, G7, Dx, xN, xO, G8, G9, Ha, Dz, xP, xQ, He, Hf, Hg, DD, Hl, Hm, Ho, Hq, Hr, Ht, Hu, Hw, Hy, DI, DK, Hz, HY, H5, H6, H7, H9, Ia, DN, DT, Ib, Ic, Ie, Ig, DV, DX, Ih, Ii, Ij, Ik, DZ, D6, Il, Io, Ip, Iq, Ir, Iu, Iw, Iy, Iz, IA, IB, IC, IE, IG, II, IJ, IK, IL, IM, IP, IQ, IR, IU, IV, IW, IX, IY, IZ, I4, D8, t0, t3, hB3, hB9, hap, haq, gN]
         repeat' apply And.intro
         all_goals first
          | omega
          | decide
          | skip
         all_goals
          rw [hBX];refine ni hVl hVb haa.2.2.1 haa.2.2.2.1 (fun X2 => ?_);rw [List.append_assoc, ← hBX];simp only [wq.1, seval, hB3, hB9, haq, gN]
         repeat' apply And.intro
         all_goals first
          | omega
          | decide
          | skip
         all_goals
          rw [hBX];refine ni hVl hVb haa.2.2.2.2.1 haa.2.2.2.2.2.1 (fun X3 => ?_);rw [List.append_assoc, ← hBX];simp only [wq.1, seval, t0, t2, t3, t83, t84, t85, hd, gN, gNs, List.append_assoc, hjz, d1, d2, e2, e3, e4]
         repeat' apply And.intro
         all_goals first
          | rfl
          | decide
          | exact hfl2
          | exact hkk
          | omega
          | skip
         all_goals exact ⟨_, _, rfl, _, rfl, hfin2 X2 X3⟩
       ·rintro f' h' ⟨t0, t2, t3, t83, t84, t85, hd, hk, v, X, rfl, j, rfl, hj⟩;simp only [wq.1];refine vm ?_;simp only [wq.1, seval, t85, hw];exact .inl ⟨mm - 1, by omega, i + 1, _, X, by omega, by simp only [wq.1, seval, t0], by simp only [wq.1, seval, t2], by simp only [wq.1, seval, t3], by simp only [wq.1, seval, t83], by simp only [wq.1, seval, t84], rfl, by simp only [wq.1, hd], fun j hj => hk j hj, rfl, .inr ⟨by omega, j, rfl, hj⟩⟩
      ·simp only [decide_eq_false_iff_not, Int.ofNat_lt] at hlt;have hi : i = o.length := by omega
       subst hi;clear t83 t84 t85 hm hlt;rw [List.take_length] at hrow;simp only [wq.1];have hN10 : 10 ≤ N := by omega
       obtain ⟨p, hp⟩ : ∃ p : Nat → Bool, p = fun i => decide (N + 2 ≤ i) := ⟨_, rfl⟩;have hpB : ∀ i, i < N + 2 → p i = false := fun i hi => by rw [hp]; simp; omega
       refine um p (B VV ++ [.cells [vi 0, .nils, .nils, .nils, .nils], .cells [vi x.ins.length, .nils, aF x.init, prs (o.map pr), .nils]]) (fun i hi => ?_) (fun i q hi hq => ?_) (by simp only [wq.1, hd]) ?_
       ·have hi : i < N + 2 := by rw [hp] at hi; simpa using hi
        by_cases hiN : i < N
        ·refine .inl ?_;rw [List.getElem?_append_left (by rw [hN]; exact hiN), List.getElem?_append_left (by rw [hN]; exact hiN)]
         conv => lhs; rw [← hBcl VV p (fun i hi => hpB i (by omega))]
         rw [List.getElem?_map]
        ·by_cases hi2 : i = N
         ·subst hi2;exact .inl (by rw [gN0, gN0]; rfl)
         ·have hi3 : i = N + 1 := by omega
          subst hi3;refine .inr ⟨[vi x.ins.length, .nils, aF x.init, v, .nils], [vi x.ins.length, .nils, aF x.init, prs (o.map pr), .nils], by rw [gN]; rfl, by rw [gN]; rfl, ⟨.inl rfl, .inl rfl, .inl rfl, .inr ?_, .inl rfl, trivial⟩⟩;rcases hrow with ⟨h0, rfl⟩ | ⟨h0, j, rfl, hj⟩
          ·have : o = [] := List.eq_nil_of_length_eq_zero h0;rw [this];exact ⟨rfl, aG.nils⟩
          ·have hpj : p (N + (j + 2)) = true := by rw [hp]; simp
           refine ⟨by simp [V.drop, hpj], nK ?_ (by simp)⟩;rw [mM, gN];show (X[j]?).map _ = _;rw [hj];simp only [Option.map_some, Nat.zero_add, hpj, if_true];show some (O.cells (V.drops _ (fl (o.map pr)))) = _;rw [fV]
       ·have hi : N + 2 ≤ i := by rw [hp] at hi; simpa using hi
        rw [List.getElem?_eq_none (by rw [List.length_append, hN]; simpa using hi)] at hq;cases hq
       ·obtain ⟨f', hf'⟩ : ∃ f' : Fr, f' = { t := fun i => V.drop p ((f.put (some 86) (V.bool (decide ((o.length : Int) < (o.length : Int))))).t i), d := (f.put (some 86) (V.bool (decide ((o.length : Int) < (o.length : Int))))).d, k := fun i => (f.put (some 86) (V.bool (decide ((o.length : Int) < (o.length : Int))))).k i || p i } := ⟨_, rfl⟩;have u0 : f'.t 0 = .lp 3 0 := by rw [hf']; show V.drop p (f.t 0) = _; rw [t0]; simp [V.drop, hpB 3 (by omega)]
        have u2 : f'.t 2 = .lp N 0 := by rw [hf']; show V.drop p (f.t 2) = _; rw [t2]; simp [V.drop, hpB N (by omega)]
        have u3 : f'.t 3 = .lp (N + 1) 0 := by rw [hf']; show V.drop p (f.t 3) = _; rw [t3]; simp [V.drop, hpB (N + 1) (by omega)]
        have ud : f'.d = [] := by rw [hf']; exact hd
        have uk : ∀ j, f'.k j = true → N ≤ j := fun j hj => by
         rw [hf'] at hj;rcases Bool.or_eq_true_iff.1 hj with h | h
         ·exact hk j h
         ·rw [hp] at h;have : N + 2 ≤ j := by simpa using h
          omega
        rw [← hf'];clear hf' t0 t2 t3 hd hk hrow X;have hB6 : ∀ W Z, (hG b0 b1 s mo x W Z)[6]? = some (.cells (usV x.next)) := fun W Z => rfl;have hB8 : ∀ W Z, (hG b0 b1 s mo x W Z)[8]? = some (.cells (usV x.outs)) := fun W Z => rfl;have hclY : dE (hG b0 b1 s mo x VV (Y ++ [.cells [vi 0, .nils, .nils, .nils, .nils], .cells [vi x.ins.length, .nils, aF x.init, prs (o.map pr), .nils]])) := fun p hp => by
         rw [← hBX, List.map_append, hBcl _ p (fun i hi => hp i (by rw [← hBX, List.length_append, hN]; omega))];rfl
        refine ag (bg mixed QQ (fun f' h' => f'.t 2 = .lp N 0 ∧ f'.t 3 = .lp (N + 1) 0 ∧ f'.d = [] ∧ (∀ j, f'.k j = true → N ≤ j) ∧ h' = B VV ++ [.cells [vi 0, .nils, .nils, .nils, .nils], .cells [vi x.ins.length, aF (x.next.map (l7 x.D VV)), aF x.init, prs (o.map pr), aF (x.outs.map (l7 x.D VV))]]) (by decide +kernel) (by decide +kernel) ?_ ?_)
        ·simp only [wq.1, seval, QQ, u0, hB3]
         repeat' apply And.intro
         all_goals
          rw [hBX];refine xM hVl hVb (hB6 _ _) hl2 hu1 hclY ?_;rw [← hBX];simp only [wq.1, seval, u3, hB3]
         repeat' apply And.intro
         all_goals
          rw [hBX];refine xM hVl hVb (hB8 _ _) hl3 hu2 hclY ?_;rw [← hBX];simp only [wq.1, seval, u2, u3, ud, gN, gNs];exact uk
        ·rintro f h ⟨t2, t3, hd, hk, rfl⟩;refine ag (vm ?_);simp only [wq.1, seval, t2, t3, gN, gN0, gNs0];refine vm ?_;simp only [wq.1, seval, t2, hd, gN0];refine ⟨fun j hj => ?_, ?_⟩
         ·cases h : f.k j with
          | false => rfl
          | true => have := hk j h; omega
         ·have hpe : o.map pr = o.map fun k => (l7 x.D VV (x.ands.getD k .nil).p, l7 x.D VV (x.ands.getD k .nil).q) := List.map_congr_left fun k _ => hpr k;have hge : (lW x o).v = .agg [vi x.ins.length, aF (x.next.map (l7 x.D VV)), aF x.init, prs (o.map pr), aF (x.outs.map (l7 x.D VV))] := by rw [hpe, hVV]; rfl
          rw [← hge, hBX];exact h1 _ _
    ·simp only [wq.1, bI];simp only [XE.seq, bG];simp only [wq.1, hd];refine ⟨fun j hj => ?_, ?_⟩
     ·cases h : f.k j with
      | false => rfl
      | true => have := hk j h; omega
     ·rw [List.append_assoc];exact h2 o left a hso hfi _ _
structure FOk (x : Fi) : Prop where
 lin : ∀ n ∈ x.ins ++ x.lats, 0 ≤ n ∧ n ≤ 2147483647 ∧ n / 2 ∈ x.D
 an : ∀ a ∈ x.ands, 0 ≤ a.lit ∧ a.lit ≤ 2147483647 ∧ 0 ≤ a.p.1 ∧ a.p.1 ≤ 2147483647 ∧ 0 ≤ a.q.1 ∧ a.q.1 ≤ 2147483647 ∧ a.lit / 2 ∈ x.D
 nd : x.left.Nodup
 nx : ∀ u ∈ x.next, 0 ≤ u.1 ∧ u.1 ≤ 2147483647
 ou : ∀ u ∈ x.outs, 0 ≤ u.1 ∧ u.1 ≤ 2147483647
structure FLn (x : Fi) (n1 n2 n3 n4 : Nat) : Prop where
 l1 : x.ins.length = n1
 l2 : x.lats.length = n2
 l3 : x.next.length = n2
 l4 : x.init.length = n2
 l5 : x.outs.length = n3
 l6 : x.ands.length = n4
theorem FOk.a {x : Fi} (h : FOk x) {b : Nat} : FOk { x with a := b } := ⟨h.lin, h.an, h.nd, h.nx, h.ou⟩
theorem FOk.defd {x : Fi} (h : FOk x) {m : Int} {b : Nat} : FOk { x with a := b, D := x.D ++ [m] } :=
 ⟨fun n hn => ⟨(h.lin n hn).1, (h.lin n hn).2.1, List.mem_append_left _ (h.lin n hn).2.2⟩,
  fun a ha => ⟨(h.an a ha).1, (h.an a ha).2.1, (h.an a ha).2.2.1, (h.an a ha).2.2.2.1, (h.an a ha).2.2.2.2.1, (h.an a ha).2.2.2.2.2.1, List.mem_append_left _ (h.an a ha).2.2.2.2.2.2⟩, h.nd, h.nx, h.ou⟩
theorem jX {s : S} {c : UInt8} {x y : Fi} (h : gQ s c x = .ok y) : y = { x with a := x.a + 1 } := by
 unfold gQ at h;split at h
 ·cases h; rfl
 ·cases h
theorem I5 (a : Nat) : FOk (.start a) ∧ FLn (.start a) 0 0 0 0 :=
 ⟨⟨fun n hn => (by cases hn), fun n hn => (by cases hn), List.nodup_nil, fun n hn => (by cases hn), fun n hn => (by cases hn)⟩, ⟨rfl, rfl, rfl, rfl, rfl, rfl⟩⟩
theorem QR {s : S} {mo : Int} {x y : Fi} {n1 n2 n3 n4 : Nat} (h : iZ s mo x = .ok y) (hx : FOk x) (hl : FLn x n1 n2 n3 n4) : FOk y ∧ FLn y (n1 + 1) n2 n3 n4 := by
 unfold iZ at h;cases hd : Lh s mo x with
 | error e => rw [hd] at h; cases h
 | ok v =>
  obtain ⟨n, z⟩ := v;rw [hd] at h;dsimp only at h;obtain ⟨⟨b, rfl⟩, d0, d1, d2, d3, d4, d5⟩ := qY hd;obtain rfl := jX h;have h2 := hx.defd (m := n / 2) (b := b);refine ⟨⟨fun m hm => ?_, h2.an, h2.nd, h2.nx, h2.ou⟩, ⟨by simp [hl.l1], hl.l2, hl.l3, hl.l4, hl.l5, hl.l6⟩⟩;rcases List.mem_append.1 hm with h | h
  ·rcases List.mem_append.1 h with h | h
   ·exact h2.lin m (List.mem_append_left _ h)
   ·rw [List.mem_singleton] at h; subst h;exact ⟨d0, d1, List.mem_append_right _ (by simp)⟩
  ·exact h2.lin m (List.mem_append_right _ h)
theorem QS {s : S} {lit : Int} {x y : Fi} {n : Int} (h : ve s lit x = .ok (n, y)) : ∃ b, y = { x with a := b } := by
 unfold ve at h;split at h
 ·cases hn : uZ s (x.a + 1) with
  | error e => rw [hn] at h; cases h
  | ok v =>
   obtain ⟨m, b⟩ := v;rw [hn] at h;dsimp only at h;split at h
   ·simp only [Except.ok.injEq, Prod.mk.injEq] at h;exact ⟨b, h.2.symm⟩
   ·cases h
 ·simp only [Except.ok.injEq, Prod.mk.injEq] at h;exact ⟨x.a, h.2.symm⟩
theorem QT {s : S} {mo : Int} {x y : Fi} {n1 n2 n3 n4 : Nat} (h : ja s mo x = .ok y) (hx : FOk x) (hl : FLn x n1 n2 n3 n4) : FOk y ∧ FLn y n1 (n2 + 1) n3 n4 := by
 unfold ja at h;cases hd : Lh s mo x with
 | error e => rw [hd] at h; cases h
 | ok v =>
  obtain ⟨n, z⟩ := v;rw [hd] at h;dsimp only at h;obtain ⟨⟨b, rfl⟩, d0, d1, d2, d3, d4, d5⟩ := qY hd;have h2 := hx.defd (m := n / 2) (b := b);cases hb : gQ s 32 { x with a := b, D := x.D ++ [n / 2] } with
  | error e => rw [hb] at h; cases h
  | ok z =>
   rw [hb] at h;dsimp only at h;obtain rfl := jX hb;cases hu : Eh s mo { x with a := b + 1, D := x.D ++ [n / 2] } with
   | error e => rw [hu] at h; cases h
   | ok v =>
    obtain ⟨u, z⟩ := v;rw [hu] at h;dsimp only at h;obtain ⟨⟨b2, rfl⟩, u0, u1, u2, u3⟩ := lM hu;cases hg : ve s n { x with a := b2, D := x.D ++ [n / 2], next := x.next ++ [u] } with
    | error e => rw [hg] at h; cases h
    | ok v =>
     obtain ⟨m, z⟩ := v;rw [hg] at h;dsimp only at h;obtain ⟨b3, rfl⟩ := QS hg;obtain rfl := jX h;refine ⟨⟨fun k hk => ?_, h2.an, h2.nd, fun v hv => ?_, h2.ou⟩, ⟨hl.l1, by simp [hl.l2], by simp [hl.l3], by simp [hl.l4], hl.l5, hl.l6⟩⟩
     ·rcases List.mem_append.1 hk with h | h
      ·exact h2.lin k (List.mem_append_left _ h)
      ·rcases List.mem_append.1 h with h | h
       ·exact h2.lin k (List.mem_append_right _ h)
       ·rw [List.mem_singleton] at h; subst h;exact ⟨d0, d1, List.mem_append_right _ (by simp)⟩
     ·rcases List.mem_append.1 hv with h | h
      ·exact hx.nx v h
      ·rw [List.mem_singleton] at h; subst h; exact ⟨u0, u1⟩
theorem KP {s : S} {mo : Int} {x y : Fi} {n1 n2 n3 n4 : Nat} (h : fM s mo x = .ok y) (hx : FOk x) (hl : FLn x n1 n2 n3 n4) : FOk y ∧ FLn y n1 n2 (n3 + 1) n4 := by
 unfold fM at h;cases hu : Eh s mo x with
 | error e => rw [hu] at h; cases h
 | ok v =>
  obtain ⟨u, z⟩ := v;rw [hu] at h;dsimp only at h;obtain ⟨⟨b, rfl⟩, u0, u1, u2, u3⟩ := lM hu;obtain rfl := jX h;refine ⟨⟨hx.lin, hx.an, hx.nd, hx.nx, fun v hv => ?_⟩, ⟨hl.l1, hl.l2, hl.l3, hl.l4, by simp [hl.l5], hl.l6⟩⟩;rcases List.mem_append.1 hv with h | h
  ·exact hx.ou v h
  ·rw [List.mem_singleton] at h; subst h; exact ⟨u0, u1⟩
theorem Ut {s : S} {mo : Int} {x y : Fi} {n1 n2 n3 n4 : Nat} (h : oZ s mo x = .ok y) (hx : FOk x) (hl : FLn x n1 n2 n3 n4) : FOk y ∧ FLn y n1 n2 n3 (n4 + 1) := by
 unfold oZ at h;cases hd : Lh s mo x with
 | error e => rw [hd] at h; cases h
 | ok v =>
  obtain ⟨n, z⟩ := v;rw [hd] at h;dsimp only at h;obtain ⟨⟨b, rfl⟩, d0, d1, d2, d3, d4, d5⟩ := qY hd;have h2 := hx.defd (m := n / 2) (b := b);cases hb : gQ s 32 { x with a := b, D := x.D ++ [n / 2] } with
  | error e => rw [hb] at h; cases h
  | ok z =>
   rw [hb] at h;dsimp only at h;obtain rfl := jX hb;cases hu : Eh s mo { x with a := b + 1, D := x.D ++ [n / 2] } with
   | error e => rw [hu] at h; cases h
   | ok v =>
    obtain ⟨p, z⟩ := v;rw [hu] at h;dsimp only at h;obtain ⟨⟨b2, rfl⟩, u0, u1, u2, u3⟩ := lM hu;cases hb : gQ s 32 { x with a := b2, D := x.D ++ [n / 2] } with
    | error e => rw [hb] at h; cases h
    | ok z =>
     rw [hb] at h;dsimp only at h;obtain rfl := jX hb;cases hu : Eh s mo { x with a := b2 + 1, D := x.D ++ [n / 2] } with
     | error e => rw [hu] at h; cases h
     | ok v =>
      obtain ⟨q, z⟩ := v;rw [hu] at h;dsimp only at h;obtain ⟨⟨b3, rfl⟩, v0, v1, v2, v3⟩ := lM hu;cases hb : gQ s 10 { x with a := b3, D := x.D ++ [n / 2] } with
      | error e => rw [hb] at h; cases h
      | ok z =>
       rw [hb] at h;dsimp only at h;obtain rfl := jX hb;cases h;refine ⟨⟨h2.lin, fun a ha => ?_, ?_, h2.nx, h2.ou⟩, ⟨hl.l1, hl.l2, hl.l3, hl.l4, hl.l5, by simp [hl.l6]⟩⟩
       ·rcases List.mem_append.1 ha with h | h
        ·exact h2.an a h
        ·rw [List.mem_singleton] at h; subst h;exact ⟨d0, d1, u0, u1, v0, v1, List.mem_append_right _ (by simp)⟩
       ·show (List.map (fun a : An => a.lit / 2) (x.ands ++ [_])).Nodup;rw [List.map_append, List.nodup_append];refine ⟨hx.nd, by simp, fun k hk j hj e => ?_⟩;obtain ⟨a, ha, rfl⟩ := List.mem_map.1 hk;simp only [List.map_cons, List.map_nil, List.mem_singleton] at hj;rw [hj] at e;exact d5 (e ▸ (hx.an a ha).2.2.2.2.2.2)
end Go.Proofs.YtfcpapokknfeeaaGreatDoor
