/- Lemmas for this claim, part F11: each holds under what it names. -/
import Derived.Test.YtfcpapokknfeeaaGreatDoorF10
import Derived.Test.YtfcpapokknfeeaaGreatDoorA10
set_option linter.unusedVariables false
set_option linter.unusedSimpArgs false
set_option linter.unnecessarySimpa false
set_option maxRecDepth 20000
set_option maxHeartbeats 8000000
namespace Go.Proofs.YtfcpapokknfeeaaGreatDoor
open Go Go.Proofs Go.Abs
theorem zav {D V : Cl} {a n : Int} (hl : V.length = D.length) (h : a ∈ D) : NW (.int .i64) (vi a) (vi n) (D.map vi) (V.map vi) = some (D.map vi,(V.set (D.idxOf a) n).map vi) := by
 unfold NW;rw [ug];have h0 := wU (D := D) (a := a);rw [decide_eq_true h] at h0;obtain ⟨i,hi⟩ := Option.isSome_iff_exists.1 h0;obtain ⟨h1,h2,h3⟩ := List.findIdx?_eq_some_iff_getElem.1 hi;have e : D.idxOf a = i := by
  rw [List.idxOf,List.findIdx_eq h1];exact ⟨h2,fun j hj => by simpa using h3 j hj⟩
 have hD : D.set i a = D := by
  have : D[i] = a := by simpa using h2
  rw [← this,List.set_getElem_self]
 rw [hi,e];simp only [Option.some.injEq,Prod.mk.injEq];exact ⟨by rw [← List.map_set,hD],by rw [List.map_set]⟩
theorem BO {D : Cl} : ∀ {l V : Cl} {k : Int} {a : Int},yM D V k (l ++ [a]) = (yM D V k l).set (D.idxOf (a / 2)) (k + l.length)
 | [],V,k,a => by simp [yM]
 | b :: l,V,k,a => by
  rw [List.cons_append];unfold yM;rw [BO]
  congr 1
  rw [List.length_cons];omega
theorem BP {D : Cl} {B : Int} : ∀ {l V : Cl} {k : Int},0 ≤ k → k + l.length ≤ B → (∀ v ∈ V,0 ≤ v ∧ v ≤ B) → ∀ v ∈ yM D V k l,0 ≤ v ∧ v ≤ B
 | [],V,k,h0,h1,hV => hV
 | b :: l,V,k,h0,h1,hV => by
  unfold yM;rw [List.length_cons] at h1;refine BP (by omega) (by omega) fun v hv => ?_;rcases List.mem_or_eq_of_mem_set hv with h | h
  ·exact hV v h
  ·subst h;omega
theorem BQ {A : List An} : ∀ {k i : Nat} {left : Cl} {out o : List Nat} {l : Cl},iq A k i left out = (o,l) → (∀ j ∈ out,j < A.length) → (∀ j ∈ o,j < A.length) ∧ o.length + l.length = out.length + left.length
 | 0,i,left,out,o,l,h,ho => by simp only [iq,Prod.mk.injEq] at h;obtain ⟨rfl,rfl⟩ := h;exact ⟨ho,rfl⟩
 | k + 1,i,left,out,o,l,h,ho => by
  unfold iq at h;split at h
  ·rename_i hi;split at h
   ·rename_i hc;obtain ⟨a1,a2⟩ := BQ h (fun j hj => by
     rcases List.mem_append.1 hj with h | h
     ·exact ho j h
     ·rw [List.mem_singleton] at h;omega)
    refine ⟨a1,?_⟩;have e1 := List.length_erase_of_mem hc.1;have e2 := List.length_pos_of_mem hc.1;rw [List.length_append,List.length_singleton] at a2;omega
   ·exact BQ h ho
  ·simp only [Prod.mk.injEq] at h;obtain ⟨rfl,rfl⟩ := h;exact ⟨ho,rfl⟩
theorem zbh {l : List An} {i : Nat} (h : i < l.length) : (anV l).getD (i * 6) .any = vi l[i].lit := by have := oM h;have h2 := congrArg (fun z : List V => z.getD 0 .any) this;simp only [List.getD_eq_getElem?_getD,List.getElem?_take,List.getElem?_drop] at h2 ⊢;simpa using h2
def V4 : Plan := .fin
theorem V5 : ai P (aI Tryz.f59 16) V4 0 (bl 29 536870911) = true := by decide +kernel
def V6 : Plan := .one 28 V4
theorem V7 : ai P (aI Tryz.f59 16) V6 1 (bl 29 268435455) = true := okO V5
def V8 : Plan := .take 27 V6
theorem V9 : ai P (aI Tryz.f59 16) V8 2 (bl 29 134217727) = true := okT V7
def Rf : Plan := .one 26 V8
theorem Jj : ai P (aI Tryz.f59 16) Rf 3 (bl 29 67108863) = true := okO V9
def Rh : Plan := .one 25 Rf
theorem Jk : ai P (aI Tryz.f59 16) Rh 4 (bl 29 33554431) = true := okO Jj
def Ri : Plan := .one 24 Rh
theorem Jl : ai P (aI Tryz.f59 16) Ri 5 (bl 29 16777215) = true := okO Jk
def Ny : Plan := .one 23 Ri
theorem BR : ai P (aI Tryz.f59 16) Ny 6 (bl 29 8388607) = true := okO Jl
def Nz : Plan := .one 22 Ny
theorem BU : ai P (aI Tryz.f59 16) Nz 7 (bl 29 4194303) = true := okO BR
def We : Plan := .take 21 Nz
theorem Wh : ai P (aI Tryz.f59 16) We 8 (bl 29 2097151) = true := okT BU
def Wj : Plan := .take 20 We
theorem Wl : ai P (aI Tryz.f59 16) Wj 9 (bl 29 1048575) = true := okT Wh
def Jm : Plan := .take 19 Wj
theorem Rj : ai P (aI Tryz.f59 16) Jm 10 (bl 29 524287) = true := okT Wl
def EL : Plan := .one 17 Jm
theorem EM : ai P (aI Tryz.f59 16) EL 11 (bl 29 393215) = true := okO Rj
def yT : Plan := .one 12 Ny
theorem xn : ai P (aI Tryz.f59 16) yT 7 (bl 29 8384511) = true := okO BR
def yU : Plan := .alt 12 Nz (.one 22 yT)
theorem xq : ai P (aI Tryz.f59 16) yU 8 (bl 29 4190207) = true := okA BU (alO xn)
def Jn : Plan := .take 21 yU
theorem Rk : ai P (aI Tryz.f59 16) Jn 9 (bl 29 2093055) = true := okT xq
def Jo : Plan := .take 20 Jn
theorem Rl : ai P (aI Tryz.f59 16) Jo 10 (bl 29 1044479) = true := okT Rk
def Jp : Plan := .take 19 Jo
theorem Rn : ai P (aI Tryz.f59 16) Jp 11 (bl 29 520191) = true := okT Rl
def EN : Plan := .alt 12 EL (.one 17 Jp)
theorem EO : ai P (aI Tryz.f59 16) EN 12 (bl 29 389119) = true := okA EM (alO Rn)
def yV : Plan := .one 11 yT
theorem xu : ai P (aI Tryz.f59 16) yV 8 (bl 29 8382463) = true := okO xn
def yX : Plan := .alt 11 yU (.one 22 yV)
theorem xx : ai P (aI Tryz.f59 16) yX 9 (bl 29 4188159) = true := okA xq (alO xu)
def Jq : Plan := .take 21 yX
theorem Ro : ai P (aI Tryz.f59 16) Jq 10 (bl 29 2091007) = true := okT xx
def Jr : Plan := .take 20 Jq
theorem Rq : ai P (aI Tryz.f59 16) Jr 11 (bl 29 1042431) = true := okT Ro
def Js : Plan := .take 19 Jr
theorem Rt : ai P (aI Tryz.f59 16) Js 12 (bl 29 518143) = true := okT Rq
def EP : Plan := .alt 11 EN (.one 17 Js)
theorem EQ : ai P (aI Tryz.f59 16) EP 13 (bl 29 387071) = true := okA EO (alO Rt)
def Jt : Plan := .take 10 EP
theorem Ru : ai P (aI Tryz.f59 16) Jt 14 (bl 29 386047) = true := okT EQ
def Ju : Plan := .take 9 Jt
theorem Rw : ai P (aI Tryz.f59 16) Ju 15 (bl 29 385535) = true := okT Ru
def Jv : Plan := .take 8 Ju
theorem Rx : ai P (aI Tryz.f59 16) Jv 16 (bl 29 385279) = true := okT Rw
def Jw : Plan := .take 10 yX
theorem Ry : ai P (aI Tryz.f59 16) Jw 10 (bl 29 4187135) = true := okT xx
def Jy : Plan := .take 9 Jw
theorem Rz : ai P (aI Tryz.f59 16) Jy 11 (bl 29 4186623) = true := okT Ry
def Jz : Plan := .take 8 Jy
theorem RD : ai P (aI Tryz.f59 16) Jz 12 (bl 29 4186367) = true := okT Rz
def JA : Plan := .take 10 yV
theorem RG : ai P (aI Tryz.f59 16) JA 9 (bl 29 8381439) = true := okT xu
def JB : Plan := .take 9 JA
theorem RH : ai P (aI Tryz.f59 16) JB 10 (bl 29 8380927) = true := okT RG
def JC : Plan := .take 8 JB
theorem RJ : ai P (aI Tryz.f59 16) JC 11 (bl 29 8380671) = true := okT RH
def ER : Plan := .one 6 JC
theorem ES : ai P (aI Tryz.f59 16) ER 12 (bl 29 8380607) = true := okO RJ
def ET : Plan := .alt 6 Jz (.one 22 ER)
theorem EU : ai P (aI Tryz.f59 16) ET 13 (bl 29 4186303) = true := okA RD (alO ES)
def JD : Plan := .take 21 ET
theorem RN : ai P (aI Tryz.f59 16) JD 14 (bl 29 2089151) = true := okT EU
def JE : Plan := .take 20 JD
theorem RP : ai P (aI Tryz.f59 16) JE 15 (bl 29 1040575) = true := okT RN
def JF : Plan := .take 19 JE
theorem RQ : ai P (aI Tryz.f59 16) JF 16 (bl 29 516287) = true := okT RP
def JG : Plan := .alt 6 Jv (.one 17 JF)
theorem RS : ai P (aI Tryz.f59 16) JG 17 (bl 29 385215) = true := okA Rx (alO RQ)
def JH : Plan := .one 1 Rf
theorem RU : ai P (aI Tryz.f59 16) JH 4 (bl 29 67108861) = true := okO Jj
def JI : Plan := .alt 1 Rh (.one 25 JH)
theorem RV : ai P (aI Tryz.f59 16) JI 5 (bl 29 33554429) = true := okA Jk (alO RU)
def JJ : Plan := .alt 1 Ri (.one 24 JI)
theorem RX : ai P (aI Tryz.f59 16) JJ 6 (bl 29 16777213) = true := okA Jl (alO RV)
def EW : Plan := .alt 1 Ny (.one 23 JJ)
theorem EX : ai P (aI Tryz.f59 16) EW 7 (bl 29 8388605) = true := okA BR (alO RX)
def EY : Plan := .alt 1 Nz (.one 22 EW)
theorem EZ : ai P (aI Tryz.f59 16) EY 8 (bl 29 4194301) = true := okA BU (alO EX)
def JK : Plan := .take 21 EY
theorem RY : ai P (aI Tryz.f59 16) JK 9 (bl 29 2097149) = true := okT EZ
def JL : Plan := .take 20 JK
theorem RZ : ai P (aI Tryz.f59 16) JL 10 (bl 29 1048573) = true := okT RY
def JM : Plan := .take 19 JL
theorem Si : ai P (aI Tryz.f59 16) JM 11 (bl 29 524285) = true := okT RZ
def JO : Plan := .alt 1 EL (.one 17 JM)
theorem Sj : ai P (aI Tryz.f59 16) JO 12 (bl 29 393213) = true := okA EM (alO Si)
def E5 : Plan := .alt 1 yT (.one 12 EW)
theorem E8 : ai P (aI Tryz.f59 16) E5 8 (bl 29 8384509) = true := okA xn (alO EX)
def E9 : Plan := .alt 1 yU (.alt 12 EY (.one 22 E5))
theorem Fa : ai P (aI Tryz.f59 16) E9 9 (bl 29 4190205) = true := okA xq (alA EZ (alO E8))
def JP : Plan := .take 21 E9
theorem Sl : ai P (aI Tryz.f59 16) JP 10 (bl 29 2093053) = true := okT Fa
def JQ : Plan := .take 20 JP
theorem Sr : ai P (aI Tryz.f59 16) JQ 11 (bl 29 1044477) = true := okT Sl
def JR : Plan := .take 19 JQ
theorem Su : ai P (aI Tryz.f59 16) JR 12 (bl 29 520189) = true := okT Sr
def JS : Plan := .alt 1 EN (.alt 12 JO (.one 17 JR))
theorem Sv : ai P (aI Tryz.f59 16) JS 13 (bl 29 389117) = true := okA EO (alA Sj (alO Su))
def Fb : Plan := .alt 1 yV (.one 11 E5)
theorem Fe : ai P (aI Tryz.f59 16) Fb 9 (bl 29 8382461) = true := okA xu (alO E8)
def Ff : Plan := .alt 1 yX (.alt 11 E9 (.one 22 Fb))
theorem Fg : ai P (aI Tryz.f59 16) Ff 10 (bl 29 4188157) = true := okA xx (alA Fa (alO Fe))
def JU : Plan := .take 21 Ff
theorem SA : ai P (aI Tryz.f59 16) JU 11 (bl 29 2091005) = true := okT Fg
def JV : Plan := .take 20 JU
theorem SB : ai P (aI Tryz.f59 16) JV 12 (bl 29 1042429) = true := okT SA
def JW : Plan := .take 19 JV
theorem SC : ai P (aI Tryz.f59 16) JW 13 (bl 29 518141) = true := okT SB
def JX : Plan := .alt 1 EP (.alt 11 JS (.one 17 JW))
theorem SE : ai P (aI Tryz.f59 16) JX 14 (bl 29 387069) = true := okA EQ (alA Sv (alO SC))
def JY : Plan := .take 10 JX
theorem SG : ai P (aI Tryz.f59 16) JY 15 (bl 29 386045) = true := okT SE
def JZ : Plan := .take 9 JY
theorem SH : ai P (aI Tryz.f59 16) JZ 16 (bl 29 385533) = true := okT SG
def J3 : Plan := .take 8 JZ
theorem SI : ai P (aI Tryz.f59 16) J3 17 (bl 29 385277) = true := okT SH
def J4 : Plan := .take 10 Ff
theorem SK : ai P (aI Tryz.f59 16) J4 11 (bl 29 4187133) = true := okT Fg
def J5 : Plan := .take 9 J4
theorem SL : ai P (aI Tryz.f59 16) J5 12 (bl 29 4186621) = true := okT SK
def J6 : Plan := .take 8 J5
theorem SN : ai P (aI Tryz.f59 16) J6 13 (bl 29 4186365) = true := okT SL
def J7 : Plan := .take 10 Fb
theorem SQ : ai P (aI Tryz.f59 16) J7 10 (bl 29 8381437) = true := okT Fe
def J8 : Plan := .take 9 J7
theorem SS : ai P (aI Tryz.f59 16) J8 11 (bl 29 8380925) = true := okT SQ
def J9 : Plan := .take 8 J8
theorem SV : ai P (aI Tryz.f59 16) J9 12 (bl 29 8380669) = true := okT SS
def Ko : Plan := .alt 1 ER (.one 6 J9)
theorem SX : ai P (aI Tryz.f59 16) Ko 13 (bl 29 8380605) = true := okA ES (alO SV)
def Kq : Plan := .alt 1 ET (.alt 6 J6 (.one 22 Ko))
theorem SY : ai P (aI Tryz.f59 16) Kq 14 (bl 29 4186301) = true := okA EU (alA SN (alO SX))
def Kr : Plan := .take 21 Kq
theorem S9 : ai P (aI Tryz.f59 16) Kr 15 (bl 29 2089149) = true := okT SY
def Kt : Plan := .take 20 Kr
theorem Tc : ai P (aI Tryz.f59 16) Kt 16 (bl 29 1040573) = true := okT S9
def Ku : Plan := .take 19 Kt
theorem Td : ai P (aI Tryz.f59 16) Ku 17 (bl 29 516285) = true := okT Tc
def Kv : Plan := .alt 1 JG (.alt 6 J3 (.one 17 Ku))
theorem Tf : ai P (aI Tryz.f59 16) Kv 18 (bl 29 385213) = true := okA RS (alA SI (alO Td))
def Kw : Plan := .take 18 Kv
theorem Ti : ai P (aI Tryz.f59 16) Kw 19 (bl 29 123069) = true := okT Tf
def Ky : Plan := .take 16 Kw
theorem Tj : ai P (aI Tryz.f59 16) Ky 20 (bl 29 57533) = true := okT Ti
def Kz : Plan := .take 15 Ky
theorem Tm : ai P (aI Tryz.f59 16) Kz 21 (bl 29 24765) = true := okT Tj
def KA : Plan := .take 14 Kz
theorem Tn : ai P (aI Tryz.f59 16) KA 22 (bl 29 8381) = true := okT Tm
def KC : Plan := .take 13 KA
theorem Tq : ai P (aI Tryz.f59 16) KC 23 (bl 29 189) = true := okT Tn
def KD : Plan := .take 7 KC
theorem Tt : ai P (aI Tryz.f59 16) KD 24 (bl 29 61) = true := okT Tq
def KE : Plan := .take 5 KD
theorem Tu : ai P (aI Tryz.f59 16) KE 25 (bl 29 29) = true := okT Tt
def KF : Plan := .take 4 KE
theorem Tv : ai P (aI Tryz.f59 16) KF 26 (bl 29 13) = true := okT Tu
def KG : Plan := .take 3 KF
theorem Tz : ai P (aI Tryz.f59 16) KG 27 (bl 29 5) = true := okT Tv
def KH : Plan := .take 2 KG
theorem TA : ai P (aI Tryz.f59 16) KH 28 (bl 29 1) = true := okT Tz
def Fh : Plan := .take 0 KH
theorem TB : ai P (aI Tryz.f59 16) Fh 29 #[false,false,false,false,false,false,false,false,false,false,false,false,false,false,false,false,false,false,false,false,false,false,false,false,false,false,false,false,false] = true := okT TA
theorem zaw : ai P (aI Tryz.f59 16) Fh (aI Tryz.f59 16).size (Array.replicate (aI Tryz.f59 16).size false) = true := TB
def TC : Plan := .take 0 <| .take 1 <| .take 2 <| .take 3 <| .take 6 <| .take 7 <| .take 8 <| .take 9 <| .alt 4 (.alt 5 (.take 12 <| .one 10 <| .one 11 <| .one 13 <| .take 14 <| .one 15 <| .fin) (.one 10 (.one 5 <| .take 12 <| .one 11 <| .one 13 <| .take 14 <| .one 15 <| .fin))) (.one 10 (.one 4 <| .one 5 <| .take 12 <| .one 11 <| .one 13 <| .take 14 <| .one 15 <| .fin))
def Xz : Plan := .take 0 <| .take 1 <| .take 2 <| .take 5 <| .take 6 <| .take 7 <| .alt 3 (.alt 4 (.alt 8 (.alt 9 (.one 10 <| .one 11 <| .fin) (.one 10 (.one 9 <| .one 11 <| .fin))) (.one 10 (.one 8 <| .one 9 <| .one 11 <| .fin))) (.alt 8 (.alt 4 (.alt 9 (.one 10 <| .one 11 <| .fin) (.one 10 (.one 9 <| .one 11 <| .fin))) (.one 10 (.one 4 <| .one 9 <| .one 11 <| .fin))) (.one 10 (.alt 4 (.one 8 <| .one 9 <| .one 11 <| .fin) (.one 8 (.one 4 <| .one 9 <| .one 11 <| .fin)))))) (.alt 8 (.alt 3 (.alt 4 (.alt 9 (.one 10 <| .one 11 <| .fin) (.one 10 (.one 9 <| .one 11 <| .fin))) (.one 10 (.one 4 <| .one 9 <| .one 11 <| .fin))) (.one 10 (.one 3 <| .one 4 <| .one 9 <| .one 11 <| .fin))) (.one 10 (.alt 3 (.alt 4 (.one 8 <| .one 9 <| .one 11 <| .fin) (.one 8 (.one 4 <| .one 9 <| .one 11 <| .fin))) (.one 8 (.one 3 <| .one 4 <| .one 9 <| .one 11 <| .fin)))))
def XA : Plan := .take 0 <| .take 1 <| .take 2 <| .take 4 <| .take 5 <| .take 6 <| .take 11 <| .alt 3 (.one 7 <| .one 8 <| .one 9 <| .one 10 <| .fin) (.one 7 (.one 3 <| .one 8 <| .one 9 <| .one 10 <| .fin))
theorem Ho {b0 b1 : O} {s : S} {mo : Int} {x : Fi} {Y : H} (hx : x.ins.length + x.lats.length + x.ands.length ≤ 8000) (hD : ∀ n ∈ x.ins ++ x.lats,0 ≤ n ∧ n ≤ 2147483647 ∧ n / 2 ∈ x.D) (hnd : x.left.Nodup) (ha : ∀ a ∈ x.ands,0 ≤ a.lit ∧ a.lit ≤ 2147483647 ∧ 0 ≤ a.p.1 ∧ a.p.1 ≤ 2147483647 ∧ 0 ≤ a.q.1 ∧ a.q.1 ≤ 2147483647 ∧ a.lit / 2 ∈ x.D) (hl1 : x.ands.length ≤ 4000) (hl2 : x.next.length ≤ 4000) (hl3 : x.outs.length ≤ 4000) (hu1 : ∀ u ∈ x.next,0 ≤ u.1 ∧ u.1 ≤ 2147483647) (hu2 : ∀ u ∈ x.outs,0 ≤ u.1 ∧ u.1 ≤ 2147483647) (hcl : ∀ W,dO (hG b0 b1 s mo x W Y)) {R : AEnd → H → (Nat → Bool) → Prop}
 (h1 : ∀ o left,iq x.ands ((x.ands.length + 1) * (x.ands.length + 1)) 0 x.left [] = (o,left) → x.ands.find? (fun a => decide (a.lit / 2 ∈ left)) = none → ∀ W X,R (.ret (kF x o).v) (hG b0 b1 s mo x W (Y ++ X)) (fun _ => false))
 (h2 : ∀ o left a,iq x.ands ((x.ands.length + 1) * (x.ands.length + 1)) 0 x.left [] = (o,left) → x.ands.find? (fun a => decide (a.lit / 2 ∈ left)) = some a → ∀ W X,R (.pan (gV a.pos 7)) (hG b0 b1 s mo x W (Y ++ X)) (fun _ => false)) :
 ah TE 59 [.lp 3 0] (hG b0 b1 s mo x (aQ x) Y) R := by
 have hM : maxLen = 9223372036854775807 := rfl;refine ah.fresh ?_;obtain ⟨N,hNN⟩ : ∃ N,N = Y.length + 10 := ⟨_,rfl⟩;obtain ⟨B,hB⟩ : ∃ B : Cl → H,∀ W,B W = hG b0 b1 s mo x W Y := ⟨_,fun _ => rfl⟩;have hBX : ∀ W X,B W ++ X = hG b0 b1 s mo x W (Y ++ X) := fun W X => by rw [hB];rfl
 have hN : ∀ W,(B W).length = N := fun W => by rw [hB,hNN];rfl
 have hB3 : ∀ W Z,(B W ++ Z)[3]? = some (rdT s x.a (fiG x mo)) := fun W Z => by rw [hB];rfl
 have hB2 : ∀ W Z,(B W ++ Z)[2]? = some (.map (x.D.map vi) (W.map vi)) := fun W Z => by rw [hB];rfl
 have hB9 : ∀ W Z,(B W ++ Z)[9]? = some (.cells (anV x.ands)) := fun W Z => by rw [hB];rfl
 have hBs : ∀ W W' Z,(B W ++ Z).set 2 (.map (x.D.map vi) (W'.map vi)) = B W' ++ Z := fun W W' Z => by rw [hB,hB];rfl
 have gN : ∀ W r k,(B W ++ r)[N + k]? = r[k]? := fun W r k => by rw [← hN W];exact gE
 have gN0 : ∀ W r,(B W ++ r)[N]? = r[0]? := fun W r => by rw [← hN W];exact gE0
 have gNs : ∀ W r k o,(B W ++ r).set (N + k) o = B W ++ r.set k o := fun W r k o => by rw [← hN W];exact gS
 have gNs0 : ∀ W r o,(B W ++ r).set N o = B W ++ r.set 0 o := fun W r o => by rw [← hN W];exact gS0
 have hBcl : ∀ W p,(∀ i,i < N → p i = false) → (B W).map (O.drop p) = B W := fun W p hp => by rw [hB];exact hcl W p (fun i hi => hp i (by rw [hNN];exact hi))
 rw [← hB];have hal := yP x.ands;obtain ⟨c,hc⟩ : ∃ c,c = x.ins ++ x.lats := ⟨_,rfl⟩;have hcl' : c.length = x.ins.length + x.lats.length := by rw [hc,List.length_append]
 have hcc : Ev TE 106 [.is true 1 [aH x.ins,aH x.lats]] (aH c) := by have := GH [x.ins,x.lats] (by simp;omega) (by simp);rw [hc];simpa using this
 refine au Tryz.func59 rfl (by simp [nts]) ?_;refine ag (vm ?_);simp only [wq.1,Nat.reduceLT,Tryz.results59,hN];refine ag (bu mixed Xz (fun f' h' => f'.t 0 = .lp 3 0 ∧ f'.t 2 = .lp N 0 ∧ f'.t 3 = .lp (N + 1) 0 ∧ f'.d = [] ∧ (∀ j,f'.k j = true → N ≤ j) ∧ h' = B (aQ x) ++ [.cells [vi 0,.nils,.nils,.nils,.nils],.cells [vi x.ins.length,.nils,aH x.init,.nils,.nils]]) (by decide +kernel) (by decide +kernel) ?_ ?_)
 ·simp only [wq.1,seval,Xz,hB3,hN,gN,gNs,List.append_assoc]
 ·rintro f h' ⟨t0,t2,t3,hd,hk,rfl⟩;show awp _ _ _ _ _ _ _;refine ag ?_;refine ag ?_;refine bu mixed XA (fun f' h' => f'.t 0 = .lp 3 0 ∧ f'.t 2 = .lp N 0 ∧ f'.t 3 = .lp (N + 1) 0 ∧ f'.t 30 = aH c ∧ f'.t 31 = vi c.length ∧ f'.t 32 = vi 0 ∧ f'.d = [] ∧ (∀ j,f'.k j = true → N ≤ j) ∧ h' = B (aQ x) ++ [.cells [vi 0,.nils,.nils,.nils,.nils],.cells [vi x.ins.length,.nils,aH x.init,.nils,.nils]]) (by decide +kernel) (by decide +kernel) ?_ ?_
  ·simp only [wq.1,seval,XA,t0,hB3]
   repeat' apply And.intro
   all_goals first
    | rfl
    | decide
    | skip
   all_goals
    refine ah.ev hcc rfl ?_;simp only [wq.1,seval,t0,t2,t3,hd];exact fun j hj => hk j hj
  ·rintro f h' ⟨t0,t2,t3,t30,t31,t32,hd,hk,rfl⟩;show awp _ _ _ _ _ _ _;obtain ⟨V0,hV0⟩ : ∃ V0 : Nat → Cl,∀ i,V0 i = yM x.D (aQ x) 1 (c.take i) := ⟨_,fun _ => rfl⟩;have hV0l : ∀ i,(V0 i).length = x.D.length := fun i => by rw [hV0,uG];simp [aQ]
   rw [show aQ x = V0 0 by rw [hV0];rfl];refine az ?_;refine aF (fun mm f h' => ∃ i,mm + i = c.length ∧ f.t 0 = .lp 3 0 ∧ f.t 2 = .lp N 0 ∧ f.t 3 = .lp (N + 1) 0 ∧ f.t 30 = aH c ∧ f.t 31 = vi c.length ∧ f.t 32 = vi i ∧ f.d = [] ∧ (∀ j,f.k j = true → N ≤ j) ∧ h' = B (V0 i) ++ [.cells [vi 0,.nils,.nils,.nils,.nils],.cells [vi x.ins.length,.nils,aH x.init,.nils,.nils]]) c.length ⟨0,by simp,t0,t2,t3,t30,t31,t32,hd,hk,rfl⟩ ?_;clear t0 t2 t3 t30 t31 t32 hd hk;rintro mm f h' ⟨i,hm,t0,t2,t3,t30,t31,t32,hd,hk,rfl⟩;refine ag (vm ?_);simp only [wq.1,Nat.reduceLT,t31,t32];refine ag (vm ?_);simp only [wq.1,↓reduceIte];refine vcB.mk (fun hlt => ?_) (fun hlt => ?_)
   ·simp only [decide_eq_true_eq,Int.ofNat_lt] at hlt;have hgc : (c.map vi).getD i .any = vi c[i] := xU hlt _;have hw := ax (show i < maxLen by omega);have hci := hD c[i] (by rw [← hc];exact List.getElem_mem hlt);have s1 := NY c[i];have hput := zav (n := ((i + 1 : Nat) : Int)) (hV0l i) hci.2.2;have hV1 : (V0 i).set (x.D.idxOf (c[i] / 2)) ((i + 1 : Nat) : Int) = V0 (i + 1) := by
     rw [hV0,hV0,List.take_add_one,List.getElem?_eq_getElem hlt,Option.toList_some,BO,List.length_take,Nat.min_eq_left (by omega)]
     congr 1
     omega
    rw [hV1] at hput;refine ag (az ?_);refine ag (vm ?_);simp only [wq.1,seval,t30,t32,hgc];refine ⟨⟨by omega,by omega⟩,?_⟩;refine vm ?_;simp only [wq.1,seval,t0,hB3,hB2,hBs,s1,K.keyOk,hput,hw];refine vm ?_;simp only [wq.1,seval,t32,hw];exact .inl ⟨mm - 1,by omega,i + 1,by omega,by simp only [wq.1,seval,t0],by simp only [wq.1,seval,t2],by simp only [wq.1,seval,t3],by simp only [wq.1,seval,t30],by simp only [wq.1,seval,t31],rfl,by simp only [wq.1,hd],fun j hj => hk j hj,rfl⟩
   ·simp only [decide_eq_false_iff_not,Int.ofNat_lt] at hlt;have hi : i = c.length := by omega
    subst hi;clear t30 t31 t32;simp only [wq.1];refine ag (vm ?_);simp only [wq.1,seval,t0];obtain ⟨X0,hX0⟩ : ∃ X0 : H,X0 = [.cells [vi 0,.nils,.nils,.nils,.nils],.cells [vi x.ins.length,.nils,aH x.init,.nils,.nils]] := ⟨_,rfl⟩;have hclX : dO (hG b0 b1 s mo x (V0 c.length) (Y ++ X0)) := fun p hp => by
     rw [← hBX,List.map_append,hBcl _ p (fun i hi => hp i (by rw [← hBX,List.length_append,hN];omega)),hX0];rfl
    rw [← hX0,hBX];refine Nw hl1 hnd (fun a h => ⟨(ha a h).1,(ha a h).2.1,(ha a h).2.2.1,(ha a h).2.2.2.1,(ha a h).2.2.2.2.1,(ha a h).2.2.2.2.2.1⟩) hclX (fun o left hso hfi X => ?_) (fun o left a hso hfi X => ?_)
    ·have h1 := h1 o left hso hfi;obtain ⟨ho1,ho2⟩ := BQ hso (fun j hj => by cases hj);have hol : o.length ≤ 4000 := by
      have : x.left.length = x.ands.length := by simp [Fi.left]
      simp only [List.length_nil] at ho2;omega
     clear hso hfi h2;rw [List.append_assoc,← hBX,hX0];obtain ⟨c2,hc2⟩ : ∃ c2 : Cl,c2 = o.map fun k => (x.ands.getD k .nil).lit := ⟨_,rfl⟩;obtain ⟨V1,hV1⟩ : ∃ V1 : Nat → Cl,∀ i,V1 i = yM x.D (V0 c.length) (1 + x.ins.length + x.lats.length) (c2.take i) := ⟨_,fun _ => rfl⟩;have hV1l : ∀ i,(V1 i).length = x.D.length := fun i => by rw [hV1,uG];exact hV0l _
     rw [show V0 c.length = V1 0 by rw [hV1];rfl];obtain ⟨oi,hoi⟩ : ∃ oi : Cl,oi = o.map fun i : Nat => (i : Int) := ⟨_,rfl⟩;have hoil : oi.length = o.length := by rw [hoi,List.length_map]
     rw [← hoi];have hc2l : c2.length = o.length := by rw [hc2,List.length_map]
     simp only [wq.1,seval];refine ag ?_;refine ag ?_;refine vm ?_;simp only [wq.1,seval];refine az ?_;refine aF (fun mm f h' => ∃ i,mm + i = o.length ∧ f.t 0 = .lp 3 0 ∧ f.t 2 = .lp N 0 ∧ f.t 3 = .lp (N + 1) 0 ∧ f.t 6 = aH oi ∧ f.t 48 = aH oi ∧ f.t 49 = vi o.length ∧ f.t 50 = vi i ∧ f.d = [] ∧ (∀ j,f.k j = true → N ≤ j) ∧ h' = B (V1 i) ++ .cells [vi 0,.nils,.nils,.nils,.nils] :: .cells [vi x.ins.length,.nils,aH x.init,.nils,.nils] :: X) o.length ⟨0,by simp,by simp only [wq.1,seval,t0],by simp only [wq.1,seval,t2],by simp only [wq.1,seval,t3],by simp only [wq.1,seval],by simp only [wq.1,seval],by simp only [wq.1,seval,hoil],rfl,by simp only [wq.1,hd],fun j hj => hk j hj,rfl⟩ ?_;clear t0 t2 t3 hd hk;rintro mm f h' ⟨i,hm,t0,t2,t3,t6,t48,t49,t50,hd,hk,rfl⟩;refine ag (vm ?_);simp only [wq.1,Nat.reduceLT,t49,t50];refine ag (vm ?_);simp only [wq.1,↓reduceIte];refine vcB.mk (fun hlt => ?_) (fun hlt => ?_)
     ·simp only [decide_eq_true_eq,Int.ofNat_lt] at hlt;have hgo : (oi.map vi).getD i .any = vi (o[i] : Int) := by
       rw [hoi,List.getD_eq_getElem?_getD,List.getElem?_map,List.getElem?_map,List.getElem?_eq_getElem hlt];rfl
      have hoa := ho1 _ (List.getElem_mem hlt);have hat := zbh hoa;have haa := ha _ (List.getElem_mem hoa);have s1 := NY x.ands[o[i]].lit;have hw := ax (show i < maxLen by omega);have w1 : IntKind.i64.wrap (1 + (x.ins.length : Int)) = 1 + x.ins.length := aZ (by omega) (by omega);have w2 : IntKind.i64.wrap (1 + (x.ins.length : Int) + x.lats.length) = 1 + x.ins.length + x.lats.length := aZ (by omega) (by omega);have w3 : IntKind.i64.wrap (1 + (x.ins.length : Int) + x.lats.length + i) = 1 + x.ins.length + x.lats.length + i := aZ (by omega) (by omega);have hput := zav (n := 1 + (x.ins.length : Int) + x.lats.length + i) (hV1l i) haa.2.2.2.2.2.2;have hc2i : i < c2.length := by rw [hc2l];exact hlt
      have hc2v : c2[i] = x.ands[o[i]].lit := by simp only [hc2,List.getElem_map];rw [aG hoa]
      have hV2 : (V1 i).set (x.D.idxOf (x.ands[o[i]].lit / 2)) (1 + (x.ins.length : Int) + x.lats.length + i) = V1 (i + 1) := by rw [hV1,hV1,List.take_add_one,List.getElem?_eq_getElem hc2i,Option.toList_some,BO,List.length_take,Nat.min_eq_left (by omega),hc2v]
      rw [hV2] at hput;refine ag (az ?_);refine ag (vm ?_);simp only [wq.1,seval,t48,t50,hgo];refine ⟨⟨by omega,by omega⟩,?_⟩;refine DC mixed 27 (.one 27 <| .fin) (fun f' h' => f'.t 0 = .lp 3 0 ∧ f'.t 2 = .lp N 0 ∧ f'.t 3 = .lp (N + 1) 0 ∧ f'.t 6 = aH oi ∧ f'.t 48 = aH oi ∧ f'.t 49 = vi o.length ∧ f'.t 50 = vi i ∧ f'.d = [] ∧ (∀ j,f'.k j = true → N ≤ j) ∧ h' = B (V1 (i + 1)) ++ .cells [vi 0,.nils,.nils,.nils,.nils] :: .cells [vi x.ins.length,.nils,aH x.init,.nils,.nils] :: X) (by decide +kernel) ?_ ?_
      ·intro K hK;simp only [List.take_succ_cons,List.take_zero];simp only [wq.1,seval,t0,hB3,hB9,hat,s1,w1,w2,w3];refine ⟨⟨by omega,by omega⟩,by omega,hK _ ?_⟩;simp only [wq.1,seval,t0,t2,t3,t6,t48,t49,t50,hd,hB2,hBs,Abs.K.keyOk,hput];exact fun j hj => hk j hj
      ·rintro f' h' ⟨t0,t2,t3,t6,t48,t49,t50,hd,hk,rfl⟩;simp only [wq.1];refine vm ?_;simp only [wq.1,seval,t50,hw];exact .inl ⟨mm - 1,by omega,i + 1,by omega,by simp only [wq.1,seval,t0],by simp only [wq.1,seval,t2],by simp only [wq.1,seval,t3],by simp only [wq.1,seval,t6],by simp only [wq.1,seval,t48],by simp only [wq.1,seval,t49],rfl,by simp only [wq.1,hd],fun j hj => hk j hj,rfl⟩
     ·simp only [decide_eq_false_iff_not,Int.ofNat_lt] at hlt;have hi : i = o.length := by omega
      subst hi;clear t48 t49 t50 hm hlt;obtain ⟨VV,hVV⟩ : ∃ VV,VV = x.vals o := ⟨_,rfl⟩;have hV1e : V1 o.length = VV := by
       rw [hV1,hVV,List.take_of_length_le (by omega),hV0,List.take_length,hc2,hc];rfl
      have hVl : VV.length = x.D.length := by rw [← hV1e];exact hV1l _
      have hVb : ∀ v ∈ VV,0 ≤ v ∧ v ≤ 100000 := by rw [← hV1e,hV1];refine BP (by omega) (by have := List.length_take_le o.length c2;omega) ?_;rw [hV0];refine BP (by omega) (by have := List.length_take_le c.length c;omega) ?_;intro v hv;obtain ⟨_,_,rfl⟩ := List.mem_map.1 hv;decide
      rw [hV1e];obtain ⟨pr,hpr⟩ : ∃ pr : Nat → Pr,∀ k,pr k = (kE x.D VV (x.ands.getD k .nil).p,kE x.D VV (x.ands.getD k .nil).q) := ⟨_,fun _ => rfl⟩;simp only [wq.1];refine ag ?_;refine ag ?_;refine vm ?_;simp only [wq.1,seval,t6];refine az ?_;refine aF (fun mm f h' => ∃ (i : Nat) (v : V) (X : H),mm + i = o.length ∧ f.t 0 = .lp 3 0 ∧ f.t 2 = .lp N 0 ∧ f.t 3 = .lp (N + 1) 0 ∧ f.t 83 = aH oi ∧ f.t 84 = vi o.length ∧ f.t 85 = vi i ∧ f.d = [] ∧ (∀ j,f.k j = true → N ≤ j) ∧ h' = B VV ++ .cells [vi 0,.nils,.nils,.nils,.nils] :: .cells [vi x.ins.length,.nils,aH x.init,v,.nils] :: X ∧ ((i = 0 ∧ v = .nils) ∨ (0 < i ∧ ∃ j,v = .ls (N + (j + 2)) 2 0 i i ∧ X[j]? = some (.cells (fl ((o.take i).map pr)))))) o.length ⟨0,.nils,X,by simp,by simp only [wq.1,seval,t0],by simp only [wq.1,seval,t2],by simp only [wq.1,seval,t3],by simp only [wq.1,seval],by simp only [wq.1,seval,hoil],rfl,by simp only [wq.1,hd],fun j hj => hk j hj,rfl,.inl ⟨rfl,rfl⟩⟩ ?_;clear t0 t2 t3 t6 hd hk X;rintro mm f h' ⟨i,v,X,hm,t0,t2,t3,t83,t84,t85,hd,hk,rfl,hrow⟩;refine ag (vm ?_);simp only [wq.1,Nat.reduceLT,t84,t85];refine ag (vm ?_);simp only [wq.1,↓reduceIte];refine vcB.mk (fun hlt => ?_) (fun hlt => ?_)
      ·simp only [decide_eq_true_eq,Int.ofNat_lt] at hlt;have hgo : (oi.map vi).getD i .any = vi (o[i] : Int) := by
        rw [hoi,List.getD_eq_getElem?_getD,List.getElem?_map,List.getElem?_map,List.getElem?_eq_getElem hlt];rfl
       have hoa := ho1 _ (List.getElem_mem hlt);have haa := ha _ (List.getElem_mem hoa);have hw := ax (show i < maxLen by omega);obtain ⟨a,hae⟩ : ∃ a,a = x.ands[o[i]] := ⟨_,rfl⟩;have hc6 := oM hoa;rw [← hae] at haa hc6;have hap : ((anV x.ands).drop (o[i] * 6 + 2)).take 2 = [vi a.p.1,vi a.p.2] := by have := congrArg (fun z : List V => (z.drop 2).take 2) hc6;simpa [List.drop_take,List.take_take,List.drop_drop] using this
       have haq : ((anV x.ands).drop (o[i] * 6 + 4)).take 2 = [vi a.q.1,vi a.q.2] := by have := congrArg (fun z : List V => (z.drop 4).take 2) hc6;simpa [List.drop_take,List.take_take,List.drop_drop] using this
       have hpi : pr o[i] = (kE x.D VV a.p,kE x.D VV a.q) := by rw [hpr,aG hoa,← hae]
       have htk : (o.take (i + 1)).map pr = (o.take i).map pr ++ [(kE x.D VV a.p,kE x.D VV a.q)] := by rw [List.take_add_one,List.map_append,List.getElem?_eq_getElem hlt];simp [hpi]
       refine ag (az ?_);refine ag (vm ?_);simp only [wq.1,seval,t83,t85,hgo];refine ⟨⟨by omega,by omega⟩,?_⟩;refine bu mixed Fh (fun f' h' => f'.t 0 = .lp 3 0 ∧ f'.t 2 = .lp N 0 ∧ f'.t 3 = .lp (N + 1) 0 ∧ f'.t 83 = aH oi ∧ f'.t 84 = vi o.length ∧ f'.t 85 = vi i ∧ f'.d = [] ∧ (∀ j,f'.k j = true → N ≤ j) ∧ ∃ v X,h' = B VV ++ .cells [vi 0,.nils,.nils,.nils,.nils] :: .cells [vi x.ins.length,.nils,aH x.init,v,.nils] :: X ∧ ∃ j,v = .ls (N + (j + 2)) 2 0 (i + 1) (i + 1) ∧ X[j]? = some (.cells (fl ((o.take (i + 1)).map pr)))) zaw (by decide +kernel) ?_ ?_
       ·rcases hrow with ⟨rfl,rfl⟩ | ⟨hi0,j,rfl,hj⟩
        ·have hfin1 : ∀ X2 X3 : H,(X ++ (X2 ++ (X3 ++ [O.cells (List.flatMap V.vc [V.agg [vi (kE x.D VV a.p),vi (kE x.D VV a.q)]])])))[X.length + (X2.length + X3.length)]? = some (.cells (fl ((o.take (0 + 1)).map pr))) := fun X2 X3 => by rw [htk,gE,gE,gE0];rfl
         simp only [wq.1,seval,V4,V6,V8,Rf,Rh,Ri,Ny,Nz,We,Wj,Jm,EL,yT,yU,Jn,Jo,Jp,EN,yV,yX,Jq,Jr,Js,EP,Jt,Ju,Jv,Jw,Jy,Jz,JA,JB,JC,ER,ET,JD,JE,JF,JG,JH,JI,JJ,EW,EY,JK,JL,JM,JO,E5,E9,JP,JQ,JR,JS,Fb,Ff,JU,JV,JW,JX,JY,JZ,J3,J4,J5,J6,J7,J8,J9,Ko,Kq,Kr,Kt,Ku,Kv,Kw,Ky,Kz,KA,KC,KD,KE,KF,KG,KH,Fh,t0,t3,hB3,hB9,hap,haq,gN]
         repeat' apply And.intro
         all_goals first
          | omega
          | decide
          | skip
         all_goals
          rw [hBX];refine nU hVl hVb haa.2.2.1 haa.2.2.2.1 (fun X2 => ?_);rw [List.append_assoc,← hBX];simp only [wq.1,seval,hB3,hB9,haq,gN]
         repeat' apply And.intro
         all_goals first
          | omega
          | decide
          | skip
         all_goals
          rw [hBX];refine nU hVl hVb haa.2.2.2.2.1 haa.2.2.2.2.2.1 (fun X3 => ?_);rw [List.append_assoc,← hBX];simp only [wq.1,seval,t0,t2,t3,t83,t84,t85,hd,hN,gN,gNs,List.append_assoc]
         repeat' apply And.intro
         all_goals first
          | rfl
          | decide
          | omega
          | exact fun j hj => hk j hj
          | skip
         all_goals exact ⟨_,_,rfl,_,rfl,hfin1 X2 X3⟩
        ·have hjz : ∀ Z : H,(X ++ Z)[j]? = some (.cells (fl ((o.take i).map pr))) := fun Z => by rw [List.getElem?_append_left (List.getElem?_eq_some_iff.1 hj).1];exact hj
         have hjl : j < X.length := (List.getElem?_eq_some_iff.1 hj).1;have d1 : V.drops (fun x => x == N + (j + 2)) (fl ((o.take i).map pr)) = fl ((o.take i).map pr) := iH;have d2 : (B VV).map (O.drop fun x => x == N + (j + 2)) = B VV := hBcl _ _ (fun i hi => by simp;omega);have e2 : (N == N + (j + 2)) = false := by simp
         have e3 : (N + 1 == N + (j + 2)) = false := by simp
         have e4 : (3 == N + (j + 2)) = false := by simp;omega
         have hlen : (o.take i).length = i := by rw [List.length_take];omega
         have hfl2 : (fl ((o.take i).map pr)).length = i * 2 := by rw [IK,List.length_map,hlen]
         have hkk : ∀ j',(f.k j' || j' == N + (j + 2)) = true → N ≤ j' := fun j' hj' => by
          rcases (by simpa using hj' : f.k j' = true ∨ j' = N + (j + 2)) with h | h
          ·exact hk _ h
          ·omega
         have hfin2 : ∀ X2 X3 : H,((X.map (O.drop fun x => x == N + (j + 2)) ++ (X2.map (O.drop fun x => x == N + (j + 2)) ++ X3.map (O.drop fun x => x == N + (j + 2)))).set j (.cells (fl ((o.take i).map pr) ++ V.drops (fun x => x == N + (j + 2)) (List.flatMap V.vc [V.agg [vi (kE x.D VV a.p),vi (kE x.D VV a.q)]]))))[j]? = some (.cells (fl ((o.take (i + 1)).map pr))) := fun X2 X3 => by rw [List.getElem?_set_self (by rw [List.length_append,List.length_map];omega),htk];simp only [fl,List.flatMap_append];rfl
         simp only [wq.1,seval,V4,V6,V8,Rf,Rh,Ri,Ny,Nz,We,Wj,Jm,EL,yT,yU,Jn,Jo,Jp,EN,yV,yX,Jq,Jr,Js,EP,Jt,Ju,Jv,Jw,Jy,Jz,JA,JB,JC,ER,ET,JD,JE,JF,JG,JH,JI,JJ,EW,EY,JK,JL,JM,JO,E5,E9,JP,JQ,JR,JS,Fb,Ff,JU,JV,JW,JX,JY,JZ,J3,J4,J5,J6,J7,J8,J9,Ko,Kq,Kr,Kt,Ku,Kv,Kw,Ky,Kz,KA,KC,KD,KE,KF,KG,KH,Fh,t0,t3,hB3,hB9,hap,haq,gN]
         repeat' apply And.intro
         all_goals first
          | omega
          | decide
          | skip
         all_goals
          rw [hBX];refine nU hVl hVb haa.2.2.1 haa.2.2.2.1 (fun X2 => ?_);rw [List.append_assoc,← hBX];simp only [wq.1,seval,hB3,hB9,haq,gN]
         repeat' apply And.intro
         all_goals first
          | omega
          | decide
          | skip
         all_goals
          rw [hBX];refine nU hVl hVb haa.2.2.2.2.1 haa.2.2.2.2.2.1 (fun X3 => ?_);rw [List.append_assoc,← hBX];simp only [wq.1,seval,t0,t2,t3,t83,t84,t85,hd,gN,gNs,List.append_assoc,hjz,d1,d2,e2,e3,e4]
         repeat' apply And.intro
         all_goals first
          | rfl
          | decide
          | exact hfl2
          | exact hkk
          | omega
          | skip
         all_goals exact ⟨_,_,rfl,_,rfl,hfin2 X2 X3⟩
       ·rintro f' h' ⟨t0,t2,t3,t83,t84,t85,hd,hk,v,X,rfl,j,rfl,hj⟩;simp only [wq.1];refine vm ?_;simp only [wq.1,seval,t85,hw];exact .inl ⟨mm - 1,by omega,i + 1,_,X,by omega,by simp only [wq.1,seval,t0],by simp only [wq.1,seval,t2],by simp only [wq.1,seval,t3],by simp only [wq.1,seval,t83],by simp only [wq.1,seval,t84],rfl,by simp only [wq.1,hd],fun j hj => hk j hj,rfl,.inr ⟨by omega,j,rfl,hj⟩⟩
      ·simp only [decide_eq_false_iff_not,Int.ofNat_lt] at hlt;have hi : i = o.length := by omega
       subst hi;clear t83 t84 t85 hm hlt;rw [List.take_length] at hrow;simp only [wq.1];have hN10 : 10 ≤ N := by omega
       obtain ⟨p,hp⟩ : ∃ p : Nat → Bool,p = fun i => decide (N + 2 ≤ i) := ⟨_,rfl⟩;have hpB : ∀ i,i < N + 2 → p i = false := fun i hi => by rw [hp];simp;omega
       refine qG p (B VV ++ [.cells [vi 0,.nils,.nils,.nils,.nils],.cells [vi x.ins.length,.nils,aH x.init,prs (o.map pr),.nils]]) (fun i hi => ?_) (fun i q hi hq => ?_) (by simp only [wq.1,hd]) ?_
       ·have hi : i < N + 2 := by rw [hp] at hi;simpa using hi
        by_cases hiN : i < N
        ·refine .inl ?_;rw [List.getElem?_append_left (by rw [hN];exact hiN),List.getElem?_append_left (by rw [hN];exact hiN)]
         conv => lhs;rw [← hBcl VV p (fun i hi => hpB i (by omega))]
         rw [List.getElem?_map]
        ·by_cases hi2 : i = N
         ·subst hi2;exact .inl (by rw [gN0,gN0];rfl)
         ·have hi3 : i = N + 1 := by omega
          subst hi3;refine .inr ⟨[vi x.ins.length,.nils,aH x.init,v,.nils],[vi x.ins.length,.nils,aH x.init,prs (o.map pr),.nils],by rw [gN];rfl,by rw [gN];rfl,⟨.inl rfl,.inl rfl,.inl rfl,.inr ?_,.inl rfl,trivial⟩⟩;rcases hrow with ⟨h0,rfl⟩ | ⟨h0,j,rfl,hj⟩
          ·have : o = [] := List.eq_nil_of_length_eq_zero h0;rw [this];exact ⟨rfl,aC.nils⟩
          ·have hpj : p (N + (j + 2)) = true := by rw [hp];simp
           refine ⟨by simp [V.drop,hpj],qO ?_ (by simp)⟩;rw [nM,gN];show (X[j]?).map _ = _;rw [hj];simp only [Option.map_some,Nat.zero_add,hpj,if_true];show some (O.cells (V.drops _ (fl (o.map pr)))) = _;rw [iH]
       ·have hi : N + 2 ≤ i := by rw [hp] at hi;simpa using hi
        rw [List.getElem?_eq_none (by rw [List.length_append,hN];simpa using hi)] at hq;cases hq
       ·obtain ⟨f',hf'⟩ : ∃ f' : Fr,f' = { t := fun i => V.drop p ((f.put (some 86) (V.bool (decide ((o.length : Int) < (o.length : Int))))).t i),d := (f.put (some 86) (V.bool (decide ((o.length : Int) < (o.length : Int))))).d,k := fun i => (f.put (some 86) (V.bool (decide ((o.length : Int) < (o.length : Int))))).k i || p i } := ⟨_,rfl⟩;have u0 : f'.t 0 = .lp 3 0 := by rw [hf'];show V.drop p (f.t 0) = _;rw [t0];simp [V.drop,hpB 3 (by omega)]
        have u2 : f'.t 2 = .lp N 0 := by rw [hf'];show V.drop p (f.t 2) = _;rw [t2];simp [V.drop,hpB N (by omega)]
        have u3 : f'.t 3 = .lp (N + 1) 0 := by rw [hf'];show V.drop p (f.t 3) = _;rw [t3];simp [V.drop,hpB (N + 1) (by omega)]
        have ud : f'.d = [] := by rw [hf'];exact hd
        have uk : ∀ j,f'.k j = true → N ≤ j := fun j hj => by
         rw [hf'] at hj;rcases Bool.or_eq_true_iff.1 hj with h | h
         ·exact hk j h
         ·rw [hp] at h;have : N + 2 ≤ j := by simpa using h
          omega
        rw [← hf'];clear hf' t0 t2 t3 hd hk hrow X;have hB6 : ∀ W Z,(hG b0 b1 s mo x W Z)[6]? = some (.cells (usV x.next)) := fun W Z => rfl;have hB8 : ∀ W Z,(hG b0 b1 s mo x W Z)[8]? = some (.cells (usV x.outs)) := fun W Z => rfl;have hclY : dO (hG b0 b1 s mo x VV (Y ++ [.cells [vi 0,.nils,.nils,.nils,.nils],.cells [vi x.ins.length,.nils,aH x.init,prs (o.map pr),.nils]])) := fun p hp => by
         rw [← hBX,List.map_append,hBcl _ p (fun i hi => hp i (by rw [← hBX,List.length_append,hN];omega))];rfl
        refine ag (bu mixed TC (fun f' h' => f'.t 2 = .lp N 0 ∧ f'.t 3 = .lp (N + 1) 0 ∧ f'.d = [] ∧ (∀ j,f'.k j = true → N ≤ j) ∧ h' = B VV ++ [.cells [vi 0,.nils,.nils,.nils,.nils],.cells [vi x.ins.length,aH (x.next.map (kE x.D VV)),aH x.init,prs (o.map pr),aH (x.outs.map (kE x.D VV))]]) (by decide +kernel) (by decide +kernel) ?_ ?_)
        ·simp only [wq.1,seval,TC,u0,hB3]
         repeat' apply And.intro
         all_goals
          rw [hBX];refine yS hVl hVb (hB6 _ _) hl2 hu1 hclY ?_;rw [← hBX];simp only [wq.1,seval,u3,hB3]
         repeat' apply And.intro
         all_goals
          rw [hBX];refine yS hVl hVb (hB8 _ _) hl3 hu2 hclY ?_;rw [← hBX];simp only [wq.1,seval,u2,u3,ud,gN,gNs];exact uk
        ·rintro f h ⟨t2,t3,hd,hk,rfl⟩;refine ag (vm ?_);simp only [wq.1,seval,t2,t3,gN,gN0,gNs0];refine vm ?_;simp only [wq.1,seval,t2,hd,gN0];refine ⟨fun j hj => ?_,?_⟩
         ·cases h : f.k j with
          | false => rfl
          | true => have := hk j h;omega
         ·have hpe : o.map pr = o.map fun k => (kE x.D VV (x.ands.getD k .nil).p,kE x.D VV (x.ands.getD k .nil).q) := List.map_congr_left fun k _ => hpr k;have hge : (kF x o).v = .agg [vi x.ins.length,aH (x.next.map (kE x.D VV)),aH x.init,prs (o.map pr),aH (x.outs.map (kE x.D VV))] := by rw [hpe,hVV];rfl
          rw [← hge,hBX];exact h1 _ _
    ·simp only [wq.1,aX];simp only [XE.seq,bz];simp only [wq.1,hd];refine ⟨fun j hj => ?_,?_⟩
     ·cases h : f.k j with
      | false => rfl
      | true => have := hk j h;omega
     ·rw [List.append_assoc];exact h2 o left a hso hfi _ _
structure FOk (x : Fi) : Prop where
 lin : ∀ n ∈ x.ins ++ x.lats,0 ≤ n ∧ n ≤ 2147483647 ∧ n / 2 ∈ x.D
 an : ∀ a ∈ x.ands,0 ≤ a.lit ∧ a.lit ≤ 2147483647 ∧ 0 ≤ a.p.1 ∧ a.p.1 ≤ 2147483647 ∧ 0 ≤ a.q.1 ∧ a.q.1 ≤ 2147483647 ∧ a.lit / 2 ∈ x.D
 nd : x.left.Nodup
 nx : ∀ u ∈ x.next,0 ≤ u.1 ∧ u.1 ≤ 2147483647
 ou : ∀ u ∈ x.outs,0 ≤ u.1 ∧ u.1 ≤ 2147483647
structure FLn (x : Fi) (n1 n2 n3 n4 : Nat) : Prop where
 l1 : x.ins.length = n1
 l2 : x.lats.length = n2
 l3 : x.next.length = n2
 l4 : x.init.length = n2
 l5 : x.outs.length = n3
 l6 : x.ands.length = n4
theorem FOk.a {x : Fi} (h : FOk x) {b : Nat} : FOk { x with a := b } := ⟨h.lin,h.an,h.nd,h.nx,h.ou⟩
theorem FOk.defd {x : Fi} (h : FOk x) {m : Int} {b : Nat} : FOk { x with a := b,D := x.D ++ [m] } :=
 ⟨fun n hn => ⟨(h.lin n hn).1,(h.lin n hn).2.1,List.mem_append_left _ (h.lin n hn).2.2⟩,
  fun a ha => ⟨(h.an a ha).1,(h.an a ha).2.1,(h.an a ha).2.2.1,(h.an a ha).2.2.2.1,(h.an a ha).2.2.2.2.1,(h.an a ha).2.2.2.2.2.1,List.mem_append_left _ (h.an a ha).2.2.2.2.2.2⟩,h.nd,h.nx,h.ou⟩
theorem kN {s : S} {c : UInt8} {x y : Fi} (h : gq s c x = .ok y) : y = { x with a := x.a + 1 } := by
 unfold gq at h;split at h
 ·cases h;rfl
 ·cases h
theorem KI (a : Nat) : FOk (.start a) ∧ FLn (.start a) 0 0 0 0 :=
 ⟨⟨fun n hn => (by cases hn),fun n hn => (by cases hn),List.nodup_nil,fun n hn => (by cases hn),fun n hn => (by cases hn)⟩,⟨rfl,rfl,rfl,rfl,rfl,rfl⟩⟩
theorem TD {s : S} {mo : Int} {x y : Fi} {n1 n2 n3 n4 : Nat} (h : iI s mo x = .ok y) (hx : FOk x) (hl : FLn x n1 n2 n3 n4) : FOk y ∧ FLn y (n1 + 1) n2 n3 n4 := by
 unfold iI at h;cases hd : IW s mo x with
 | error e => rw [hd] at h;cases h
 | ok v =>
  obtain ⟨n,z⟩ := v;rw [hd] at h;dsimp only at h;obtain ⟨⟨b,rfl⟩,d0,d1,d2,d3,d4,d5⟩ := sW hd;obtain rfl := kN h;have h2 := hx.defd (m := n / 2) (b := b);refine ⟨⟨fun m hm => ?_,h2.an,h2.nd,h2.nx,h2.ou⟩,⟨by simp [hl.l1],hl.l2,hl.l3,hl.l4,hl.l5,hl.l6⟩⟩;rcases List.mem_append.1 hm with h | h
  ·rcases List.mem_append.1 h with h | h
   ·exact h2.lin m (List.mem_append_left _ h)
   ·rw [List.mem_singleton] at h;subst h;exact ⟨d0,d1,List.mem_append_right _ (by simp)⟩
  ·exact h2.lin m (List.mem_append_right _ h)
theorem TF {s : S} {lit : Int} {x y : Fi} {n : Int} (h : qX s lit x = .ok (n,y)) : ∃ b,y = { x with a := b } := by
 unfold qX at h;split at h
 ·cases hn : sQ s (x.a + 1) with
  | error e => rw [hn] at h;cases h
  | ok v =>
   obtain ⟨m,b⟩ := v;rw [hn] at h;dsimp only at h;split at h
   ·simp only [Except.ok.injEq,Prod.mk.injEq] at h;exact ⟨b,h.2.symm⟩
   ·cases h
 ·simp only [Except.ok.injEq,Prod.mk.injEq] at h;exact ⟨x.a,h.2.symm⟩
theorem TG {s : S} {mo : Int} {x y : Fi} {n1 n2 n3 n4 : Nat} (h : iJ s mo x = .ok y) (hx : FOk x) (hl : FLn x n1 n2 n3 n4) : FOk y ∧ FLn y n1 (n2 + 1) n3 n4 := by
 unfold iJ at h;cases hd : IW s mo x with
 | error e => rw [hd] at h;cases h
 | ok v =>
  obtain ⟨n,z⟩ := v;rw [hd] at h;dsimp only at h;obtain ⟨⟨b,rfl⟩,d0,d1,d2,d3,d4,d5⟩ := sW hd;have h2 := hx.defd (m := n / 2) (b := b);cases hb : gq s 32 { x with a := b,D := x.D ++ [n / 2] } with
  | error e => rw [hb] at h;cases h
  | ok z =>
   rw [hb] at h;dsimp only at h;obtain rfl := kN hb;cases hu : Cm s mo { x with a := b + 1,D := x.D ++ [n / 2] } with
   | error e => rw [hu] at h;cases h
   | ok v =>
    obtain ⟨u,z⟩ := v;rw [hu] at h;dsimp only at h;obtain ⟨⟨b2,rfl⟩,u0,u1,u2,u3⟩ := mG hu;cases hg : qX s n { x with a := b2,D := x.D ++ [n / 2],next := x.next ++ [u] } with
    | error e => rw [hg] at h;cases h
    | ok v =>
     obtain ⟨m,z⟩ := v;rw [hg] at h;dsimp only at h;obtain ⟨b3,rfl⟩ := TF hg;obtain rfl := kN h;refine ⟨⟨fun k hk => ?_,h2.an,h2.nd,fun v hv => ?_,h2.ou⟩,⟨hl.l1,by simp [hl.l2],by simp [hl.l3],by simp [hl.l4],hl.l5,hl.l6⟩⟩
     ·rcases List.mem_append.1 hk with h | h
      ·exact h2.lin k (List.mem_append_left _ h)
      ·rcases List.mem_append.1 h with h | h
       ·exact h2.lin k (List.mem_append_right _ h)
       ·rw [List.mem_singleton] at h;subst h;exact ⟨d0,d1,List.mem_append_right _ (by simp)⟩
     ·rcases List.mem_append.1 hv with h | h
      ·exact hx.nx v h
      ·rw [List.mem_singleton] at h;subst h;exact ⟨u0,u1⟩
theorem NC {s : S} {mo : Int} {x y : Fi} {n1 n2 n3 n4 : Nat} (h : eX s mo x = .ok y) (hx : FOk x) (hl : FLn x n1 n2 n3 n4) : FOk y ∧ FLn y n1 n2 (n3 + 1) n4 := by
 unfold eX at h;cases hu : Cm s mo x with
 | error e => rw [hu] at h;cases h
 | ok v =>
  obtain ⟨u,z⟩ := v;rw [hu] at h;dsimp only at h;obtain ⟨⟨b,rfl⟩,u0,u1,u2,u3⟩ := mG hu;obtain rfl := kN h;refine ⟨⟨hx.lin,hx.an,hx.nd,hx.nx,fun v hv => ?_⟩,⟨hl.l1,hl.l2,hl.l3,hl.l4,by simp [hl.l5],hl.l6⟩⟩;rcases List.mem_append.1 hv with h | h
  ·exact hx.ou v h
  ·rw [List.mem_singleton] at h;subst h;exact ⟨u0,u1⟩
theorem Wn {s : S} {mo : Int} {x y : Fi} {n1 n2 n3 n4 : Nat} (h : mY s mo x = .ok y) (hx : FOk x) (hl : FLn x n1 n2 n3 n4) : FOk y ∧ FLn y n1 n2 n3 (n4 + 1) := by
 unfold mY at h;cases hd : IW s mo x with
 | error e => rw [hd] at h;cases h
 | ok v =>
  obtain ⟨n,z⟩ := v;rw [hd] at h;dsimp only at h;obtain ⟨⟨b,rfl⟩,d0,d1,d2,d3,d4,d5⟩ := sW hd;have h2 := hx.defd (m := n / 2) (b := b);cases hb : gq s 32 { x with a := b,D := x.D ++ [n / 2] } with
  | error e => rw [hb] at h;cases h
  | ok z =>
   rw [hb] at h;dsimp only at h;obtain rfl := kN hb;cases hu : Cm s mo { x with a := b + 1,D := x.D ++ [n / 2] } with
   | error e => rw [hu] at h;cases h
   | ok v =>
    obtain ⟨p,z⟩ := v;rw [hu] at h;dsimp only at h;obtain ⟨⟨b2,rfl⟩,u0,u1,u2,u3⟩ := mG hu;cases hb : gq s 32 { x with a := b2,D := x.D ++ [n / 2] } with
    | error e => rw [hb] at h;cases h
    | ok z =>
     rw [hb] at h;dsimp only at h;obtain rfl := kN hb;cases hu : Cm s mo { x with a := b2 + 1,D := x.D ++ [n / 2] } with
     | error e => rw [hu] at h;cases h
     | ok v =>
      obtain ⟨q,z⟩ := v;rw [hu] at h;dsimp only at h;obtain ⟨⟨b3,rfl⟩,v0,v1,v2,v3⟩ := mG hu;cases hb : gq s 10 { x with a := b3,D := x.D ++ [n / 2] } with
      | error e => rw [hb] at h;cases h
      | ok z =>
       rw [hb] at h;dsimp only at h;obtain rfl := kN hb;cases h;refine ⟨⟨h2.lin,fun a ha => ?_,?_,h2.nx,h2.ou⟩,⟨hl.l1,hl.l2,hl.l3,hl.l4,hl.l5,by simp [hl.l6]⟩⟩
       ·rcases List.mem_append.1 ha with h | h
        ·exact h2.an a h
        ·rw [List.mem_singleton] at h;subst h;exact ⟨d0,d1,u0,u1,v0,v1,List.mem_append_right _ (by simp)⟩
       ·show (List.map (fun a : An => a.lit / 2) (x.ands ++ [_])).Nodup;rw [List.map_append,List.nodup_append];refine ⟨hx.nd,by simp,fun k hk j hj e => ?_⟩;obtain ⟨a,ha,rfl⟩ := List.mem_map.1 hk;simp only [List.map_cons,List.map_nil,List.mem_singleton] at hj;rw [hj] at e;exact d5 (e ▸ (hx.an a ha).2.2.2.2.2.2)
end Go.Proofs.YtfcpapokknfeeaaGreatDoor
