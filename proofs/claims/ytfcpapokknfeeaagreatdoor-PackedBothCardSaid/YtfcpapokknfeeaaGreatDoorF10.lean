/- Lemmas for this claim, part F10: each holds under what it names. -/
import Derived.Test.YtfcpapokknfeeaaGreatDoorF09
import Derived.Test.YtfcpapokknfeeaaGreatDoorA10
set_option linter.unusedVariables false
set_option linter.unusedSimpArgs false
set_option linter.unnecessarySimpa false
set_option maxRecDepth 100000
set_option maxHeartbeats 16000000
namespace Go.Proofs.YtfcpapokknfeeaaGreatDoor
open Go Go.Proofs Go.Abs
theorem Qs {k : Nat → Bool} {i : Nat} (h4 : 4 ≤ i) (h9 : i ≤ 9) (hk : ∀ j,k j = true → mZ j = true) : ∀ j,(k j || j == i) = true → mZ j = true := fun j hj => by
 cases hkj : k j with
 | true => exact hk j hkj
 | false =>
  rw [hkj] at hj;have : j = i := by simpa using hj
  subst this;unfold mZ;simp only [Bool.and_eq_true,decide_eq_true_eq];omega
def YH : Plan := .fin
theorem VO : ai P (aI Tryz.f55 9) YH 0 (bl 23 8388607) = true := by decide +kernel
def YI : Plan := .one 22 YH
theorem VP : ai P (aI Tryz.f55 9) YI 1 (bl 23 4194303) = true := okO VO
def YJ : Plan := .take 21 YI
theorem VR : ai P (aI Tryz.f55 9) YJ 2 (bl 23 2097151) = true := okT VP
def YK : Plan := .take 20 YJ
theorem VS : ai P (aI Tryz.f55 9) YK 3 (bl 23 1048575) = true := okT VR
def YL : Plan := .one 19 YK
theorem VT : ai P (aI Tryz.f55 9) YL 4 (bl 23 524287) = true := okO VS
def YM : Plan := .take 18 YL
theorem VU : ai P (aI Tryz.f55 9) YM 5 (bl 23 262143) = true := okT VT
def YN : Plan := .take 17 YM
theorem VW : ai P (aI Tryz.f55 9) YN 6 (bl 23 131071) = true := okT VU
def Qu : Plan := .one 16 YN
theorem BM : ai P (aI Tryz.f55 9) Qu 7 (bl 23 65535) = true := okO VW
def Qv : Plan := .one 15 Qu
theorem BN : ai P (aI Tryz.f55 9) Qv 8 (bl 23 32767) = true := okO BM
def VX : Plan := .one 14 Qv
theorem I5 : ai P (aI Tryz.f55 9) VX 9 (bl 23 16383) = true := okO BN
def I7 : Plan := .one 12 Qu
theorem En : ai P (aI Tryz.f55 9) I7 8 (bl 23 61439) = true := okO BM
def I8 : Plan := .alt 12 Qv (.one 15 I7)
theorem Eo : ai P (aI Tryz.f55 9) I8 9 (bl 23 28671) = true := okA BN (alO En)
def Qw : Plan := .alt 12 VX (.one 14 I8)
theorem Qx : ai P (aI Tryz.f55 9) Qw 10 (bl 23 12287) = true := okA I5 (alO Eo)
def yQ : Plan := .one 8 Qu
theorem rq : ai P (aI Tryz.f55 9) yQ 8 (bl 23 65279) = true := okO BM
def yR : Plan := .alt 8 Qv (.one 15 yQ)
theorem ru : ai P (aI Tryz.f55 9) yR 9 (bl 23 32511) = true := okA BN (alO rq)
def Ep : Plan := .alt 8 VX (.one 14 yR)
theorem wV : ai P (aI Tryz.f55 9) Ep 10 (bl 23 16127) = true := okA I5 (alO ru)
def Es : Plan := .alt 8 I7 (.one 12 yQ)
theorem wW : ai P (aI Tryz.f55 9) Es 9 (bl 23 61183) = true := okA En (alO rq)
def Et : Plan := .alt 8 I8 (.alt 12 yR (.one 15 Es))
theorem wX : ai P (aI Tryz.f55 9) Et 10 (bl 23 28415) = true := okA Eo (alA ru (alO wW))
def I9 : Plan := .alt 8 Qw (.alt 12 Ep (.one 14 Et))
theorem Eu : ai P (aI Tryz.f55 9) I9 11 (bl 23 12031) = true := okA Qx (alA wV (alO wX))
def Ew : Plan := .one 7 yQ
theorem wY : ai P (aI Tryz.f55 9) Ew 9 (bl 23 65151) = true := okO rq
def Ey : Plan := .alt 7 yR (.one 15 Ew)
theorem wZ : ai P (aI Tryz.f55 9) Ey 10 (bl 23 32383) = true := okA ru (alO wY)
def Ja : Plan := .alt 7 Ep (.one 14 Ey)
theorem Ez : ai P (aI Tryz.f55 9) Ja 11 (bl 23 15999) = true := okA wV (alO wZ)
def Jb : Plan := .alt 7 Es (.one 12 Ew)
theorem EC : ai P (aI Tryz.f55 9) Jb 10 (bl 23 61055) = true := okA wW (alO wY)
def Jc : Plan := .alt 7 Et (.alt 12 Ey (.one 15 Jb))
theorem ED : ai P (aI Tryz.f55 9) Jc 11 (bl 23 28287) = true := okA wX (alA wZ (alO EC))
def Qy : Plan := .alt 7 I9 (.alt 12 Ja (.one 14 Jc))
theorem Qz : ai P (aI Tryz.f55 9) Qy 12 (bl 23 11903) = true := okA Eu (alA Ez (alO ED))
def EE : Plan := .one 5 yQ
theorem xg : ai P (aI Tryz.f55 9) EE 9 (bl 23 65247) = true := okO rq
def EF : Plan := .alt 5 yR (.one 15 EE)
theorem xh : ai P (aI Tryz.f55 9) EF 10 (bl 23 32479) = true := okA ru (alO xg)
def Jd : Plan := .alt 5 Ep (.one 14 EF)
theorem EG : ai P (aI Tryz.f55 9) Jd 11 (bl 23 16095) = true := okA wV (alO xh)
def Je : Plan := .alt 5 Es (.one 12 EE)
theorem EH : ai P (aI Tryz.f55 9) Je 10 (bl 23 61151) = true := okA wW (alO xg)
def Jf : Plan := .alt 5 Et (.alt 12 EF (.one 15 Je))
theorem EI : ai P (aI Tryz.f55 9) Jf 11 (bl 23 28383) = true := okA wX (alA xh (alO EH))
def QA : Plan := .alt 5 I9 (.alt 12 Jd (.one 14 Jf))
theorem QB : ai P (aI Tryz.f55 9) QA 12 (bl 23 11999) = true := okA Eu (alA EG (alO EI))
def Jg : Plan := .alt 5 Ew (.one 7 EE)
theorem EJ : ai P (aI Tryz.f55 9) Jg 10 (bl 23 65119) = true := okA wY (alO xg)
def Jh : Plan := .alt 5 Ey (.alt 7 EF (.one 15 Jg))
theorem EK : ai P (aI Tryz.f55 9) Jh 11 (bl 23 32351) = true := okA wZ (alA xh (alO EJ))
def QC : Plan := .alt 5 Ja (.alt 7 Jd (.one 14 Jh))
theorem QD : ai P (aI Tryz.f55 9) QC 12 (bl 23 15967) = true := okA Ez (alA EG (alO EK))
def QE : Plan := .alt 5 Jb (.alt 7 Je (.one 12 Jg))
theorem QF : ai P (aI Tryz.f55 9) QE 11 (bl 23 61023) = true := okA EC (alA EH (alO EJ))
def QG : Plan := .alt 5 Jc (.alt 7 Jf (.alt 12 Jh (.one 15 QE)))
theorem QH : ai P (aI Tryz.f55 9) QG 12 (bl 23 28255) = true := okA ED (alA EI (alA EK (alO QF)))
def QI : Plan := .alt 5 Qy (.alt 7 QA (.alt 12 QC (.one 14 QG)))
theorem QJ : ai P (aI Tryz.f55 9) QI 13 (bl 23 11871) = true := okA Qz (alA QB (alA QD (alO QH)))
def QK : Plan := .take 13 QI
theorem QM : ai P (aI Tryz.f55 9) QK 14 (bl 23 3679) = true := okT QJ
def QN : Plan := .take 11 QK
theorem QO : ai P (aI Tryz.f55 9) QN 15 (bl 23 1631) = true := okT QM
def QQ : Plan := .take 10 QN
theorem QR : ai P (aI Tryz.f55 9) QQ 16 (bl 23 607) = true := okT QO
def QS : Plan := .take 9 QQ
theorem QT : ai P (aI Tryz.f55 9) QS 17 (bl 23 95) = true := okT QR
def QU : Plan := .take 6 QS
theorem QV : ai P (aI Tryz.f55 9) QU 18 (bl 23 31) = true := okT QT
def QW : Plan := .take 4 QU
theorem QX : ai P (aI Tryz.f55 9) QW 19 (bl 23 15) = true := okT QV
def QY : Plan := .take 3 QW
theorem QZ : ai P (aI Tryz.f55 9) QY 20 (bl 23 7) = true := okT QX
def Q3 : Plan := .take 2 QY
theorem Q4 : ai P (aI Tryz.f55 9) Q3 21 (bl 23 3) = true := okT QZ
def Q5 : Plan := .take 1 Q3
theorem Q7 : ai P (aI Tryz.f55 9) Q5 22 (bl 23 1) = true := okT Q4
def Ji : Plan := .take 0 Q5
theorem Q8 : ai P (aI Tryz.f55 9) Ji 23 #[false,false,false,false,false,false,false,false,false,false,false,false,false,false,false,false,false,false,false,false,false,false,false] = true := okT Q7
theorem zat : ai P (aI Tryz.f55 9) Ji (aI Tryz.f55 9).size (Array.replicate (aI Tryz.f55 9).size false) = true := Q8
theorem Hm {b0 b1 : O} {s : S} {mo : Int} {x : Fi} {Y : H} (hq : Qt b0 b1 Y) (hs : s.length ≤ 100000) (hl : x.lats.length ≤ 4000) (hl2 : x.next.length ≤ 4000) (hl3 : x.init.length ≤ 4000) {R : AEnd → H → (Nat → Bool) → Prop}
 (h1 : ∀ y,iJ s mo x = .ok y → ∀ X,R (.ret (.tup [])) (hF b0 b1 s mo y (aQ y) (Y ++ X)) mZ)
 (h2 : ∀ (w : Nat) (e : Int) (y : Fi),iJ s mo x = .error (w,e) → ∀ W X,R (.pan (gV w e)) (hF b0 b1 s mo y W (Y ++ X)) mZ) :
 ah TE 55 [.lp 3 0] (hF b0 b1 s mo x (aQ x) Y) R := by
 have hM : maxLen = 9223372036854775807 := rfl;have dI : ∀ (p : Nat → Bool) (l : Cl),V.drops p (l.map vi) = l.map vi := fun p l => aP _;have dU : ∀ (p : Nat → Bool) (l : List Us),V.drops p (usV l) = usV l := fun p l => jr;have dA : ∀ (p : Nat → Bool) (l : List An),V.drops p (anV l) = anV l := fun p l => kL;have hul := yO x.next
 unfold iJ at h1 h2;refine ah.kp mZ ?_;refine au Tryz.func55 rfl (by simp [nts]) ?_;refine ag (vm ?_);simp only [wq.1,seval,Tryz.results55];refine kK hs (fun lit y hdef => ?_) (fun w e y hdef => ?_)
 ·rw [hdef] at h1 h2;dsimp only at h1 h2;obtain ⟨⟨b,rfl⟩,n0,n1,n2,n3,n4,n5⟩ := sW hdef;clear hdef;obtain ⟨D2,hD2⟩ : ∃ D2,D2 = x.D ++ [lit / 2] := ⟨_,rfl⟩;rw [← hD2] at h1 h2 ⊢;obtain ⟨W,hW⟩ : ∃ W,W = aQ { x with a := b,D := D2 } := ⟨_,rfl⟩;rw [← hW];have hWy : ∀ y : Fi,y.D = D2 → aQ y = W := fun y hy => by rw [hW];unfold aQ;rw [hy]
  simp only [wq.1,seval];refine ag (vm ?_);simp only [wq.1,seval];refine kJ (k := 3) (s := s) (a := b) (T := fiT { x with a := b,D := D2 } mo) (by omega) rfl (fun hb => ?_) (fun hb => ?_)
  ·unfold gq at h1 h2;rw [if_pos hb] at h1 h2;dsimp only at h1 h2;simp only [wq.1];cases hdef : Cm s mo { x with a := b + 1,D := D2 } with
   | error er =>
    obtain ⟨w,e⟩ := er;rw [hdef] at h2;refine ag (bY mixed mW (fun f' h' => False) [] (fun v d kk t h' => d = [] ∧ (∀ j,kk j = true → mZ j = true) ∧ v = gV w e ∧ ∃ y X,h' = hF b0 b1 s mo y W (Y ++ X)) (by decide +kernel) (by decide +kernel) ?_ (fun _ _ h => h.elim) ?_)
    ·simp only [wq.1,seval,mW]
     repeat' apply And.intro
     all_goals
      refine lH (x := { x with a := b + 1,D := D2 }) hs (fun n y hn => by rw [hdef] at hn;cases hn) (fun w' e' y hn X => ?_);rw [hdef] at hn;cases hn;simp only [wq.1,aX,gI];exact ⟨y,X,rfl⟩
    ·rintro v f' h' ⟨kd,kk,rfl,y,X,rfl⟩;simp only [XE.seq,bz];simp only [wq.1,kd];exact ⟨kk,h2 w e y rfl _ X⟩
   | ok ny =>
    obtain ⟨u,y⟩ := ny;rw [hdef] at h1 h2;dsimp only at h1 h2;obtain ⟨⟨b2,rfl⟩,u0,u1,u2,u3⟩ := mG hdef;obtain ⟨NX,hNX⟩ : ∃ NX,NX = x.next ++ [u] := ⟨_,rfl⟩
    have eN : usV NX = usV x.next ++ [vi u.1,vi u.2] := by rw [hNX];simp [usV]
    have lN : NX.length = x.next.length + 1 := by rw [hNX];simp
    dsimp only at h1 h2;rw [← hNX] at h1 h2;have e0 := hq.q0 6 (by decide) (by decide);have e1 := hq.q1 6 (by decide) (by decide);have e2 := hq.q2 6 (by decide) (by decide);refine ag (bY mixed mW (fun f' h' => f'.t 0 = .lp 3 0 ∧ f'.t 2 = vi lit ∧ f'.d = [] ∧ (∀ j,f'.k j = true → mZ j = true) ∧ ∃ X,h' = hF b0 b1 s mo { x with a := b2,D := D2,next := NX } W (Y ++ X)) [] (fun _ _ _ _ _ => False) (by decide +kernel) (by decide +kernel) ?_ ?_ (fun _ _ _ h => h.elim))
    ·simp only [wq.1,seval,mW]
     repeat' apply And.intro
     all_goals
      refine lH (x := { x with a := b + 1,D := D2 }) hs (fun n' y hn X => ?_) (fun w' e' y hn => by rw [hdef] at hn;cases hn);rw [hdef] at hn;cases hn;simp only [wq.1,seval,dI,dU,dA,e0,e1,e2,dw]
      repeat' apply And.intro
      all_goals first
       | rfl
       | decide
       | omega
       | exact fun j hj => (by have := eq_of_beq hj;subst this;rfl)
       | skip
      all_goals
       refine ⟨X.map (O.drop fun x => x == 6),?_⟩;simp only [hF,rdT,fiT,eN,lN];rfl
    ·rintro f' h' ⟨k0,k2,kd,kk,X,rfl⟩;show awp _ _ _ _ _ _ _;refine ag (vm ?_);simp only [wq.1,Nat.reduceLT];obtain ⟨x2,hx2⟩ : ∃ x2 : Fi,x2 = { x with a := b2,D := D2,next := NX } := ⟨_,rfl⟩;have g1 : x2.D = D2 := by rw [hx2]
     have g2 : x2.lats.length ≤ 4000 := by rw [hx2];exact hl
     have g3 : x2.init.length ≤ 4000 := by rw [hx2];exact hl3
     rw [← hx2] at h1 h2 ⊢;clear hx2;refine ag (bG (Q := fun xe f h' => (xe = .normal ∧ ∃ (n : Int) (b3 : Nat),qX s lit x2 = .ok (n,{ x2 with a := b3 }) ∧ 0 ≤ n ∧ n ≤ 2147483647 ∧ f.t 0 = .lp 3 0 ∧ f.t 2 = vi lit ∧ f.t 3 = vi n ∧ f.d = [] ∧ (∀ j,f.k j = true → mZ j = true) ∧ h' = hF b0 b1 s mo { x2 with a := b3 } W (Y ++ X)) ∨ (∃ (w : Nat) (e : Int) (y : Fi),xe = .pan (gV w e) ∧ qX s lit x2 = .error (w,e) ∧ f.d = [] ∧ (∀ j,f.k j = true → mZ j = true) ∧ h' = hF b0 b1 s mo y W (Y ++ X))) ?_ ?_)
     ·rintro xe f h' (⟨rfl,n,b3,hbr,m0,m1,k0,k2,k3,kd,kk,rfl⟩ | ⟨w,e,y,rfl,hbr,kd,kk,rfl⟩)
      ·rw [hbr] at h1 h2;dsimp only at h1 h2;show awp _ _ _ _ _ _ _;have p5 := hq.q0 5 (by decide) (by decide);have p5' := hq.q1 5 (by decide) (by decide);have p5y := hq.q2 5 (by decide) (by decide);have p7 := hq.q0 7 (by decide) (by decide);have p7' := hq.q1 7 (by decide) (by decide);have p7y := hq.q2 7 (by decide) (by decide);refine ag (bu mixed Ji (fun f' h' => f'.t 0 = .lp 3 0 ∧ f'.d = [] ∧ (∀ j,f'.k j = true → mZ j = true) ∧ ∃ X,h' = hF b0 b1 s mo { x2 with a := b3,lats := x2.lats ++ [lit],init := x2.init ++ [min n 2] } W (Y ++ X)) zat (by decide +kernel) ?_ ?_)
       ·simp only [wq.1,seval,YH,YI,YJ,YK,YL,YM,YN,Qu,Qv,VX,I7,I8,Qw,yQ,yR,Ep,Es,Et,I9,Ew,Ey,Ja,Jb,Jc,Qy,EE,EF,Jd,Je,Jf,QA,Jg,Jh,QC,QE,QG,QI,QK,QN,QQ,QS,QU,QW,QY,Q3,Q5,Ji,k0,k2,k3,kd,dI,dU,dA,p5,p5',p5y,p7,p7',p7y,mn]
        repeat' apply And.intro
        all_goals first
         | rfl
         | decide
         | omega
         | exact Qs (by decide) (by decide) (Qs (by decide) (by decide) kk)
         | skip
        all_goals
         refine ⟨(X.map (O.drop fun x => x == 5)).map (O.drop fun x => x == 7),?_⟩;simp only [hF,rdT,fiT,List.map_append,List.map_cons,List.map_nil,List.length_append,List.length_singleton,List.map_map]
         try rfl
       ·rintro f' h' ⟨k0,kd,kk,X,rfl⟩;show awp _ _ _ _ _ _ _;refine vm ?_;simp only [wq.1,seval,k0];refine lG (k := 3) (s := s) (a := b3) (T := fiT { x2 with lats := x2.lats ++ [lit],init := x2.init ++ [min n 2] } mo) (by omega) rfl (fun hb => ?_) (fun hb => ?_)
        ·rw [if_pos hb] at h1;simp only [wq.1,kd];refine ⟨fun i hi => kk i (by simpa using hi),?_⟩;have := h1 _ rfl X;have hz : aQ { x2 with a := b3 + 1,lats := x2.lats ++ [lit],init := x2.init ++ [min n 2] } = W := hWy _ g1;rw [hz] at this
         try simp only [hF,rdT,fiT,List.map_append,List.map_cons,List.map_nil,List.length_append,List.length_singleton,List.append_assoc] at this ⊢
         exact this
        ·rw [if_neg (by rw [hb];decide)] at h2;simp only [wq.1,aX,kd]
         try simp only [bz]
         try simp only [wq.1,seval,ak,Tryz.results55,kd]
         have := h2 b3 2 { x2 with a := b3,lats := x2.lats ++ [lit],init := x2.init ++ [min n 2] } rfl W X
         try simp only [hF,rdT,fiT,List.map_append,List.map_cons,List.map_nil,List.length_append,List.length_singleton,List.append_assoc] at this ⊢
         exact ⟨kk,this⟩
      ·rw [hbr] at h2;simp only [XE.seq,bz];simp only [wq.1,kd];exact ⟨kk,h2 w e y rfl _ X⟩
     ·refine ag (vm ?_);simp only [wq.1,seval,k0];refine wR (k := 3) (a := x2.a) (s := s) (T := fiT x2 mo) 32 rfl ?_;simp only [wq.1];unfold qX;cases hi : o9 s x2.a 32 with
      | false => refine vm ?_;simp only [wq.1,seval,k0,k2,kd];exact .inl ⟨0,x2.a,rfl,by decide,by decide,rfl,kk,rfl⟩
      | true =>
       have hlt := sG hi;have hw := ax (show x2.a < maxLen by omega);rw [if_pos rfl];refine bQ (b := true) (by simp only [wq.1,↓reduceIte]) (by simp only [wq.1,↓reduceIte]) (fun _ => ?_) (fun h => by cases h);refine ag (vm ?_);simp only [wq.1,seval,k0,hw];refine ag (vm ?_);simp only [wq.1,seval,k0];refine ag (vm ?_);simp only [wq.1,seval,k0];refine iK (k := 3) (a := x2.a + 1) (s := s) (T := fiT x2 mo) hs rfl (fun n b3 hn => ?_) (fun hn => ?_)
       ·rw [hn];dsimp only;obtain ⟨n0,n1⟩ := qi hn;simp only [wq.1,seval];cases hc1 : decide (n < 2) with
        | true => have hc1' : n < 2 := of_decide_eq_true hc1;rw [if_pos (Or.inl hc1')];refine vm ?_;simp only [wq.1,seval,k2,hc1];refine aO true _ 1 (fun _ => ?_) (fun h => by cases h);simp only [wq.1,seval,k0,k2,kd];exact .inl ⟨n,b3,rfl,n0,n1,rfl,kk,rfl⟩
        | false =>
         have hc1' : ¬ n < 2 := of_decide_eq_false hc1;cases hc2 : (n == lit) with
         | true => have hc2' : n = lit := eq_of_beq hc2;rw [if_pos (Or.inr hc2')];refine vm ?_;simp only [wq.1,seval,k2,hc1,hc2];refine aO true _ 1 (fun _ => ?_) (fun h => by cases h);simp only [wq.1,seval,k0,k2,kd];exact .inl ⟨n,b3,rfl,n0,n1,rfl,kk,rfl⟩
         | false =>
          have hc2' : n ≠ lit := by simpa using hc2
          rw [if_neg (fun h => h.elim hc1' hc2')];refine vm ?_;simp only [wq.1,seval,k2,hc1,hc2];refine aO false _ 1 (fun h => by cases h) (fun _ => ?_);simp only [wq.1,seval,aX,k0,k2,kd];exact .inr ⟨_,_,{ x2 with a := b3 },rfl,rfl,kk,rfl⟩
       ·rw [hn];dsimp only;simp only [wq.1,reduceCtorEq,aX,kd];simp only [XE.seq];simp only [wq.1,seval,kd];exact .inr ⟨_,_,{ x2 with a := x2.a + 1 },rfl,rfl,kk,rfl⟩
  ·unfold gq at h2;rw [if_neg (by rw [hb];decide)] at h2;simp only [wq.1,aX];simp only [XE.seq,bz];simp only [wq.1];have := h2 b 2 { x with a := b,D := D2 } rfl W [];rw [List.append_nil] at this;exact this
 ·rw [hdef] at h2;dsimp only at h2;simp only [wq.1,aX];simp only [XE.seq,bz];simp only [wq.1];have := h2 _ _ y rfl (aQ y) [];rw [List.append_nil] at this;exact this
def Xy : Plan := .take 0 <| .take 1 <| .take 2 <| .take 3 <| .alt 4 (.one 5 <| .one 6 <| .one 7 <| .take 8 <| .take 9 <| .one 10 <| .fin) (.one 5 (.alt 4 (.one 6 <| .one 7 <| .take 8 <| .take 9 <| .one 10 <| .fin) (.one 6 (.one 4 <| .one 7 <| .take 8 <| .take 9 <| .one 10 <| .fin))))
theorem Nv {b0 b1 : O} {s : S} {mo : Int} {x : Fi} {Y : H} (hq : Qt b0 b1 Y) (hs : s.length ≤ 100000) (hl : x.ands.length ≤ 4000) {R : AEnd → H → (Nat → Bool) → Prop}
 (h1 : ∀ y,mY s mo x = .ok y → ∀ X,R (.ret (.tup [])) (hF b0 b1 s mo y (aQ y) (Y ++ X)) mZ)
 (h2 : ∀ (w : Nat) (e : Int) (y : Fi),mY s mo x = .error (w,e) → ∀ W X,R (.pan (gV w e)) (hF b0 b1 s mo y W (Y ++ X)) mZ) :
 ah TE 57 [.lp 3 0] (hF b0 b1 s mo x (aQ x) Y) R := by
 have hM : maxLen = 9223372036854775807 := rfl;have dI : ∀ (p : Nat → Bool) (l : Cl),V.drops p (l.map vi) = l.map vi := fun p l => aP _;have dU : ∀ (p : Nat → Bool) (l : List Us),V.drops p (usV l) = usV l := fun p l => jr;have dA : ∀ (p : Nat → Bool) (l : List An),V.drops p (anV l) = anV l := fun p l => kL;have hal := yP x.ands;obtain ⟨W0,hW0⟩ : ∃ W,W = aQ x := ⟨_,rfl⟩;obtain ⟨at0,hat0⟩ : ∃ a,a = x.a := ⟨_,rfl⟩;unfold mY at h1 h2;refine ah.kp mZ ?_;refine au Tryz.func57 rfl (by simp [nts]) ?_;refine ag (vm ?_);simp only [wq.1,seval,Tryz.results57];rw [gE0];simp only [wq.1,Nat.reduceAdd,gS0];refine ag (vm ?_);simp only [wq.1,seval];refine kK (Y := Y ++ [.cells [vi 0,vi x.a,vi 0,vi 0,vi 0,vi 0]]) hs (fun lit y hdef => ?_) (fun w e y hdef => ?_)
 ·rw [hdef] at h1 h2;dsimp only at h1 h2;obtain ⟨⟨b,rfl⟩,n0,n1,n2,n3,n4,n5⟩ := sW hdef;clear hdef;obtain ⟨x1,hx1⟩ : ∃ x1 : Fi,x1 = { x with a := b,D := x.D ++ [lit / 2] } := ⟨_,rfl⟩;have hA1 : x1.ands = x.ands := by rw [hx1]
  rw [← hx1] at h1 h2 ⊢;clear hx1;obtain ⟨W,hW⟩ : ∃ W,W = aQ x1 := ⟨_,rfl⟩;rw [← hW];have hWy : ∀ y : Fi,y.D = x1.D → aQ y = W := fun y hy => by rw [hW];unfold aQ;rw [hy]
  simp only [wq.1,seval,gE0,gS0];refine ag (vm ?_);simp only [wq.1,seval];have hAx1 := hA1;have hDx1 : x1.D = x1.D := rfl;refine kJ (k := 3) (s := s) (a := x1.a) (T := fiT x1 mo) (by omega) rfl (fun hb => ?_) (fun hb => ?_)
  ·rw [show gq s 32 x1 = .ok { x1 with a := x1.a + 1 } by unfold gq;rw [if_pos hb]] at h1 h2;dsimp only at h1 h2;obtain ⟨x2,hxx⟩ : ∃ z : Fi,z = { x1 with a := x1.a + 1 } := ⟨_,rfl⟩;have hAx2 : x2.ands = x.ands := by cases hxx;exact hAx1
   have hDx2 : x2.D = x1.D := by cases hxx;exact hDx1
   rw [show ({ x1 with a := x1.a + 1 } : Fi) = x2 from hxx.symm] at h1 h2;simp only [wq.1];rw [show rdT s (x1.a + 1) (fiT x1 mo) = rdT s x2.a (fiT x2 mo) by rw [hxx],show x1.D = x2.D by rw [hxx],show x1.ins = x2.ins by rw [hxx],show x1.lats = x2.lats by rw [hxx],show x1.next = x2.next by rw [hxx],show x1.init = x2.init by rw [hxx],show x1.outs = x2.outs by rw [hxx],show x1.ands = x2.ands by rw [hxx]];clear hxx;refine ag (vm ?_);simp only [wq.1,seval,-Int.reduceNatCast,-Int.reduceNatCast',ak,Tryz.results57,gE0,gS0];refine lH (x := x2) (W := W) (Y := Y ++ [.cells [vi lit,vi x.a,vi 0,vi 0,vi 0,vi 0]]) hs (fun p y hdef Xx3 => ?_) (fun w e y hdef X => ?_)
   ·rw [hdef] at h1 h2;dsimp only at h1 h2;obtain ⟨⟨b,hyy⟩,u0,u1,u2,u3⟩ := mG hdef;have hAx3 : y.ands = x.ands := by cases hyy;exact hAx2
    have hDx3 : y.D = x1.D := by cases hyy;exact hDx2
    clear hdef hyy;obtain ⟨x3,hxx⟩ : ∃ z : Fi,z = y := ⟨_,rfl⟩;rw [← hxx] at h1 h2 hAx3 hDx3 ⊢;clear hxx;rw [List.append_assoc];simp only [wq.1,seval,-Int.reduceNatCast,-Int.reduceNatCast',ak,Tryz.results57,bg,gE0,gS0,List.singleton_append];refine ⟨by decide,?_⟩;refine ag (vm ?_);simp only [wq.1,seval];refine kJ (k := 3) (s := s) (a := x3.a) (T := fiT x3 mo) (by omega) rfl (fun hb => ?_) (fun hb => ?_)
    ·rw [show gq s 32 x3 = .ok { x3 with a := x3.a + 1 } by unfold gq;rw [if_pos hb]] at h1 h2;dsimp only at h1 h2;obtain ⟨x4,hxx⟩ : ∃ z : Fi,z = { x3 with a := x3.a + 1 } := ⟨_,rfl⟩;have hAx4 : x4.ands = x.ands := by cases hxx;exact hAx3
     have hDx4 : x4.D = x1.D := by cases hxx;exact hDx3
     rw [show ({ x3 with a := x3.a + 1 } : Fi) = x4 from hxx.symm] at h1 h2;simp only [wq.1,seval,-Int.reduceNatCast,-Int.reduceNatCast',ak,Tryz.results57,bg,gE0,gS0];rw [show rdT s (x3.a + 1) (fiT x3 mo) = rdT s x4.a (fiT x4 mo) by rw [hxx],show x3.D = x4.D by rw [hxx],show x3.ins = x4.ins by rw [hxx],show x3.lats = x4.lats by rw [hxx],show x3.next = x4.next by rw [hxx],show x3.init = x4.init by rw [hxx],show x3.outs = x4.outs by rw [hxx],show x3.ands = x4.ands by rw [hxx]];clear hxx;refine ag (vm ?_);simp only [wq.1,seval,-Int.reduceNatCast,-Int.reduceNatCast',ak,Tryz.results57,gE0,gS0];refine lH (x := x4) (W := W) (Y := Y ++ (O.cells [vi lit,vi x.a,vi p.1,vi p.2,vi 0,vi 0] :: Xx3)) hs (fun q y hdef Xx5 => ?_) (fun w e y hdef X => ?_)
     ·rw [hdef] at h1 h2;dsimp only at h1 h2;obtain ⟨⟨b,hyy⟩,u0,u1,u2,u3⟩ := mG hdef;have hAx5 : y.ands = x.ands := by cases hyy;exact hAx4
      have hDx5 : y.D = x1.D := by cases hyy;exact hDx4
      clear hdef hyy;obtain ⟨x5,hxx⟩ : ∃ z : Fi,z = y := ⟨_,rfl⟩;rw [← hxx] at h1 h2 hAx5 hDx5 ⊢;clear hxx;rw [List.append_assoc];simp only [wq.1,seval,-Int.reduceNatCast,-Int.reduceNatCast',ak,Tryz.results57,bg,gE0,gS0,List.cons_append];refine ⟨by decide,?_⟩;refine ag (vm ?_);simp only [wq.1,seval];refine lG (k := 3) (s := s) (a := x5.a) (T := fiT x5 mo) (by omega) rfl (fun hb => ?_) (fun hb => ?_)
      ·rw [show gq s 10 x5 = .ok { x5 with a := x5.a + 1 } by unfold gq;rw [if_pos hb]] at h1 h2;dsimp only at h1 h2;have hfin := fun X => h1 _ rfl X;have hz : aQ { x5 with a := x5.a + 1,ands := x5.ands ++ [⟨lit,x.a,p,q⟩] } = W := hWy _ hDx5;rw [hz] at hfin;have p9 := hq.q0 9 (by decide) (by decide);have p9' := hq.q1 9 (by decide) (by decide);have p9y := hq.q2 9 (by decide) (by decide);have hxl : x5.ands.length ≤ 4000 := by rw [hAx5];exact hl
       have hal6 := yP x5.ands;have eA : anV (x5.ands ++ [⟨lit,x.a,p,q⟩]) = anV x5.ands ++ [vi lit,vi x.a,vi p.1,vi p.2,vi q.1,vi q.2] := by simp [anV]
       simp only [wq.1];refine bu mixed Xy (fun f' h' => f'.d = [] ∧ (∀ j,f'.k j = true → mZ j = true) ∧ ∃ X,h' = hF b0 b1 s mo { x5 with a := x5.a + 1,ands := x5.ands ++ [⟨lit,x.a,p,q⟩] } W (Y ++ X)) (by decide +kernel) (by decide +kernel) ?_ ?_
       ·simp only [wq.1,seval,Xy,gE0,dI,dU,dA,p9,p9',p9y]
        repeat' apply And.intro
        all_goals first
         | rfl
         | decide
         | omega
         | exact fun j hj => (by have := eq_of_beq hj;subst this;rfl)
         | skip
        refine ⟨O.cells [vi lit,vi x.a,vi p.1,vi p.2,vi q.1,vi q.2] :: (Xx3.map (O.drop fun x => x == 9) ++ Xx5.map (O.drop fun x => x == 9)),?_⟩;simp only [hF,rdT,fiT,eA,List.length_append,List.length_singleton];rfl
       ·rintro f' h' ⟨hd,hk,X,rfl⟩;simp only [wq.1,hd];exact ⟨hk,hfin X⟩
      ·rw [show gq s 10 x5 = .error (x5.a,2) by unfold gq;rw [if_neg (by rw [hb];decide)]] at h2;dsimp only at h2;simp only [wq.1,aX];simp only [XE.seq,bz];simp only [wq.1];exact h2 _ _ x5 rfl _ _
     ·rw [hdef] at h2;dsimp only at h2;simp only [wq.1,aX];simp only [XE.seq,bz];simp only [wq.1];rw [List.append_assoc];exact h2 _ _ y rfl _ _
    ·rw [show gq s 32 x3 = .error (x3.a,2) by unfold gq;rw [if_neg (by rw [hb];decide)]] at h2;dsimp only at h2;simp only [wq.1,aX];simp only [XE.seq,bz];simp only [wq.1];exact h2 _ _ x3 rfl _ _
   ·rw [hdef] at h2;dsimp only at h2;simp only [wq.1,aX];simp only [XE.seq,bz];simp only [wq.1];rw [List.append_assoc];exact h2 _ _ y rfl _ _
  ·rw [show gq s 32 x1 = .error (x1.a,2) by unfold gq;rw [if_neg (by rw [hb];decide)]] at h2;dsimp only at h2;simp only [wq.1,aX];simp only [XE.seq,bz];simp only [wq.1];exact h2 _ _ x1 rfl _ _
 ·rw [hdef] at h2;dsimp only at h2;simp only [wq.1,aX];simp only [XE.seq,bz];simp only [wq.1];exact h2 _ _ y rfl _ _
abbrev fiG (x : Fi) (mo : Int) : List V := [vi mo,.lm 2,aH x.ins,aH x.lats,.ls 6 2 0 x.next.length x.next.length,aH x.init,.ls 8 2 0 x.outs.length x.outs.length,.ls 9 6 0 x.ands.length x.ands.length]
abbrev hG (b0 b1 : O) (s : S) (mo : Int) (x : Fi) (W : Cl) (Y : H) : H :=
 b0 :: b1 :: .map (x.D.map vi) (W.map vi) :: rdT s x.a (fiG x mo) :: .dead :: .dead :: .cells (usV x.next) :: .dead :: .cells (usV x.outs) :: .cells (anV x.ands) :: Y
theorem zbd {D V : Cl} {a : Int} (h : V.length = D.length) : xJ (.int .i64) (vi a) (D.map vi) (V.map vi) (vi 0) false = (True,vi (toI D V a)) := by
 unfold xJ;rw [ug];unfold toI;cases hf : D.findIdx? (· == a) with
 | none =>
  have hn : a ∉ D := fun hm => by have := List.findIdx?_eq_none_iff.1 hf a hm;simp at this
  rw [List.idxOf_eq_length hn,List.getD_eq_getElem?_getD,List.getElem?_eq_none (by omega)];rfl
 | some i =>
  obtain ⟨h1,h2,h3⟩ := List.findIdx?_eq_some_iff_getElem.1 hf;have e : D.idxOf a = i := by rw [List.idxOf,List.findIdx_eq h1];exact ⟨h2,fun j hj => by simpa using h3 j hj⟩
  rw [e,aG (by omega)];show (True,(V.map vi).getD i .any) = _;rw [List.getD_eq_getElem?_getD,List.getElem?_map,List.getElem?_eq_getElem (by omega)];rfl
theorem Q9 {D V : Cl} {a B : Int} (hV : ∀ v ∈ V,0 ≤ v ∧ v ≤ B) (hB : 0 ≤ B) : 0 ≤ toI D V a ∧ toI D V a ≤ B := by
 unfold toI;rw [List.getD_eq_getElem?_getD];cases h : V[D.idxOf a]? with
 | none => exact ⟨Int.le_refl _,hB⟩
 | some v => exact hV v (List.mem_of_getElem? h)
theorem nU {b0 b1 : O} {s : S} {mo : Int} {x : Fi} {W : Cl} {Y : H} (hWl : W.length = x.D.length) (hW : ∀ v ∈ W,0 ≤ v ∧ v ≤ 100000) {u : Us} (h0 : 0 ≤ u.1) (h1 : u.1 ≤ 2147483647) {R : AEnd → H → (Nat → Bool) → Prop}
 (hr : ∀ X,R (.ret (vi (kE x.D W u))) (hG b0 b1 s mo x W (Y ++ X)) (fun _ => false)) : ah TE 108 [.lp 3 0,.agg [vi u.1,vi u.2]] (hG b0 b1 s mo x W Y) R := by
 have hM : maxLen = 9223372036854775807 := rfl;have hg := zbd (a := u.1 / 2) hWl;have hv := Q9 (D := x.D) (a := u.1 / 2) hW (by decide);have hsh := NY u.1;have ha := zas h0 (show u.1 ≤ 1000000000000 by omega);refine au Tryz.func108 rfl (by simp [nts]) ?_;refine ag (vm ?_);simp only [wq.1,Nat.reduceLT,Tryz.results108];refine vm ?_;have w1 : IntKind.i64.wrap (2 * toI x.D W (u.1 / 2)) = 2 * toI x.D W (u.1 / 2) := aZ (by omega) (by omega);have w2 : IntKind.i64.wrap (2 * toI x.D W (u.1 / 2) + u.1 % 2) = kE x.D W u := by rw [aZ (by omega) (by omega)];rfl
 simp only [wq.1,seval,gE0,hsh,ha,K.keyOk,hg,w1,w2];refine ⟨by decide +kernel,?_⟩;exact hr _
theorem VY {D W : Cl} (hW : ∀ v ∈ W,0 ≤ v ∧ v ≤ 100000) (u : Us) : 0 ≤ kE D W u ∧ kE D W u ≤ 1000000 := by have hv := Q9 (D := D) (a := u.1 / 2) hW (by decide);unfold kE;omega
theorem zau {l : List Us} {i : Nat} (h : i < l.length) : ((l.map fun u : Us => V.agg [vi u.1,vi u.2]).getD i .any) = V.agg [vi l[i].1,vi l[i].2] := by simp [List.getD_eq_getElem?_getD,h]
theorem VZ {l : List Us} {i : Nat} (h : i < l.length) : ((usV l).drop (i * 2)).take 2 = [vi l[i].1,vi l[i].2] := by
 induction l generalizing i with
 | nil => exact absurd h (by simp)
 | cons u l ih =>
  cases i with
  | zero => rfl
  | succ i => rw [show (i + 1) * 2 = i * 2 + 2 by omega];exact ih (by simpa using h)
theorem yS {b0 b1 : O} {s : S} {mo : Int} {x : Fi} {W : Cl} {Y : H} {id : Nat} {l : List Us} (hWl : W.length = x.D.length) (hW : ∀ v ∈ W,0 ≤ v ∧ v ≤ 100000) (hid : (hG b0 b1 s mo x W Y)[id]? = some (.cells (usV l))) (hl : l.length ≤ 4000) (hu : ∀ u ∈ l,0 ≤ u.1 ∧ u.1 ≤ 2147483647) (hcl : dO (hG b0 b1 s mo x W Y)) {R : AEnd → H → (Nat → Bool) → Prop}
 (hr : R (.ret (aH (l.map (kE x.D W)))) (hG b0 b1 s mo x W Y) (fun _ => false)) : ah TE 109 [.lp 3 0,.ls id 2 0 l.length l.length] (hG b0 b1 s mo x W Y) R := by
 have hM : maxLen = 9223372036854775807 := rfl;refine ah.fresh ?_;obtain ⟨B,hB⟩ : ∃ B,B = hG b0 b1 s mo x W Y := ⟨_,rfl⟩;have hBX : ∀ X,B ++ X = hG b0 b1 s mo x W (Y ++ X) := fun X => by rw [hB];rfl
 rw [← hB] at hid hcl ⊢;have hBl : B.length = Y.length + 10 := by rw [hB];rfl
 have hidl : id < B.length := (List.getElem?_eq_some_iff.1 hid).1;have hidX : ∀ Z,(B ++ Z)[id]? = some (.cells (usV l)) := fun Z => by rw [List.getElem?_append_left hidl];exact hid
 obtain ⟨v,hv⟩ : ∃ v : Nat → Int,∀ i,v i = (l.map (kE x.D W)).getD i 0 := ⟨_,fun _ => rfl⟩;refine au Tryz.func109 rfl (by simp [nts]) ?_;refine ag (vm ?_);simp only [wq.1,Nat.reduceLT,Tryz.results109];refine ag (vm ?_);simp only [wq.1,Nat.reduceLT];refine ag ?_;refine ag ?_;refine vm ?_;simp only [wq.1,seval];refine az ?_;refine aF (fun mm f h' => ∃ i X,mm + i = l.length ∧ f.t 0 = .lp 3 0 ∧ f.t 8 = .ls id 2 0 l.length l.length ∧ f.t 9 = vi l.length ∧ f.t 10 = vi i ∧ f.d = [] ∧ (∀ j,f.k j = true → B.length ≤ j) ∧ h' = B ++ X ∧ ((i = 0 ∧ X = [] ∧ f.t 5 = .nils) ∨ (0 < i ∧ ∃ j,f.t 5 = .ls (B.length + j) 1 0 i i ∧ X[j]? = some (.cells (((l.take i).map (kE x.D W)).map vi))))) l.length ⟨0,[],by simp,by simp only [wq.1,seval],by simp only [wq.1,seval],by simp only [wq.1,seval],rfl,rfl,fun j hj => (by cases hj),by simp,.inl ⟨rfl,rfl,by simp only [wq.1,seval]⟩⟩ ?_;rintro mm f h' ⟨i,X,hm,t0,t8,t9,t10,hd,hk,rfl,hrow⟩;refine ag (vm ?_);simp only [wq.1,Nat.reduceLT,t9,t10];refine ag (vm ?_);simp only [wq.1,↓reduceIte];refine vcB.mk (fun hlt => ?_) (fun hlt => ?_)
 ·simp only [decide_eq_true_eq,Int.ofNat_lt] at hlt;have hul := yO l;have huc := VZ hlt;have hw := ax (show i < maxLen by omega);refine ag (az ?_);refine ag (vm ?_);simp only [wq.1,seval,t8,t10,hidX,gE,gE0,gS,gS0,huc,List.append_assoc];refine ⟨⟨by omega,by omega⟩,by omega,?_⟩;obtain ⟨o,ho⟩ : ∃ o : O,o = .cells [vi l[i].1,vi l[i].2] := ⟨_,rfl⟩;have hui := hu _ (List.getElem_mem hlt);have hlr := VY (D := x.D) hW l[i];have htk : (l.take (i + 1)).map (kE x.D W) = (l.take i).map (kE x.D W) ++ [kE x.D W l[i]] := by
   rw [List.take_add_one,List.map_append];simp [hlt]
  refine vm ?_;simp only [wq.1,seval,-Int.reduceNatCast,-Int.reduceNatCast',t0,gE,gE0];rw [hBX];refine nU hWl hW hui.1 hui.2 (fun X2 => ?_);rw [List.append_assoc,← hBX,List.append_assoc];obtain ⟨Z,hZ⟩ : ∃ Z,Z = X ++ ([O.cells [vi l[i].1,vi l[i].2]] ++ X2) := ⟨_,rfl⟩;rw [← hZ];rcases hrow with ⟨rfl,hX0,t5⟩ | ⟨hip,j,t5,hrj⟩
  ·simp only [wq.1,↓reduceIte,Nat.reduceEqDiff,Nat.reduceLT,Nat.reduceLeDiff,reduceCtorEq,Nat.reduceMul,t5];refine ⟨⟨rfl,by decide⟩,by decide,?_⟩;refine vm ?_;simp only [wq.1,seval,t10];refine .inl ⟨mm - 1,by omega,1,Z ++ [.cells [vi (kE x.D W l[0])]],by omega,by simp only [wq.1,seval,t0],by simp only [wq.1,seval,t8],by simp only [wq.1,seval,t9],rfl,by simp only [wq.1,hd],?_,by rw [List.append_assoc],.inr ⟨by decide,Z.length,rfl,?_⟩⟩
   ·exact fun j hj => hk j hj
   ·rw [htk,gE0];rfl
  ·have hzj : Z[j]? = some (.cells (((l.take i).map (kE x.D W)).map vi)) := by rw [hZ,List.getElem?_append_left (List.getElem?_eq_some_iff.1 hrj).1];exact hrj
   have d1 : V.drops (fun x => x == B.length + j) (((l.take i).map (kE x.D W)).map vi) = ((l.take i).map (kE x.D W)).map vi := aP _;have d2 : B.map (O.drop fun x => x == B.length + j) = B := hcl.one (Nat.le_add_right _ _);simp only [wq.1,↓reduceIte,Nat.reduceEqDiff,Nat.reduceLT,reduceCtorEq,Nat.reduceMul,t5,hd,gE,gS,hzj,d1,d2];refine ⟨⟨rfl,by decide⟩,⟨by simp;omega,by omega,by omega⟩,?_⟩;refine vm ?_;simp only [wq.1,seval,t10,hw];have e3 : (3 == B.length + j) = false := by simp;omega
   have ei : (id == B.length + j) = false := by simp;omega
   refine .inl ⟨mm - 1,by omega,i + 1,_,by omega,by simp only [wq.1,seval,t0,e3],by simp only [wq.1,seval,t8,ei],by simp only [wq.1,seval,t9],rfl,by simp only [wq.1,hd],?_,rfl,.inr ⟨by omega,j,rfl,?_⟩⟩
   ·intro j' hj;have hj' : (f.k j' || (j' == B.length + j)) = true := hj;rcases (by simpa using hj' : f.k j' = true ∨ j' = B.length + j) with h | h
    ·exact hk _ h
    ·omega
   ·rw [htk,List.map_append,List.getElem?_set_self (by rw [List.length_map];exact (List.getElem?_eq_some_iff.1 hzj).1)];rfl
 ·simp only [decide_eq_false_iff_not,Int.ofNat_lt] at hlt;have hi : i = l.length := by omega
  subst hi;simp only [wq.1];rcases hrow with ⟨h0,hX0,t5⟩ | ⟨hip,j,t5,hrj⟩
  ·have hl0 : l = [] := List.eq_nil_of_length_eq_zero h0;refine Dt (FLe.one 5 (v := aH []) (by rw [show ((f.put (some 11) (V.bool (decide ((l.length : Int) < (l.length : Int))))).t 5) = f.t 5 from rfl,t5];exact cO)) (HLe.refl _) ?_;refine vm ?_;simp only [wq.1,seval,hd];refine ⟨fun i hi => ?_,?_⟩
   ·cases h : f.k i with
    | false => rfl
    | true => have := hk i h;omega
   ·subst hl0;subst hX0;rw [List.append_nil,hB];exact hr
  ·rw [List.take_length] at hrj;refine Dv (h0 := B) (Y := X) 5 (aH (l.map (kE x.D W))) (by simp only [wq.1,hd]) (by simp only [wq.1,seval,t5,bC,show decide (B.length ≤ B.length + j) = true by simp]) ?_ ?_
   ·simp only [wq.1,seval,t5];refine dh ((Ir j hrj).trans ?_) (by simp);rw [aP]
   ·rw [hcl.from_,hcl.from_];refine vm ?_;simp only [wq.1,seval,hd];refine ⟨fun i hi => ?_,?_⟩
    ·have hf : bC B.length i = false := by simp [bC];omega
     rw [hf];cases h : f.k i with
     | false => rfl
     | true => have := hk i h;omega
    ·rw [hB];exact hr
theorem zbe {D V : Cl} {a : Int} (h : V.length = D.length) : ∃ n,xJ (.int .i64) (vi a) (D.map vi) (V.map vi) (vi 0) true = (True,.tup [vi n,.bool (decide (a ∈ D))]) := by
 unfold xJ;rw [ug,← wU];cases hf : D.findIdx? (· == a) with
 | none => exact ⟨0,rfl⟩
 | some i => obtain ⟨h1,h2,h3⟩ := List.findIdx?_eq_some_iff_getElem.1 hf;refine ⟨V[i]'(by omega),?_⟩;show (True,Abs.V.tup [(V.map vi).getD i .any,.bool true]) = _;rw [xU (by omega) _];rfl
theorem xk {b0 b1 : O} {s : S} {mo : Int} {x : Fi} {W : Cl} {Y : H} {id off cap : Nat} {cs : List V} {l : List Us} (hWl : W.length = x.D.length) (hid : (hG b0 b1 s mo x W Y)[id]? = some (.cells cs)) (hc : ∀ i (h : i < l.length),(cs.drop (off + i * 2)).take 2 = [vi l[i].1,vi l[i].2]) (hcl : off + l.length * 2 ≤ cs.length) (hl : l.length ≤ 4000) (hu : ∀ u ∈ l,0 ≤ u.1 ∧ u.1 ≤ 2147483647) {R : AEnd → H → (Nat → Bool) → Prop}
 (h1 : fD x.D l = none → ∀ X,R (.ret (.tup [])) (hG b0 b1 s mo x W (Y ++ X)) (fun _ => false))
 (h2 : ∀ (w : Nat) (e : Int),fD x.D l = some (w,e) → ∀ X,R (.pan (gV w e)) (hG b0 b1 s mo x W (Y ++ X)) (fun _ => false)) : ah TE 58 [.lp 3 0,.ls id 2 off l.length cap] (hG b0 b1 s mo x W Y) R := by
 have hM : maxLen = 9223372036854775807 := rfl;obtain ⟨B,hB⟩ : ∃ B,B = hG b0 b1 s mo x W Y := ⟨_,rfl⟩;have hBX : ∀ X,B ++ X = hG b0 b1 s mo x W (Y ++ X) := fun X => by rw [hB];rfl
 have hBl : B.length = Y.length + 10 := by rw [hB];rfl
 have hB3 : ∀ Z,(B ++ Z)[3]? = some (rdT s x.a (fiG x mo)) := fun Z => by rw [hB];rfl
 have hB2 : ∀ Z,(B ++ Z)[2]? = some (.map (x.D.map vi) (W.map vi)) := fun Z => by rw [hB];rfl
 rw [← hB] at hid ⊢;have hidl : id < B.length := (List.getElem?_eq_some_iff.1 hid).1;have hidX : ∀ Z,(B ++ Z)[id]? = some (.cells cs) := fun Z => by rw [List.getElem?_append_left hidl];exact hid
 refine ah.kp (fun _ => false) ?_;refine au Tryz.func58 rfl (by simp [nts]) ?_;refine ag ?_;refine vm ?_;simp only [wq.1,seval,Tryz.results58];refine az ?_;refine aF (fun mm f h' => ∃ i X,mm + i = l.length ∧ f.t 0 = .lp 3 0 ∧ f.t 8 = .ls id 2 off l.length cap ∧ f.t 9 = vi l.length ∧ f.t 10 = vi i ∧ f.d = [] ∧ (∀ j,f.k j = true → False) ∧ h' = B ++ X ∧ fD x.D l = fD x.D (l.drop i)) l.length ⟨0,[],by simp,by simp only [wq.1,seval],by simp only [wq.1,seval],by simp only [wq.1,seval],rfl,rfl,fun j hj => (by cases hj),by simp,by simp⟩ ?_;rintro mm f h' ⟨i,X,hm,t0,t8,t9,t10,hd,hk,rfl,hkn⟩;refine ag (vm ?_);simp only [wq.1,Nat.reduceLT,t9,t10];refine ag (vm ?_);simp only [wq.1,↓reduceIte];refine vcB.mk (fun hlt => ?_) (fun hlt => ?_)
 ·simp only [decide_eq_true_eq,Int.ofNat_lt] at hlt;have huc := hc i hlt;have hw := ax (show i < maxLen by omega);have hui := hu _ (List.getElem_mem hlt);have hsh := NY l[i].1;obtain ⟨n,hmg⟩ := zbe (a := l[i].1 / 2) hWl;have hsp : l.drop i = l[i] :: l.drop (i + 1) := (List.drop_eq_getElem_cons hlt);rw [hsp,show fD x.D (l[i] :: l.drop (i + 1)) = (if l[i].1 / 2 ∈ x.D then fD x.D (l.drop (i + 1)) else some (l[i].2,6)) from rfl] at hkn;refine ag (az ?_);refine ag (vm ?_);simp only [wq.1,seval,t8,t10,hidX,gE,gE0,gS,gS0,huc,List.append_assoc];refine ⟨⟨by omega,by omega⟩,by omega,?_⟩;refine ag ?_;refine vm ?_;simp only [wq.1,seval,t0,hB3,hB2,gE,gE0,hsh,K.keyOk,hmg];refine ⟨by decide +kernel,?_⟩;refine vm ?_;simp only [wq.1,seval,gE,gE0];refine aO _ _ 6 (fun hb => ?_) (fun hb => ?_)
  ·have hb' := of_decide_eq_true hb;rw [if_pos hb'] at hkn;simp only [wq.1];refine vm ?_;simp only [wq.1,seval,t10,hw];exact .inl ⟨mm - 1,by omega,i + 1,_,by omega,by simp only [wq.1,seval,t0],by simp only [wq.1,seval,t8],by simp only [wq.1,seval,t9],rfl,by simp only [wq.1,hd],fun j hj => hk j hj,rfl,hkn⟩
  ·have hb' := of_decide_eq_false hb;rw [if_neg hb'] at hkn;simp only [wq.1,aX,hd];simp only [XE.block,XE.seq,bz];simp only [wq.1,hd];have := h2 _ _ hkn (X ++ [.cells [vi l[i].1,vi l[i].2]]);rw [← hBX] at this;exact ⟨hk,this⟩
 ·simp only [decide_eq_false_iff_not,Int.ofNat_lt] at hlt;have hi : i = l.length := by omega
  subst hi;rw [List.drop_length] at hkn;simp only [wq.1,hd];have := h1 hkn X;rw [← hBX] at this;exact ⟨hk,this⟩
def jU (L : Cl) : List V := L.map fun _ => V.bool true
theorem V3 {L : Cl} {a : Int} : xJ (.int .i64) (vi a) (L.map vi) (jU L) (.bool false) false = (True,.bool (decide (a ∈ L))) := by
 unfold xJ;rw [ug,← wU];cases hf : L.findIdx? (· == a) with
 | none => rfl
 | some i => obtain ⟨h1,h2,h3⟩ := List.findIdx?_eq_some_iff_getElem.1 hf;show (True,(jU L).getD i .any) = _;unfold jU;rw [List.getD_eq_getElem?_getD,List.getElem?_map,List.getElem?_eq_getElem h1];rfl
theorem zbf {L : Cl} {a : Int} (h : a ∉ L) : NW (.int .i64) (vi a) (.bool true) (L.map vi) (jU L) = some ((L ++ [a]).map vi,jU (L ++ [a])) := by
 unfold NW;have : L.findIdx? (· == a) = none := by
  have := wU (D := L) (a := a);rw [decide_eq_false h] at this;cases hf : L.findIdx? (· == a) with
  | none => rfl
  | some i => rw [hf] at this;cases this
 rw [ug,this];simp [jU]
theorem zbg {L : Cl} {a : Int} (h : a ∈ L) : za1 (.int .i64) (vi a) (L.map vi) (jU L) = some ((L.erase a).map vi,jU (L.erase a)) := by
 unfold za1;rw [ug];have h0 := wU (D := L) (a := a);rw [decide_eq_true h] at h0;obtain ⟨i,hi⟩ := Option.isSome_iff_exists.1 h0;obtain ⟨h1,h2,h3⟩ := List.findIdx?_eq_some_iff_getElem.1 hi;have e : L.idxOf a = i := by
  rw [List.idxOf,List.findIdx_eq h1];exact ⟨h2,fun j hj => by simpa using h3 j hj⟩
 rw [hi,List.erase_eq_eraseIdx_of_idxOf e];simp only [Option.some.injEq,Prod.mk.injEq,jU];exact ⟨(fV _ _ _).symm,(fV _ _ _).symm⟩
theorem xm {p : Nat → Bool} : ∀ {L : Cl},V.drops p (jU L) = jU L
 | [] => rfl
 | a :: L => by unfold jU;rw [List.map_cons,V.drops];congr 1;exact xm
theorem oM {l : List An} {i : Nat} (h : i < l.length) : ((anV l).drop (i * 6)).take 6 = [vi l[i].lit,vi l[i].pos,vi l[i].p.1,vi l[i].p.2,vi l[i].q.1,vi l[i].q.2] := by
 induction l generalizing i with
 | nil => exact absurd h (by simp)
 | cons u l ih =>
  cases i with
  | zero => rfl
  | succ i => rw [show (i + 1) * 6 = i * 6 + 6 by omega];exact ih (by simpa using h)
theorem Nw {b0 b1 : O} {s : S} {mo : Int} {x : Fi} {W : Cl} {Y : H} (hl : x.ands.length ≤ 4000) (hnd : x.left.Nodup) (ha : ∀ a ∈ x.ands,0 ≤ a.lit ∧ a.lit ≤ 2147483647 ∧ 0 ≤ a.p.1 ∧ a.p.1 ≤ 2147483647 ∧ 0 ≤ a.q.1 ∧ a.q.1 ≤ 2147483647) (hcl : dO (hG b0 b1 s mo x W Y)) {R : AEnd → H → (Nat → Bool) → Prop}
 (h1 : ∀ o left,iq x.ands ((x.ands.length + 1) * (x.ands.length + 1)) 0 x.left [] = (o,left) → x.ands.find? (fun a => decide (a.lit / 2 ∈ left)) = none → ∀ X,R (.ret (aH (o.map fun i : Nat => (i : Int)))) (hG b0 b1 s mo x W (Y ++ X)) (fun _ => false))
 (h2 : ∀ o left a,iq x.ands ((x.ands.length + 1) * (x.ands.length + 1)) 0 x.left [] = (o,left) → x.ands.find? (fun a => decide (a.lit / 2 ∈ left)) = some a → ∀ X,R (.pan (gV a.pos 7)) (hG b0 b1 s mo x W (Y ++ X)) (fun _ => false)) :
 ah TE 107 [.lp 3 0] (hG b0 b1 s mo x W Y) R := by
 have hM : maxLen = 9223372036854775807 := rfl;refine ah.fresh ?_;obtain ⟨B,hB⟩ : ∃ B,B = hG b0 b1 s mo x W Y := ⟨_,rfl⟩;have hBX : ∀ X,B ++ X = hG b0 b1 s mo x W (Y ++ X) := fun X => by rw [hB];rfl
 have hBl : B.length = Y.length + 10 := by rw [hB];rfl
 have hB3 : ∀ Z,(B ++ Z)[3]? = some (rdT s x.a (fiG x mo)) := fun Z => by rw [hB];rfl
 have hB9 : ∀ Z,(B ++ Z)[9]? = some (.cells (anV x.ands)) := fun Z => by rw [hB];rfl
 have hal := yP x.ands;obtain ⟨n,hn⟩ : ∃ n,n = x.ands.length := ⟨_,rfl⟩;rw [← hB] at hcl ⊢;refine au Tryz.func107 rfl (by simp [nts]) ?_;refine ag (vm ?_);simp only [wq.1,Nat.reduceLT,Tryz.results107];refine ag (vm ?_);simp only [wq.1,Nat.reduceLT];refine ag (vm ?_);simp only [wq.1,seval];refine ag ?_;refine ag ?_;refine vm ?_;simp only [wq.1,seval,hB3];refine az ?_;refine aF (fun mm f h' => ∃ i X,mm + i = n ∧ f.t 0 = .lp 3 0 ∧ f.t 3 = .nils ∧ f.t 4 = .lm B.length ∧ f.t 15 = .ls 9 6 0 x.ands.length x.ands.length ∧ f.t 16 = vi n ∧ f.t 17 = vi i ∧ f.d = [] ∧ (∀ j,f.k j = true → B.length ≤ j) ∧ h' = B ++ (.map ((x.left.take i).map vi) (jU (x.left.take i)) :: X)) n ⟨0,[],by simp,by simp only [wq.1,seval],by simp only [wq.1,seval],by simp only [wq.1,seval],by simp only [wq.1,seval],by rw [hn];rfl,rfl,rfl,fun j hj => (by cases hj),by simp [jU]⟩ ?_;rintro mm f h' ⟨i,X,hm,t0,t3,t4,t15,t16,t17,hd,hk,rfl⟩;refine ag (vm ?_);simp only [wq.1,Nat.reduceLT,t16,t17];refine ag (vm ?_);simp only [wq.1,↓reduceIte];refine vcB.mk (fun hlt => ?_) (fun hlt => ?_)
 ·simp only [decide_eq_true_eq,Int.ofNat_lt] at hlt;rw [hn] at hlt;have hac := oM hlt;have hw := ax (show i < maxLen by omega);have hai := ha _ (List.getElem_mem hlt);have hsh := NY x.ands[i].lit;have hll : i < x.left.length := by unfold Fi.left;rw [List.length_map];exact hlt
  have hlv : x.left[i] = x.ands[i].lit / 2 := by simp [Fi.left]
  have htk : x.left.take (i + 1) = x.left.take i ++ [x.ands[i].lit / 2] := by rw [List.take_add_one,List.getElem?_eq_getElem hll,hlv];rfl
  have hnm : x.ands[i].lit / 2 ∉ x.left.take i := fun hm => by have h2 := (List.take_sublist (i + 1) x.left).nodup hnd;rw [htk,List.nodup_append] at h2;exact h2.2.2 _ hm _ (by simp) rfl
  have hput := zbf hnm;refine ag (az ?_);refine ag (vm ?_);simp only [wq.1,seval,t15,t17,hB9,gE,gE0,gS,gS0,hac,List.append_assoc];refine ⟨⟨by omega,by omega⟩,by omega,?_⟩;refine vm ?_;simp only [wq.1,seval,t4,gE,gE0,gS0,hsh,K.keyOk,hput];refine vm ?_;simp only [wq.1,seval,t17,hw];exact .inl ⟨mm - 1,by omega,i + 1,X ++ [O.cells [vi x.ands[i].lit,vi x.ands[i].pos,vi x.ands[i].p.1,vi x.ands[i].p.2,vi x.ands[i].q.1,vi x.ands[i].q.2]],by omega,by simp only [wq.1,seval,t0],by simp only [wq.1,seval,t3],by simp only [wq.1,seval,t4],by simp only [wq.1,seval,t15],by simp only [wq.1,seval,t16],rfl,by simp only [wq.1,hd],fun j hj => hk j hj,by rw [htk,List.map_append];rfl⟩
 ·simp only [decide_eq_false_iff_not,Int.ofNat_lt] at hlt;have hi : i = n := by omega
  have hll : x.left.length = n := by unfold Fi.left;rw [List.length_map,hn]
  rw [List.take_of_length_le (by omega)];clear hm hlt;simp only [wq.1];refine ag (ag ?_);refine vm ?_;simp only [wq.1,Nat.reduceLT];obtain ⟨R0,hR0⟩ : ∃ R0,R0 = iq x.ands ((n + 1) * (n + 1)) 0 x.left [] := ⟨_,rfl⟩;rw [← hn,← hR0] at h1 h2;refine az ?_;refine aF (fun mm f h' => ∃ (i : Nat) (left : Cl) (o : List Nat) (X : H),iq x.ands mm i left o = R0 ∧ left.length * (n + 1) + (n + 1 - i) ≤ mm ∧ i ≤ n ∧ left.length + o.length = n ∧ f.t 0 = .lp 3 0 ∧ f.t 4 = .lm B.length ∧ f.t 7 = vi i ∧ f.d = [] ∧ (∀ j,f.k j = true → B.length ≤ j) ∧ h' = B ++ (.map (left.map vi) (jU left) :: X) ∧ ((o = [] ∧ f.t 3 = .nils) ∨ (o ≠ [] ∧ ∃ j,f.t 3 = .ls (B.length + (j + 1)) 1 0 o.length o.length ∧ X[j]? = some (.cells ((o.map fun i : Nat => (i : Int)).map vi))))) ((n + 1) * (n + 1)) ⟨0,x.left,[],X,hR0.symm,by rw [hll,Nat.add_mul n 1,Nat.one_mul,Nat.sub_zero];exact Nat.le_refl _,Nat.zero_le _,by simp [hll],by simp only [wq.1,seval,t0],by simp only [wq.1,seval,t4],rfl,by simp only [wq.1,hd],fun j hj => hk j hj,rfl,.inl ⟨rfl,by simp only [wq.1,seval,t3]⟩⟩ ?_;clear t0 t3 t4 t15 t16 t17 hd hk X i hi;rintro mm f h' ⟨i,left,o,X,hsr,hms,hin,hlo,t0,t4,t7,hd,hk,rfl,hrow⟩;by_cases hlt : i < n
  ·have e1 : decide ((i : Int) < (x.ands.length : Int)) = true := by simp;omega
   rw [hn] at hlt;obtain ⟨k,rfl⟩ : ∃ k,mm = k + 1 := ⟨mm - 1,by omega⟩;have hac := oM hlt;have hw := ax (show i < maxLen by omega);have hai := ha _ (List.getElem_mem hlt);obtain ⟨a,hae⟩ : ∃ a,a = x.ands[i] := ⟨_,rfl⟩;rw [← hae] at hac hai;have s1 := NY a.lit;have s2 := NY a.p.1;have s3 := NY a.q.1;have m1 := V3 (L := left) (a := a.lit / 2);have m2 := V3 (L := left) (a := a.p.1 / 2);have m3 := V3 (L := left) (a := a.q.1 / 2);have hst : iq x.ands (k + 1) i left o = (if a.lit / 2 ∈ left ∧ a.p.1 / 2 ∉ left ∧ a.q.1 / 2 ∉ left then iq x.ands k 0 (left.erase (a.lit / 2)) (o ++ [i]) else iq x.ands k (i + 1) left o) := by
    rw [show iq x.ands (k + 1) i left o = (if i < x.ands.length then (if (x.ands.getD i .nil).lit / 2 ∈ left ∧ (x.ands.getD i .nil).p.1 / 2 ∉ left ∧ (x.ands.getD i .nil).q.1 / 2 ∉ left then iq x.ands k 0 (left.erase ((x.ands.getD i .nil).lit / 2)) (o ++ [i]) else iq x.ands k (i + 1) left o) else (o,left)) from rfl,if_pos hlt,aG hlt,← hae]
   rw [hst] at hsr;refine ag (vm ?_);simp only [wq.1,seval,t0,t7,hB3,e1];refine az ?_;refine ag (vm ?_);simp only [wq.1,seval,t0,t7,hB3,hB9,hac,gE,gE0,gS,gS0,List.append_assoc];refine ⟨⟨by omega,by omega⟩,by omega,?_⟩;have hrow' : ∀ {f' : Fr},f'.t 3 = f.t 3 → (o = [] ∧ f'.t 3 = .nils) ∨ (o ≠ [] ∧ ∃ j,f'.t 3 = .ls (B.length + (j + 1)) 1 0 o.length o.length ∧ (X ++ [O.cells [vi a.lit,vi a.pos,vi a.p.1,vi a.p.2,vi a.q.1,vi a.q.2]])[j]? = some (.cells ((o.map fun i : Nat => (i : Int)).map vi))) := fun {f'} h3 => by
    rw [h3];rcases hrow with ⟨h,h'⟩ | ⟨h,j,h',hj⟩
    ·exact .inl ⟨h,h'⟩
    ·exact .inr ⟨h,j,h',by rw [List.getElem?_append_left (List.getElem?_eq_some_iff.1 hj).1];exact hj⟩
   cases c0 : decide (a.lit / 2 ∈ left) with
   | false =>
    rw [c0] at m1;refine ag (vm ?_);simp only [wq.1,seval,t4,t7,gE,gE0,s1,s2,s3,K.keyOk,m1,m2,m3,hw]
    skip
    rw [if_neg (fun h => of_decide_eq_false c0 h.1)] at hsr;exact .inl ⟨k,by omega,i + 1,left,o,X ++ [O.cells [vi a.lit,vi a.pos,vi a.p.1,vi a.p.2,vi a.q.1,vi a.q.2]],hsr,by omega,by omega,hlo,by simp only [wq.1,seval,t0],by simp only [wq.1,seval,t4],rfl,by simp only [wq.1,seval,-Int.reduceNatCast,-Int.reduceNatCast',ak,Tryz.results107,hd],fun j hj => hk j hj,rfl,hrow' rfl⟩
   | true =>
    rw [c0] at m1;cases c1 : decide (a.p.1 / 2 ∈ left) with
    | true => rw [c1] at m2;refine ag (vm ?_);simp only [wq.1,seval,-Int.reduceNatCast,-Int.reduceNatCast',ak,Tryz.results107,t0,t4,t7,hd,gE,gE0,s1,s2,s3,K.keyOk,m1,m2,m3,List.append_assoc,List.cons_append,List.nil_append,hw];refine ⟨by decide,?_⟩;rw [if_neg (fun h => h.2.1 (of_decide_eq_true c1))] at hsr;exact .inl ⟨k,by omega,i + 1,left,o,X ++ [O.cells [vi a.lit,vi a.pos,vi a.p.1,vi a.p.2,vi a.q.1,vi a.q.2]],hsr,by omega,by omega,hlo,by simp only [wq.1,seval,t0],by simp only [wq.1,seval,t4],rfl,by simp only [wq.1,seval,-Int.reduceNatCast,-Int.reduceNatCast',ak,Tryz.results107,hd],fun j hj => hk j hj,rfl,hrow' rfl⟩
    | false =>
     rw [c1] at m2;cases c2 : decide (a.q.1 / 2 ∈ left) with
     | true => rw [c2] at m3;refine ag (vm ?_);simp only [wq.1,seval,-Int.reduceNatCast,-Int.reduceNatCast',ak,Tryz.results107,t0,t4,t7,hd,gE,gE0,s1,s2,s3,K.keyOk,m1,m2,m3,List.append_assoc,List.cons_append,List.nil_append,hw];refine ⟨by decide,by decide,?_⟩;rw [if_neg (fun h => h.2.2 (of_decide_eq_true c2))] at hsr;exact .inl ⟨k,by omega,i + 1,left,o,X ++ [O.cells [vi a.lit,vi a.pos,vi a.p.1,vi a.p.2,vi a.q.1,vi a.q.2]],hsr,by omega,by omega,hlo,by simp only [wq.1,seval,t0],by simp only [wq.1,seval,t4],rfl,by simp only [wq.1,seval,-Int.reduceNatCast,-Int.reduceNatCast',ak,Tryz.results107,hd],fun j hj => hk j hj,rfl,hrow' rfl⟩
     | false =>
      rw [c2] at m3;rw [if_pos ⟨of_decide_eq_true c0,of_decide_eq_false c1,of_decide_eq_false c2⟩] at hsr;have hdl := zbg (of_decide_eq_true c0);have hel : (left.erase (a.lit / 2)).length + 1 = left.length := by
       have := List.length_erase_of_mem (of_decide_eq_true c0);have := List.length_pos_of_mem (of_decide_eq_true c0);omega
      refine ag (vm ?_);simp only [wq.1,seval,-Int.reduceNatCast,-Int.reduceNatCast',ak,Tryz.results107,t0,t4,t7,hd,gE,gE0,s1,s2,s3,K.keyOk,m1,m2,m3,List.append_assoc,List.cons_append,List.nil_append];refine ⟨by decide,by decide,?_⟩;refine ag (fB ?_);refine ay rfl rfl ?_;simp only [wq.1,seval,t4];refine ay rfl rfl ?_;simp only [wq.1,seval];refine ay rfl rfl ?_;simp only [wq.1,seval,gE,gE0];refine ay rfl rfl ?_;simp only [wq.1,seval,s1];have hq : ti TE.P 190 = some ⟨.map 3 4,1,8,.nilm⟩ := by simp only [wq.1]
      have hqi : ti TE.P 3 = some ⟨.int .i64,1,8,.int .i64 0⟩ := by simp only [wq.1]
      refine bW rfl rfl ?_;refine MN (kt' := 0) (t := 190) rfl rfl (id := B.length) (by simp only [wq.1,seval]) (by simp only [wq.1,seval]) (by simp only [wq.1,↓reduceIte]) hq rfl hqi (by simp only [wq.1,↓reduceIte,K.keyOk]) (ks := left.map vi) (vs := jU left) (by rw [gE0];rfl) (by simp only [wq.1,↓reduceIte];exact hdl) ?_;refine bT ?_;simp only [wq.1,gS0];obtain ⟨L2,hL2⟩ : ∃ L2,L2 = left.erase (a.lit / 2) := ⟨_,rfl⟩;rw [← hL2] at hel hsr ⊢;obtain ⟨Z,hZ⟩ : ∃ Z,Z = X ++ [O.cells [vi a.lit,vi a.pos,vi a.p.1,vi a.p.2,vi a.q.1,vi a.q.2]] := ⟨_,rfl⟩;rw [← hZ];have hms2 : L2.length * (n + 1) + (n + 1 - 0) ≤ k := by
       rw [← hel,Nat.add_mul,Nat.one_mul] at hms;omega
      rcases hrow with ⟨ho,t3⟩ | ⟨ho,j,t3,hj⟩
      ·subst ho;refine ag (vm ?_);simp only [wq.1,↓reduceIte,Nat.reduceEqDiff,Nat.reduceLT,Nat.reduceLeDiff,reduceCtorEq,Nat.reduceMul,t3,t7];refine ⟨⟨rfl,by decide⟩,by decide,?_⟩;refine vm ?_;simp only [wq.1,Nat.reduceLT];refine .inl ⟨k,by omega,0,L2,[] ++ [i],Z ++ [O.cells [vi i]],hsr,hms2,Nat.zero_le _,by simp at hlo ⊢;omega,by simp only [wq.1,seval,t0],by simp only [wq.1,seval,t4],rfl,by simp only [wq.1,hd],fun j hj => hk j hj,?_,.inr ⟨by simp,Z.length,?_,?_⟩⟩
       ·simp only [wq.1,List.append_assoc]
       ·first
         | rfl
         | (simp only [wq.1,seval,-Int.reduceNatCast,-Int.reduceNatCast',ak,Tryz.results107])
       ·rw [gE0];rfl
      ·have hzj : Z[j]? = some (.cells ((o.map fun i : Nat => (i : Int)).map vi)) := by rw [hZ,List.getElem?_append_left (List.getElem?_eq_some_iff.1 hj).1];exact hj
       have d1 : V.drops (fun x => x == B.length + (j + 1)) ((o.map fun i : Nat => (i : Int)).map vi) = (o.map fun i : Nat => (i : Int)).map vi := aP _;have d2 : B.map (O.drop fun x => x == B.length + (j + 1)) = B := hcl.one (Nat.le_add_right _ _);have d3 : V.drops (fun x => x == B.length + (j + 1)) (L2.map vi) = L2.map vi := aP _;have d4 : V.drops (fun x => x == B.length + (j + 1)) (jU L2) = jU L2 := xm;refine ag (vm ?_);simp only [wq.1,↓reduceIte,Nat.reduceEqDiff,Nat.reduceLT,reduceCtorEq,Nat.reduceMul,t3,t7,hd,gE,gS,hzj,d1,d2,d3,d4];refine ⟨⟨rfl,by decide⟩,⟨by omega,by omega,by omega⟩,?_⟩;refine vm ?_;simp only [wq.1,Nat.reduceLT];have e3 : (3 == B.length + (j + 1)) = false := by simp;omega
       have e4 : (B.length == B.length + (j + 1)) = false := by simp
       refine .inl ⟨k,by omega,0,L2,o ++ [i],_,hsr,hms2,Nat.zero_le _,by simp at hlo ⊢;omega,by simp only [wq.1,seval,t0,e3],by simp only [wq.1,seval,t4,e4],rfl,by simp only [wq.1,hd],?_,rfl,.inr ⟨by simp,j,?_,?_⟩⟩
       ·intro j' hj;have hj' : (f.k j' || (j' == B.length + (j + 1))) = true := hj;rcases (by simpa using hj' : f.k j' = true ∨ j' = B.length + (j + 1)) with h | h
        ·exact hk _ h
        ·omega
       ·simp only [wq.1,seval]
       ·rw [List.map_append,List.map_append,List.getElem?_set_self (by rw [List.length_map];exact (List.getElem?_eq_some_iff.1 hzj).1)];rfl
  ·have e1 : decide ((i : Int) < (x.ands.length : Int)) = false := by simp;omega
   refine ag (vm ?_);simp only [wq.1,seval,t0,t7,hB3,e1];have hi : i = x.ands.length := by omega
   obtain ⟨k,rfl⟩ : ∃ k,mm = k + 1 := ⟨mm - 1,by omega⟩;have hst : iq x.ands (k + 1) i left o = (o,left) := by rw [show iq x.ands (k + 1) i left o = (if i < x.ands.length then _ else (o,left)) from rfl,if_neg (by omega)]
   rw [hst] at hsr;rw [← hsr] at h1 h2;have h1 := h1 o left rfl;have h2 := fun a => h2 o left a rfl;clear hst e1 hms hsr hR0 hi hin;refine ag ?_;refine ag ?_;refine vm ?_;simp only [wq.1,seval,t0,hB3];refine az ?_;refine aF (fun mm f h' => ∃ (i : Nat) (X : H),mm + i = x.ands.length ∧ x.ands.find? (fun a => decide (a.lit / 2 ∈ left)) = (x.ands.drop i).find? (fun a => decide (a.lit / 2 ∈ left)) ∧ f.t 4 = .lm B.length ∧ f.t 77 = .ls 9 6 0 x.ands.length x.ands.length ∧ f.t 78 = vi x.ands.length ∧ f.t 79 = vi i ∧ f.d = [] ∧ (∀ j,f.k j = true → B.length ≤ j) ∧ h' = B ++ (.map (left.map vi) (jU left) :: X) ∧ ((o = [] ∧ f.t 3 = .nils) ∨ (o ≠ [] ∧ ∃ j,f.t 3 = .ls (B.length + (j + 1)) 1 0 o.length o.length ∧ X[j]? = some (.cells ((o.map fun i : Nat => (i : Int)).map vi))))) x.ands.length ⟨0,X,by simp,by simp,by simp only [wq.1,seval,t4],by simp only [wq.1,seval],by simp only [wq.1,seval],rfl,by simp only [wq.1,hd],fun j hj => hk j hj,rfl,hrow⟩ ?_;clear t0 t4 t7 hd hk hrow X hlt i;rintro mm f h' ⟨i,X,hm,hfi,t4,t77,t78,t79,hd,hk,rfl,hrow⟩;refine ag (vm ?_);simp only [wq.1,Nat.reduceLT,t78,t79];refine ag (vm ?_);simp only [wq.1,↓reduceIte];refine vcB.mk (fun hlt => ?_) (fun hlt => ?_)
   ·simp only [decide_eq_true_eq,Int.ofNat_lt] at hlt;have hac := oM hlt;have hw := ax (show i < maxLen by omega);have hai := ha _ (List.getElem_mem hlt);have s1 := NY x.ands[i].lit;have m1 := V3 (L := left) (a := x.ands[i].lit / 2);have hsp : x.ands.drop i = x.ands[i] :: x.ands.drop (i + 1) := List.drop_eq_getElem_cons hlt;rw [hsp,List.find?_cons] at hfi;refine ag (az ?_);refine ag (vm ?_);simp only [wq.1,seval,t77,t79,hB9,hac,gE,gE0,gS,gS0,List.append_assoc];refine ⟨⟨by omega,by omega⟩,by omega,?_⟩;refine vm ?_;simp only [wq.1,seval,t4,gE,gE0,s1,K.keyOk,m1];refine aO _ _ 7 (fun hb => ?_) (fun hb => ?_)
    ·have hb' : decide (x.ands[i].lit / 2 ∈ left) = false := by simpa using hb
     rw [hb'] at hfi;simp only [wq.1];refine vm ?_;simp only [wq.1,seval,t79,hw];refine .inl ⟨mm - 1,by omega,i + 1,_,by omega,hfi,by simp only [wq.1,seval,t4],by simp only [wq.1,seval,t77],by simp only [wq.1,seval,t78],rfl,by simp only [wq.1,hd],fun j hj => hk j hj,rfl,?_⟩;rcases hrow with ⟨h,h'⟩ | ⟨h,j,h',hj⟩
     ·exact .inl ⟨h,h'⟩
     ·exact .inr ⟨h,j,h',by rw [List.getElem?_append_left (List.getElem?_eq_some_iff.1 hj).1];exact hj⟩
    ·have hb' : decide (x.ands[i].lit / 2 ∈ left) = true := by simpa using hb
     rw [hb'] at hfi;simp only [wq.1,aX,hd];simp only [XE.block,XE.seq,bz];simp only [wq.1,hd];refine ⟨fun j hj => ?_,?_⟩
     ·cases h : f.k j with
      | false => rfl
      | true => have := hk j h;omega
     ·have := h2 x.ands[i] hfi (.map (left.map vi) (jU left) :: (X ++ [.cells [vi x.ands[i].lit,vi x.ands[i].pos,vi x.ands[i].p.1,vi x.ands[i].p.2,vi x.ands[i].q.1,vi x.ands[i].q.2]]));rw [← hBX] at this;exact this
   ·simp only [decide_eq_false_iff_not,Int.ofNat_lt] at hlt;have hi : i = x.ands.length := by omega
    subst hi;rw [List.drop_length] at hfi;have h1 := h1 hfi;simp only [wq.1];rcases hrow with ⟨ho,t3⟩ | ⟨ho,j,t3,hj⟩
    ·refine Dt (FLe.one 3 (v := aH []) (by rw [show ((f.put (some 80) (V.bool (decide ((x.ands.length : Int) < (x.ands.length : Int))))).t 3) = f.t 3 from rfl,t3];exact cO)) (HLe.refl _) ?_;refine vm ?_;simp only [wq.1,seval,hd];refine ⟨fun i hi => ?_,?_⟩
     ·cases h : f.k i with
      | false => rfl
      | true => have := hk i h;omega
     ·subst ho;have := h1 (.map (left.map vi) (jU left) :: X);rw [← hBX] at this;exact this
    ·refine Dv (h0 := B) (Y := .map (left.map vi) (jU left) :: X) 3 (aH (o.map fun i : Nat => (i : Int))) (by simp only [wq.1,hd]) (by simp only [wq.1,seval,t3,bC,show decide (B.length ≤ B.length + (j + 1)) = true by simp]) ?_ ?_
     ·simp only [wq.1,seval,t3];refine dh ((Ir (j + 1) hj).trans ?_) (by simp);rw [aP]
     ·rw [hcl.from_,hcl.from_];refine vm ?_;simp only [wq.1,seval,hd];refine ⟨fun i hi => ?_,?_⟩
      ·have hf : bC B.length i = false := by simp [bC];omega
       rw [hf];cases h : f.k i with
       | false => rfl
       | true => have := hk i h;omega
      ·have := h1 [];rw [← hBX,List.append_nil] at this;exact this
end Go.Proofs.YtfcpapokknfeeaaGreatDoor
