/- Lemmas for this claim, part F07: each holds under what it names. -/
import Derived.Test.YtfcpapokknfeeaaGreatDoorF06
set_option linter.unusedVariables false
set_option linter.unusedSimpArgs false
set_option linter.unnecessarySimpa false
set_option maxRecDepth 20000
set_option maxHeartbeats 8000000
namespace Go.Proofs.YtfcpapokknfeeaaGreatDoor
open Go Go.Proofs Go.Abs
def Gr.vars (g : Gr) : Nat := 1 + g.ins.toNat + g.next.length + g.ands.length
def uf (g : Gr) : List Bool := uC g (G8 g (List.replicate g.vars false) (g.next ++ g.outs).length) g.ands.length
theorem Bz {g : Gr} : (uf g).length = g.vars := by unfold uf;rw [uD,IQ,List.length_replicate]
def Xt : Plan := .take 2 <| .alt 0 (.alt 1 (.alt 3 (.alt 4 (.alt 5 (.alt 6 (.one 7 <| .one 8 <| .fin) (.one 7 (.one 6 <| .one 8 <| .fin))) (.one 7 (.one 5 <| .one 6 <| .one 8 <| .fin))) (.one 7 (.one 4 <| .one 5 <| .one 6 <| .one 8 <| .fin))) (.one 7 (.one 3 <| .one 4 <| .one 5 <| .one 6 <| .one 8 <| .fin))) (.alt 3 (.alt 1 (.alt 4 (.alt 5 (.alt 6 (.one 7 <| .one 8 <| .fin) (.one 7 (.one 6 <| .one 8 <| .fin))) (.one 7 (.one 5 <| .one 6 <| .one 8 <| .fin))) (.one 7 (.one 4 <| .one 5 <| .one 6 <| .one 8 <| .fin))) (.alt 4 (.alt 1 (.alt 5 (.alt 6 (.one 7 <| .one 8 <| .fin) (.one 7 (.one 6 <| .one 8 <| .fin))) (.one 7 (.one 5 <| .one 6 <| .one 8 <| .fin))) (.one 7 (.one 1 <| .one 5 <| .one 6 <| .one 8 <| .fin))) (.one 7 (.alt 1 (.one 4 <| .one 5 <| .one 6 <| .one 8 <| .fin) (.one 4 (.one 1 <| .one 5 <| .one 6 <| .one 8 <| .fin)))))) (.one 7 (.alt 1 (.one 3 <| .one 4 <| .one 5 <| .one 6 <| .one 8 <| .fin) (.one 3 (.alt 1 (.one 4 <| .one 5 <| .one 6 <| .one 8 <| .fin) (.one 4 (.one 1 <| .one 5 <| .one 6 <| .one 8 <| .fin)))))))) (.alt 3 (.alt 0 (.alt 1 (.alt 4 (.alt 5 (.alt 6 (.one 7 <| .one 8 <| .fin) (.one 7 (.one 6 <| .one 8 <| .fin))) (.one 7 (.one 5 <| .one 6 <| .one 8 <| .fin))) (.one 7 (.one 4 <| .one 5 <| .one 6 <| .one 8 <| .fin))) (.alt 4 (.alt 1 (.alt 5 (.alt 6 (.one 7 <| .one 8 <| .fin) (.one 7 (.one 6 <| .one 8 <| .fin))) (.one 7 (.one 5 <| .one 6 <| .one 8 <| .fin))) (.one 7 (.one 1 <| .one 5 <| .one 6 <| .one 8 <| .fin))) (.one 7 (.alt 1 (.one 4 <| .one 5 <| .one 6 <| .one 8 <| .fin) (.one 4 (.one 1 <| .one 5 <| .one 6 <| .one 8 <| .fin)))))) (.alt 4 (.alt 0 (.alt 1 (.alt 5 (.alt 6 (.one 7 <| .one 8 <| .fin) (.one 7 (.one 6 <| .one 8 <| .fin))) (.one 7 (.one 5 <| .one 6 <| .one 8 <| .fin))) (.one 7 (.one 1 <| .one 5 <| .one 6 <| .one 8 <| .fin))) (.one 7 (.one 0 <| .one 1 <| .one 5 <| .one 6 <| .one 8 <| .fin))) (.one 7 (.alt 0 (.alt 1 (.one 4 <| .one 5 <| .one 6 <| .one 8 <| .fin) (.one 4 (.one 1 <| .one 5 <| .one 6 <| .one 8 <| .fin))) (.one 4 (.one 0 <| .one 1 <| .one 5 <| .one 6 <| .one 8 <| .fin)))))) (.one 7 (.alt 0 (.alt 1 (.one 3 <| .one 4 <| .one 5 <| .one 6 <| .one 8 <| .fin) (.one 3 (.alt 1 (.one 4 <| .one 5 <| .one 6 <| .one 8 <| .fin) (.one 4 (.one 1 <| .one 5 <| .one 6 <| .one 8 <| .fin))))) (.one 3 (.alt 0 (.alt 1 (.one 4 <| .one 5 <| .one 6 <| .one 8 <| .fin) (.one 4 (.one 1 <| .one 5 <| .one 6 <| .one 8 <| .fin))) (.one 4 (.one 0 <| .one 1 <| .one 5 <| .one 6 <| .one 8 <| .fin)))))))
theorem Qb {g : Gr} (hg : g.chk = 0) : EvF TE 67 [g.v] 1 g.vars ((uf g).map V.bool) := by
 have hM : maxLen = 9223372036854775807 := rfl;obtain ⟨_,i0,i1,i2,i3,i4,i5⟩ := bf hg;have wf : g.first = 1 + g.ins + g.next.length := rfl
 have hfst := kw g (by omega) (by omega) (by omega);obtain ⟨n,hn⟩ : ∃ n,n = g.vars := ⟨_,rfl⟩;have hnv : (n : Int) = g.first + g.ands.length := by rw [hn];unfold Gr.vars;omega
 have wn : IntKind.i64.wrap (g.first + (g.ands.length : Int)) = (n : Int) := by rw [hnv];exact jY (by omega) (by omega)
 unfold EvF;unfold Gr.v at hfst ⊢;rw [← hn];refine au Tryz.func67 rfl (by simp [nts]) ?_;refine ag (vm ?_);simp only [wq.1,Nat.reduceLT,Tryz.results67];refine ag (bu mixed Xt (fun f' h' => f'.t 1 = .lp 0 0 ∧ f'.d = [] ∧ (∀ j,f'.k j = false) ∧ ((f'.t 3 = .lp 2 0 ∧ h' = [.cells [vi g.ins,aH g.next,aH g.init,prs g.ands,aH g.outs],.cells (List.replicate n (V.bool false)),.cells [.ls 1 1 0 n n]]) ∨ (f'.t 3 = .lp 1 0 ∧ h' = [.cells [vi g.ins,aH g.next,aH g.init,prs g.ands,aH g.outs],.cells [.ls 2 1 0 n n],.cells (List.replicate n (V.bool false))]))) (by decide +kernel) (by decide +kernel) ?_ ?_)
 ·simp only [wq.1,seval,Xt]
  repeat' apply And.intro
  all_goals
   refine ah.ev hfst (by simp only [V.dats,V.dat,Bool.and_self]) ?_;simp only [wq.1,seval,wn]
  all_goals
   repeat' apply And.intro
  all_goals omega
 ·rintro f h' ⟨t1,hd,hk,hcase⟩;show awp _ _ _ _ _ _ _;obtain ⟨rr,kc,X0,hX0,t3,rfl,hrk⟩ : ∃ rr kc X0,h' = X0 ∧ f.t 3 = .lp kc 0 ∧ X0 = (if rr = 1 then [.cells [vi g.ins,aH g.next,aH g.init,prs g.ands,aH g.outs],.cells (List.replicate n (V.bool false)),.cells [.ls 1 1 0 n n]] else [.cells [vi g.ins,aH g.next,aH g.init,prs g.ands,aH g.outs],.cells [.ls 2 1 0 n n],.cells (List.replicate n (V.bool false))]) ∧ ((rr = 1 ∧ kc = 2) ∨ (rr = 2 ∧ kc = 1)) := by
   rcases hcase with ⟨a,b⟩ | ⟨a,b⟩
   ·exact ⟨1,2,h',rfl,a,b,.inl ⟨rfl,rfl⟩⟩
   ·exact ⟨2,1,h',rfl,a,b,.inr ⟨rfl,rfl⟩⟩
  clear hcase;subst hX0;rcases hrk with ⟨rfl,rfl⟩ | ⟨rfl,rfl⟩
  ·simp only [if_true];refine ag (vm ?_);simp only [wq.1,seval,t1,t3];refine qP ?_;simp only [wq.1,Nat.reduceAdd];refine oq (n := 21) (q := 149) (first := []) (captured := [.lp 3 0,.lp 4 0]) (by simp only [wq.1,↓reduceIte]) (by simp only [wq.1,↓reduceIte]) rfl (by decide) ?_;intro L hLd gets;refine ah.mono (pg hg (id := 6) (k1 := 3) (k2 := 4) (rr := 1) (n := n) (N := 7) (P := fun v X => ∃ t,t 3 = .lp 2 0 ∧ v.length = n ∧ X = [O.cells [vi g.ins,aH g.next,aH g.init,prs g.ands,aH g.outs],.cells (v.map V.bool),.cells [.ls 1 1 0 n n],O.cells [vi g.ins,aH g.next,aH g.init,prs g.ands,aH g.outs],.cells [.ls 1 1 0 n n],.misc .dfd,L t .ready none]) hnv ⟨?_,?_,?_,?_,?_⟩ (by omega) ?_ (v0 := List.replicate n false) ⟨_,?_,List.length_replicate,by rw [List.map_replicate];rfl⟩) ?_
   ·rintro v X ⟨t,ht,hl,rfl⟩;rfl
   ·rintro v X ⟨t,ht,hl,rfl⟩;rfl
   ·rintro v X ⟨t,ht,hl,rfl⟩;rfl
   ·rintro v X ⟨t,ht,hl,rfl⟩;rfl
   ·rintro v X ⟨t,ht,hl,rfl⟩;exact hl
   ·rintro v X Y lit ⟨t,ht,hl,rfl⟩ h0 h1;refine gets _ _ _ t rfl rfl (fun lb => ?_);refine vm ?_;simp only [wq.1,seval,vC];refine ⟨t,rfl,?_⟩;refine vm ?_;have hdv : lit.fdiv (2 ^ min 1 IntKind.i64.bits) = lit / 2 := by
     rw [show (2 : Int) ^ min 1 IntKind.i64.bits = 2 from rfl];exact Int.fdiv_eq_ediv_of_nonneg _ (by decide)
    have hlt : (lit / 2).toNat < v.length := by rw [hl];omega
    simp only [wq.1,seval,ht,tK,XE.jump,hdv,Nat.mul_one,Option.isNone_none];refine ⟨⟨by omega,by omega⟩,by omega,t,_,rfl,[_,_,_,_,_,_,_],rfl,t,ht,by rw [mi,hl],?_⟩;rw [show List.map V.bool (sJ v lit) = (v.map V.bool).take (lit / 2).toNat ++ [V.bool true] ++ (v.map V.bool).drop ((lit / 2).toNat + 1) by
     unfold sJ;rw [List.map_set,List.set_eq_take_append_cons_drop,if_pos (by simpa using hlt),List.append_assoc];rfl]
   ·simp only [wq.1,seval,t3]
   ·rintro ae h' p ⟨hp,⟨w,rfl⟩,X,Y,rfl,t,ht,hl,rfl⟩;refine ⟨?_,hp 6 (by omega),t,_,none,(by decide),rfl,?_⟩
    ·intro i hi;have hi : i = 5 := by simpa [xM,hd] using hi
     subst hi;exact hp 5 (by omega)
    ·have k0 := hp 0 (by omega);have k1 := hp 1 (by omega);have k2 := hp 2 (by omega);have k3 := hp 3 (by omega);have k5 := hp 5 (by omega);have k6 := hp 6 (by omega);simp only [wq.1,Nat.reduceAdd,L8,hd];refine vm ?_;simp only [wq.1,seval,k2,t3];exact .inr ⟨1,n,rfl,Nat.le_refl _,by unfold uf;rw [← hn,List.length_append];rfl⟩
  ·simp only [show ((2 : Nat) = 1) = False from by simp,if_false];refine ag (vm ?_);simp only [wq.1,seval,t1,t3];refine qP ?_;simp only [wq.1,Nat.reduceAdd];refine oq (n := 21) (q := 149) (first := []) (captured := [.lp 3 0,.lp 4 0]) (by simp only [wq.1,↓reduceIte]) (by simp only [wq.1,↓reduceIte]) rfl (by decide) ?_;intro L hLd gets;refine ah.mono (pg hg (id := 6) (k1 := 3) (k2 := 4) (rr := 2) (n := n) (N := 7) (P := fun v X => ∃ t,t 3 = .lp 1 0 ∧ v.length = n ∧ X = [O.cells [vi g.ins,aH g.next,aH g.init,prs g.ands,aH g.outs],.cells [.ls 2 1 0 n n],.cells (v.map V.bool),O.cells [vi g.ins,aH g.next,aH g.init,prs g.ands,aH g.outs],.cells [.ls 2 1 0 n n],.misc .dfd,L t .ready none]) hnv ⟨?_,?_,?_,?_,?_⟩ (by omega) ?_ (v0 := List.replicate n false) ⟨_,?_,List.length_replicate,by rw [List.map_replicate];rfl⟩) ?_
   ·rintro v X ⟨t,ht,hl,rfl⟩;rfl
   ·rintro v X ⟨t,ht,hl,rfl⟩;rfl
   ·rintro v X ⟨t,ht,hl,rfl⟩;rfl
   ·rintro v X ⟨t,ht,hl,rfl⟩;rfl
   ·rintro v X ⟨t,ht,hl,rfl⟩;exact hl
   ·rintro v X Y lit ⟨t,ht,hl,rfl⟩ h0 h1;refine gets _ _ _ t rfl rfl (fun lb => ?_);refine vm ?_;simp only [wq.1,seval,vC];refine ⟨t,rfl,?_⟩;refine vm ?_;have hdv : lit.fdiv (2 ^ min 1 IntKind.i64.bits) = lit / 2 := by
     rw [show (2 : Int) ^ min 1 IntKind.i64.bits = 2 from rfl];exact Int.fdiv_eq_ediv_of_nonneg _ (by decide)
    have hlt : (lit / 2).toNat < v.length := by rw [hl];omega
    simp only [wq.1,seval,ht,tK,XE.jump,hdv,Nat.mul_one,Option.isNone_none];refine ⟨⟨by omega,by omega⟩,by omega,t,_,rfl,[_,_,_,_,_,_,_],rfl,t,ht,by rw [mi,hl],?_⟩;rw [show List.map V.bool (sJ v lit) = (v.map V.bool).take (lit / 2).toNat ++ [V.bool true] ++ (v.map V.bool).drop ((lit / 2).toNat + 1) by
     unfold sJ;rw [List.map_set,List.set_eq_take_append_cons_drop,if_pos (by simpa using hlt),List.append_assoc];rfl]
   ·simp only [wq.1,seval,t3]
   ·rintro ae h' p ⟨hp,⟨w,rfl⟩,X,Y,rfl,t,ht,hl,rfl⟩;refine ⟨?_,hp 6 (by omega),t,_,none,(by decide),rfl,?_⟩
    ·intro i hi;have hi : i = 5 := by simpa [xM,hd] using hi
     subst hi;exact hp 5 (by omega)
    ·have k0 := hp 0 (by omega);have k1 := hp 1 (by omega);have k2 := hp 2 (by omega);have k3 := hp 3 (by omega);have k5 := hp 5 (by omega);have k6 := hp 6 (by omega);simp only [wq.1,Nat.reduceAdd,L8,hd];refine vm ?_;simp only [wq.1,seval,k1,t3];exact .inr ⟨2,n,rfl,Nat.le_refl _,by unfold uf;rw [← hn,List.length_append];rfl⟩
def lw (f0 : Int) (u : Bool) (s : List Pr × Cl) (p : Pr) : List Pr × Cl :=
 if u then ((qf f0 s.1 (dR s.2 p.1) (dR s.2 p.2)).1,s.2 ++ [(qf f0 s.1 (dR s.2 p.1) (dR s.2 p.2)).2]) else (s.1,s.2 ++ [0])
def bH (g : Gr) (use : Nat → Bool) : Nat → List Pr × Cl
 | 0 => ([],lq g.first.toNat)
 | i + 1 => lw g.first (use i) (bH g use i) (g.ands.getD i (0,0))
def jk (g : Gr) (s : List Pr × Cl) : Gr := ⟨g.ins,g.next.map (dR s.2),g.init,s.1,g.outs.map (dR s.2)⟩
theorem YB {x k : Int} (h0 : 0 ≤ x) (h1 : x < 2 * k) : 0 ≤ FX x ∧ FX x < 2 * k := by unfold FX;split <;> omega
theorem iF {C : Cl} {k a : Int} (hk : 0 < k) (hC : ∀ x ∈ C,0 ≤ x ∧ x < 2 * k) : 0 ≤ dR C a ∧ dR C a < 2 * k := by
 have hg : 0 ≤ C.getD (a / 2).toNat 0 ∧ C.getD (a / 2).toNat 0 < 2 * k := by
  by_cases hi : (a / 2).toNat < C.length
  ·rw [aG hi];exact hC _ (List.getElem_mem hi)
  ·rw [List.getD_eq_getElem?_getD,List.getElem?_eq_none (by omega)];exact ⟨Int.le_refl _,by simp;omega⟩
 unfold dR;split
 ·exact YB hg.1 hg.2
 ·exact hg
theorem YC {f0 : Int} (hf : 0 < f0) {A : List Pr} {p q : Int} (hp : 0 ≤ p ∧ p < 2 * (f0 + A.length)) (hq : 0 ≤ q ∧ q < 2 * (f0 + A.length)) :
 A.length ≤ (qf f0 A p q).1.length ∧ (qf f0 A p q).1.length ≤ A.length + 1 ∧ 0 ≤ (qf f0 A p q).2 ∧ (qf f0 A p q).2 < 2 * (f0 + (qf f0 A p q).1.length) := by
 unfold qf;split
 ·exact ⟨Nat.le_refl _,Nat.le_succ _,Int.le_refl _,by simp only;omega⟩
 ·split
  ·exact ⟨Nat.le_refl _,Nat.le_succ _,by simp only;omega,by simp only;omega⟩
  ·split
   ·rename_i i hi;have hi : i < A.length := (List.findIdx?_eq_some_iff_getElem.1 hi).1;exact ⟨Nat.le_refl _,Nat.le_succ _,by simp only;omega,by simp only;omega⟩
   ·simp only [List.length_append,List.length_singleton];exact ⟨by omega,by omega,by omega,by omega⟩
theorem fC {g : Gr} (h : 0 ≤ g.ins) : 0 < g.first := by
 have : g.first = 1 + g.ins + g.next.length := rfl
 omega
theorem iG {g : Gr} (h : 0 ≤ g.ins) (use : Nat → Bool) : ∀ i,(bH g use i).1.length ≤ i ∧ (bH g use i).2.length = g.first.toNat + i ∧ ∀ x ∈ (bH g use i).2,0 ≤ x ∧ x < 2 * (g.first + (bH g use i).1.length)
 | 0 => by have := fC h;refine ⟨Nat.le_refl _,by simp [bH,lq],fun x hx => ?_⟩;simp only [bH,lq,List.mem_map,List.mem_range] at hx;obtain ⟨k,hk,rfl⟩ := hx;simp only [bH,List.length_nil];omega
 | i + 1 => by
  have hf := fC h;obtain ⟨h1,h2,h3⟩ := iG h use i;show (lw _ _ _ _).1.length ≤ _ ∧ (lw _ _ _ _).2.length = _ ∧ _;show _ ∧ _ ∧ ∀ x ∈ (lw _ _ _ _).2,0 ≤ x ∧ x < 2 * (g.first + (lw _ _ _ _).1.length);generalize bH g use i = s at h1 h2 h3 ⊢;generalize g.ands.getD i (0,0) = p;unfold lw;split
  ·obtain ⟨a1,a2,a3,a4⟩ := YC hf (iF (a := p.1) (by omega) h3) (iF (a := p.2) (by omega) h3);refine ⟨by simp only;omega,by simp only [List.length_append,List.length_singleton];omega,fun x hx => ?_⟩;simp only [List.mem_append,List.mem_singleton] at hx;rcases hx with hx | rfl
   ·have := h3 x hx;simp only;omega
   ·exact ⟨a3,a4⟩
  ·refine ⟨by simp only;omega,by simp only [List.length_append,List.length_singleton];omega,fun x hx => ?_⟩;simp only [List.mem_append,List.mem_singleton] at hx;rcases hx with hx | rfl
   ·exact h3 x hx
   ·exact ⟨Int.le_refl _,by simp only;omega⟩
theorem VF {f0 : Int} {A : List Pr} {p q : Int} (hp : 0 ≤ p ∧ p < 2 * (f0 + A.length)) (hq : 0 ≤ q ∧ q < 2 * (f0 + A.length))
 (hA : ∀ k (hk : k < A.length),0 ≤ A[k].1 ∧ 0 ≤ A[k].2 ∧ A[k].1 < 2 * (f0 + k) ∧ A[k].2 < 2 * (f0 + k)) :
 ∀ k (hk : k < (qf f0 A p q).1.length),0 ≤ (qf f0 A p q).1[k].1 ∧ 0 ≤ (qf f0 A p q).1[k].2 ∧ (qf f0 A p q).1[k].1 < 2 * (f0 + k) ∧ (qf f0 A p q).1[k].2 < 2 * (f0 + k) := by
 have : (qf f0 A p q).1 = A ∨ (qf f0 A p q).1 = A ++ [(max p q,min p q)] := by
  unfold qf;split
  ·exact .inl rfl
  ·split
   ·exact .inl rfl
   ·split
    ·exact .inl rfl
    ·exact .inr rfl
 generalize (qf f0 A p q).1 = B at this ⊢;rcases this with rfl | rfl
 ·exact hA
 ·intro k hk;by_cases hkl : k < A.length
  ·rw [List.getElem_append_left hkl];exact hA k hkl
  ·have : k = A.length := by simp at hk;omega
   subst this;rw [List.getElem_append_right (Nat.le_refl _)];simp only [Nat.sub_self,List.getElem_cons_zero];omega
theorem yI {g : Gr} (h : 0 ≤ g.ins) (use : Nat → Bool) : ∀ i k (hk : k < (bH g use i).1.length),0 ≤ (bH g use i).1[k].1 ∧ 0 ≤ (bH g use i).1[k].2 ∧ (bH g use i).1[k].1 < 2 * (g.first + k) ∧ (bH g use i).1[k].2 < 2 * (g.first + k)
 | 0 => fun k hk => by simp [bH] at hk
 | i + 1 => by
  have hf := fC h;obtain ⟨h1,h2,h3⟩ := iG h use i;have ih := yI h use i;show ∀ k (hk : k < (lw g.first (use i) (bH g use i) (g.ands.getD i (0,0))).1.length),0 ≤ (lw g.first (use i) (bH g use i) (g.ands.getD i (0,0))).1[k].1 ∧ 0 ≤ (lw g.first (use i) (bH g use i) (g.ands.getD i (0,0))).1[k].2 ∧ (lw g.first (use i) (bH g use i) (g.ands.getD i (0,0))).1[k].1 < 2 * (g.first + k) ∧ (lw g.first (use i) (bH g use i) (g.ands.getD i (0,0))).1[k].2 < 2 * (g.first + k);generalize bH g use i = s at h1 h2 h3 ih ⊢;generalize g.ands.getD i (0,0) = p;cases use i with
  | true => exact VF (iF (a := p.1) (by omega) h3) (iF (a := p.2) (by omega) h3) ih
  | false => exact ih
theorem eF {g : Gr} (hg : g.chk = 0) (use : Nat → Bool) : (jk g (bH g use g.ands.length)).chk = 0 := by
 obtain ⟨i,i0,i1,i2,i3,i4,i5⟩ := bf hg;obtain ⟨r1,r2,r3,r4⟩ := dB i4;have hf := fC i0;obtain ⟨h1,h2,h3⟩ := iG i0 use g.ands.length;have h4 := yI i0 use g.ands.length;generalize bH g use g.ands.length = s at h1 h2 h3 h4 ⊢;obtain ⟨A,C⟩ := s;dsimp only at h1 h2 h3 h4;have hc := fun a => iF (C := C) (a := a) (k := g.first + A.length) (by omega) h3;have fe : (jk g (A,C)).first = g.first := by simp [jk,Gr.first]
 have ae : (jk g (A,C)).all = 2 * (g.first + A.length) := by unfold Gr.all;rw [fe];rfl
 have l1 : (jk g (A,C)).lim = false := by show (decide (g.ins < 0) || decide (4000 < g.ins) || decide (4000 < g.ins + (g.next.map (dR C)).length + A.length) || decide (4000 < ((g.outs.map (dR C)).length : Int))) = false;simp only [List.length_map,Bool.or_eq_false_iff,decide_eq_false_iff_not];omega
 have l2 : (jk g (A,C)).oddR = false := by
  simp only [Gr.oddR,ae,Bool.or_eq_false_iff,bne_eq_false_iff_eq,List.any_eq_false,Vg,Za,Bool.not_eq_true,decide_eq_false_iff_not];simp only [jk,List.length_map,List.mem_map];refine ⟨⟨⟨r1,fun a ha => ?_⟩,?_⟩,?_⟩
  ·have := r2 a ha;omega
  ·rintro a ⟨b,hb,rfl⟩;have := hc b;omega
  ·rintro a ⟨b,hb,rfl⟩;have := hc b;omega
 have l3 : (jk g (A,C)).oddAs (jk g (A,C)).ands.length = false := by
  unfold Gr.oddAs;rw [List.any_eq_false];intro k hk;have hk : k < A.length := by simpa [jk] using hk
  rw [fe];show ¬ za2 (2 * (g.first + k)) (A.getD k (0,0)) = true;rw [aG hk];have := h4 k hk;simp only [za2,Bool.or_eq_true,decide_eq_true_eq];omega
 unfold Gr.chk;rw [l1,l2,l3];rfl
def fZ (g : Gr) : Gr :=
 let x := jk g (bH g (fun _ => true) g.ands.length)
 jk x (bH x (fun i => (uf x).getD (x.first + (i : Int)).toNat false) x.ands.length)
def Qc : Plan := .take 0 <| .take 1 <| .take 2 <| .take 5 <| .take 6 <| .alt 3 (.alt 4 (.one 7 <| .one 8 <| .one 9 <| .take 10 <| .fin) (.one 7 (.one 4 <| .one 8 <| .one 9 <| .take 10 <| .fin))) (.one 7 (.one 3 <| .one 4 <| .one 8 <| .one 9 <| .take 10 <| .fin))
def Xu : Plan := .take 0 <| .take 1 <| .take 2 <| .take 3 <| .take 5 <| .take 6 <| .take 7 <| .take 10 <| .take 11 <| .alt 4 (.alt 8 (.alt 9 (.one 12 <| .one 13 <| .one 14 <| .one 15 <| .one 16 <| .take 17 <| .take 18 <| .one 19 <| .fin) (.one 12 (.one 9 <| .one 13 <| .one 14 <| .one 15 <| .one 16 <| .take 17 <| .take 18 <| .one 19 <| .fin))) (.one 12 (.one 8 <| .one 9 <| .one 13 <| .one 14 <| .one 15 <| .one 16 <| .take 17 <| .take 18 <| .one 19 <| .fin))) (.alt 8 (.alt 4 (.alt 9 (.one 12 <| .one 13 <| .one 14 <| .one 15 <| .one 16 <| .take 17 <| .take 18 <| .one 19 <| .fin) (.one 12 (.one 9 <| .one 13 <| .one 14 <| .one 15 <| .one 16 <| .take 17 <| .take 18 <| .one 19 <| .fin))) (.alt 9 (.alt 4 (.one 12 <| .one 13 <| .one 14 <| .one 15 <| .one 16 <| .take 17 <| .take 18 <| .one 19 <| .fin) (.one 12 (.alt 4 (.one 13 <| .one 14 <| .one 15 <| .one 16 <| .take 17 <| .take 18 <| .one 19 <| .fin) (.one 13 (.alt 4 (.one 14 <| .one 15 <| .one 16 <| .take 17 <| .take 18 <| .one 19 <| .fin) (.one 14 (.alt 4 (.one 15 <| .one 16 <| .take 17 <| .take 18 <| .one 19 <| .fin) (.one 15 (.one 4 <| .one 16 <| .take 17 <| .take 18 <| .one 19 <| .fin))))))))) (.one 12 (.alt 4 (.one 9 <| .one 13 <| .one 14 <| .one 15 <| .one 16 <| .take 17 <| .take 18 <| .one 19 <| .fin) (.one 9 (.alt 4 (.one 13 <| .one 14 <| .one 15 <| .one 16 <| .take 17 <| .take 18 <| .one 19 <| .fin) (.one 13 (.alt 4 (.one 14 <| .one 15 <| .one 16 <| .take 17 <| .take 18 <| .one 19 <| .fin) (.one 14 (.alt 4 (.one 15 <| .one 16 <| .take 17 <| .take 18 <| .one 19 <| .fin) (.one 15 (.one 4 <| .one 16 <| .take 17 <| .take 18 <| .one 19 <| .fin)))))))))))) (.one 12 (.alt 4 (.one 8 <| .one 9 <| .one 13 <| .one 14 <| .one 15 <| .one 16 <| .take 17 <| .take 18 <| .one 19 <| .fin) (.one 8 (.alt 4 (.one 9 <| .one 13 <| .one 14 <| .one 15 <| .one 16 <| .take 17 <| .take 18 <| .one 19 <| .fin) (.one 9 (.alt 4 (.one 13 <| .one 14 <| .one 15 <| .one 16 <| .take 17 <| .take 18 <| .one 19 <| .fin) (.one 13 (.alt 4 (.one 14 <| .one 15 <| .one 16 <| .take 17 <| .take 18 <| .one 19 <| .fin) (.one 14 (.alt 4 (.one 15 <| .one 16 <| .take 17 <| .take 18 <| .one 19 <| .fin) (.one 15 (.one 4 <| .one 16 <| .take 17 <| .take 18 <| .one 19 <| .fin)))))))))))))
abbrev hN (g : Gr) (A : List Pr) (C : Cl) : H := [.cells [vi g.ins,aH g.next,aH g.init,prs g.ands,aH g.outs],.cells [vi 0,.nils,.nils,.nils,.nils],.cells [vi g.ins,aH g.next,aH g.init,prs g.ands,aH g.outs],.cells (g.init.map vi),.cells [vi g.ins,aH g.next,.ls 3 1 0 g.init.length g.init.length,.nils,.nils],.map (A.map prV) (G6 g.first A.length),bo g.ins g.next 3 g.init.length 7 A.length .nils 5 8 C.length,.cells (fl A),.cells (C.map vi)]
def InN (g : Gr) (s : List Pr × Cl) (h : H) : Prop := ∃ X,h = hN g s.1 s.2 ++ X
theorem iH {p : Nat → Bool} : ∀ {A : List Pr},V.drops p (fl A) = fl A
 | [] => rfl
 | a :: A => by show V.drops p (vi a.1 :: vi a.2 :: fl A) = _;simp only [V.drops,V.drop,iH (A := A)];rfl
theorem jM {p : Nat → Bool} : ∀ {A : List Pr},V.drops p (A.map prV) = A.map prV
 | [] => rfl
 | a :: A => by rw [List.map_cons,V.drops,jM (A := A)];rfl
theorem jy {p : Nat → Bool} {f : Int} {n : Nat} : V.drops p (G6 f n) = G6 f n := by
 unfold G6;generalize List.range n = l
 induction l with
 | nil => rfl
 | cons a l ih => rw [List.map_cons,V.drops,ih];rfl
theorem wz {g : Gr} {A : List Pr} {C : Cl} : dO (hN g A C) := fun p hp => by have h3 := hp 3 (show 3 < 9 by decide);have h5 := hp 5 (show 5 < 9 by decide);have h7 := hp 7 (show 7 < 9 by decide);have h8 := hp 8 (show 8 < 9 by decide);have d1 : V.drops p (g.init.map vi) = g.init.map vi := aP _;have d2 : V.drops p (C.map vi) = C.map vi := aP _;simp only [wq.1,↓reduceIte,hN,bo,O.drop,V.drops,V.drop,h3,h5,h7,h8,d1,d2,iH,jM,jy]
theorem zaj {g : Gr} {A : List Pr} {C : Cl} {x y : Int} : ∀ (j : Nat) (o : O),(hN g A C ++ [.cells [vi x,vi y]])[j]? = some o → j ≠ 6 → o.drop (· == 7) = o := by
 intro j o ho hne;have d1 : V.drops (· == 7) (g.init.map vi) = g.init.map vi := aP _;have d2 : V.drops (· == 7) (C.map vi) = C.map vi := aP _;rcases j with _|_|_|_|_|_|_|_|_|_|j
 all_goals first
  | exact absurd rfl hne
  | (obtain rfl := Option.some.inj ho;simp only [wq.1,seval,O.drop,V.drops,V.drop,d1,d2,iH,jM,jy])
  | (simp at ho)
abbrev hQ (g x : Gr) (L : List Bool) (A : List Pr) (C : Cl) : H := [.cells [vi g.ins,aH g.next,aH g.init,prs g.ands,aH g.outs],.cells [vi 0,.nils,.nils,.nils,.nils],.dead,.dead,.dead,.dead,.dead,.dead,.dead,.dead,.dead,.dead,.dead,.cells [vi x.ins,aH x.next,aH x.init,prs x.ands,aH x.outs],.cells (L.map V.bool),.cells [vi x.ins,aH x.next,aH x.init,prs x.ands,aH x.outs],.cells (x.init.map vi),.cells [vi x.ins,aH x.next,.ls 16 1 0 x.init.length x.init.length,.nils,.nils],.map (A.map prV) (G6 x.first A.length),bo x.ins x.next 16 x.init.length 20 A.length .nils 18 21 C.length,.cells (fl A),.cells (C.map vi)]
def InM (g x : Gr) (L : List Bool) (s : List Pr × Cl) (h : H) : Prop := ∃ X,h = hQ g x L s.1 s.2 ++ X
theorem oK {p : Nat → Bool} : ∀ {L : List Bool},V.drops p (L.map V.bool) = L.map V.bool
 | [] => rfl
 | a :: A => by rw [List.map_cons,V.drops,oK (L := A)];rfl
theorem wE {g x : Gr} {L : List Bool} {A : List Pr} {C : Cl} : dO (hQ g x L A C) := fun p hp => by have h3 := hp 16 (show 16 < 22 by decide);have h5 := hp 18 (show 18 < 22 by decide);have h7 := hp 20 (show 20 < 22 by decide);have h8 := hp 21 (show 21 < 22 by decide);have d1 : V.drops p (x.init.map vi) = x.init.map vi := aP _;have d2 : V.drops p (C.map vi) = C.map vi := aP _;simp only [wq.1,↓reduceIte,hQ,bo,O.drop,V.drops,V.drop,h3,h5,h7,h8,d1,d2,iH,jM,jy,oK]
theorem zak {g x : Gr} {L : List Bool} {A : List Pr} {C : Cl} {u v : Int} : ∀ (j : Nat) (o : O),(hQ g x L A C ++ [.cells [vi u,vi v]])[j]? = some o → j ≠ 19 → o.drop (· == 20) = o := by
 intro j o ho hne;have d1 : V.drops (· == 20) (x.init.map vi) = x.init.map vi := aP _;have d2 : V.drops (· == 20) (C.map vi) = C.map vi := aP _;rcases j with _|_|_|_|_|_|_|_|_|_|_|_|_|_|_|_|_|_|_|_|_|_|_|j
 all_goals first
  | exact absurd rfl hne
  | (obtain rfl := Option.some.inj ho;simp only [wq.1,seval,O.drop,V.drops,V.drop,d1,d2,iH,jM,jy,oK])
  | (simp at ho)
theorem Ed {g : Gr} (hg : g.chk = 0) : Ev TE 40 [g.v] (.tup [(fZ g).v,vi 0]) := by
 have hM : maxLen = 9223372036854775807 := rfl;obtain ⟨_,i0,i1,i2,i3,i4,i5⟩ := bf hg;obtain ⟨r1,r2,r3,r4⟩ := dB i4;have wf : g.first = 1 + g.ins + g.next.length := rfl
 have hck := oG g ⟨by omega,by omega⟩;rw [hg] at hck;obtain ⟨y,hy⟩ : ∃ y,y = fZ g := ⟨_,rfl⟩;rw [← hy];unfold Gr.v at hck;rw [show g.v = .agg [vi g.ins,aH g.next,aH g.init,prs g.ands,aH g.outs] from rfl];refine aA Tryz.func40 rfl (by simp [nts]) ?_;refine ag (vm ?_);simp only [wq.1,Nat.reduceLT,Tryz.results40];refine ag (vm ?_);simp only [wq.1,seval];refine ah.ev hck (by simp only [V.dats,V.dat,Bool.and_self]) ?_;simp only [wq.1,seval];refine ag (vm ?_);simp only [wq.1,seval];refine ww (h := [.cells [vi g.ins,aH g.next,aH g.init,prs g.ands,aH g.outs],.cells [vi 0,.nils,.nils,.nils,.nils]]) (fun p hp => by simp only [wq.1,O.drop,V.drops,V.drop]) hg ?_;simp only [wq.1,seval];obtain ⟨s1,hs1⟩ : ∃ s1,s1 = bH g (fun _ => true) g.ands.length := ⟨_,rfl⟩;refine ag (bG (Q := fun xe f h => xe = .normal ∧ f.t 1 = .lp 0 0 ∧ f.t 2 = .lp 1 0 ∧ f.t 5 = .lp 6 0 ∧ f.d = [] ∧ InN g s1 h) ?_ ?_)
 ·rintro xe f h ⟨rfl,t1,t2,t5,hd,X,rfl⟩;show awp _ _ _ _ _ _ _;obtain ⟨q1,q2,q3⟩ := iG (g := g) i0 (fun _ => true) g.ands.length;have hxc := eF hg (fun _ => true);rw [← hs1] at q1 q2 q3 hxc;have hym : y = jk (jk g s1) (bH (jk g s1) (fun i => (uf (jk g s1)).getD ((jk g s1).first + (i : Int)).toNat false) (jk g s1).ands.length) := by rw [hy,hs1];rfl
  clear hs1 hy;obtain ⟨A,C⟩ := s1;dsimp only at q1 q2 q3 ⊢;refine eU (by rw [hd];simp) ?_;rw [wz.from_];obtain ⟨f',hf'⟩ : ∃ f',f' = f.drop (Abs.bC (hN g A C).length) := ⟨_,rfl⟩;have u1 : f'.t 1 = .lp 0 0 := by rw [hf'];show (f.t 1).drop _ = _;rw [t1];rfl
  have u2 : f'.t 2 = .lp 1 0 := by rw [hf'];show (f.t 2).drop _ = _;rw [t2];rfl
  have u5 : f'.t 5 = .lp 6 0 := by rw [hf'];show (f.t 5).drop _ = _;rw [t5];rfl
  have ud : f'.d = [] := by rw [hf'];exact hd
  rw [← hf'];clear hf' t1 t2 t5 hd;have hCb : ∀ x ∈ C,0 ≤ x ∧ x ≤ 1000000 := fun x hx => by have := q3 x hx;omega
  have wa : g.all = 2 * (g.first + g.ands.length) := rfl;have hcl := wz (g := g) (A := A) (C := C);refine ag (vm ?_);simp only [wq.1,seval,u1,u5];refine Ec (x := g) (b := 6) (c := 8) (J := 3) (a := 7) (m := 5) (n1 := g.ins) (nx := g.next) (outs := .nils) (k := g.init.length) (la := A.length) (C := C) hcl (by omega) (by omega) (fun a ha => by have := r3 a ha;omega) (fun a ha => by have := r4 a ha;omega) hCb (by rfl) (by rfl) (fun X Y => ?_);simp only [wq.1,seval];obtain ⟨x,hx⟩ : ∃ x,x = jk g (A,C) := ⟨_,rfl⟩;rw [← hx] at hxc hym;obtain ⟨p,hp⟩ : ∃ p : Nat → Bool,p = fun i => decide (2 ≤ i) && decide (i ≤ 12) := ⟨_,rfl⟩;refine qG p [.cells [vi g.ins,aH g.next,aH g.init,prs g.ands,aH g.outs],.cells [vi 0,.nils,.nils,.nils,.nils],.dead,.dead,.dead,.dead,.dead,.dead,.dead,.dead,.dead,.dead,.dead,.cells [vi x.ins,aH x.next,aH x.init,prs x.ands,aH x.outs]] ?_ ?_ (fun i hi => by simp [xM,ud] at hi) ?_
  ·intro i hi;rcases i with _|_|i
   ·exact .inl (by rw [hp];rfl)
   ·exact .inl (by rw [hp];rfl)
   ·by_cases h11 : i = 11
    ·subst h11;refine .inr ⟨_,_,rfl,rfl,?_⟩;rw [hx];refine ⟨.inl rfl,.inr ⟨?_,dh ?_ ?_⟩,.inr ⟨?_,dh ?_ ?_⟩,.inr ⟨?_,qO ?_ ?_⟩,.inr ⟨?_,dh ?_ ?_⟩,trivial⟩
     ·rw [hp];rfl
     ·rw [hp];show some (O.cells (V.drops _ _)) = _;rw [aP];rfl
     ·simp [jk]
     ·rw [hp];rfl
     ·rw [hp];show some (O.cells (V.drops _ _)) = _;rw [aP];rfl
     ·rfl
     ·rw [hp];rfl
     ·rw [hp];show some (O.cells (V.drops _ _)) = _;rw [iH];rfl
     ·rfl
     ·rw [hp];rfl
     ·rw [hp];show some (O.cells (V.drops _ _)) = _;rw [aP];rfl
     ·simp [jk]
    ·by_cases hb : i < 11
     ·rw [hp] at hi;simp only [Bool.and_eq_false_iff,decide_eq_false_iff_not] at hi;omega
     ·obtain ⟨j,rfl⟩ : ∃ j,i = 12 + j := ⟨i - 12,by omega⟩;exact .inl (by rw [List.getElem?_eq_none (by simp),List.getElem?_eq_none (by simp)];rfl)
  ·intro i o hi ho;rw [hp] at hi;simp only [Bool.and_eq_true,decide_eq_true_eq] at hi;rcases i with _|_|_|_|_|_|_|_|_|_|_|_|_|i
   all_goals first
    | omega
    | exact (Option.some.inj ho).symm
  ·refine Yd (fun f' => f'.t 1 = .lp 0 0 ∧ f'.t 2 = .lp 1 0 ∧ f'.t 8 = .lp 13 0 ∧ f'.d = []) [.cells [vi g.ins,aH g.next,aH g.init,prs g.ands,aH g.outs],.cells [vi 0,.nils,.nils,.nils,.nils],.dead,.dead,.dead,.dead,.dead,.dead,.dead,.dead,.dead,.dead,.dead,.cells [vi x.ins,aH x.next,aH x.init,prs x.ands,aH x.outs]] (fun hk => hk _ ⟨?_,?_,?_,?_⟩) ?_
   ·simp only [wq.1,seval,u1,hp]
   ·simp only [wq.1,seval,u2,hp]
   ·simp only [wq.1,seval,hp]
   ·simp only [wq.1,ud]
   ·clear hcl hCb q1 q2 q3 u1 u2 u5 ud hx hp;clear p f' X Y f;rintro f ⟨t1,t2,t8,hd⟩;have hld := Qb hxc;obtain ⟨_,j0,j1,j2,j3,j4,j5⟩ := bf hxc;obtain ⟨v1,v2,v3,v4⟩ := dB j4;have xf : x.first = 1 + x.ins + x.next.length := rfl
    obtain ⟨L,hL⟩ : ∃ L,L = uf x := ⟨_,rfl⟩;have hLl : L.length = x.vars := by rw [hL];exact Bz
    obtain ⟨n,hn⟩ : ∃ n,n = x.vars := ⟨_,rfl⟩;have hnv : (n : Int) = x.first + x.ands.length := by rw [hn];unfold Gr.vars;omega
    rw [← hL] at hld hym;rw [← hn] at hld hLl;unfold Gr.v at hld;have dbl : V.dats (L.map V.bool) = true := Pq _;have dbo : ∀ p,V.drops p (L.map V.bool) = L.map V.bool := fun p => oK;refine ag (vm ?_);simp only [wq.1,seval,t8];refine oC hld (by simp only [V.dats,V.dat,Bool.and_self]) dbl ?_;simp only [wq.1,seval];refine ag (vm ?_);simp only [wq.1,seval,t8];refine ww (h := [.cells [vi g.ins,aH g.next,aH g.init,prs g.ands,aH g.outs],.cells [vi 0,.nils,.nils,.nils,.nils],.dead,.dead,.dead,.dead,.dead,.dead,.dead,.dead,.dead,.dead,.dead,.cells [vi x.ins,aH x.next,aH x.init,prs x.ands,aH x.outs],.cells (L.map V.bool)]) (fun p hp => by simp only [wq.1,O.drop,V.drops,V.drop,dbo]) hxc ?_;simp only [wq.1,seval];obtain ⟨use,hu⟩ : ∃ use,use = fun i : Nat => L.getD (x.first + (i : Int)).toNat false := ⟨_,rfl⟩;rw [← hu] at hym;obtain ⟨s1,hs1⟩ : ∃ s1,s1 = bH x use x.ands.length := ⟨_,rfl⟩;rw [← hs1] at hym;refine ag (bG (Q := fun xe f h => xe = .normal ∧ f.t 2 = .lp 1 0 ∧ f.t 8 = .lp 13 0 ∧ f.t 10 = .lp 19 0 ∧ f.d = [] ∧ InM g x L s1 h) ?_ ?_)
    ·rintro xe f h ⟨rfl,t2,t8,t10,hd,X,rfl⟩;show awp _ _ _ _ _ _ _;obtain ⟨q1,q2,q3⟩ := iG (g := x) j0 use x.ands.length;rw [← hs1] at q1 q2 q3;clear hs1;obtain ⟨A,C⟩ := s1;dsimp only at q1 q2 q3 ⊢;refine eU (by rw [hd];simp) ?_;rw [wE.from_];obtain ⟨f',hf'⟩ : ∃ f',f' = f.drop (Abs.bC (hQ g x L A C).length) := ⟨_,rfl⟩;have u2 : f'.t 2 = .lp 1 0 := by rw [hf'];show (f.t 2).drop _ = _;rw [t2];rfl
     have u8 : f'.t 8 = .lp 13 0 := by rw [hf'];show (f.t 8).drop _ = _;rw [t8];rfl
     have u10 : f'.t 10 = .lp 19 0 := by rw [hf'];show (f.t 10).drop _ = _;rw [t10];rfl
     have ud : f'.d = [] := by rw [hf'];exact hd
     rw [← hf'];clear hf' t2 t8 t10 hd;have hCb : ∀ x ∈ C,0 ≤ x ∧ x ≤ 1000000 := fun x hx => by have := q3 x hx;omega
     have wa : x.all = 2 * (x.first + x.ands.length) := rfl;have hcl := wE (g := g) (x := x) (L := L) (A := A) (C := C);refine ag (vm ?_);simp only [wq.1,seval,u8,u10];refine Ec (x := x) (b := 19) (c := 21) (J := 16) (a := 20) (m := 18) (n1 := x.ins) (nx := x.next) (outs := .nils) (k := x.init.length) (la := A.length) (C := C) hcl (by omega) (by omega) (fun a ha => by have := v3 a ha;omega) (fun a ha => by have := v4 a ha;omega) hCb (by rfl) (by rfl) (fun X Y => ?_);simp only [wq.1,seval,u2];refine vm ?_;simp only [wq.1,seval,u2,ud];rw [hym];show aC TE _ _ (V.tup [.agg [vi x.ins,aH (x.next.map (dR C)),aH x.init,prs A,aH (x.outs.map (dR C))],vi 0]);exact aC.tup (aB.cons (aC.agg (aB.cons (aC.dat rfl) (aB.cons (dh rfl (by simp)) (aB.cons (dh rfl rfl) (aB.cons (qO rfl rfl) (aB.cons (dh rfl (by simp)) aB.nil)))))) (aB.dat rfl))
    ·refine ag (vm ?_);simp only [wq.1,seval,t8];refine az ?_;refine aF (fun m f h => ∃ i,m + i = x.ands.length ∧ f.t 2 = .lp 1 0 ∧ f.t 8 = .lp 13 0 ∧ f.t 9 = .ls 14 1 0 n n ∧ f.t 10 = .lp 19 0 ∧ f.t 57 = prs x.ands ∧ f.t 58 = vi x.ands.length ∧ f.t 59 = vi i ∧ f.d = [] ∧ InM g x L (bH x use i) h) x.ands.length ⟨0,by omega,by simp only [wq.1,seval,t2],by simp only [wq.1,seval,t8],by simp only [wq.1,seval],by simp only [wq.1,seval],by simp only [wq.1,seval],by simp only [wq.1,seval],by simp only [wq.1,↓reduceIte];rfl,by simp only [wq.1,hd],[],?_⟩ ?_
     ·rw [List.append_nil];show _ = hQ g x L [] (lq x.first.toNat);unfold hQ bo;rw [nP];rfl
     ·rintro m f h ⟨i,hm,t2,t8,t9,t10,t57,t58,t59,hd,X,rfl⟩;obtain ⟨q1,q2,q3⟩ := iG (g := x) j0 use i;obtain ⟨A,C,hAC⟩ : ∃ A C,bH x use i = (A,C) := ⟨_,_,rfl⟩;have hst : bH x use (i + 1) = lw x.first (use i) (bH x use i) (x.ands.getD i (0,0)) := rfl
      rw [hAC] at q1 q2 q3 hst ⊢;dsimp only at q1 q2 q3 ⊢;refine eU (by rw [hd];simp) ?_;rw [wE.from_];obtain ⟨f',hf'⟩ : ∃ f',f' = f.drop (Abs.bC (hQ g x L A C).length) := ⟨_,rfl⟩;have u2 : f'.t 2 = .lp 1 0 := by rw [hf'];show (f.t 2).drop _ = _;rw [t2];rfl
      have u8 : f'.t 8 = .lp 13 0 := by rw [hf'];show (f.t 8).drop _ = _;rw [t8];rfl
      have u9 : f'.t 9 = .ls 14 1 0 n n := by rw [hf'];show (f.t 9).drop _ = _;rw [t9];rfl
      have u10 : f'.t 10 = .lp 19 0 := by rw [hf'];show (f.t 10).drop _ = _;rw [t10];rfl
      have u57 : f'.t 57 = prs x.ands := by rw [hf'];show (f.t 57).drop _ = _;rw [t57];rfl
      have u58 : f'.t 58 = vi x.ands.length := by rw [hf'];show (f.t 58).drop _ = _;rw [t58];rfl
      have u59 : f'.t 59 = vi i := by rw [hf'];show (f.t 59).drop _ = _;rw [t59];rfl
      have ud : f'.d = [] := by rw [hf'];exact hd
      rw [← hf'];clear hf' t2 t8 t9 t10 t57 t58 t59 hd;refine ag (vm ?_);simp only [wq.1,Nat.reduceLT,u58,u59];refine ag (bQ (b := decide ((i : Int) < x.ands.length)) (by simp only [wq.1,↓reduceIte]) (by simp only [wq.1,↓reduceIte]) (fun hlt => ?_) (fun hlt => ?_))
      ·simp only [decide_eq_true_eq,Int.ofNat_lt] at hlt;refine vm ?_;simp only [wq.1];have hgp := nR hlt V.any;have hfst := kw x (by omega) (by omega) (by omega);have wn : IntKind.i64.wrap (x.first + (i : Int)) = x.first + i := jY (by omega) (by omega)
       have hvn : (x.first + (i : Int)).toNat < L.length := by rw [hLl];omega
       have hgd : (L.map V.bool).getD ((x.first + (i : Int)).toNat * 1) V.any = V.bool (use i) := by rw [hu,Nat.mul_one,List.getD_eq_getElem?_getD,List.getElem?_map,List.getElem?_eq_getElem hvn];show V.bool _ = V.bool (L.getD _ false);rw [aG hvn]
       have x1 : 0 ≤ x.first + (i : Int) := by omega
       have x2 : x.first + (i : Int) < n := by omega
       have x3 : (x.first + (i : Int)).toNat * 1 + 1 ≤ L.length := by omega
       obtain ⟨o1,o2,o3,o4⟩ := dY j5 hlt;have hCb : ∀ x ∈ C,0 ≤ x ∧ x ≤ 1000000 := fun x hx => by have := q3 x hx;omega
       have hAi : A.length ≤ i := q1;unfold Gr.v at hfst;refine ag (az ?_);refine ag (vm ?_);simp only [wq.1,seval,u57,u59,hgp];refine ⟨⟨by omega,by omega⟩,?_⟩;refine ag (vm ?_);simp only [wq.1,Nat.reduceLT];refine ag ?_;refine ag (vm ?_);simp only [wq.1,seval,u8,u9];refine ah.ev hfst (by simp only [V.dats,V.dat,Bool.and_self]) ?_;simp only [wq.1,↓reduceIte,Nat.reduceEqDiff,Nat.reduceLT,wn,x1,x2,x3,hgd];obtain ⟨w1,hw1⟩ : ∃ w1,w1 = dR C x.ands[i].1 := ⟨_,rfl⟩;obtain ⟨w2,hw2⟩ : ∃ w2,w2 = dR C x.ands[i].2 := ⟨_,rfl⟩;have b1 := iF (a := x.ands[i].1) (k := x.first + A.length) (by omega) q3;have b2 := iF (a := x.ands[i].2) (k := x.first + A.length) (by omega) q3;rw [← hw1] at b1;rw [← hw2] at b2;obtain ⟨r,hr⟩ : ∃ r,r = if use i then qf x.first A w1 w2 else (A,0) := ⟨_,rfl⟩
       have hst2 : bH x use (i + 1) = (r.1,C ++ [r.2]) := by
        rw [hst,aG hlt,hr];unfold lw;cases use i with
        | true => rw [if_pos rfl,if_pos rfl,hw1,hw2]
        | false => rw [if_neg (by decide),if_neg (by decide)]
       refine bG (Q := fun xe f h => xe = .normal ∧ f.t 2 = .lp 1 0 ∧ f.t 8 = .lp 13 0 ∧ f.t 9 = .ls 14 1 0 n n ∧ f.t 10 = .lp 19 0 ∧ f.t 57 = prs x.ands ∧ f.t 58 = vi x.ands.length ∧ f.t 59 = vi i ∧ f.t 13 = vi r.2 ∧ f.d = [] ∧ ∃ X,h = hQ g x L r.1 C ++ X) ?_ ?_
       ·rintro xe f h ⟨rfl,t2,t8,t9,t10,t57,t58,t59,t13,hd,X,rfl⟩;have hw := ax (show i < maxLen by omega);have d1 : V.drops (fun x => x == 21) (x.init.map vi) = x.init.map vi := aP _;have d2 : V.drops (fun x => x == 21) (C.map vi) = C.map vi := aP _;show awp _ _ _ _ _ _ _;refine vm ?_;simp only [wq.1,↓reduceIte,Nat.reduceEqDiff,Nat.reduceLT,Nat.reduceAdd,Nat.reduceBEq,reduceCtorEq,Nat.reduceMul,t10,t13,hd,bo,iH,jM,jy,oK,d1,d2];refine ⟨⟨rfl,by decide⟩,⟨by omega,by omega,by omega⟩,?_⟩;refine vm ?_;simp only [wq.1,seval,t59,hw];refine .inl ⟨m - 1,by omega,i + 1,by omega,by simp only [wq.1,seval,t2],by simp only [wq.1,seval,t8],by simp only [wq.1,seval,t9],by simp only [wq.1,seval,t10],by simp only [wq.1,seval,t57],by simp only [wq.1,seval,t58],by simp only [wq.1,↓reduceIte],by simp only [wq.1,hd],List.map (O.drop fun x => x == 21) X,?_⟩;rw [hst2];show _ = hQ g x L r.1 (C ++ [r.2]) ++ _;unfold hQ bo;rw [List.length_append,List.map_append];rfl
       ·refine bQ (b := use i) (by simp only [wq.1,↓reduceIte]) (by simp only [wq.1,↓reduceIte]) (fun hb => ?_) (fun hb => ?_)
        ·rw [hb,if_pos rfl] at hr;refine bu mixed Qc (fun f h => f.t 2 = .lp 1 0 ∧ f.t 8 = .lp 13 0 ∧ f.t 9 = .ls 14 1 0 n n ∧ f.t 10 = .lp 19 0 ∧ f.t 57 = prs x.ands ∧ f.t 58 = vi x.ands.length ∧ f.t 59 = vi i ∧ f.t 13 = vi r.2 ∧ f.d = [] ∧ ∃ X,h = hQ g x L r.1 C ++ X) (by decide +kernel) (by decide +kernel) ?_ (fun f h hr => ⟨rfl,hr⟩);simp only [wq.1,seval,Qc,u10,bo]
         repeat' apply And.intro
         all_goals first
          | decide
          | skip
         all_goals
          refine lu (c := 21) o1 (by omega) (by omega) hCb (by rfl) (by rfl) ?_;simp only [wq.1,seval,← hw1]
          repeat' apply And.intro
         all_goals first
          | decide
          | skip
         all_goals
          refine lu (c := 21) o2 (by omega) (by omega) hCb (by rfl) (by rfl) ?_;simp only [wq.1,seval,← hw2]
          repeat' apply And.intro
         all_goals
          refine Ea (b := 19) (a := 20) (J := 16) (m := 18) (c := 21) (lc := C.length) (ini := x.init) (nx := x.next) (n1 := x.ins) (f0 := x.first) (A := A) xf j0 (by omega) (by omega) (by omega) (by omega) b1.1 (by omega) b2.1 (by omega) (by rfl) (by rfl) (by rfl) (by rfl) zak (by decide) (by decide) (by decide) (fun X => ?_);rw [← hr];simp only [wq.1,seval,bg,u2,u8,u9,u10,u57,u58,u59,ud];exact ⟨_,rfl⟩
        ·rw [hb,if_neg (by decide)] at hr;subst hr;refine vm ?_;simp only [wq.1,seval,u2,u8,u9,u10,u57,u58,u59,ud];exact ⟨_,rfl⟩
      ·simp only [decide_eq_false_iff_not,Int.ofNat_lt] at hlt;have hi : i = x.ands.length := by omega
       subst hi;refine vm ?_;simp only [wq.1,seval,u2,u8,u10,ud];rw [hs1,hAC];exact ⟨[],(List.append_nil _).symm⟩
 ·refine ag (vm ?_);simp only [wq.1,seval];refine az ?_;refine aF (fun m f h => ∃ i,m + i = g.ands.length ∧ f.t 1 = .lp 0 0 ∧ f.t 2 = .lp 1 0 ∧ f.t 5 = .lp 6 0 ∧ f.t 23 = prs g.ands ∧ f.t 24 = vi g.ands.length ∧ f.t 25 = vi i ∧ f.d = [] ∧ InN g (bH g (fun _ => true) i) h) g.ands.length ⟨0,by omega,by simp only [wq.1,seval],by simp only [wq.1,seval],by simp only [wq.1,seval],by simp only [wq.1,seval],by simp only [wq.1,seval],by simp only [wq.1,↓reduceIte];rfl,by simp only [wq.1],[],?_⟩ ?_
  ·rw [List.append_nil];show _ = hN g [] (lq g.first.toNat);unfold hN bo;rw [nP];rfl
  ·rintro m f h ⟨i,hm,t1,t2,t5,t23,t24,t25,hd,X,rfl⟩;obtain ⟨q1,q2,q3⟩ := iG (g := g) i0 (fun _ => true) i;obtain ⟨A,C,hAC⟩ : ∃ A C,bH g (fun _ => true) i = (A,C) := ⟨_,_,rfl⟩;have hst : bH g (fun _ => true) (i + 1) = lw g.first true (bH g (fun _ => true) i) (g.ands.getD i (0,0)) := rfl
   rw [hAC] at q1 q2 q3 hst ⊢;dsimp only at q1 q2 q3 ⊢;refine eU (by rw [hd];simp) ?_;rw [wz.from_];obtain ⟨f',hf'⟩ : ∃ f',f' = f.drop (Abs.bC (hN g A C).length) := ⟨_,rfl⟩;have u1 : f'.t 1 = .lp 0 0 := by rw [hf'];show (f.t 1).drop _ = _;rw [t1];rfl
   have u2 : f'.t 2 = .lp 1 0 := by rw [hf'];show (f.t 2).drop _ = _;rw [t2];rfl
   have u5 : f'.t 5 = .lp 6 0 := by rw [hf'];show (f.t 5).drop _ = _;rw [t5];rfl
   have u23 : f'.t 23 = prs g.ands := by rw [hf'];show (f.t 23).drop _ = _;rw [t23];rfl
   have u24 : f'.t 24 = vi g.ands.length := by rw [hf'];show (f.t 24).drop _ = _;rw [t24];rfl
   have u25 : f'.t 25 = vi i := by rw [hf'];show (f.t 25).drop _ = _;rw [t25];rfl
   have ud : f'.d = [] := by rw [hf'];exact hd
   rw [← hf'];clear hf' t1 t2 t5 t23 t24 t25 hd;refine ag (vm ?_);simp only [wq.1,Nat.reduceLT,u24,u25];refine ag (bQ (b := decide ((i : Int) < g.ands.length)) (by simp only [wq.1,↓reduceIte]) (by simp only [wq.1,↓reduceIte]) (fun hlt => ?_) (fun hlt => ?_))
   ·simp only [decide_eq_true_eq,Int.ofNat_lt] at hlt;refine vm ?_;simp only [wq.1];have hgp := nR hlt V.any;refine ag (az ?_);refine ag (vm ?_);simp only [wq.1,seval,u23,u25,hgp];refine ⟨⟨by omega,by omega⟩,?_⟩;refine bG (Q := fun xe f h => xe = .normal ∧ f.t 1 = .lp 0 0 ∧ f.t 2 = .lp 1 0 ∧ f.t 5 = .lp 6 0 ∧ f.t 23 = prs g.ands ∧ f.t 24 = vi g.ands.length ∧ f.t 25 = vi i ∧ f.d = [] ∧ InN g (bH g (fun _ => true) (i + 1)) h) ?_ ?_
    ·rintro xe f h ⟨rfl,t1,t2,t5,t23,t24,t25,hd,hin⟩;have hw := ax (show i < maxLen by omega);refine vm ?_;simp only [wq.1,seval,t25,hw];exact .inl ⟨m - 1,by omega,i + 1,by omega,by simp only [wq.1,seval,t1],by simp only [wq.1,seval,t2],by simp only [wq.1,seval,t5],by simp only [wq.1,seval,t23],by simp only [wq.1,seval,t24],by simp only [wq.1,↓reduceIte],by simp only [wq.1,hd],hin⟩
    ·obtain ⟨o1,o2,o3,o4⟩ := dY i5 hlt;have hCb : ∀ x ∈ C,0 ≤ x ∧ x ≤ 1000000 := fun x hx => by have := q3 x hx;omega
     have hAi : A.length ≤ i := q1;obtain ⟨v1,hv1⟩ : ∃ v1,v1 = dR C g.ands[i].1 := ⟨_,rfl⟩;obtain ⟨v2,hv2⟩ : ∃ v2,v2 = dR C g.ands[i].2 := ⟨_,rfl⟩;have b1 := iF (a := g.ands[i].1) (k := g.first + A.length) (by omega) q3;have b2 := iF (a := g.ands[i].2) (k := g.first + A.length) (by omega) q3;rw [← hv1] at b1;rw [← hv2] at b2;obtain ⟨r,hr⟩ : ∃ r,r = qf g.first A v1 v2 := ⟨_,rfl⟩
     have hst2 : bH g (fun _ => true) (i + 1) = (r.1,C ++ [r.2]) := by rw [hst,aG hlt];unfold lw;rw [if_pos rfl,← hv1,← hv2,← hr]
     rw [hst2];have d1 : V.drops (fun x => x == 8) (g.init.map vi) = g.init.map vi := aP _;have d2 : V.drops (fun x => x == 8) (C.map vi) = C.map vi := aP _;refine bu mixed Xu (fun f h => f.t 1 = .lp 0 0 ∧ f.t 2 = .lp 1 0 ∧ f.t 5 = .lp 6 0 ∧ f.t 23 = prs g.ands ∧ f.t 24 = vi g.ands.length ∧ f.t 25 = vi i ∧ f.d = [] ∧ InN g (r.1,C ++ [r.2]) h) (by decide +kernel) (by decide +kernel) ?_ (fun f h hr => ⟨rfl,hr⟩);simp only [wq.1,seval,Xu,u5,bo]
     repeat' apply And.intro
     all_goals first
      | decide
      | skip
     all_goals
      refine lu (c := 8) o1 (by omega) (by omega) hCb (by rfl) (by rfl) ?_;simp only [wq.1,seval,← hv1]
      repeat' apply And.intro
     all_goals first
      | decide
      | skip
     all_goals
      refine lu (c := 8) o2 (by omega) (by omega) hCb (by rfl) (by rfl) ?_;simp only [wq.1,seval,-Int.reduceNatCast,-Int.reduceNatCast',ak,Tryz.results40,bg,u1,u2,u5,u23,u24,u25,ud,← hv2]
      repeat' apply And.intro
     all_goals
      refine Ea (b := 6) (a := 7) (J := 3) (m := 5) (c := 8) (lc := C.length) (ini := g.init) (nx := g.next) (n1 := g.ins) (f0 := g.first) (A := A) wf i0 (by omega) (by omega) (by omega) (by omega) b1.1 (by omega) b2.1 (by omega) (by rfl) (by rfl) (by rfl) (by rfl) zaj (by decide) (by decide) (by decide) (fun X => ?_);rw [← hr];simp only [wq.1,↓reduceIte,Nat.reduceEqDiff,Nat.reduceLT,Nat.reduceLeDiff,Nat.reduceAdd,Nat.reduceSub,Int.reduceToNat,Nat.reduceDiv,Int.reduceLT,Int.reduceLE,Int.reduceNeg,Int.reduceBEq,Int.reduceBNe,Int.reduceAdd,Int.reduceSub,Nat.reduceBEq,reduceCtorEq,Nat.reduceMul,ak,Tryz.results40,bg,u1,u2,u5,u23,u24,u25,ud,iH,jM,jy,d1,d2];refine ⟨⟨rfl,by decide⟩,⟨by omega,by omega,by omega⟩,.cells [vi g.ands[i].1,vi g.ands[i].2] :: List.map (O.drop fun x => x == 8) X,?_⟩;show _ = hN g r.1 (C ++ [r.2]) ++ _;unfold hN bo;rw [List.length_append,List.map_append];rfl
   ·simp only [decide_eq_false_iff_not,Int.ofNat_lt] at hlt;have hi : i = g.ands.length := by omega
    subst hi;refine vm ?_;simp only [wq.1,seval,u1,u2,u5,ud];rw [hs1,hAC];exact ⟨[],(List.append_nil _).symm⟩
def Mo.norm (m : Mo) : Mo := ⟨fZ m.g,m.ins,m.lat,m.out⟩
def Mo.nil : Mo := ⟨⟨0,[],[],[],[]⟩,[],[],[]⟩
def Qd (m : Mo) : Mo × Int := if m.chk = 0 then (m.norm,0) else (.nil,m.chk)
theorem yJ (m : Mo) (hs : m.g.Sm) : Ev TE 25 [m.v] (.tup [(Qd m).1.v,vi (Qd m).2]) := by
 have hck := vU m hs;unfold Qd;by_cases hc : m.chk = 0
 ·rw [if_pos hc];have hn := Ed (dP hc).1;rw [hc] at hck;unfold Gr.v at hn;unfold Mo.norm Mo.v;unfold Mo.v at hck;refine aA Tryz.func25 rfl (by simp [nts]) (vm ?_);simp only [wq.1,seval,Tryz.results25];refine ah.ev hck (by simp only [V.dats,V.dat,Bool.and_self]) ?_;simp only [wq.1,seval];refine ah.ev hn (by simp only [V.dats,V.dat,Bool.and_self]) ?_;simp only [wq.1,seval];exact aC.dat (by simp only [V.dats,V.dat,Bool.and_self])
 ·rw [if_neg hc];unfold Mo.v at hck ⊢;refine aA Tryz.func25 rfl (by simp [nts]) (vm ?_);simp only [wq.1,seval,Tryz.results25];refine ah.ev hck (by simp only [V.dats,V.dat,Bool.and_self]) ?_;simp only [wq.1,seval,show (m.chk != 0) = true by simpa using hc];show aC TE _ _ (V.tup [.agg [vi 0,aH [],aH [],prs [],aH [],aT [],aT [],aT []],vi m.chk]);exact aC.tup (aB.cons (aC.agg (aB.cons (aC.dat rfl) (aB.cons aC.nils (aB.cons aC.nils (aB.cons aC.nils (aB.cons aC.nils (aB.cons aC.nils (aB.cons aC.nils (aB.cons aC.nils aB.nil))))))))) (aB.dat rfl))
open Go.RowKit
theorem G9 : Ih P 66 [.i64,.i64] := by
 refine ⟨by kernel_rfl,fun w xs ys hx hy => ?_⟩
 match xs,hx with
 | [a,b],_ =>
 match ys,hy with
 | [a',b'],_ =>
 have hs : (sizeOf 3).run P w = .ok 1 w := by
  have hi : ∃ i,P.info? 3 = some i := info_of_underlying Tryz.underlying3;obtain ⟨i,hi⟩ := hi;rw [run_sizeOf w hi];have : P.cellsOf 3 = 1 := by kernel_rfl
  rw [this]
 show (Op.equalIn 10000 66 (.agg #[.int .i64 a,.int .i64 b]) (.agg #[.int .i64 a',.int .i64 b'])).run P w = .ok ([a,b] == [a',b']) w;rw [x9 Tryz.underlying66 Tryz.underlying3 9998 a b a' b' hs]
 congr 1
 rw [Bool.eq_iff_iff];simp
theorem Qe (c : List Pr) (s : Pr) (hlen : c.length ≤ 1000000) : Ev TE 119 [prs c,prV s] (vi (idx c (· == s))) := by
 have hM : maxLen = 9223372036854775807 := rfl;refine aA Tryz.func119 rfl (by simp [nts]) (vm ?_);simp only [wq.1,seval,Tryz.results119];refine aF (fun m f h => ∃ i,m + i = c.length ∧ f.t 0 = prs c ∧ f.t 3 = .lp 0 0 ∧ f.t 7 = .int .i64 (c.length : Int) ∧ f.t 8 = .int .i64 (i : Int) ∧ f.d = [] ∧ h = [.cells [vi s.1,vi s.2]] ∧ ∀ x ∈ c.take i,(x == s) = false) c.length ⟨0,by simp,rfl,rfl,rfl,rfl,rfl,rfl,by simp⟩ ?_;rintro m f h ⟨i,hm,h0,h3,h7,h8,hdd,rfl,hall⟩;refine vm ?_;simp only [wq.1,seval,h7,h8];refine vcB.mk (fun hc => ?_) (fun hc => ?_)
 ·simp only [decide_eq_true_eq,Int.ofNat_lt] at hc;have hg := nR hc V.any;simp only [wq.1,seval,h0,h3,h8,hg];have hbe : ([s.1,s.2] == [c[i].1,c[i].2]) = (c[i] == s) := by
   rw [Bool.eq_iff_iff];simp only [beq_iff_eq,List.cons.injEq,and_true];constructor
   ·rintro ⟨h1,h2⟩;exact Prod.ext h1.symm h2.symm
   ·intro h;rw [h];exact ⟨rfl,rfl⟩
  rw [hbe];refine ⟨by decide +kernel,⟨by omega,by omega⟩,?_,vcB.mk (fun hc' => ?_) (fun hc' => ?_)⟩
  ·exact G9
  ·simp only [wq.1,seval,hdd];rw [uz hc hall hc'];exact aC.dat rfl
  ·simp only [wq.1,seval,h8,ax (show i < maxLen by omega)];exact .inl ⟨m - 1,by omega,i + 1,by omega,h0,h3,h7,rfl,hdd,rfl,iD hc hall hc'⟩
 ·simp only [decide_eq_false_iff_not,Int.ofNat_lt] at hc;simp only [wq.1,seval,hdd];rw [List.take_of_length_le (by omega)] at hall;rw [qK hall];exact aC.dat rfl
theorem Ee (c : List Pr) (s : Pr) (hlen : c.length ≤ 1000000) : Ev TE 69 [prs c,prV s] (.bool (c.any (· == s))) := by
 have hi := Qe c s hlen;refine aA Tryz.func69 rfl (by simp [nts]) (vm ?_);simp only [wq.1,seval,Tryz.results69];refine ah.ev hi (by simp only [V.dats,V.dat,Bool.and_self]) ?_;simp only [wq.1,seval];have : decide (0 ≤ idx c (· == s)) = c.any (· == s) := by
  unfold idx;cases hf : c.findIdx? (· == s) with
  | none =>
   rw [List.findIdx?_eq_none_iff] at hf
   symm
   simp only [show (decide ((0 : Int) ≤ -1)) = false from rfl,List.any_eq_false];exact fun x hx => by rw [hf x hx];decide
  | some i =>
   obtain ⟨h1,h2,_⟩ := List.findIdx?_eq_some_iff_getElem.1 hf;rw [show decide ((0 : Int) ≤ (i : Int)) = true by simp]
   symm
   rw [List.any_eq_true];exact ⟨_,List.getElem_mem h1,h2⟩
 rw [this];exact aC.dat rfl
def Xv (g : Gr) (i : Nat) : Bool :=
 let p := g.ands.getD i (0,0)
 decide (p.1 ≤ p.2) || (decide (p.2 ≤ 1) || ((p.1 / 2 == p.2 / 2) || (!((uf g).getD (g.first + (i : Int)).toNat false) || (g.ands.take i).any (· == p))))
def nS (g : Gr) : Bool := !((List.range g.ands.length).any (Xv g))
theorem VG {p : Nat → Bool} {n : Nat} (h : (List.range n).any p = false) : (List.range (n + 1)).any p = p n := by rw [List.range_succ,List.any_append,h];simp
theorem zal {p : Nat → Bool} {n i : Nat} (hi : i < n) (h : p i = true) : (List.range n).any p = true := List.any_eq_true.2 ⟨i,List.mem_range.2 hi,h⟩
theorem Qg {g : Gr} (hg : g.chk = 0) : Ev TE 26 [g.v] (.bool (nS g)) := by
 have hM : maxLen = 9223372036854775807 := rfl;obtain ⟨_,i0,i1,i2,i3,i4,i5⟩ := bf hg;have wf : g.first = 1 + g.ins + g.next.length := rfl
 have hck := oG g ⟨by omega,by omega⟩;rw [hg] at hck;have hld := Qb hg;have hfst := kw g (by omega) (by omega) (by omega);unfold Gr.v at hck hld hfst ⊢;obtain ⟨L,hL⟩ : ∃ L,L = uf g := ⟨_,rfl⟩;have hLl : L.length = g.vars := by rw [hL];exact Bz
 obtain ⟨n,hn⟩ : ∃ n,n = g.vars := ⟨_,rfl⟩;have hnv : (n : Int) = g.first + g.ands.length := by rw [hn];unfold Gr.vars;omega
 rw [← hL] at hld;rw [← hn] at hld hLl;have dbl : V.dats (L.map V.bool) = true := Pq _;refine aA Tryz.func26 rfl (by simp [nts]) ?_;refine ag (vm ?_);simp only [wq.1,Nat.reduceLT,Tryz.results26];refine ag (vm ?_);simp only [wq.1,seval];refine ah.ev hck (by simp only [V.dats,V.dat,Bool.and_self]) ?_;simp only [wq.1,seval];refine ag (vm ?_);simp only [wq.1,seval];refine oC hld (by simp only [V.dats,V.dat,Bool.and_self]) dbl ?_;simp only [wq.1,seval];have hcl : dO [O.cells [vi g.ins,aH g.next,aH g.init,prs g.ands,aH g.outs],O.cells (L.map V.bool)] := fun p hp => by
  have d := oK (p := p) (L := L);simp only [wq.1,O.drop,V.drops,V.drop,d]
 refine vm ?_;simp only [wq.1,seval];refine aF (fun m f h => ∃ i X,m + i = g.ands.length ∧ f.t 1 = .lp 0 0 ∧ f.t 3 = .ls 1 1 0 n n ∧ f.t 12 = prs g.ands ∧ f.t 13 = vi g.ands.length ∧ f.t 14 = vi i ∧ f.d = [] ∧ h = [O.cells [vi g.ins,aH g.next,aH g.init,prs g.ands,aH g.outs],O.cells (L.map V.bool)] ++ X ∧ (List.range i).any (Xv g) = false) g.ands.length ⟨0,[],by omega,by simp only [wq.1,seval],by simp only [wq.1,seval],by simp only [wq.1,seval],by simp only [wq.1,seval],by simp only [wq.1,↓reduceIte];rfl,by simp only [wq.1],rfl,rfl⟩ ?_;rintro m f h ⟨i,X,hm,t1,t3,t12,t13,t14,hd,rfl,hno⟩;refine eU (by rw [hd];simp) ?_;rw [hcl.from_];obtain ⟨f',hf'⟩ : ∃ f',f' = f.drop (Abs.bC [O.cells [vi g.ins,aH g.next,aH g.init,prs g.ands,aH g.outs],O.cells (L.map V.bool)].length) := ⟨_,rfl⟩;have u1 : f'.t 1 = .lp 0 0 := by rw [hf'];show (f.t 1).drop _ = _;rw [t1];rfl
 have u3 : f'.t 3 = .ls 1 1 0 n n := by rw [hf'];show (f.t 3).drop _ = _;rw [t3];rfl
 have u12 : f'.t 12 = prs g.ands := by rw [hf'];show (f.t 12).drop _ = _;rw [t12];rfl
 have u13 : f'.t 13 = vi g.ands.length := by rw [hf'];show (f.t 13).drop _ = _;rw [t13];rfl
 have u14 : f'.t 14 = vi i := by rw [hf'];show (f.t 14).drop _ = _;rw [t14];rfl
 have ud : f'.d = [] := by rw [hf'];exact hd
 rw [← hf'];clear hf' t1 t3 t12 t13 t14 hd X;refine vm ?_;simp only [wq.1,seval,-Int.reduceNatCast,-Int.reduceNatCast',ak,Tryz.results26,u1,u3,u12,u13,u14,ud];refine vcB.mk (fun hlt => ?_) (fun hlt => ?_)
 ·simp only [decide_eq_true_eq,Int.ofNat_lt] at hlt;have hgp := nR hlt V.any;obtain ⟨o1,o2,o3,o4⟩ := dY i5 hlt;have wn : IntKind.i64.wrap (g.first + (i : Int)) = g.first + i := jY (by omega) (by omega)
  have hvn : (g.first + (i : Int)).toNat < L.length := by rw [hLl];omega
  obtain ⟨b,hb⟩ : ∃ b,b = L.getD (g.first + (i : Int)).toNat false := ⟨_,rfl⟩;have hgd : (L.map V.bool).getD ((g.first + (i : Int)).toNat * 1) V.any = V.bool b := by rw [hb,Nat.mul_one,List.getD_eq_getElem?_getD,List.getElem?_map,List.getElem?_eq_getElem hvn];show V.bool _ = V.bool (L.getD _ false);rw [aG hvn]
  have x1 : 0 ≤ g.first + (i : Int) := by omega
  have x2 : g.first + (i : Int) < n := by omega
  have x3 : (g.first + (i : Int)).toNat * 1 + 1 ≤ L.length := by omega
  have hw := ax (show i < maxLen by omega);have s1 : ∀ a : Int,a.fdiv (2 ^ min 1 IntKind.i64.bits) = a / 2 := fun a => by rw [show (2 : Int) ^ min 1 IntKind.i64.bits = 2 from rfl];exact Int.fdiv_eq_ediv_of_nonneg _ (by decide)
  have hct := Ee (g.ands.take i) g.ands[i] (by rw [List.length_take];omega);obtain ⟨e1,he1⟩ : ∃ e1,e1 = decide (g.ands[i].1 ≤ g.ands[i].2) := ⟨_,rfl⟩;obtain ⟨e2,he2⟩ : ∃ e2,e2 = decide (g.ands[i].2 ≤ 1) := ⟨_,rfl⟩;obtain ⟨e3,he3⟩ : ∃ e3,e3 = (g.ands[i].1 / 2 == g.ands[i].2 / 2) := ⟨_,rfl⟩;obtain ⟨e5,he5⟩ : ∃ e5,e5 = (g.ands.take i).any (· == g.ands[i]) := ⟨_,rfl⟩;rw [← he5] at hct;have hbad : Xv g i = (e1 || (e2 || (e3 || (!b || e5)))) := by unfold Xv;rw [aG hlt,← hL,he1,he2,he3,hb,he5]
  simp only [wq.1,seval,-Int.reduceNatCast,-Int.reduceNatCast',ak,Tryz.results26,u1,u3,u12,u13,u14,ud,hgp,s1,← he1,← he2,← he3];refine ⟨⟨by omega,by omega⟩,by decide +kernel,by decide,by decide,fun _ => by decide,fun _ => by decide,fun _ => by decide,Io (fun h => by simpa using h) (fun _ => hfst) (by decide +kernel) (fun _ => by simp only [V.dats,V.dat,Bool.and_self]) ?_⟩;simp only [wq.1,seval,-Int.reduceNatCast,-Int.reduceNatCast',u1,wn,x1,x2,x3,hgd];rw [show List.take i (List.map prV g.ands) = (g.ands.take i).map prV from List.map_take.symm];refine ⟨fun h => ⟨h,by omega,by omega⟩,Io (fun h => by simpa using h) (fun _ => hct) (by decide +kernel) (fun _ => by simp only [V.dats,V.dat,Bool.and_self]) ?_⟩;simp only [wq.1,seval];rw [show (e1 || e2 || e3 || !b || e5) = Xv g i by rw [hbad];cases e1 <;> cases e2 <;> cases e3 <;> cases b <;> cases e5 <;> rfl];refine vcB.mk (fun hbd => ?_) (fun hbd => ?_)
  ·simp only [wq.1,seval,ud];unfold nS;rw [zal hlt hbd];exact aC.dat rfl
  ·simp only [wq.1,seval,u14,hw];exact .inl ⟨m - 1,by omega,i + 1,[_],by omega,by simp only [wq.1,seval,u1],by simp only [wq.1,seval,u3],by simp only [wq.1,seval,u12],by simp only [wq.1,seval,u13],by simp only [wq.1,↓reduceIte],by simp only [wq.1,ud],rfl,by rw [VG hno,hbd]⟩
 ·simp only [decide_eq_false_iff_not,Int.ofNat_lt] at hlt;have hi : i = g.ands.length := by omega
  subst hi;simp only [wq.1,seval,ud];unfold nS;rw [hno];exact aC.dat rfl
def BA (A : List Pr) : Prop := (∀ p ∈ A,p.2 < p.1 ∧ 2 ≤ p.2 ∧ p.1 / 2 ≠ p.2 / 2) ∧ A.Nodup
theorem Qh {f0 : Int} {A : List Pr} {p q : Int} (h1 : q < p) (h2 : 2 ≤ q) (h3 : p / 2 ≠ q / 2) (h4 : (p,q) ∉ A) : qf f0 A p q = (A ++ [(p,q)],2 * (f0 + (A.length : Int))) := by
 have m1 : max p q = p := by omega
 have m2 : min p q = q := by omega
 have hx : FX p ≠ q := by unfold FX;split <;> omega
 unfold qf;rw [m1,m2,if_neg (fun h => h.elim (fun h => by omega) hx),if_neg (by omega)];have : A.findIdx? (· == (p,q)) = none := by
  rw [List.findIdx?_eq_none_iff];intro x hx;simp only [beq_eq_false_iff_ne,ne_eq];rintro rfl;exact h4 hx
 rw [this]
theorem Qi {f0 : Int} {A : List Pr} {p q : Int} (hp : 0 ≤ p) (hq : 0 ≤ q) (h : BA A) : BA (qf f0 A p q).1 := by
 unfold qf;split
 ·exact h
 ·rename_i n1;split
  ·exact h
  ·rename_i n2;split
   ·exact h
   ·rename_i hf;rw [List.findIdx?_eq_none_iff] at hf;obtain ⟨P,hP⟩ : ∃ P,P = max p q := ⟨_,rfl⟩;obtain ⟨Q,hQ⟩ : ∃ Q,Q = min p q := ⟨_,rfl⟩;have hb : 0 ≤ Q ∧ Q ≤ P := by omega
    rw [← hP,← hQ] at n1 n2 hf ⊢;have k1 : Q ≠ 0 := fun e => n1 (.inl e);have k2 : FX P ≠ Q := fun e => n1 (.inr e);have k3 : Q ≠ 1 := fun e => n2 (.inl e);have k4 : P ≠ Q := fun e => n2 (.inr e);have k5 : P / 2 ≠ Q / 2 := by
     intro e;apply k2;unfold FX;split <;> omega
    refine ⟨fun x hx => ?_,?_⟩
    ·simp only [List.mem_append,List.mem_singleton] at hx;rcases hx with hx | rfl
     ·exact h.1 x hx
     ·exact ⟨by show Q < P;omega,by show 2 ≤ Q;omega,k5⟩
    ·rw [List.nodup_append];refine ⟨h.2,by simp,fun a ha b hb e => ?_⟩;simp only [List.mem_singleton] at hb;subst hb;have := hf a ha;rw [e] at this;simp at this
theorem oL {g : Gr} (h : 0 ≤ g.ins) (use : Nat → Bool) : ∀ i,BA (bH g use i).1
 | 0 => ⟨fun p hp => by simp [bH] at hp,by simp [bH]⟩
 | i + 1 => by
  have hf := fC h;obtain ⟨h1,h2,h3⟩ := iG h use i;have ih := oL h use i;show BA (lw g.first (use i) (bH g use i) (g.ands.getD i (0,0))).1;generalize bH g use i = s at h1 h2 h3 ih ⊢;generalize g.ands.getD i (0,0) = p;cases use i with
  | true => exact Qi (iF (a := p.1) (k := g.first + s.1.length) (by omega) h3).1 (iF (a := p.2) (k := g.first + s.1.length) (by omega) h3).1 ih
  | false => exact ih
end Go.Proofs.YtfcpapokknfeeaaGreatDoor
