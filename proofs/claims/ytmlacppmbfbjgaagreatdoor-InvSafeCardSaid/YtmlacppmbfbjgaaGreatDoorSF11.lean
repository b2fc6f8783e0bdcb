/- Lemmas for this claim, part F11: each holds under what it names. -/
import Derived.Test.YtmlacppmbfbjgaaGreatDoorSF10
import Derived.Test.YtmlacppmbfbjgaaGreatDoorSA10
set_option linter.unusedVariables false
set_option linter.unusedSimpArgs false
set_option linter.unnecessarySimpa false
set_option maxRecDepth 20000
set_option maxHeartbeats 4000000
namespace Go.Proofs.YtmlacppmbfbjgaaGreatDoor
open Go Go.Proofs Go.Abs
theorem MS : ∀ (l : Cl) (s : Nat × Cl) (d : Int),(∀ b ∈ l,0 ≤ b ∧ b ≤ 2) → l.foldl (fun n b => n + b / 2) ((s.1 : Int) + d) = ((l.foldl qX s).1 : Int) + d
 | [],s,d,_=>rfl
 | b::l,s,d,hl=>by
  have hb:=hl b (by simp);have hr:∀x∈l,0≤x∧x≤2:=fun x hx=>hl x (by simp[hx]);rw[List.foldl_cons,List.foldl_cons,←MS l (qX s b) d hr]
  congr 1
  unfold qX;split
  ·rename_i h;subst h;show(s.1:Int)+d+2/2=((s.1+1:Nat):Int)+d;omega
  ·show (s.1 : Int) + d + b / 2 = (s.1 : Int) + d;have : b / 2 = 0 := by omega
   omega
theorem MV {g : Gr} {b : Cl} : ∀ k,(bV g b k).n = (zW b).1 + k * (g.ins.toNat + g.ands.length)
 | 0=>by simp[bV]
 | k+1=>by show((bV g b k).ands g g.ands.length).n=_;rw[l7 (zrb _),MV k,Nat.add_mul,Nat.one_mul];omega
theorem MW {g : Gr} {b : Cl} : ∀ k,(bV g b k).cl.length = 1 + 3 * (k * g.ands.length)
 | 0=>by simp[bV]
 | k+1=>by show((bV g b k).ands g g.ands.length).cl.length=_;rw[sV (zrb _),MW k,Nat.add_mul,Nat.one_mul];omega
theorem jM {g : Gr} {b : Cl} : ∀ k,(bV g b k).rows.length = k
 | 0=>rfl
 | k+1=>by show((bV g b k).rows++[_]).length=_;rw[zqa,jM k];rfl
def eP (g:Gr) (b:Cl) (k:Nat):List Cl:=(bV g b k).rows++[qg g (bV g b k).lat++List.replicate g.ands.length 0]
def Xn (g:Gr) (b:Cl) (k:Nat):V:= .agg [vi (bV g b k).n,cls (bV g b k).cl,cls (eP g b k)]
def qh (g:Gr) (b:Cl) (k:Int):V:=if yw g b k=0 then Xn g b k.toNat else .agg [vi 0,cls [],cls []]
abbrev hU5 (g:Gr) (n:Nat) (cl lat:Cl):H:=[.cells [vi g.ins,aF g.next,aF g.init,prs g.ands,aF g.outs],.cells [vi 0,.nils,.nils],bU g n (.ls 3 1 0 1 1) (.ls 4 1 0 0 0) .nils,.cells [xC cl],.cells [],.cells (lat.map vi)]
theorem TG {g:Gr} {b:Cl} {k:Int} (h:yw g b k=0):g.chk=0∧b.length=g.next.length∧(∀x∈b,0≤x∧x≤2)∧0≤k∧k≤40∧WH g k b≤20000:=by
 unfold yw at h;split at h
 ·rename_i hc;exact absurd h hc
 ·rename_i hc;split at h
  ·cases h
  ·rename_i ho;split at h
   ·cases h
   ·rename_i hk;split at h
    ·cases h
    ·rename_i hn;refine⟨by omega,by omega,fun x hx=> ?_,by omega,by omega,by omega⟩;have:Gw x=false:=by
      cases e:Gw x with
      | false=>rfl
      | true=>exact absurd (.inr (List.any_eq_true.2 ⟨x,hx,e⟩)) ho
     simp only[Gw,Bool.or_eq_false_iff,zqd]at this;omega
theorem kG : ∀ l : List Cl,dQ 1 (l.map fun c => aF c) = true ∧ (l.map fun c => aF c).flatMap V.vc = l.map fun c => aF c
 | []=>⟨rfl,rfl⟩
 | c::l=>by
  obtain⟨h1,h2⟩:=kG l;refine⟨?_,?_⟩
  ·show(_&&dQ 1 (l.map fun c=>aF c))=true;rw[h1];rfl
  ·rw[zrd,List.flatMap_cons,h2];rfl
theorem uG {h : H} : ∀ l : List Cl,aj TE h (l.map xC) (l.map fun c => aF c)
 | []=>aj.nil
 | c::l=>aj.cons (fun ok pl w x hs hv=>bW _ _ (az.dat (by simp only[V.dat]) ok pl w x hs hv)) (uG l)
theorem GG {h : H} : ∀ rs : List (Nat × Cl),(∀ p ∈ rs,h[p.1]? = some (.cells (p.2.map vi))) → aj TE h (rs.map fun p => V.ls p.1 1 0 p.2.length p.2.length) (rs.map ((fun c => aF c) ∘ fun p => p.2))
 | [],_=>aj.nil
 | p::rs,hp=>aj.cons (qV (hp p (by simp)) rfl) (GG rs fun q hq=>hp q (by simp[hq]))
def MX:Plan:= .take 0<| .take 1<| .take 2<| .take 3<| .take 4<| .take 6<| .take 7<| .take 8<| .take 10<| .alt 5 (.alt 9 (.one 11<| .one 12<| .one 13<| .one 14<| .one 15<| .take 16<| .take 17<| .take 18<| .one 19<| .fin) (.one 11 (.alt 9 (.one 12<| .one 13<| .one 14<| .one 15<| .take 16<| .take 17<| .take 18<| .one 19<| .fin) (.one 12 (.one 9<| .one 13<| .one 14<| .one 15<| .take 16<| .take 17<| .take 18<| .one 19<| .fin))))) (.alt 9 (.alt 5 (.one 11<| .one 12<| .one 13<| .one 14<| .one 15<| .take 16<| .take 17<| .take 18<| .one 19<| .fin) (.one 11 (.alt 5 (.one 12<| .one 13<| .one 14<| .one 15<| .take 16<| .take 17<| .take 18<| .one 19<| .fin) (.one 12 (.alt 5 (.one 13<| .one 14<| .one 15<| .take 16<| .take 17<| .take 18<| .one 19<| .fin) (.one 13 (.alt 5 (.one 14<| .one 15<| .take 16<| .take 17<| .take 18<| .one 19<| .fin) (.one 14 (.one 5<| .one 15<| .take 16<| .take 17<| .take 18<| .one 19<| .fin))))))))) (.one 11 (.alt 5 (.alt 9 (.one 12<| .one 13<| .one 14<| .one 15<| .take 16<| .take 17<| .take 18<| .one 19<| .fin) (.one 12 (.one 9<| .one 13<| .one 14<| .one 15<| .take 16<| .take 17<| .take 18<| .one 19<| .fin))) (.alt 9 (.alt 5 (.one 12<| .one 13<| .one 14<| .one 15<| .take 16<| .take 17<| .take 18<| .one 19<| .fin) (.one 12 (.alt 5 (.one 13<| .one 14<| .one 15<| .take 16<| .take 17<| .take 18<| .one 19<| .fin) (.one 13 (.alt 5 (.one 14<| .one 15<| .take 16<| .take 17<| .take 18<| .one 19<| .fin) (.one 14 (.one 5<| .one 15<| .take 16<| .take 17<| .take 18<| .one 19<| .fin))))))) (.one 12 (.alt 5 (.one 9<| .one 13<| .one 14<| .one 15<| .take 16<| .take 17<| .take 18<| .one 19<| .fin) (.one 9 (.alt 5 (.one 13<| .one 14<| .one 15<| .take 16<| .take 17<| .take 18<| .one 19<| .fin) (.one 13 (.alt 5 (.one 14<| .one 15<| .take 16<| .take 17<| .take 18<| .one 19<| .fin) (.one 14 (.one 5<| .one 15<| .take 16<| .take 17<| .take 18<| .one 19<| .fin))))))))))))
abbrev hU6 (g:Gr) (n:Nat) (lat:Cl):H:=[.cells [vi g.ins,aF g.next,aF g.init,prs g.ands,aF g.outs],.cells [vi 0,.nils,.nils],bU g n (.ls 3 1 0 1 1) (.ls 4 1 0 0 0) (.ls 6 1 0 (qg g lat).length (qg g lat).length),.cells [xC [1]],.cells [],.cells (lat.map vi),.cells ((qg g lat).map vi)]
theorem MZ (g:Gr) (b:Cl) (k:Int) (hs:g.Sm) (hb:b.length≤1000000):Ev TE 86 [g.v,aF b,vi k] (.tup [qh g b k,vi (yw g b k)]):=by
 have hM:maxLen=9223372036854775807:=rfl;have hc0:=TF g b k hs hb;unfold Gr.v at hc0 ⊢;refine ak Tryz.func86 rfl (by simp[nts]) ?_;refine ag (vm ?_);simp only[wq.1,Nat.reduceLT,Tryz.results86];refine ag (vm ?_);simp only[wq.1,seval];refine ah.ev hc0 rfl ?_;simp only[wq.1,seval];refine vcB.mk (fun hz=> ?_) (fun hz=> ?_)
 ·have hz : yw g b k ≠ 0 := by simpa using hz
  unfold qh;rw[if_neg hz];simp only[wq.1,seval];refine az.tup (aj.cons (az.agg (aj.cons (az.dat rfl) (aj.cons az.nils (aj.cons az.nils aj.nil)))) (aj.cons (az.dat rfl) aj.nil))
 ·have hz : yw g b k = 0 := by simpa using hz
  unfold qh;rw[if_pos hz,hz];simp only[wq.1,Int.reduceBNe];obtain⟨hg,hbl,hb2,k0,k1,hnu⟩:=TG hz;obtain⟨q,rfl⟩:∃q:Nat,k=q:=⟨k.toNat,by omega⟩;clear hc0;obtain⟨_,i0,i1,i2,i3,i4,i5⟩:=fE hg;rw[Int.toNat_natCast];refine ag (vm ?_);simp only[wq.1,seval];refine jI (jI ?_);refine vI (h':=[.cells [vi g.ins,aF g.next,aF g.init,prs g.ands,aF g.outs],.cells [vi 0,.nils,.nils],bU g 0 (.ls 3 1 0 0 0) (.ls 4 1 0 0 0) .nils,.cells [],.cells []]) (HLe.set (i:=2) (o':=bU g 0 (.ls 3 1 0 0 0) (.ls 4 1 0 0 0) .nils) rfl (OLe.cells (by simp) (gU.cons (VLe.refl _) (gU.cons gJ (gU.cons gJ (gU.refl _)))))) ?_;refine ag (vm ?_);simp only[wq.1,↓reduceIte,Nat.reduceEqDiff,Nat.reduceLT];refine nD (b:=2) (g:=g) (n:=0) (cv:= .ls 3 1 0 0 0) (lv:= .ls 4 1 0 0 0) (rv:= .nils) rfl (by omega) ?_;simp only[wq.1,↓reduceIte,Nat.reduceEqDiff,Nat.reduceLT,reduceCtorEq,Nat.reduceMul];refine⟨⟨rfl,by decide⟩,?_⟩;refine oP (b:=2) (C:=3) (n:=1) (g:=g) (cl:=[]) (c:=[1]) (lv:= .ls 4 1 0 0 0) (rv:= .nils) (by decide) rfl rfl (fun j o ho hj=> ?_) rfl rfl (by simp) ?_
  ·rcases j with _|_|_|_|_|j
   all_goals first
    | exact absurd rfl hj
    | (obtain rfl:=Option.some.inj ho;rfl)
    | (simp at ho)
  simp only[wq.1,aW];refine ag (vm ?_);simp only[wq.1,Nat.reduceLT];refine fH 10 1 (by simp only[wq.1,↓reduceIte]) ?_;refine ag (vm ?_);simp only[wq.1,seval];refine aC (fun m f h=>∃i,m+i=b.length∧f.t 2=vi q∧f.t 3= .lp 0 0∧f.t 6= .lp 1 0∧f.t 9= .lp 2 0∧f.t 10= .ls 5 1 0 i i∧f.t 30=aF b∧f.t 31=vi b.length∧f.t 32=vi i∧f.d=[]∧h=hU5 g ((b.take i).foldl qX (1,[])).1 [1] ((b.take i).foldl qX (1,[])).2) b.length ⟨0,by omega,by simp only[wq.1,seval],by simp only[wq.1,seval],by simp only[wq.1,seval],by simp only[wq.1,seval],by simp only[wq.1,seval],by simp only[wq.1,seval],by simp only[wq.1,seval],rfl,by simp only[wq.1],rfl⟩ ?_;rintro m f h ⟨i,hm,t2,t3,t6,t9,t10,t30,t31,t32,hd,rfl⟩;refine ag (vm ?_);simp only[wq.1,Nat.reduceLT,t31,t32];refine ag (bD (b:=decide ((i:Int)<b.length)) (by simp only[wq.1,↓reduceIte]) (by simp only[wq.1,↓reduceIte]) (fun hlt=> ?_) (fun hlt=> ?_))
  ·simp only[zqb,zqi]at hlt;have hw:=aA (show i<maxLen by omega);have hgn:(b.map vi).getD i .any=vi b[i]:=IC hlt _;have hbi:=hb2 _ (zqu hlt);have hnx:(b.take (i+1)).foldl qX (1,[])=qX ((b.take i).foldl qX (1,[])) b[i]:=by
    rw[zrg,zqk hlt,List.foldl_append];rfl
   have hbo:=wM (b.take i) (1,[]) (fun x hx=>hb2 x (List.mem_of_mem_take hx)) (zrb _) (fun a ha=>by cases ha);obtain⟨s,hsd⟩:∃s,s=(b.take i).foldl qX (1,[]):=⟨_,rfl⟩;rw[←hsd]at hnx hbo ⊢;obtain⟨s1,s2⟩:=s;obtain⟨o1,o2,o3,o4⟩:=hbo;have o4:s2.length=i:=by rw[o4];simp;omega
   have o2 : s1 ≤ 1 + i := by have : (b.take i).length = i := by simp; omega
                              simp only at o2;omega
   refine vm ?_;simp only[wq.1];refine vm ?_;have w1:IntKind.i64.wrap (2*b[i])=2*b[i]:=dN (by omega) (by omega);have w2:IntKind.i64.wrap (2*b[i]-1)=2*b[i]-1:=dN (by omega) (by omega);simp only[wq.1,seval,t30,t32,hgn,w1,w2];have hcl2:(s2.map vi).length=i*1:=by rw[zra];omega
   have dcs:∀p,V.drops p (s2.map vi)=s2.map vi:=fun p=>bu _;refine⟨⟨by omega,by omega⟩,?_⟩;refine vcB.mk (fun h2=> ?_) (fun h2=> ?_)
   ·have h2 : b[i] = 2 := by simpa using h2
    simp only[wq.1,seval,t9];refine nD (b:=2) (g:=g) (n:=s1) (cv:= .ls 3 1 0 1 1) (lv:= .ls 4 1 0 0 0) (rv:= .nils) rfl (by omega) ?_;simp only[wq.1,↓reduceIte,Nat.reduceEqDiff,Nat.reduceLT,Nat.reduceBEq,reduceCtorEq,Nat.reduceMul,t10,t32,hd,dcs,hw];refine⟨⟨rfl,by decide⟩,⟨by omega,by omega,by omega⟩,.inl ⟨m-1,by omega,i+1,by omega,by simp only[wq.1,↓reduceIte,Nat.reduceEqDiff,Nat.reduceLT,Nat.reduceLeDiff,Nat.reduceAdd,Nat.reduceSub,Int.reduceToNat,Nat.reduceDiv,Int.reduceLT,Int.reduceLE,Int.reduceNeg,Int.reduceBEq,Int.reduceBNe,Int.reduceAdd,Int.reduceSub,Nat.reduceBEq,reduceCtorEq,Nat.reduceMul,au,Tryz.results86,t2],by simp only[wq.1,↓reduceIte,Nat.reduceEqDiff,Nat.reduceLT,Nat.reduceLeDiff,Nat.reduceAdd,Nat.reduceSub,Int.reduceToNat,Nat.reduceDiv,Int.reduceLT,Int.reduceLE,Int.reduceNeg,Int.reduceBEq,Int.reduceBNe,Int.reduceAdd,Int.reduceSub,Nat.reduceBEq,reduceCtorEq,Nat.reduceMul,au,Tryz.results86,t3],by simp only[wq.1,↓reduceIte,Nat.reduceEqDiff,Nat.reduceLT,Nat.reduceLeDiff,Nat.reduceAdd,Nat.reduceSub,Int.reduceToNat,Nat.reduceDiv,Int.reduceLT,Int.reduceLE,Int.reduceNeg,Int.reduceBEq,Int.reduceBNe,Int.reduceAdd,Int.reduceSub,Nat.reduceBEq,reduceCtorEq,Nat.reduceMul,au,Tryz.results86,t6],by simp only[wq.1,↓reduceIte,Nat.reduceEqDiff,Nat.reduceLT,Nat.reduceLeDiff,Nat.reduceAdd,Nat.reduceSub,Int.reduceToNat,Nat.reduceDiv,Int.reduceLT,Int.reduceLE,Int.reduceNeg,Int.reduceBEq,Int.reduceBNe,Int.reduceAdd,Int.reduceSub,Nat.reduceBEq,reduceCtorEq,Nat.reduceMul,au,Tryz.results86,t9],by simp only[wq.1,↓reduceIte,Nat.reduceEqDiff,Nat.reduceLT,Nat.reduceLeDiff,Nat.reduceAdd,Nat.reduceSub,Int.reduceToNat,Nat.reduceDiv,Int.reduceLT,Int.reduceLE,Int.reduceNeg,Int.reduceBEq,Int.reduceBNe,Int.reduceAdd,Int.reduceSub,Nat.reduceBEq,reduceCtorEq,Nat.reduceMul,au,Tryz.results86],by simp only[wq.1,↓reduceIte,Nat.reduceEqDiff,Nat.reduceLT,Nat.reduceLeDiff,Nat.reduceAdd,Nat.reduceSub,Int.reduceToNat,Nat.reduceDiv,Int.reduceLT,Int.reduceLE,Int.reduceNeg,Int.reduceBEq,Int.reduceBNe,Int.reduceAdd,Int.reduceSub,Nat.reduceBEq,reduceCtorEq,Nat.reduceMul,au,Tryz.results86,t30],by simp only[wq.1,↓reduceIte,Nat.reduceEqDiff,Nat.reduceLT,Nat.reduceLeDiff,Nat.reduceAdd,Nat.reduceSub,Int.reduceToNat,Nat.reduceDiv,Int.reduceLT,Int.reduceLE,Int.reduceNeg,Int.reduceBEq,Int.reduceBNe,Int.reduceAdd,Int.reduceSub,Nat.reduceBEq,reduceCtorEq,Nat.reduceMul,au,Tryz.results86,t31],by simp only[wq.1,↓reduceIte,Nat.reduceEqDiff,Nat.reduceLT,Nat.reduceLeDiff,Nat.reduceAdd,Nat.reduceSub,Int.reduceToNat,Nat.reduceDiv,Int.reduceLT,Int.reduceLE,Int.reduceNeg,Int.reduceBEq,Int.reduceBNe,Int.reduceAdd,Int.reduceSub,Nat.reduceBEq,reduceCtorEq,Nat.reduceMul,au,Tryz.results86],by simp only[wq.1,↓reduceIte,Nat.reduceEqDiff,Nat.reduceLT,Nat.reduceLeDiff,Nat.reduceAdd,Nat.reduceSub,Int.reduceToNat,Nat.reduceDiv,Int.reduceLT,Int.reduceLE,Int.reduceNeg,Int.reduceBEq,Int.reduceBNe,Int.reduceAdd,Int.reduceSub,Nat.reduceBEq,reduceCtorEq,Nat.reduceMul,au,Tryz.results86,hd],?_⟩⟩;rw[hnx];simp only[hU5,qX,if_pos h2,zql];rfl
   ·have h2 : b[i] ≠ 2 := by simpa using h2
    simp only[wq.1,↓reduceIte,Nat.reduceEqDiff,Nat.reduceLT,Nat.reduceBEq,reduceCtorEq,Nat.reduceMul,t10,t32,hd,dcs,hw];refine⟨⟨rfl,by decide⟩,⟨by omega,by omega,by omega⟩,.inl ⟨m-1,by omega,i+1,by omega,by simp only[wq.1,↓reduceIte,Nat.reduceEqDiff,Nat.reduceLT,Nat.reduceLeDiff,Nat.reduceAdd,Nat.reduceSub,Int.reduceToNat,Nat.reduceDiv,Int.reduceLT,Int.reduceLE,Int.reduceNeg,Int.reduceBEq,Int.reduceBNe,Int.reduceAdd,Int.reduceSub,Nat.reduceBEq,reduceCtorEq,Nat.reduceMul,au,Tryz.results86,t2],by simp only[wq.1,↓reduceIte,Nat.reduceEqDiff,Nat.reduceLT,Nat.reduceLeDiff,Nat.reduceAdd,Nat.reduceSub,Int.reduceToNat,Nat.reduceDiv,Int.reduceLT,Int.reduceLE,Int.reduceNeg,Int.reduceBEq,Int.reduceBNe,Int.reduceAdd,Int.reduceSub,Nat.reduceBEq,reduceCtorEq,Nat.reduceMul,au,Tryz.results86,t3],by simp only[wq.1,↓reduceIte,Nat.reduceEqDiff,Nat.reduceLT,Nat.reduceLeDiff,Nat.reduceAdd,Nat.reduceSub,Int.reduceToNat,Nat.reduceDiv,Int.reduceLT,Int.reduceLE,Int.reduceNeg,Int.reduceBEq,Int.reduceBNe,Int.reduceAdd,Int.reduceSub,Nat.reduceBEq,reduceCtorEq,Nat.reduceMul,au,Tryz.results86,t6],by simp only[wq.1,↓reduceIte,Nat.reduceEqDiff,Nat.reduceLT,Nat.reduceLeDiff,Nat.reduceAdd,Nat.reduceSub,Int.reduceToNat,Nat.reduceDiv,Int.reduceLT,Int.reduceLE,Int.reduceNeg,Int.reduceBEq,Int.reduceBNe,Int.reduceAdd,Int.reduceSub,Nat.reduceBEq,reduceCtorEq,Nat.reduceMul,au,Tryz.results86,t9],by simp only[wq.1,↓reduceIte,Nat.reduceEqDiff,Nat.reduceLT,Nat.reduceLeDiff,Nat.reduceAdd,Nat.reduceSub,Int.reduceToNat,Nat.reduceDiv,Int.reduceLT,Int.reduceLE,Int.reduceNeg,Int.reduceBEq,Int.reduceBNe,Int.reduceAdd,Int.reduceSub,Nat.reduceBEq,reduceCtorEq,Nat.reduceMul,au,Tryz.results86],by simp only[wq.1,↓reduceIte,Nat.reduceEqDiff,Nat.reduceLT,Nat.reduceLeDiff,Nat.reduceAdd,Nat.reduceSub,Int.reduceToNat,Nat.reduceDiv,Int.reduceLT,Int.reduceLE,Int.reduceNeg,Int.reduceBEq,Int.reduceBNe,Int.reduceAdd,Int.reduceSub,Nat.reduceBEq,reduceCtorEq,Nat.reduceMul,au,Tryz.results86,t30],by simp only[wq.1,↓reduceIte,Nat.reduceEqDiff,Nat.reduceLT,Nat.reduceLeDiff,Nat.reduceAdd,Nat.reduceSub,Int.reduceToNat,Nat.reduceDiv,Int.reduceLT,Int.reduceLE,Int.reduceNeg,Int.reduceBEq,Int.reduceBNe,Int.reduceAdd,Int.reduceSub,Nat.reduceBEq,reduceCtorEq,Nat.reduceMul,au,Tryz.results86,t31],by simp only[wq.1,↓reduceIte,Nat.reduceEqDiff,Nat.reduceLT,Nat.reduceLeDiff,Nat.reduceAdd,Nat.reduceSub,Int.reduceToNat,Nat.reduceDiv,Int.reduceLT,Int.reduceLE,Int.reduceNeg,Int.reduceBEq,Int.reduceBNe,Int.reduceAdd,Int.reduceSub,Nat.reduceBEq,reduceCtorEq,Nat.reduceMul,au,Tryz.results86],by simp only[wq.1,↓reduceIte,Nat.reduceEqDiff,Nat.reduceLT,Nat.reduceLeDiff,Nat.reduceAdd,Nat.reduceSub,Int.reduceToNat,Nat.reduceDiv,Int.reduceLT,Int.reduceLE,Int.reduceNeg,Int.reduceBEq,Int.reduceBNe,Int.reduceAdd,Int.reduceSub,Nat.reduceBEq,reduceCtorEq,Nat.reduceMul,au,Tryz.results86,hd],?_⟩⟩;rw[hnx];simp only[hU5,qX,if_neg h2,zql];rfl
  ·simp only [zqd,zqi] at hlt;have : i = b.length := by omega
   subst this;have hbo:=wM b (1,[]) hb2 (zrb _) (fun a ha=>by cases ha);rw[zrx];obtain⟨o1,o2,o3,o4⟩:=hbo;obtain⟨lat,hlat⟩:∃lat,lat=(b.foldl qX (1,[])).2:=⟨_,rfl⟩;obtain⟨n0,hn0⟩:∃n0,n0=(b.foldl qX (1,[])).1:=⟨_,rfl⟩;rw[←hlat,←hn0]at o3;rw[←hlat]at o4;rw[←hn0]at o1 o2;rw[←hlat,←hn0];have o4:lat.length=b.length:=by rw[o4];simp
   rw[←o4]at t10;refine vm ?_;simp only[wq.1];refine vm ?_;simp only[wq.1,seval,t9,t10];refine uf (b:=2) (q:=5) (n:=n0) (g:=g) (cv:= .ls 3 1 0 1 1) (lv:= .ls 4 1 0 0 0) (rv:= .nils) (lat:=lat) rfl rfl (fun j o ho=> ?_) i0 (by omega) (by omega) (by decide) ?_
   ·rcases j with _|_|_|_|_|_|j
    all_goals first
     | (obtain rfl:=Option.some.inj ho;rfl)
     | (obtain rfl:=Option.some.inj ho;show O.cells (V.drops _ _)=_;rw[bu])
     | (simp at ho)
   simp only[wq.1,seval,aW,t2,hd];have hnb:n0+q*(g.ins.toNat+g.ands.length)≤20000:=by
    have e:=MS b (1,[]) (q*(g.ins+g.ands.length)) hb2;have e2:WH g q b=b.foldl (fun n b=>n+b/2) (((1:Nat):Int)+q*(g.ins+g.ands.length)):=rfl;rw[e2,e,←hn0]at hnu;have e3:((q*(g.ins.toNat+g.ands.length):Nat):Int)=q*(g.ins+g.ands.length):=by rw[Int.natCast_mul,Int.natCast_add,Int.toNat_of_nonneg i0]
    omega
   have hB0:BH g 6 (hU6 g n0 lat) 2 3 4 (bV g b 0).n (bV g b 0).cl [] 6 (qg g (bV g b 0).lat) (hU6 g n0 lat):=by
    have e1 : (bV g b 0).n = n0 := hn0.symm;have e2 : (bV g b 0).lat = lat := hlat.symm;rw [e1,e2];exact {
     hb:=rfl
     hC:=rfl
     hL:=rfl
     hr:=rfl
     hrs:=fun p hp=>by cases hp
     n1:=by decide
     n2:=by decide
     n3:=by decide
     bk:=by decide
     Ck:=by decide
     Lk:=by decide
     rk:=by decide
     pl:=fun j o ho j1 j2 D=>by
      rcases j with _|_|_|_|_|_|_|j
      all_goals first
       | exact absurd rfl j1
       | exact absurd rfl j2
       | (obtain rfl:=Option.some.inj ho;rfl)
       | (obtain rfl:=Option.some.inj ho;show O.cells (V.drops _ _)=_;rw[bu])
       | (simp at ho)
     bs:=fun _ _ _ _ _=>rfl}
   refine aC (fun m f h=>∃(i r:Nat) (rs:List (Nat×Cl)),m+i=q∧BH g 6 (hU6 g n0 lat) 2 3 4 (bV g b i).n (bV g b i).cl rs r (qg g (bV g b i).lat) h∧rs.map (·.2)=(bV g b i).rows∧f.t 3= .lp 0 0∧f.t 6= .lp 1 0∧f.t 9= .lp 2 0∧f.t 51=vi q∧f.t 52=vi i∧f.d=[]) q ⟨0,6,[],by omega,hB0,rfl,by simp only[wq.1,seval,t3],by simp only[wq.1,seval,t6],by simp only[wq.1,seval,t9],by simp only[wq.1,seval],rfl,hd⟩ ?_;clear t2 t3 t6 t9 t10 t30 t31 t32 hd hm f;rintro m f h ⟨i,r,rs,hm,hB,hrs,t3,t6,t9,t51,t52,hd⟩;have hrl:rs.length=i:=by rw[←jM (g:=g) (b:=b) i,←hrs,zra]
   have hni:=MV (g:=g) (b:=b) i;have hci:=MW (g:=g) (b:=b) i;have hmul:i*(g.ins.toNat+g.ands.length)≤q*(g.ins.toNat+g.ands.length):=Nat.mul_le_mul_right _ (by omega);have hmul2:i*g.ands.length≤i*(g.ins.toNat+g.ands.length):=Nat.mul_le_mul_left _ (by omega);have hb0:(zW b).1=n0:=hn0.symm;rw[hb0]at hni;refine ag (vm ?_);simp only[wq.1,Nat.reduceLT,t51,t52];refine ag (bD (b:=decide ((i:Int)<q)) (by simp only[wq.1,↓reduceIte]) (by simp only[wq.1,↓reduceIte]) (fun hlt=> ?_) (fun hlt=> ?_))
   ·simp only[zqb,zqi]at hlt;have hw:=aA (show i<maxLen by omega);refine vm ?_;simp only[wq.1];refine vm ?_;simp only[wq.1,seval,t9];refine Jd hg hB (qZ hg hbl hb2 i) (by omega) (by omega) (by omega) (fun h' r' hB'=> ?_);simp only[wq.1,seval,aW,t52,hd,hw];refine .inl ⟨m-1,by omega,i+1,r',_,by omega,hB',?_,by simp only[wq.1,seval,t3],by simp only[wq.1,seval,t6],by simp only[wq.1,seval,t9],by simp only[wq.1,seval,t51],by simp only[wq.1,↓reduceIte],hd⟩;rw[zql,hrs];rfl
   ·simp only [zqd,zqi] at hlt;have : i = q := by omega
    subst this;refine vm ?_;simp only[wq.1];show awp _ _ _ _ _ _ _;have hti:ti TE.P 22=some ⟨.slice 3,1,24,.nils⟩:=by simp only[wq.1]
    have htn:ti TE.P 3=some ⟨.int .i64,1,8,.int .i64 0⟩:=by simp only[wq.1]
    have hrk:=hB.rk;have e2r:(2==r)=false:=by simp;omega
    have e4r:(4==r)=false:=by simp;omega
    have e3r:(3==r)=false:=by simp;omega
    have hll:=(qZ hg hbl hb2 i).l;obtain⟨row,hrow⟩:∃row,row=qg g (bV g b i).lat:=⟨_,rfl⟩;have hrl2:row.length=1+g.ins.toNat+g.next.length:=by rw[hrow];unfold qg;simp;omega
    rw[←hrow]at hB;have hbl2:=(zqe hB.hb).1;have hLl:=(zqe hB.hL).1;have hrl3:=(zqe hB.hr).1;obtain⟨H1,hH1⟩:∃H1,(h.map (O.drop fun x=>x==r)).set r (.cells (V.drops (fun x=>x==r) (row.map vi++List.replicate g.ands.length (vi 0))))=H1:=⟨_,rfl⟩;have H1b:H1[2]? =some (.cells [vi (bV g b i).n,.ls 3 1 0 (bV g b i).cl.length (bV g b i).cl.length,.ls 4 1 0 rs.length rs.length,vi g.ins,aF g.next,aF g.init,prs g.ands,aF g.outs,.any]):=by
     rw[←hH1,zqn (by omega),zqo,hB.hb];simp only[zrw,bU,O.drop,V.drops,V.drop,beq_self_eq_true,if_true,e3r,e4r,zrm,if_false]
    have H1L:H1[4]? =some (.cells (rs.map fun p=> .ls p.1 1 0 p.2.length p.2.length)):=by rw[←hH1,zqn (by omega),zqo,hB.hL];show some (O.cells (V.drops _ _))=_;rw[sS fun p hp=>by have:=(hB.hrs p hp).2.2;simpa using this]
    have r4:(r==4)=false:=by simp;omega
    have e1r:(1==r)=false:=by simp;omega
    have hv4:V.drops (fun x=>x==4) (rs.map fun p=>V.ls p.1 1 0 p.2.length p.2.length)=rs.map fun p=>V.ls p.1 1 0 p.2.length p.2.length:=sS fun p hp=>by have:=(hB.hrs p hp).2.1;simp;omega
    have H1l:H1.length=h.length:=by rw[←hH1];simp
    obtain⟨H2,hH2⟩:∃H2,(H1.map (O.drop fun x=>x==4)).set 4 (.cells ((rs.map fun p=>V.ls p.1 1 0 p.2.length p.2.length)++[.ls r 1 0 (row.length+g.ands.length) (row.length+g.ands.length)]))=H2:=⟨_,rfl⟩;have H2b:H2[2]? =some (.cells [vi (bV g b i).n,.ls 3 1 0 (bV g b i).cl.length (bV g b i).cl.length,.any,vi g.ins,aF g.next,aF g.init,prs g.ands,aF g.outs,.any]):=by rw[←hH2,zqn (by omega),zqo,H1b];rfl
    refine BB mixed 13 MX (fun f' h'=>f'.t 6= .lp 1 0∧f'.t 9= .lp 2 0∧f'.d=[]∧h'=H2.set 2 (.cells [vi (bV g b i).n,.ls 3 1 0 (bV g b i).cl.length (bV g b i).cl.length,.ls 4 1 0 (rs.length+1) (rs.length+1),vi g.ins,aF g.next,aF g.init,prs g.ands,aF g.outs,.any])) (by decide +kernel) (by decide +kernel) ?_ ?_
    ·intro K hK;have h00 : h[0]? = some (.cells [vi g.ins,aF g.next,aF g.init,prs g.ands,aF g.outs]) := hB.bs 0 (by decide) (by decide) (by decide) (by decide);simp only [wq.1,seval,MX,mX,IA,t3,t9,hB.hb,h00]
     repeat' apply And.intro
     all_goals refine FQ (d:=70) rfl rfl rfl rfl (fun r' o ho hod=> ?_)
     all_goals refine nM (x:= .tmp 66) (y:= .tmp 69) (t:=22) (xt:=3) (el:=3) (by subst ho;exact⟨⟨_,rfl,rfl,rfl⟩,hti,rfl,htn,rfl,rfl,Nat.zero_lt_one⟩) (by simp only[wq.1,seval]) (by simp only[wq.1,seval]) (id:=r) (len:=row.length) (cap:=row.length) (by simp only[wq.1,seval]) hB.hr (by show(row.map vi).length=row.length*1;simp) (m:=g.ands.length) (by simp only[wq.1,seval]) htn rfl (by omega) rfl (zv:=vi 0) rfl (cs:=List.replicate g.ands.length (vi 0)) rfl (by rw[←List.map_replicate (f:=vi)];exact lN _) (by omega) (by show(row.length+g.ands.length)*8≤_;omega) (by simp only[wq.1,↓reduceIte,Nat.reduceEqDiff,Nat.reduceLT,Nat.reduceLeDiff,Nat.reduceAdd,Nat.reduceSub,Int.reduceToNat,Nat.reduceDiv,Int.reduceLT,Int.reduceLE,Int.reduceNeg,Int.reduceBEq,Int.reduceBNe,Int.reduceAdd,Int.reduceSub,Nat.reduceBEq,reduceCtorEq,Nat.reduceMul,au,Tryz.results86,hd]) (hK _ _ _ ?_)
     all_goals rw[hH1,hod]
     all_goals simp only[wq.1,↓reduceIte,Nat.reduceEqDiff,Nat.reduceLT,Nat.reduceLeDiff,Nat.reduceAdd,Nat.reduceSub,Int.reduceToNat,Nat.reduceDiv,Int.reduceLT,Int.reduceLE,Int.reduceNeg,Int.reduceBEq,Int.reduceBNe,Int.reduceAdd,Int.reduceSub,Nat.reduceBEq,reduceCtorEq,Nat.reduceMul,au,Tryz.results86,t3,t6,t9,t51,t52,hd,H1b,H1L,e2r,e4r,r4,e1r,hv4,hH2,H2b]
     all_goals exact⟨⟨rfl,by decide⟩,by omega,by omega,by omega⟩
    ·rintro f h' ⟨t6,t9,hd,rfl⟩;have H2l : H2.length = H1.length := by rw [← hH2];simp
     have h1l:1<h.length:=by omega
     obtain⟨H3,hH3⟩:∃H3,H2.set 2 (.cells [vi (bV g b i).n,.ls 3 1 0 (bV g b i).cl.length (bV g b i).cl.length,.ls 4 1 0 (rs.length+1) (rs.length+1),vi g.ins,aF g.next,aF g.init,prs g.ands,aF g.outs,.any])=H3:=⟨_,rfl⟩;have H3l:H3.length=h.length:=by rw[←hH3];simp;omega
     have H3b:H3[2]? =some (.cells [vi (bV g b i).n,.ls 3 1 0 (bV g b i).cl.length (bV g b i).cl.length,.ls 4 1 0 (rs.length+1) (rs.length+1),vi g.ins,aF g.next,aF g.init,prs g.ands,aF g.outs,.any]):=by rw[←hH3,zqt (by omega)]
     have go:∀(j:Nat) (cs:List V),j≠2→j≠4→j≠r→h[j]? =some (.cells cs)→(∀D,V.drops D cs=cs)→H3[j]? =some (.cells cs):=fun j cs j2 j4 jr hj hD=>by rw[←hH3,zqn (Ne.symm j2),←hH2,zqn (Ne.symm j4),zqo,←hH1,zqn (Ne.symm jr),zqo,hj];show some (O.cells (V.drops _ (V.drops _ cs)))=_;rw[hD,hD]
     have H31:H3[1]? =some (.cells [vi 0,.nils,.nils]):=go 1 _ (by decide) (by decide) (by omega) (hB.bs 1 (by decide) (by decide) (by decide) (by decide)) (fun D=>rfl);have H33:H3[3]? =some (.cells ((bV g b i).cl.map xC)):=go 3 _ (by decide) (by decide) (by omega) hB.hC (fun D=>nG _);have H34:H3[4]? =some (.cells ((rs.map fun p=>V.ls p.1 1 0 p.2.length p.2.length)++[.ls r 1 0 (row.length+g.ands.length) (row.length+g.ands.length)])):=by rw[←hH3,zqn (by decide),←hH2,zqt (by simp;omega)]
     have H3r:H3[r]? =some (.cells ((row++List.replicate g.ands.length 0).map vi)):=by rw[←hH3,zqn (by omega),←hH2,zqn (by omega),zqo,←hH1,zqt (by simpa using hrl3)];show some (O.cells (V.drops _ (V.drops _ _)))=_;rw[←List.map_replicate (f:=vi),←zql,bu,bu]
     have H3p:∀p∈rs,H3[p.1]? =some (.cells (p.2.map vi)):=fun p hp=>by obtain⟨p1,p2,p3⟩:=hB.hrs p hp;exact go p.1 _ (by omega) (by omega) p3 p1 (fun D=>bu _)
     show vc _ _ _ _ _ _ _;simp only[wq.1,seval,t6,t9,hd,H3b,H31,hH3];obtain⟨Y,hY⟩:∃Y:O,O.cells [vi (bV g b i).n,V.ls 3 1 0 (bV g b i).cl.length (bV g b i).cl.length,V.ls 4 1 0 (rs.length+1) (rs.length+1)]=Y:=⟨_,rfl⟩;have H41:(H3.set 1 Y)[1]? =some Y:=zqt (by omega);have H4o:∀j,j≠1→(H3.set 1 Y)[j]? =H3[j]? :=fun j hj=>zqn (Ne.symm hj);rw[hY,H41,←hY];rw[←hY]at H4o;have hE:eP g b i=rs.map (·.2)++[row++List.replicate g.ands.length 0]:=by unfold eP;rw[hrs,hrow]
     refine⟨zrb _,az.tup (aj.cons (az.agg (aj.cons (az.dat rfl) (aj.cons ?_ (aj.cons ?_ aj.nil)))) (aj.cons (az.dat rfl) aj.nil))⟩
     ·exact az.ls ((H4o 3 (by decide)).trans H33) (uG _) (kG _).1 (kG _).2 (by simp)
     ·refine az.ls ((H4o 4 (by decide)).trans H34) (cs' := (eP g b i).map fun c => aF c) ?_ (kG _).1 (kG _).2 (by rw [hE];simp);rw [hE,zql,List.map_map];refine aj.append (GG _ fun p hp => ?_) (aj.cons (qV (l := row ++ List.replicate g.ands.length 0) (len := row.length + g.ands.length) ?_ (by rw [zqa,List.length_replicate])) aj.nil) (by simp)
      ·exact(H4o _ (by have:=(hB.hrs p hp).2.1;omega)).trans (H3p p hp)
      ·exact(H4o _ (by omega)).trans H3r
abbrev tab (a b:List S):V:= .agg [dE a,dE b]
def sW (a b:List S):Int :=
 if(decide (200<a.length)||decide (200<b.length))=true then 8
 else if a.length≠b.length then 1
 else if(!(a.all bK)|| !(b.all bK))=true then 4
 else if(!(EO a)|| !(EO b))=true then 5
 else 0
theorem GH {a b:List S} (h:(decide (200<(a.length:Int))||decide (200<(b.length:Int)))=true):sW a b=8:=by unfold sW;rw[if_pos];simp only[Bool.or_eq_true,zqb]at h ⊢;omega
theorem rq {a b:List S} (h:(decide (200<(a.length:Int))||decide (200<(b.length:Int)))=false):sW a b =
 if((a.length:Int) != b.length)=true then 1 else if(!(a.all bK)|| !(b.all bK))=true then 4 else if(!(EO a)|| !(EO b))=true then 5 else 0:=by
 unfold sW;rw[if_neg]
 ·simp only[bne_iff_ne,ne_eq,Int.natCast_inj]
 ·simp only[Bool.or_eq_false_iff,zqd]at h;simp only[Bool.or_eq_true,zqb];omega
def inv (a b:List S):List S×List S:=if sW a b=0 then(b,a)else([],[])
def Na (a b:List S) (s:S):Option S:=if sW a b=0 then(at? a s).map fun i=>b.getD i []else none
def goV (o:Option S):V:= .tup [.str (o.getD []),.bool o.isSome]
theorem P7 {a b:List S} (h:sW a b=0):a.length=b.length:=by
 unfold sW at h;split at h
 ·cases h
 ·split at h
  ·cases h
  ·omega
def Q7 (m:List S×List Int) (s:S) (i:Int):List S×List Int :=
 match at? m.1 s with
 | some n=>(m.1,m.2.set n i)
 | none=>(m.1++[s],m.2++[i])
def kJ (l : List S) : Nat → List S × List Int
 | 0=>([],[])
 | i+1=>Q7 (kJ l i) (l.getD i []) i
def imV (m:List S×List Int):V:= .im (m.1.map V.str) (m.2.map (V.int .i64))
theorem nH (s : S) : ∀ (ks : List S),jB .str (.str s) (ks.map V.str) = some (at? ks s)
 | []=>rfl
 | k::ks=>by
  simp only[zrd,jB,keq,at?];by_cases h:k=s
  ·subst h;simp
  ·have : (s == k) = false := by simpa using fun h' => h h'.symm
   rw[this,nH s ks,if_neg h];cases at? ks s<;>rfl
theorem yx (m:List S×List Int) (s:S) (i:Int):Ju .str (.str s) (.int .i64 i) (m.1.map V.str) (m.2.map (V.int .i64))=some ((Q7 m s i).1.map V.str,(Q7 m s i).2.map (V.int .i64)):=by
 unfold Ju Q7;rw[nH];cases h:at? m.1 s with
 | none=>simp
 | some n =>
  obtain⟨h1,h2⟩:=o7 h;have:(m.1.map V.str).set n (.str s)=m.1.map V.str:=by rw[←List.map_set,←h2,List.set_getElem_self]
  simp only[this,List.map_set]
theorem kH {k:IntKind} {l:List Int}:V.dats (l.map (V.int k))=true:=by
 induction l with
 | nil=>rfl
 | cons a l ih=>simp only[zrd,V.dats,ih,V.dat,zre]
theorem wP (l:List S):Ev TE 56 [dE l] (imV (kJ l l.length)):=by
 refine Ev.bnd fun hb=> ?_;have hlen:=oM hb;refine ak Tryz.func56 rfl (by simp[nts]) (vm ?_);simp only[wq.1,seval,Tryz.results56];refine aC (fun m f h=>∃i,m+i=l.length∧f.t 3= .lm 0∧f.t 7=dE l∧f.t 8= .int .i64 (l.length:Int)∧f.t 9= .int .i64 (i:Int)∧f.d=[]∧h=[.map ((kJ l i).1.map V.str) ((kJ l i).2.map (V.int .i64))]) l.length ⟨0,by simp,rfl,rfl,rfl,rfl,rfl,rfl⟩ ?_;rintro m f h ⟨i,hm,h3,h7,h8,h9,hd,rfl⟩;refine vm ?_;simp only[wq.1,seval,h8,h9];refine vcB.mk (fun hc=> ?_) (fun hc=> ?_)
 ·simp only [zqb,zqi] at hc;simp only [wq.1,seval,h3,h7,h9,IW hc,yx,K.keyOk];refine ⟨⟨by omega,by omega⟩,.inl ⟨m - 1,by omega,i + 1,by omega,h3,h7,h8,by rw [aA (by omega)];rfl,hd,?_⟩⟩;have : l.getD i [] = l[i] := by simp [zqg,hc]
  simp only[kJ,this]
 ·simp only [zqd,zqi] at hc;have : i = l.length := by omega
  subst this;simp only[wq.1,seval,h3,hd];exact az.lm rfl (aj.dat gG) (aj.dat kH)
def l9 (m:List S×List Int) (s:S):Int:=match at? m.1 s with | some n=>m.2.getD n 0 | none=>-1
theorem P8 (m:List S×List Int) (hm:m.1.length=m.2.length) (s:S):Ev TE 93 [imV m,.str s] (.int .i64 (l9 m s)):=by
 refine ak Tryz.func93 rfl (by simp[nts]) (vm ?_);unfold l9;cases h:at? m.1 s with
 | none=>simp only[wq.1,seval,Tryz.results93,imV,nH,uq,K.keyOk,h];exact az.dat rfl
 | some n =>
  obtain⟨h1,h2⟩:=o7 h;have hn:n<m.2.length:=by omega
  have hg:(m.2.map (V.int .i64)).getD n .any= .int .i64 m.2[n]:=fO hn _;have hg2:m.2.getD n 0=m.2[n]:=by simp[zqg,hn]
  simp only[wq.1,seval,Tryz.results93,imV,nH,uq,K.keyOk,h,hg,hg2];exact az.dat rfl
theorem GK (l:List S) (hl:l.length≤1000000):Ev TE 53 [dE l] (dE l):=by
 refine ak Tryz.func53 rfl (by simp[nts]) (vm ?_);simp only[wq.1,↓reduceIte,Nat.reduceLT,reduceCtorEq,Tryz.results53];intro b hb;cases b
 ·have hM:maxLen=9223372036854775807:=rfl;simp only[wq.1,↓reduceIte,Nat.reduceEqDiff,Nat.reduceLT,reduceCtorEq,Nat.reduceMul,Ep];exact⟨⟨rfl,by decide⟩,⟨by omega,by omega⟩,kL rfl rfl⟩
 ·have : l = [] := by simpa using hb rfl
  subst this;simp only[wq.1,seval];exact az.nils
structure PlcOk (l : List S) (i : Nat) : Prop where
 le:(kJ l i).1.length≤i
 mem:∀s,s∈(kJ l i).1↔s∈l.take i
 len:(kJ l i).1.length=(kJ l i).2.length
 nd:(l.take i).Nodup→kJ l i=(l.take i,(List.range i).map Int.ofNat)
 dup:¬(l.take i).Nodup→(kJ l i).1.length<i
theorem Nb (l : List S) : ∀ i,i ≤ l.length → PlcOk l i
 | 0,_=>⟨zrb _,fun s=>by simp[kJ],rfl,fun _=>by simp[kJ],fun h=>by simp at h⟩
 | i+1,hi=>by
  have ih:=Nb l i (by omega);have hlt:i<l.length:=by omega
  have hg:l.getD i []=l[i]:=by simp[zqg,hlt]
  have ht:l.take (i+1)=l.take i++[l[i]]:=by rw[zrg];simp[hlt]
  cases hm:at? (kJ l i).1 l[i]with
  | some n =>
   have hp:kJ l (i+1)=((kJ l i).1,(kJ l i).2.set n i):=by simp only[kJ,Q7,hg,hm]
   obtain⟨h1,h2⟩:=o7 hm;have hin:l[i]∈l.take i:=(ih.mem _).1 (h2▸zqu h1);have hnd:¬(l.take (i+1)).Nodup:=by rw[ht,List.nodup_append];rintro⟨_,_,h3⟩;exact h3 _ hin _ (by simp) rfl
   refine⟨by rw[hp];have:=ih.le;exact Nat.le_succ_of_le this,fun s=> ?_,by rw[hp];simpa using ih.len,fun h=>absurd h hnd,fun _=>by rw[hp];exact Nat.lt_succ_of_le ih.le⟩;rw[hp,ht,zrf,ih.mem];constructor
   ·exact fun h=> .inl h
   ·rintro (h | h)
    ·exact h
    ·rw[zrc]at h;rw[h];exact hin
  | none =>
   have hp:kJ l (i+1)=((kJ l i).1++[l[i]],(kJ l i).2++[(i:Int)]):=by simp only[kJ,Q7,hg,hm]
   have hin:¬l[i]∈l.take i:=by intro h;obtain⟨n,hn⟩:=zV ((ih.mem _).2 h);rw[hm]at hn;cases hn
   refine⟨by rw[hp];simpa using ih.le,fun s=>by rw[hp,ht,zrf,zrf,ih.mem],by rw[hp];simpa using ih.len,fun h=> ?_,fun h=> ?_⟩
   ·have h0 : (l.take i).Nodup := by rw [ht,List.nodup_append] at h;exact h.1
    rw[hp,ih.nd h0,ht,List.range_succ,zql];rfl
   ·have h0:¬(l.take i).Nodup:=fun h0=>h (IY hlt h0 hin);rw[hp];simpa using ih.dup h0
theorem GL (l:List S):decide (((kJ l l.length).1.length:Int)<(l.length:Int))= !EO l:=by
 have h:=Nb l l.length (zrb _);by_cases hn:l.Nodup
 ·have h1:=h.nd (by rw[zrx];exact hn);simp[h1,EO,hn]
 ·have h1 := h.dup (by rw [zrx];exact hn);have : EO l = false := by simp [EO,hn]
  rw[this];simpa using h1
theorem Je {l:List S} (h:EO l=true) (s:S):l9 (kJ l l.length) s=match at? l s with | some n=>(n:Int) | none=>-1:=by
 have hn:l.Nodup:=by simpa [EO]using h
 have h1:=(Nb l l.length (zrb _)).nd (by rw[zrx];exact hn);unfold l9;rw[h1,zrx];cases hm:at? l s with
 | none=>rfl
 | some n=>obtain⟨h2,_⟩:=o7 hm;simp[zqg,h2]
theorem P9 {a b:List S} (h:(decide (200<(a.length:Int))||decide (200<(b.length:Int)))=false) (h2:((a.length:Int) != b.length)=true):sW a b=1:=by rw[rq h,if_pos h2]
theorem CU {a b:List S} (h:(decide (200<(a.length:Int))||decide (200<(b.length:Int)))=false) (h2:((a.length:Int) != b.length)=false) (h3:(!(a.all bK)|| !(b.all bK))=true):sW a b=4:=by rw[rq h,if_neg (by rw[h2];simp),if_pos h3]
theorem yz {a b:List S} (h:(decide (200<(a.length:Int))||decide (200<(b.length:Int)))=false) (h2:((a.length:Int) != b.length)=false) (h3:(!(a.all bK)|| !(b.all bK))=false) (h4:(!(EO a)|| !(EO b))=true):sW a b=5:=by rw[rq h,if_neg (by rw[h2];simp),if_neg (by rw[h3];simp),if_pos h4]
theorem TJ {a b:List S} (h:(decide (200<(a.length:Int))||decide (200<(b.length:Int)))=false) (h2:((a.length:Int) != b.length)=false) (h3:(!(a.all bK)|| !(b.all bK))=false) (h4:(!(EO a)|| !(EO b))=false):sW a b=0:=by rw[rq h,if_neg (by rw[h2];simp),if_neg (by rw[h3];simp),if_neg (by rw[h4];simp)]
theorem wQ (a b:List S):Ev TE 25 [tab a b] (.int .i64 (sW a b)):=by
 refine ak Tryz.func25 rfl (by simp[nts]) (vm ?_);simp only[wq.1,seval,Tryz.results25];refine vcB.mk (fun hc=> ?_) (fun hc=> ?_)
 ·simp only[wq.1,seval,hc];exact aQ rfl (by rw[GH (by rw[hc];rfl)])
 ·simp only [wq.1,seval,hc];refine vcB.mk (fun hc1 => ?_) (fun hc1 => ?_)
  ·simp only[wq.1,seval,hc1];exact aQ rfl (by rw[GH (by rw[hc1];simp)])
  ·have g1 : (decide (200 < (a.length : Int)) || decide (200 < (b.length : Int))) = false := by rw [hc,hc1];rfl
   simp only[wq.1,seval,hc1];refine vcB.mk (fun hc2=> ?_) (fun hc2=> ?_)
   ·simp only[wq.1,seval];exact aQ rfl (by rw[P9 g1 hc2])
   ·simp only [wq.1,seval];refine ah.ev (Gt a) rfl ?_;simp only [wq.1,seval];refine vcB.mk (fun hc3 => ?_) (fun hc3 => ?_)
    ·simp only[wq.1,seval,hc3];exact aQ rfl (by rw[CU g1 hc2 (by rw[hc3];rfl)])
    ·simp only [wq.1,seval,hc3];refine ah.ev (Gt b) rfl ?_;simp only [wq.1,seval];refine vcB.mk (fun hc4 => ?_) (fun hc4 => ?_)
     ·simp only[wq.1,seval,hc4];exact aQ rfl (by rw[CU g1 hc2 (by rw[hc4];simp)])
     ·have g3 : (!(a.all bK) || !(b.all bK)) = false := by rw [hc3,hc4];rfl
      simp only[wq.1,seval,hc4];refine⟨by decide +kernel,Ef.mk (wP a) rfl rfl ?_⟩;simp only[wq.1,seval,imV,GL];refine vcB.mk (fun hc5=> ?_) (fun hc5=> ?_)
      ·simp only[wq.1,seval,hc5];exact aQ rfl (by rw[yz g1 hc2 g3 (by rw[hc5];rfl)])
      ·simp only [wq.1,seval,hc5];refine ⟨by decide +kernel,Ef.mk (wP b) rfl rfl ?_⟩;simp only [wq.1,seval,imV,GL];refine vcB.mk (fun hc6 => ?_) (fun hc6 => ?_)
       ·simp only[wq.1,seval,hc6];exact aQ rfl (by rw[yz g1 hc2 g3 (by rw[hc6];simp)])
       ·simp only[wq.1,seval,hc6];exact aQ rfl (by rw[TJ g1 hc2 g3 (by rw[hc5,hc6];rfl)])
def mkT (a b:List S):List S×List S:=if sW a b=0 then(a,b)else([],[])
theorem VH (a b:List S) (ha:a.length≤1000000) (hb:b.length≤1000000):Ev TE 22 [dE a,dE b] (.tup [tab (mkT a b).1 (mkT a b).2,.int .i64 (sW a b)]):=by
 refine ak Tryz.func22 rfl (by simp[nts]) (vm ?_);simp only[wq.1,seval,Tryz.results22];refine ah.ev (GK a ha) rfl ?_;simp only[wq.1,seval];refine ah.ev (GK b hb) rfl ?_;simp only[wq.1,seval];refine ah.ev (wQ a b) rfl ?_;simp only[wq.1,seval];refine vcB.mk (fun hc=> ?_) (fun hc=> ?_)
 ·have h0 : mkT a b = ([],[]) := by unfold mkT;rw [if_neg (by simpa using hc)]
  rw[h0];simp only[wq.1,seval];exact az.tup (aj.cons (az.agg (aj.cons az.nils (aj.cons az.nils aj.nil))) (aj.cons (az.dat rfl) aj.nil))
 ·have hz : sW a b = 0 := by simpa using hc
  have h0:mkT a b=(a,b):=by unfold mkT;rw[if_pos hz]
  rw[h0];simp only[wq.1,seval,hz];exact az.dat rfl
theorem VI (s:S):Ev TE 92 [.str s] (goV none):=by refine ak Tryz.func92 rfl (by simp[nts]) (vm ?_);simp only[wq.1,seval,Tryz.results92];exact az.dat rfl
def wR (a b:List S):V :=
 if sW a b=0 then .fn (.func 94) [] [.ip (.fn (.func 93) [imV (kJ a a.length)] []),.ip (tab a b)]else .fn (.func 92) [] []
theorem GM (a b:List S):Ev TE 57 [tab a b] (wR a b):=by
 refine ak Tryz.func57 rfl (by simp[nts]) (vm ?_);simp only[wq.1,seval,Tryz.results57];refine ah.ev (wQ a b) rfl ?_;simp only[wq.1,seval];refine vcB.mk (fun hc=> ?_) (fun hc=> ?_)
 ·have h0 : wR a b = .fn (.func 92) [] [] := by unfold wR;rw [if_neg (by simpa using hc)]
  rw[h0];simp only[wq.1,seval];exact az.dat rfl
 ·have h0 : wR a b = .fn (.func 94) [] [.ip (.fn (.func 93) [imV (kJ a a.length)] []),.ip (tab a b)] := by unfold wR;rw [if_pos (by simpa using hc)]
  rw[h0];simp only[wq.1,seval];refine ah.ev (wP a) rfl ?_;simp only[wq.1,seval];exact az.fn aj.nil (aj.cons (az.lp rfl (aj.dat rfl) rfl rfl (by simp[V.vc]) rfl) (aj.cons (az.lp rfl (aj.dat rfl) rfl rfl (by simp[V.vc]) rfl) aj.nil))
theorem TK {a b:List S} {s:S} {n:Nat} (h:at? a s=some n) (hz:sW a b=0):∃h2:n<b.length,Na a b s=some b[n]:=by obtain⟨h1,_⟩:=o7 h;have:=P7 hz;exact⟨by omega,by simp[Na,hz,h,zqg,show n<b.length by omega]⟩
theorem Nc {a b:List S} (h:sW a b=0):EO a=true:=by
 unfold sW at h;split at h
 ·cases h
 ·split at h
  ·cases h
  ·split at h
   ·cases h
   ·split at h
    ·cases h
    ·rename_i hh;simp only[Bool.or_eq_true,Bool.not_eq_true',not_or,Bool.not_eq_false]at hh;exact hh.1
theorem VJ (a b:List S) (s:S) (hz:sW a b=0):Ev TE 94 [.str s,.ip (.fn (.func 93) [imV (kJ a a.length)] []),.ip (tab a b)] (goV (Na a b s)):=by
 refine ak Tryz.func94 rfl (by simp[nts]) (vm ?_);simp only[wq.1,seval,Tryz.results94];refine ah.ev (P8 _ (Nb a a.length (zrb _)).len s) rfl ?_;rw[Je (Nc hz)];cases h:at? a s with
 | none =>
  have h0:Na a b s=none:=by simp[Na,h]
  rw[h0];simp only[wq.1,seval];exact az.dat rfl
 | some n =>
  obtain⟨h2,h0⟩:=TK h hz;have hneg:decide ((n:Int)<0)=false:=by simp
  rw[h0];simp only[wq.1,seval,hneg,IW h2];exact⟨⟨by omega,by omega⟩,az.dat rfl⟩
theorem Nh (a b:List S) (s:S):Ev TE 26 [tab a b,.str s] (goV (Na a b s)):=by
 refine ak Tryz.func26 rfl (by simp[nts]) (vm ?_);by_cases hz:sW a b=0
 ·simp only[wq.1,seval,Tryz.results26];refine ah.ev (GM a b) rfl ?_;unfold wR;rw[if_pos hz];simp only[wq.1,seval];refine ah.ev (VJ a b s hz) rfl ?_;simp only[wq.1,seval,goV];exact az.dat rfl
 ·have h0 : Na a b s = none := by unfold Na;rw [if_neg hz]
  rw[h0];simp only[wq.1,seval,Tryz.results26];refine ah.ev (GM a b) rfl ?_;unfold wR;rw[if_neg hz];simp only[wq.1,seval];refine ah.ev (VI s) rfl ?_;simp only[wq.1,seval,goV];exact az.dat rfl
abbrev Lt:=S×Bool
abbrev DY (x:Lt):V:= .agg [.str x.1,.bool x.2]
abbrev iL (c:List Lt):V:= .is false 2 (c.map DY)
abbrev lss (l:List (List Lt)):V:= .is false 1 (l.map fun c=>iL c)
def lfl (c:List Lt):List V:=c.flatMap fun x=>[V.str x.1,V.bool x.2]
theorem Q8 : ∀ c : List Lt,(c.map DY).flatMap V.vc = lfl c
 | []=>rfl
 | x::c=>by rw[zrd,List.flatMap_cons,Q8 c];rfl
theorem EW : ∀ c : List Lt,(lfl c).length = c.length * 2
 | []=>rfl
 | x::c=>by show([V.str x.1,V.bool x.2]++lfl c).length=_;rw[zqa,EW c];simp;omega
theorem mf {p : Nat → Bool} : ∀ c : List Lt,V.drops p (lfl c) = lfl c
 | []=>rfl
 | x::c=>by show V.drop p (.str x.1)::V.drop p (.bool x.2)::V.drops p (lfl c)=_;rw[mf c];rfl
theorem Nj (c:List Lt) (x:Lt):lfl (c++[x])=lfl c++[V.str x.1,V.bool x.2]:=by unfold lfl;rw[List.flatMap_append];rfl
theorem GN : ∀ c : List Lt,V.dats (lfl c) = true
 | []=>rfl
 | x::c=>by show(V.dat (.str x.1)&&(V.dat (.bool x.2)&&V.dats (lfl c)))=true;rw[GN c];rfl
theorem GR : ∀ c : List Lt,dQ 2 (c.map DY) = true
 | []=>rfl
 | x::c=>by show(_&&dQ 2 (c.map DY))=true;rw[GR c];rfl
theorem fK : ∀ c : List Lt,V.dats (c.map DY) = true
 | []=>rfl
 | x::c=>by show(V.dat (DY x)&&V.dats (c.map DY))=true;rw[fK c];rfl
theorem mg {p : Nat → Bool} : ∀ l : List (List Lt),V.drops p (l.map fun c => iL c) = l.map fun c => iL c
 | []=>rfl
 | c::l=>by show V.drop p (iL c)::V.drops p (l.map fun c=>iL c)=_;rw[mg l];rfl
theorem gV : ∀ l : List (List Lt),V.dats (l.map fun c => iL c) = true ∧ dQ 1 (l.map fun c => iL c) = true ∧ (l.map fun c => iL c).flatMap V.vc = l.map fun c => iL c
 | []=>⟨rfl,rfl,rfl⟩
 | c::l=>by obtain⟨h1,h2,h3⟩:=gV l;simp only[zrd,V.dats,V.dat,dQ,V.fit,V.vc,V.one,List.flatMap_cons,h1,h2,h3,zrk,fK];exact⟨rfl,rfl,rfl⟩
theorem CV {h:H} {id len cap:Nat} {c:List Lt} (hc:h[id]? =some (.cells (lfl c))) (hl:len=c.length):az TE h (.ls id 2 0 len cap) (iL c) :=
 az.ls hc (aj.dat (GN c)) (GR c) (Q8 c) (by rw[zra];exact hl)
theorem GU {h:H} {id len cap:Nat} {l:List (List Lt)} (hc:h[id]? =some (.cells (l.map fun c=>iL c))) (hl:len=l.length):az TE h (.ls id 1 0 len cap) (lss l) :=
 az.ls hc (aj.dat (gV l).1) (gV l).2.1 (gV l).2.2 (by rw[zra];exact hl)
theorem Ac {c:List Lt} {i:Nat} (h:i<c.length) (d:V):(c.map DY).getD i d=DY c[i]:=fO h _
theorem xI {l:List (List Lt)} {i:Nat} (h:i<l.length) (d:V):(l.map fun c=>iL c).getD i d=iL l[i]:=fO h _
def Nk (x:Lt):S:=(if x.2 then 45 else 43)::x.1
theorem Nl (x:Lt) (hx:x.1.length≤1000000000):Ev TE 38 [DY x] (.str (Nk x)):=by
 have hM:maxLen=9223372036854775807:=rfl;refine ak Tryz.func38 rfl (by simp[nts]) (vm ?_);unfold Nk;cases hb:x.2 with
 | true=>simp only[wq.1,seval,Tryz.results38,hb];exact⟨by omega,az.dat rfl⟩
 | false=>simp only[wq.1,seval,Tryz.results38,hb];exact⟨by omega,az.dat rfl⟩
def VK (a b:List S) (o:Option (List Lt)) (x:Lt):Option (List Lt):=match o,Na a b x.1 with | some ds,some s=>some (ds++[(s,x.2)]) | _,_=>none
def Qa (a b:List S) (c:List Lt):Option (List Lt):=c.foldl (VK a b) (some [])
def VL (a b:List S) (o:Option (List (List Lt))) (c:List Lt):Option (List (List Lt)):=match o,Qa a b c with | some out,some d=>some (out++[d]) | _,_=>none
def Q9 (a b:List S) (l:List (List Lt)):Option (List (List Lt)):=l.foldl (VL a b) (some [])
def VM (a b:List S) (l:List (List Lt)):List (List Lt)×Int:=if sW a b=0 then(match Q9 a b l with | some o=>(o,0) | none=>([],12))else([],sW a b)
theorem CW {a b : List S} : ∀ c : List Lt,c.foldl (VK a b) none = none
 | []=>rfl
 | x::c=>by rw[List.foldl_cons];exact CW c
theorem CX {a b : List S} : ∀ l : List (List Lt),l.foldl (VL a b) none = none
 | []=>rfl
 | x::c=>by rw[List.foldl_cons];exact CX c
theorem CY {a b:List S} {c:List Lt} {i:Nat} (h:i<c.length):Qa a b (c.take (i+1))=VK a b (Qa a b (c.take i)) c[i]:=by unfold Qa;rw[zrg,zqk h,List.foldl_append];rfl
theorem CZ {a b:List S} {l:List (List Lt)} {i:Nat} (h:i<l.length):Q9 a b (l.take (i+1))=VL a b (Q9 a b (l.take i)) l[i]:=by unfold Q9;rw[zrg,zqk h,List.foldl_append];rfl
theorem Np {a b:List S} {c:List Lt} {i:Nat} (h:i<c.length) (hg:Na a b c[i].1=none):Qa a b c=none:=by
 have e:Qa a b (c.take (i+1))=none:=by rw[CY h];unfold VK;rw[hg];split<;>simp_all
 unfold Qa at e ⊢
 conv=>lhs;rw[←List.take_append_drop (i+1) c,List.foldl_append,e]
 exact CW _
theorem Nq {a b:List S} {l:List (List Lt)} {i:Nat} (h:i<l.length) (hg:Qa a b l[i]=none):Q9 a b l=none:=by
 have e:Q9 a b (l.take (i+1))=none:=by rw[CZ h];unfold VL;rw[hg];split<;>simp_all
 unfold Q9 at e ⊢
 conv=>lhs;rw[←List.take_append_drop (i+1) l,List.foldl_append,e]
 exact CX _
abbrev hRn (a b:List S) (outs:List (List Lt)):H:=[.cells [dE a,dE b],.cells (outs.map fun c=>iL c)]
abbrev hRd (a b:List S) (outs:List (List Lt)) (ds:List Lt):H:=[.cells [dE a,dE b],.cells (outs.map fun c=>iL c),.cells (lfl ds)]
theorem Jf (a b:List S) (l:List (List Lt)) (hl:l.length≤1000000) (hc:∀c∈l,c.length≤1000000):Ev TE 9 [lss l,tab a b] (.tup [lss (VM a b l).1,vi (VM a b l).2]):=by
 have hM:maxLen=9223372036854775807:=rfl;have hck:=wQ a b;refine ak Tryz.func9 rfl (by simp[nts]) ?_;refine ag (vm ?_);simp only[wq.1,Nat.reduceLT,Tryz.results9];refine ag (vm ?_);simp only[wq.1,seval];refine ah.ev hck rfl ?_;simp only[wq.1,seval];refine vcB.mk (fun hz=> ?_) (fun hz=> ?_)
 ·have hz : sW a b ≠ 0 := by simpa using hz
  unfold VM;rw[if_neg hz];simp only[wq.1,seval];exact az.tup (aj.cons az.nils (aj.cons (az.dat rfl) aj.nil))
 have hz:sW a b=0:=by simpa using hz
 unfold VM;rw[if_pos hz];simp only[wq.1];refine ag (vm ?_);simp only[wq.1,Nat.reduceLT];refine fH 7 1 (by simp only[wq.1,↓reduceIte]) ?_;refine ag (vm ?_);simp only[wq.1,seval];refine aC (fun m f h=>∃(i:Nat) (outs:List (List Lt)) (X:H),m+i=l.length∧outs.length=i∧Q9 a b (l.take i)=some outs∧f.t 3= .lp 0 0∧f.t 5=vi 0∧f.t 7= .ls 1 1 0 i i∧f.t 20=lss l∧f.t 21=vi l.length∧f.t 22=vi i∧f.d=[]∧h=hRn a b outs++X) l.length ⟨0,[],[],by omega,rfl,rfl,by simp only[wq.1,seval],by simp only[wq.1,seval],by simp only[wq.1,seval],by simp only[wq.1,seval],by simp only[wq.1,seval],rfl,by simp only[wq.1],rfl⟩ ?_;rintro m f h ⟨i,outs,X,hm,hol,hren,t3,t5,t7,t20,t21,t22,hd,rfl⟩;refine gZ (by rw[hd];simp) ?_;have cl1:(hRn a b outs).map (O.drop (aS (hRn a b outs).length))=hRn a b outs:=by
  show [O.cells [_,_],O.cells (V.drops _ _)]=_;rw[mg];rfl
 rw[cl1];refine ag (vm ?_);simp only[wq.1,seval,t21,t22];refine ag (bD (b:=decide ((i:Int)<l.length)) (by simp only[wq.1,↓reduceIte]) (by simp only[wq.1,↓reduceIte]) (fun hlt=> ?_) (fun hlt=> ?_))
 ·simp only[zqb,zqi]at hlt;have hw:=aA (show i<maxLen by omega);have hgl:=xI hlt .any;have hcl:=hc _ (zqu hlt);obtain⟨c,hce⟩:∃c,c=l[i]:=⟨_,rfl⟩;rw[←hce]at hgl hcl;refine vm ?_;simp only[wq.1];refine ag (aG ?_);refine ag (vm ?_);simp only[wq.1,seval,t20,t22,hgl];refine⟨⟨by omega,by omega⟩,?_⟩;refine ag (vm ?_);simp only[wq.1,Nat.reduceLT];refine fH 10 2 (by simp only[wq.1,↓reduceIte]) ?_;refine ag (vm ?_);simp only[wq.1,seval,hd,aS];refine aC (fun m' f h=>∃(j:Nat) (ds:List Lt) (Y:H),m'+j=c.length∧ds.length=j∧Qa a b (c.take j)=some ds∧f.t 3= .lp 0 0∧f.t 5=vi 0∧f.t 7= .ls 1 1 0 i i∧f.t 10= .ls 2 2 0 j j∧f.t 20=lss l∧f.t 21=vi l.length∧f.t 22=vi i∧f.t 26=iL c∧f.t 27=vi c.length∧f.t 28=vi j∧f.d=[]∧h=hRd a b outs ds++Y) c.length ⟨0,[],[],by omega,rfl,rfl,by simp only[wq.1,seval,t3,aS],by simp only[wq.1,seval,t5],by simp only[wq.1,seval,t7,aS],by simp only[wq.1,seval],by simp only[wq.1,seval,t20],by simp only[wq.1,seval,t21],by simp only[wq.1,seval,t22],by simp only[wq.1,seval],by simp only[wq.1,seval],rfl,by simp only[wq.1],rfl⟩ ?_;clear t3 t5 t7 t20 t21 t22 hd f;rintro m' f h ⟨j,ds,Y,hm',hdl,hrc,t3,t5,t7,t10,t20,t21,t22,t26,t27,t28,hd,rfl⟩;refine gZ (by rw[hd];simp) ?_;have cl2:(hRd a b outs ds).map (O.drop (aS (hRd a b outs ds).length))=hRd a b outs ds:=by
   show [O.cells [_,_],O.cells (V.drops _ _),O.cells (V.drops _ _)]=_;rw[mg,mf];rfl
  rw[cl2];refine ag (vm ?_);simp only[wq.1,seval,t27,t28];refine ag (bD (b:=decide ((j:Int)<c.length)) (by simp only[wq.1,↓reduceIte]) (by simp only[wq.1,↓reduceIte]) (fun hlt2=> ?_) (fun hlt2=> ?_))
  ·simp only [zqb,zqi] at hlt2;have hw2 := aA (show j < maxLen by omega);have hgc := Ac hlt2 .any;have hsucc := CY (a := a) (b := b) hlt2;obtain ⟨x,hx⟩ : ∃ x,x = c[j] := ⟨_,rfl⟩;rw [← hx] at hgc hsucc;have hah := Nh a b x.1;unfold goV at hah;refine vm ?_;simp only [wq.1];refine vm ?_;simp only [wq.1,seval,t3,t26,t28,hgc,aS];refine ⟨⟨by omega,by omega⟩,?_⟩;have hel : (lfl ds).length = j * 2 := by rw [EW,hdl]
   have dcs:∀p,V.drops p (lfl ds)=lfl ds:=fun p=>mf _;have dos:∀p,V.drops p (outs.map fun c=>iL c)=outs.map fun c=>iL c:=fun p=>mg _;cases hgo:Na a b x.1 with
   | none=>rw[hgo]at hah;have e:=Np hlt2 (by rw[←hx];exact hgo);have e2:=Nq hlt (by rw[←hce];exact e);rw[e2];refine ah.ev hah rfl ?_;simp only[wq.1,seval,hd,aS,Option.isSome_none];exact az.tup (aj.cons az.nils (aj.cons (az.dat rfl) aj.nil))
   | some s =>
    rw[hgo]at hah;refine ah.ev hah rfl ?_;simp only[wq.1,↓reduceIte,Nat.reduceEqDiff,Nat.reduceLT,Nat.reduceLeDiff,Nat.reduceAdd,reduceCtorEq,Nat.reduceMul,t10,t28,hd,aS,Option.isSome_some,Option.getD_some,hel,dcs,dos,hw2];refine⟨⟨rfl,by decide⟩,rfl,⟨rfl,by omega,by omega⟩,.inl ⟨m'-1,by omega,j+1,ds++[(s,x.2)],[.cells [.str x.1,.bool x.2]],by omega,by simp[hdl],?_,by simp only[wq.1,↓reduceIte,Nat.reduceEqDiff,Nat.reduceLT,Nat.reduceLeDiff,Nat.reduceAdd,Nat.reduceSub,Int.reduceToNat,Nat.reduceDiv,Int.reduceLT,Int.reduceLE,Int.reduceNeg,Int.reduceBEq,Int.reduceBNe,Int.reduceAdd,Int.reduceSub,Nat.reduceBEq,reduceCtorEq,Nat.reduceMul,au,Tryz.results9,t3,aS],by simp only[wq.1,↓reduceIte,Nat.reduceEqDiff,Nat.reduceLT,Nat.reduceLeDiff,Nat.reduceAdd,Nat.reduceSub,Int.reduceToNat,Nat.reduceDiv,Int.reduceLT,Int.reduceLE,Int.reduceNeg,Int.reduceBEq,Int.reduceBNe,Int.reduceAdd,Int.reduceSub,Nat.reduceBEq,reduceCtorEq,Nat.reduceMul,au,Tryz.results9,t5,aS],by simp only[wq.1,↓reduceIte,Nat.reduceEqDiff,Nat.reduceLT,Nat.reduceLeDiff,Nat.reduceAdd,Nat.reduceSub,Int.reduceToNat,Nat.reduceDiv,Int.reduceLT,Int.reduceLE,Int.reduceNeg,Int.reduceBEq,Int.reduceBNe,Int.reduceAdd,Int.reduceSub,Nat.reduceBEq,reduceCtorEq,Nat.reduceMul,au,Tryz.results9,t7,aS],by simp only[wq.1,↓reduceIte,Nat.reduceEqDiff,Nat.reduceLT,Nat.reduceLeDiff,Nat.reduceAdd,Nat.reduceSub,Int.reduceToNat,Nat.reduceDiv,Int.reduceLT,Int.reduceLE,Int.reduceNeg,Int.reduceBEq,Int.reduceBNe,Int.reduceAdd,Int.reduceSub,Nat.reduceBEq,reduceCtorEq,Nat.reduceMul,au,Tryz.results9],by simp only[wq.1,↓reduceIte,Nat.reduceEqDiff,Nat.reduceLT,Nat.reduceLeDiff,Nat.reduceAdd,Nat.reduceSub,Int.reduceToNat,Nat.reduceDiv,Int.reduceLT,Int.reduceLE,Int.reduceNeg,Int.reduceBEq,Int.reduceBNe,Int.reduceAdd,Int.reduceSub,Nat.reduceBEq,reduceCtorEq,Nat.reduceMul,au,Tryz.results9,t20,aS],by simp only[wq.1,↓reduceIte,Nat.reduceEqDiff,Nat.reduceLT,Nat.reduceLeDiff,Nat.reduceAdd,Nat.reduceSub,Int.reduceToNat,Nat.reduceDiv,Int.reduceLT,Int.reduceLE,Int.reduceNeg,Int.reduceBEq,Int.reduceBNe,Int.reduceAdd,Int.reduceSub,Nat.reduceBEq,reduceCtorEq,Nat.reduceMul,au,Tryz.results9,t21,aS],by simp only[wq.1,↓reduceIte,Nat.reduceEqDiff,Nat.reduceLT,Nat.reduceLeDiff,Nat.reduceAdd,Nat.reduceSub,Int.reduceToNat,Nat.reduceDiv,Int.reduceLT,Int.reduceLE,Int.reduceNeg,Int.reduceBEq,Int.reduceBNe,Int.reduceAdd,Int.reduceSub,Nat.reduceBEq,reduceCtorEq,Nat.reduceMul,au,Tryz.results9,t22,aS],by simp only[wq.1,↓reduceIte,Nat.reduceEqDiff,Nat.reduceLT,Nat.reduceLeDiff,Nat.reduceAdd,Nat.reduceSub,Int.reduceToNat,Nat.reduceDiv,Int.reduceLT,Int.reduceLE,Int.reduceNeg,Int.reduceBEq,Int.reduceBNe,Int.reduceAdd,Int.reduceSub,Nat.reduceBEq,reduceCtorEq,Nat.reduceMul,au,Tryz.results9,t26,aS],by simp only[wq.1,↓reduceIte,Nat.reduceEqDiff,Nat.reduceLT,Nat.reduceLeDiff,Nat.reduceAdd,Nat.reduceSub,Int.reduceToNat,Nat.reduceDiv,Int.reduceLT,Int.reduceLE,Int.reduceNeg,Int.reduceBEq,Int.reduceBNe,Int.reduceAdd,Int.reduceSub,Nat.reduceBEq,reduceCtorEq,Nat.reduceMul,au,Tryz.results9,t27,aS],by simp only[wq.1,↓reduceIte,Nat.reduceEqDiff,Nat.reduceLT,Nat.reduceLeDiff,Nat.reduceAdd,Nat.reduceSub,Int.reduceToNat,Nat.reduceDiv,Int.reduceLT,Int.reduceLE,Int.reduceNeg,Int.reduceBEq,Int.reduceBNe,Int.reduceAdd,Int.reduceSub,Nat.reduceBEq,reduceCtorEq,Nat.reduceMul,au,Tryz.results9],by simp only[wq.1,↓reduceIte,Nat.reduceEqDiff,Nat.reduceLT,Nat.reduceLeDiff,Nat.reduceAdd,Nat.reduceSub,Int.reduceToNat,Nat.reduceDiv,Int.reduceLT,Int.reduceLE,Int.reduceNeg,Int.reduceBEq,Int.reduceBNe,Int.reduceAdd,Int.reduceSub,Nat.reduceBEq,reduceCtorEq,Nat.reduceMul,au,Tryz.results9,hd],?_⟩⟩
    ·rw[hsucc,hrc];unfold VK;rw[hgo]
    ·rw[Nj];rfl
  ·simp only [zqd,zqi] at hlt2;have : j = c.length := by omega
   subst this;rw[zrx]at hrc;refine vm ?_;simp only[wq.1];show awp _ _ _ _ _ _ _;refine qK 2 10 (iL ds) (by simp only[wq.1,seval,t10,aS]) (by simp only[wq.1,seval,t10,aS];exact CV (by show some (O.cells (V.drops _ (lfl ds)))=_;rw[mf]) hdl.symm) (by simp only[wq.1,hd]) ?_;have dcs:∀p,V.drops p (lfl ds)=lfl ds:=fun p=>mf _;have dos:∀p,V.drops p (outs.map fun c=>iL c)=outs.map fun c=>iL c:=fun p=>mg _;rw[show iO (·==2) 0 (hRd a b outs ds)=[.cells [dE a,dE b],.cells (outs.map fun c=>iL c),.dead] by simp[iO,O.drop,V.drops,V.drop,dos]];refine mV (fun f'=>f'.t 3= .lp 0 0∧f'.t 5=vi 0∧f'.t 7= .ls 1 1 0 i i∧f'.t 10=iL ds∧f'.t 20=lss l∧f'.t 21=vi l.length∧f'.t 22=vi i∧f'.d=[]) _ (fun hk=>hk _ ⟨by simp only[wq.1,seval,t3,aS],by simp only[wq.1,seval,t5],by simp only[wq.1,seval,t7,aS],by simp only[wq.1,↓reduceIte],by simp only[wq.1,seval,t20],by simp only[wq.1,seval,t21],by simp only[wq.1,seval,t22],hd⟩) ?_;clear t3 t5 t7 t10 t20 t21 t22 t26 t27 t28 hd f;rintro f ⟨t3,t5,t7,t10,t20,t21,t22,hd⟩;have hel:(outs.map fun c=>iL c).length=i*1:=by rw[zra];omega
   refine vm ?_;simp only[wq.1,↓reduceIte,Nat.reduceEqDiff,Nat.reduceLT,reduceCtorEq,Nat.reduceMul,t7,t10,hd,dos];refine⟨⟨rfl,by decide⟩,⟨by omega,by omega,by omega⟩,?_⟩;refine vm ?_;simp only[wq.1,seval,t22,hw];refine .inl ⟨m-1,by omega,i+1,outs++[ds],[.dead],by omega,by simp[hol],?_,by simp only[wq.1,seval,t3],by simp only[wq.1,seval,t5],by simp only[wq.1,seval],by simp only[wq.1,seval,t20],by simp only[wq.1,seval,t21],by simp only[wq.1,↓reduceIte],hd,by rw[zql];rfl⟩;rw[CZ hlt,hren];unfold VL;rw[←hce,hrc]
 ·simp only [zqd,zqi] at hlt;have : i = l.length := by omega
  subst this;rw[zrx]at hren;rw[hren];refine vm ?_;simp only[wq.1];refine vm ?_;simp only[wq.1,seval,t7,hd,aS];exact az.tup (aj.cons (GU rfl hol.symm) (aj.cons (az.dat rfl) aj.nil))
abbrev ru (m:Mo):List S×List Int:=kJ m.lat m.lat.length
def dF (m:Mo) (s:S):Bool:=(at? (ru m).1 s).isSome
def jo (m:Mo) (l:List (List Lt)):Bool:=l.all fun c=>c.all fun x=>dF m x.1
def bY (m:Mo) (l:List (List Lt)):V×Int:=if m.chk≠0 then(.nilm,m.chk)else if jo m l then(imV (ru m),0)else(.nilm,12)
abbrev hPl (m:Mo) (p:List S×List Int):H:=[.cells [vi m.g.ins,aF m.g.next,aF m.g.init,prs m.g.ands,aF m.g.outs,dE m.ins,dE m.lat,dE m.out],.map (p.1.map V.str) (p.2.map (V.int .i64))]
theorem jQ {p : Nat → Bool} : ∀ l : List S,V.drops p (l.map V.str) = l.map V.str
 | []=>rfl
 | a::l=>by rw[zrd,V.drops,jQ l];rfl
theorem yA (m:Mo) (hs:m.g.Sm) (l:List (List Lt)) (hlat:m.lat.length≤1000000) (hl:l.length≤1000000) (hc:∀c∈l,c.length≤1000000):Ev TE 29 [m.v,lss l] (.tup [(bY m l).1,vi (bY m l).2]):=by
 have hM:maxLen=9223372036854775807:=rfl;have hck:=ML m hs;unfold Mo.v at hck ⊢;refine ak Tryz.func29 rfl (by simp[nts]) ?_;refine ag (vm ?_);simp only[wq.1,Nat.reduceLT,Tryz.results29];refine ag (vm ?_);simp only[wq.1,seval];refine ah.ev hck (by simp only[V.dats,V.dat,fK,zre]) ?_;simp only[wq.1,seval];refine vcB.mk (fun hz=> ?_) (fun hz=> ?_)
 ·have hz : m.chk ≠ 0 := by simpa using hz
  unfold bY;rw[if_pos hz];simp only[wq.1,seval];exact az.tup (aj.cons (az.dat rfl) (aj.cons (az.dat rfl) aj.nil))
 have hz:¬m.chk≠0:=by simpa using hz
 unfold bY;rw[if_neg hz];simp only[wq.1];refine ag (vm ?_);simp only[wq.1,seval];refine ag (vm ?_);simp only[wq.1,seval];refine aC (fun q f h=>∃i,q+i=m.lat.length∧f.t 1=lss l∧f.t 2= .lp 0 0∧f.t 7= .lm 1∧f.t 23=dE m.lat∧f.t 24=vi m.lat.length∧f.t 25=vi i∧f.d=[]∧h=hPl m (kJ m.lat i)) m.lat.length ⟨0,by omega,by simp only[wq.1,seval],by simp only[wq.1,seval],by simp only[wq.1,seval],by simp only[wq.1,seval],by simp only[wq.1,seval],rfl,by simp only[wq.1],rfl⟩ ?_;rintro q f h ⟨i,hq,t1,t2,t7,t23,t24,t25,hd,rfl⟩;refine ag (vm ?_);simp only[wq.1,Nat.reduceLT,t24,t25];refine ag (bD (b:=decide ((i:Int)<m.lat.length)) (by simp only[wq.1,↓reduceIte]) (by simp only[wq.1,↓reduceIte]) (fun hlt=> ?_) (fun hlt=> ?_))
 ·simp only [zqb,zqi] at hlt;have hw := aA (show i < maxLen by omega);refine vm ?_;simp only [wq.1];refine vm ?_;simp only [wq.1,seval,t7,t23,t25,IW hlt,yx,K.keyOk,hw];refine ⟨⟨by omega,by omega⟩,.inl ⟨q - 1,by omega,i + 1,by omega,t1,t2,t7,t23,t24,by simp only [wq.1,↓reduceIte],hd,?_⟩⟩;have : m.lat.getD i [] = m.lat[i] := by simp [zqg,hlt]
  simp only[kJ,this,hPl]
 simp only[zqd,zqi]at hlt;have:i=m.lat.length:=by omega
 subst this;refine vm ?_;simp only[wq.1];show awp _ _ _ _ _ _ _;refine ag (vm ?_);simp only[wq.1,seval,t1];refine aC (fun q f h=>∃(i:Nat) (X:H),q+i=l.length∧jo m (l.take i)=true∧f.t 2= .lp 0 0∧f.t 7= .lm 1∧f.t 34=lss l∧f.t 35=vi l.length∧f.t 36=vi i∧f.d=[]∧h=hPl m (ru m)++X) l.length ⟨0,[],by omega,rfl,t2,t7,by simp only[wq.1,seval],by simp only[wq.1,seval],rfl,hd,by rw[zqp]⟩ ?_;clear t1 t2 t7 t23 t24 t25 hd hlt f hq q;rintro q f h ⟨i,X,hq,hkn,t2,t7,t34,t35,t36,hd,rfl⟩;have dl:∀p,V.drops p ((ru m).1.map V.str)=(ru m).1.map V.str:=fun p=>jQ _;have dv:∀p,V.drops p ((ru m).2.map (V.int .i64))=(ru m).2.map (V.int .i64):=fun p=>bu _;have cl1:(hPl m (ru m)).map (O.drop (aS (hPl m (ru m)).length))=hPl m (ru m):=by
  simp only[hPl,zrd,List.map_nil,O.drop,dl,dv];rfl
 refine gZ (by rw[hd];simp) ?_;rw[cl1];refine ag (vm ?_);simp only[wq.1,seval,t35,t36];refine ag (bD (b:=decide ((i:Int)<l.length)) (by simp only[wq.1,↓reduceIte]) (by simp only[wq.1,↓reduceIte]) (fun hlt=> ?_) (fun hlt=> ?_))
 ·simp only[zqb,zqi]at hlt;have hw:=aA (show i<maxLen by omega);have hgl:=xI hlt .any;have hcl:=hc _ (zqu hlt);have hfa:jo m l=true→(l[i].all fun x=>dF m x.1)=true:=fun h=>zrs.1 h _ (zqu hlt);have hsu:(l[i].all fun x=>dF m x.1)=true→jo m (l.take (i+1))=true:=fun h=>by
   unfold jo at hkn ⊢;rw[zrg,zqk hlt,List.all_append,hkn];simpa using h
  obtain⟨c,hce⟩:∃c,c=l[i]:=⟨_,rfl⟩;rw[←hce]at hgl hcl hfa hsu;refine vm ?_;simp only[wq.1];refine ag (aG ?_);refine ag (vm ?_);simp only[wq.1,seval,t34,t36,hgl];refine⟨⟨by omega,by omega⟩,?_⟩;refine ag (vm ?_);simp only[wq.1,seval];refine aG ?_;refine aC (fun q' f h=>∃(j:Nat) (Y:H),q'+j=c.length∧(∀x∈c.take j,dF m x.1=true)∧f.t 2= .lp 0 0∧f.t 7= .lm 1∧f.t 34=lss l∧f.t 35=vi l.length∧f.t 36=vi i∧f.t 40=iL c∧f.t 41=vi c.length∧f.t 42=vi j∧f.d=[]∧h=hPl m (ru m)++Y) c.length ⟨0,[],by omega,by simp,by simp only[wq.1,seval,t2,aS],by simp only[wq.1,seval,t7,aS],by simp only[wq.1,seval,t34],by simp only[wq.1,seval,t35],by simp only[wq.1,seval,t36],by simp only[wq.1,seval],by simp only[wq.1,seval],rfl,hd,by rw[zqp]⟩ ?_;clear t2 t7 t34 t35 t36 hd f;rintro q' f h ⟨j,Y,hq',hkj,t2,t7,t34,t35,t36,t40,t41,t42,hd,rfl⟩;refine gZ (by rw[hd];simp) ?_;rw[cl1];refine ag (vm ?_);simp only[wq.1,seval,t41,t42];refine ag (bD (b:=decide ((j:Int)<c.length)) (by simp only[wq.1,↓reduceIte]) (by simp only[wq.1,↓reduceIte]) (fun hlt2=> ?_) (fun hlt2=> ?_))
  ·simp only[zqb,zqi]at hlt2;have hw2:=aA (show j<maxLen by omega);have hgc:=Ac hlt2 .any;have hma:=zqu hlt2;have hsx:dF m c[j].1=true→∀x∈c.take (j+1),dF m x.1=true:=fun h x hx=>by
    rw[zrg,zqk hlt2]at hx;rcases zrf.1 hx with hx | hx
    ·exact hkj x hx
    ·have : x = c[j] := by simpa using hx
     rw[this];exact h
   obtain⟨x,hx⟩:∃x,x=c[j]:=⟨_,rfl⟩;rw[←hx]at hgc hma hsx;have hkx:dF m x.1=(at? (ru m).1 x.1).isSome:=rfl;refine vm ?_;simp only[wq.1];cases hat:at? (ru m).1 x.1 with
   | none=>refine vm ?_;simp only[wq.1,seval,t7,t40,t42,hd,hgc,aS,uq,jh,K.keyOk,hat];refine⟨⟨by omega,by omega⟩,?_⟩;rw[if_neg (fun h=>by have:=zrs.1 (hfa h) x hma;rw[hkx,hat]at this;cases this)];exact az.tup (aj.cons (az.dat rfl) (aj.cons (az.dat rfl) aj.nil))
   | some w=>refine vm ?_;simp only[wq.1,seval,t7,t40,t42,hgc,aS,uq,jh,K.keyOk,hat,hw2];refine⟨⟨by omega,by omega⟩,.inl ⟨q'-1,by omega,j+1,[.cells [.str x.1,.bool x.2]],by omega,hsx (by rw[hkx,hat];rfl),by simp only[wq.1,seval,t2,aS],by simp only[wq.1,seval,t7,aS],by simp only[wq.1,seval,t34],by simp only[wq.1,seval,t35],by simp only[wq.1,seval,t36],by simp only[wq.1,seval,t40],by simp only[wq.1,seval,t41],by simp only[wq.1,↓reduceIte],hd,rfl⟩⟩
  ·simp only [zqd,zqi] at hlt2;have : j = c.length := by omega
   subst this;rw[zrx]at hkj;refine vm ?_;simp only[wq.1];refine vm ?_;simp only[wq.1,seval,t36,hw];exact .inl ⟨q-1,by omega,i+1,[],by omega,hsu (zrs.2 fun x hx=>hkj x hx),by simp only[wq.1,seval,t2,aS],by simp only[wq.1,seval,t7,aS],by simp only[wq.1,seval,t34],by simp only[wq.1,seval,t35],by simp only[wq.1,↓reduceIte],hd,rfl⟩
 ·simp only [zqd,zqi] at hlt;have : i = l.length := by omega
  subst this;rw[zrx]at hkn;rw[if_pos hkn];refine vm ?_;simp only[wq.1];refine vm ?_;simp only[wq.1,seval,t7,hd,aS];exact az.tup (aj.cons (az.lm rfl (aj.dat gG) (aj.dat kH)) (aj.cons (az.dat rfl) aj.nil))
end Go.Proofs.YtmlacppmbfbjgaaGreatDoor
