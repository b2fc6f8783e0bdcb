/- Lemmas for this claim, part F10: each holds under what it names. -/
import Derived.Test.YtmlacppmbfbjgaaGreatDoorTF09
import Derived.Test.YtmlacppmbfbjgaaGreatDoorTA10
set_option linter.unusedVariables false
set_option linter.unusedSimpArgs false
set_option linter.unnecessarySimpa false
set_option maxRecDepth 20000
set_option maxHeartbeats 4000000
namespace Go.Proofs.YtmlacppmbfbjgaaGreatDoor
open Go Go.Proofs Go.Abs
theorem MR : ∀ (l : Cl) (s : Nat × Cl) (d : Int),(∀ b ∈ l,0 ≤ b ∧ b ≤ 2) → l.foldl (fun n b => n + b / 2) ((s.1 : Int) + d) = ((l.foldl wF s).1 : Int) + d
 | [],s,d,_=>rfl
 | b::l,s,d,hl=>by
  have hb:=hl b (by simp);have hr:∀x∈l,0≤x∧x≤2:=fun x hx=>hl x (by simp[hx]);rw[List.foldl_cons,List.foldl_cons,←MR l (wF s b) d hr]
  congr 1
  unfold wF;split
  ·rename_i h;subst h;show(s.1:Int)+d+2/2=((s.1+1:Nat):Int)+d;omega
  ·show (s.1 : Int) + d + b / 2 = (s.1 : Int) + d;have : b / 2 = 0 := by omega
   omega
theorem MS {g : Gr} {b : Cl} : ∀ k,(gz g b k).n = (EW b).1 + k * (g.ins.toNat + g.ands.length)
 | 0=>by simp[gz]
 | k+1=>by show((gz g b k).ands g g.ands.length).n=_;rw[oh (zrb _),MS k,Nat.add_mul,Nat.one_mul];omega
theorem MV {g : Gr} {b : Cl} : ∀ k,(gz g b k).cl.length = 1 + 3 * (k * g.ands.length)
 | 0=>by simp[gz]
 | k+1=>by show((gz g b k).ands g g.ands.length).cl.length=_;rw[sJ (zrb _),MV k,Nat.add_mul,Nat.one_mul];omega
theorem jM {g : Gr} {b : Cl} : ∀ k,(gz g b k).rows.length = k
 | 0=>rfl
 | k+1=>by show((gz g b k).rows++[_]).length=_;rw[zqa,jM k];rfl
def iG (g:Gr) (b:Cl) (k:Nat):List Cl:=(gz g b k).rows++[pW g (gz g b k).lat++List.replicate g.ands.length 0]
def Xb (g:Gr) (b:Cl) (k:Nat):V:= .agg [vi (gz g b k).n,cls (gz g b k).cl,cls (iG g b k)]
def pX (g:Gr) (b:Cl) (k:Int):V:=if Aj g b k=0 then Xb g b k.toNat else .agg [vi 0,cls [],cls []]
abbrev hU5 (g:Gr) (n:Nat) (cl lat:Cl):H:=[.cells [vi g.ins,aH g.next,aH g.init,prs g.ands,aH g.outs],.cells [vi 0,.nils,.nils],bU g n (.ls 3 1 0 1 1) (.ls 4 1 0 0 0) .nils,.cells [xC cl],.cells [],.cells (lat.map vi)]
theorem Tm {g:Gr} {b:Cl} {k:Int} (h:Aj g b k=0):g.chk=0∧b.length=g.next.length∧(∀x∈b,0≤x∧x≤2)∧0≤k∧k≤40∧Wn g k b≤20000:=by
 unfold Aj at h;split at h
 ·rename_i hc;exact absurd h hc
 ·rename_i hc;split at h
  ·cases h
  ·rename_i ho;split at h
   ·cases h
   ·rename_i hk;split at h
    ·cases h
    ·rename_i hn;refine⟨by omega,by omega,fun x hx=> ?_,by omega,by omega,by omega⟩;have:xN x=false:=by
      cases e:xN x with
      | false=>rfl
      | true=>exact absurd (.inr (List.any_eq_true.2 ⟨x,hx,e⟩)) ho
     simp only[xN,Bool.or_eq_false_iff,zqd]at this;omega
theorem kG : ∀ l : List Cl,dO 1 (l.map fun c => aH c) = true ∧ (l.map fun c => aH c).flatMap V.vc = l.map fun c => aH c
 | []=>⟨rfl,rfl⟩
 | c::l=>by
  obtain⟨h1,h2⟩:=kG l;refine⟨?_,?_⟩
  ·show(_&&dO 1 (l.map fun c=>aH c))=true;rw[h1];rfl
  ·rw[zrd,List.flatMap_cons,h2];rfl
theorem uA {h : H} : ∀ l : List Cl,ak TE h (l.map xC) (l.map fun c => aH c)
 | []=>ak.nil
 | c::l=>ak.cons (fun ok pl w x hs hv=>dF _ _ (az.dat (by simp only[V.dat]) ok pl w x hs hv)) (uA l)
theorem GR {h : H} : ∀ rs : List (Nat × Cl),(∀ p ∈ rs,h[p.1]? = some (.cells (p.2.map vi))) → ak TE h (rs.map fun p => V.ls p.1 1 0 p.2.length p.2.length) (rs.map ((fun c => aH c) ∘ fun p => p.2))
 | [],_=>ak.nil
 | p::rs,hp=>ak.cons (qR (hp p (by simp)) rfl) (GR rs fun q hq=>hp q (by simp[hq]))
def MW:Plan:= .take 0<| .take 1<| .take 2<| .take 3<| .take 4<| .take 6<| .take 7<| .take 8<| .take 10<| .alt 5 (.alt 9 (.one 11<| .one 12<| .one 13<| .one 14<| .one 15<| .take 16<| .take 17<| .take 18<| .one 19<| .fin) (.one 11 (.alt 9 (.one 12<| .one 13<| .one 14<| .one 15<| .take 16<| .take 17<| .take 18<| .one 19<| .fin) (.one 12 (.one 9<| .one 13<| .one 14<| .one 15<| .take 16<| .take 17<| .take 18<| .one 19<| .fin))))) (.alt 9 (.alt 5 (.one 11<| .one 12<| .one 13<| .one 14<| .one 15<| .take 16<| .take 17<| .take 18<| .one 19<| .fin) (.one 11 (.alt 5 (.one 12<| .one 13<| .one 14<| .one 15<| .take 16<| .take 17<| .take 18<| .one 19<| .fin) (.one 12 (.alt 5 (.one 13<| .one 14<| .one 15<| .take 16<| .take 17<| .take 18<| .one 19<| .fin) (.one 13 (.alt 5 (.one 14<| .one 15<| .take 16<| .take 17<| .take 18<| .one 19<| .fin) (.one 14 (.one 5<| .one 15<| .take 16<| .take 17<| .take 18<| .one 19<| .fin))))))))) (.one 11 (.alt 5 (.alt 9 (.one 12<| .one 13<| .one 14<| .one 15<| .take 16<| .take 17<| .take 18<| .one 19<| .fin) (.one 12 (.one 9<| .one 13<| .one 14<| .one 15<| .take 16<| .take 17<| .take 18<| .one 19<| .fin))) (.alt 9 (.alt 5 (.one 12<| .one 13<| .one 14<| .one 15<| .take 16<| .take 17<| .take 18<| .one 19<| .fin) (.one 12 (.alt 5 (.one 13<| .one 14<| .one 15<| .take 16<| .take 17<| .take 18<| .one 19<| .fin) (.one 13 (.alt 5 (.one 14<| .one 15<| .take 16<| .take 17<| .take 18<| .one 19<| .fin) (.one 14 (.one 5<| .one 15<| .take 16<| .take 17<| .take 18<| .one 19<| .fin))))))) (.one 12 (.alt 5 (.one 9<| .one 13<| .one 14<| .one 15<| .take 16<| .take 17<| .take 18<| .one 19<| .fin) (.one 9 (.alt 5 (.one 13<| .one 14<| .one 15<| .take 16<| .take 17<| .take 18<| .one 19<| .fin) (.one 13 (.alt 5 (.one 14<| .one 15<| .take 16<| .take 17<| .take 18<| .one 19<| .fin) (.one 14 (.one 5<| .one 15<| .take 16<| .take 17<| .take 18<| .one 19<| .fin))))))))))))
abbrev hU6 (g:Gr) (n:Nat) (lat:Cl):H:=[.cells [vi g.ins,aH g.next,aH g.init,prs g.ands,aH g.outs],.cells [vi 0,.nils,.nils],bU g n (.ls 3 1 0 1 1) (.ls 4 1 0 0 0) (.ls 6 1 0 (pW g lat).length (pW g lat).length),.cells [xC [1]],.cells [],.cells (lat.map vi),.cells ((pW g lat).map vi)]
theorem MX (g:Gr) (b:Cl) (k:Int) (hs:g.Sm) (hb:b.length≤1000000):Ev TE 86 [g.v,aH b,vi k] (.tup [pX g b k,vi (Aj g b k)]):=by
 have hM:maxLen=9223372036854775807:=rfl;have hc0:=Tj g b k hs hb;unfold Gr.v at hc0 ⊢;refine ai Tryz.func86 rfl (by simp[nts]) ?_;refine ag (vm ?_);simp only[wq.1,Nat.reduceLT,Tryz.results86];refine ag (vm ?_);simp only[wq.1,seval];refine ah.ev hc0 rfl ?_;simp only[wq.1,seval];refine vcB.mk (fun hz=> ?_) (fun hz=> ?_)
 ·have hz : Aj g b k ≠ 0 := by simpa using hz
  unfold pX;rw[if_neg hz];simp only[wq.1,seval];refine az.tup (ak.cons (az.agg (ak.cons (az.dat rfl) (ak.cons az.nils (ak.cons az.nils ak.nil)))) (ak.cons (az.dat rfl) ak.nil))
 ·have hz : Aj g b k = 0 := by simpa using hz
  unfold pX;rw[if_pos hz,hz];simp only[wq.1,Int.reduceBNe];obtain⟨hg,hbl,hb2,k0,k1,hnu⟩:=Tm hz;obtain⟨q,rfl⟩:∃q:Nat,k=q:=⟨k.toNat,by omega⟩;clear hc0;obtain⟨_,i0,i1,i2,i3,i4,i5⟩:=jL hg;rw[Int.toNat_natCast];refine ag (vm ?_);simp only[wq.1,seval];refine jI (jI ?_);refine vw (h':=[.cells [vi g.ins,aH g.next,aH g.init,prs g.ands,aH g.outs],.cells [vi 0,.nils,.nils],bU g 0 (.ls 3 1 0 0 0) (.ls 4 1 0 0 0) .nils,.cells [],.cells []]) (HLe.set (i:=2) (o':=bU g 0 (.ls 3 1 0 0 0) (.ls 4 1 0 0 0) .nils) rfl (OLe.cells (by simp) (gX.cons (VLe.refl _) (gX.cons gJ (gX.cons gJ (gX.refl _)))))) ?_;refine ag (vm ?_);simp only[wq.1,↓reduceIte,Nat.reduceEqDiff,Nat.reduceLT];refine mZ (b:=2) (g:=g) (n:=0) (cv:= .ls 3 1 0 0 0) (lv:= .ls 4 1 0 0 0) (rv:= .nils) rfl (by omega) ?_;simp only[wq.1,↓reduceIte,Nat.reduceEqDiff,Nat.reduceLT,reduceCtorEq,Nat.reduceMul];refine⟨⟨rfl,by decide⟩,?_⟩;refine oL (b:=2) (C:=3) (n:=1) (g:=g) (cl:=[]) (c:=[1]) (lv:= .ls 4 1 0 0 0) (rv:= .nils) (by decide) rfl rfl (fun j o ho hj=> ?_) rfl rfl (by simp) ?_
  ·rcases j with _|_|_|_|_|j
   all_goals first
    | exact absurd rfl hj
    | (obtain rfl:=Option.some.inj ho;rfl)
    | (simp at ho)
  simp only[wq.1,aX];refine ag (vm ?_);simp only[wq.1,Nat.reduceLT];refine dC 10 1 (by simp only[wq.1,↓reduceIte]) ?_;refine ag (vm ?_);simp only[wq.1,seval];refine aB (fun m f h=>∃i,m+i=b.length∧f.t 2=vi q∧f.t 3= .lp 0 0∧f.t 6= .lp 1 0∧f.t 9= .lp 2 0∧f.t 10= .ls 5 1 0 i i∧f.t 30=aH b∧f.t 31=vi b.length∧f.t 32=vi i∧f.d=[]∧h=hU5 g ((b.take i).foldl wF (1,[])).1 [1] ((b.take i).foldl wF (1,[])).2) b.length ⟨0,by omega,by simp only[wq.1,seval],by simp only[wq.1,seval],by simp only[wq.1,seval],by simp only[wq.1,seval],by simp only[wq.1,seval],by simp only[wq.1,seval],by simp only[wq.1,seval],rfl,by simp only[wq.1],rfl⟩ ?_;rintro m f h ⟨i,hm,t2,t3,t6,t9,t10,t30,t31,t32,hd,rfl⟩;refine ag (vm ?_);simp only[wq.1,Nat.reduceLT,t31,t32];refine ag (bG (b:=decide ((i:Int)<b.length)) (by simp only[wq.1,↓reduceIte]) (by simp only[wq.1,↓reduceIte]) (fun hlt=> ?_) (fun hlt=> ?_))
  ·simp only[zqb,zqi]at hlt;have hw:=aA (show i<maxLen by omega);have hgn:(b.map vi).getD i .any=vi b[i]:=ED hlt _;have hbi:=hb2 _ (zqu hlt);have hnx:(b.take (i+1)).foldl wF (1,[])=wF ((b.take i).foldl wF (1,[])) b[i]:=by
    rw[zrg,zqk hlt,List.foldl_append];rfl
   have hbo:=yD (b.take i) (1,[]) (fun x hx=>hb2 x (List.mem_of_mem_take hx)) (zrb _) (fun a ha=>by cases ha);obtain⟨s,hsd⟩:∃s,s=(b.take i).foldl wF (1,[]):=⟨_,rfl⟩;rw[←hsd]at hnx hbo ⊢;obtain⟨s1,s2⟩:=s;obtain⟨o1,o2,o3,o4⟩:=hbo;have o4:s2.length=i:=by rw[o4];simp;omega
   have o2 : s1 ≤ 1 + i := by have : (b.take i).length = i := by simp; omega
                              simp only at o2;omega
   refine vm ?_;simp only[wq.1];refine vm ?_;have w1:IntKind.i64.wrap (2*b[i])=2*b[i]:=dh (by omega) (by omega);have w2:IntKind.i64.wrap (2*b[i]-1)=2*b[i]-1:=dh (by omega) (by omega);simp only[wq.1,seval,t30,t32,hgn,w1,w2];have hcl2:(s2.map vi).length=i*1:=by rw[zra];omega
   have dcs:∀p,V.drops p (s2.map vi)=s2.map vi:=fun p=>bD _;refine⟨⟨by omega,by omega⟩,?_⟩;refine vcB.mk (fun h2=> ?_) (fun h2=> ?_)
   ·have h2 : b[i] = 2 := by simpa using h2
    simp only[wq.1,seval,t9];refine mZ (b:=2) (g:=g) (n:=s1) (cv:= .ls 3 1 0 1 1) (lv:= .ls 4 1 0 0 0) (rv:= .nils) rfl (by omega) ?_;simp only[wq.1,↓reduceIte,Nat.reduceEqDiff,Nat.reduceLT,Nat.reduceBEq,reduceCtorEq,Nat.reduceMul,t10,t32,hd,dcs,hw];refine⟨⟨rfl,by decide⟩,⟨by omega,by omega,by omega⟩,.inl ⟨m-1,by omega,i+1,by omega,by simp only[wq.1,↓reduceIte,Nat.reduceEqDiff,Nat.reduceLT,Nat.reduceLeDiff,Nat.reduceAdd,Nat.reduceSub,Int.reduceToNat,Nat.reduceDiv,Int.reduceLT,Int.reduceLE,Int.reduceNeg,Int.reduceBEq,Int.reduceBNe,Int.reduceAdd,Int.reduceSub,Nat.reduceBEq,reduceCtorEq,Nat.reduceMul,ax,Tryz.results86,t2],by simp only[wq.1,↓reduceIte,Nat.reduceEqDiff,Nat.reduceLT,Nat.reduceLeDiff,Nat.reduceAdd,Nat.reduceSub,Int.reduceToNat,Nat.reduceDiv,Int.reduceLT,Int.reduceLE,Int.reduceNeg,Int.reduceBEq,Int.reduceBNe,Int.reduceAdd,Int.reduceSub,Nat.reduceBEq,reduceCtorEq,Nat.reduceMul,ax,Tryz.results86,t3],by simp only[wq.1,↓reduceIte,Nat.reduceEqDiff,Nat.reduceLT,Nat.reduceLeDiff,Nat.reduceAdd,Nat.reduceSub,Int.reduceToNat,Nat.reduceDiv,Int.reduceLT,Int.reduceLE,Int.reduceNeg,Int.reduceBEq,Int.reduceBNe,Int.reduceAdd,Int.reduceSub,Nat.reduceBEq,reduceCtorEq,Nat.reduceMul,ax,Tryz.results86,t6],by simp only[wq.1,↓reduceIte,Nat.reduceEqDiff,Nat.reduceLT,Nat.reduceLeDiff,Nat.reduceAdd,Nat.reduceSub,Int.reduceToNat,Nat.reduceDiv,Int.reduceLT,Int.reduceLE,Int.reduceNeg,Int.reduceBEq,Int.reduceBNe,Int.reduceAdd,Int.reduceSub,Nat.reduceBEq,reduceCtorEq,Nat.reduceMul,ax,Tryz.results86,t9],by simp only[wq.1,↓reduceIte,Nat.reduceEqDiff,Nat.reduceLT,Nat.reduceLeDiff,Nat.reduceAdd,Nat.reduceSub,Int.reduceToNat,Nat.reduceDiv,Int.reduceLT,Int.reduceLE,Int.reduceNeg,Int.reduceBEq,Int.reduceBNe,Int.reduceAdd,Int.reduceSub,Nat.reduceBEq,reduceCtorEq,Nat.reduceMul,ax,Tryz.results86],by simp only[wq.1,↓reduceIte,Nat.reduceEqDiff,Nat.reduceLT,Nat.reduceLeDiff,Nat.reduceAdd,Nat.reduceSub,Int.reduceToNat,Nat.reduceDiv,Int.reduceLT,Int.reduceLE,Int.reduceNeg,Int.reduceBEq,Int.reduceBNe,Int.reduceAdd,Int.reduceSub,Nat.reduceBEq,reduceCtorEq,Nat.reduceMul,ax,Tryz.results86,t30],by simp only[wq.1,↓reduceIte,Nat.reduceEqDiff,Nat.reduceLT,Nat.reduceLeDiff,Nat.reduceAdd,Nat.reduceSub,Int.reduceToNat,Nat.reduceDiv,Int.reduceLT,Int.reduceLE,Int.reduceNeg,Int.reduceBEq,Int.reduceBNe,Int.reduceAdd,Int.reduceSub,Nat.reduceBEq,reduceCtorEq,Nat.reduceMul,ax,Tryz.results86,t31],by simp only[wq.1,↓reduceIte,Nat.reduceEqDiff,Nat.reduceLT,Nat.reduceLeDiff,Nat.reduceAdd,Nat.reduceSub,Int.reduceToNat,Nat.reduceDiv,Int.reduceLT,Int.reduceLE,Int.reduceNeg,Int.reduceBEq,Int.reduceBNe,Int.reduceAdd,Int.reduceSub,Nat.reduceBEq,reduceCtorEq,Nat.reduceMul,ax,Tryz.results86],by simp only[wq.1,↓reduceIte,Nat.reduceEqDiff,Nat.reduceLT,Nat.reduceLeDiff,Nat.reduceAdd,Nat.reduceSub,Int.reduceToNat,Nat.reduceDiv,Int.reduceLT,Int.reduceLE,Int.reduceNeg,Int.reduceBEq,Int.reduceBNe,Int.reduceAdd,Int.reduceSub,Nat.reduceBEq,reduceCtorEq,Nat.reduceMul,ax,Tryz.results86,hd],?_⟩⟩;rw[hnx];simp only[hU5,wF,if_pos h2,zql];rfl
   ·have h2 : b[i] ≠ 2 := by simpa using h2
    simp only[wq.1,↓reduceIte,Nat.reduceEqDiff,Nat.reduceLT,Nat.reduceBEq,reduceCtorEq,Nat.reduceMul,t10,t32,hd,dcs,hw];refine⟨⟨rfl,by decide⟩,⟨by omega,by omega,by omega⟩,.inl ⟨m-1,by omega,i+1,by omega,by simp only[wq.1,↓reduceIte,Nat.reduceEqDiff,Nat.reduceLT,Nat.reduceLeDiff,Nat.reduceAdd,Nat.reduceSub,Int.reduceToNat,Nat.reduceDiv,Int.reduceLT,Int.reduceLE,Int.reduceNeg,Int.reduceBEq,Int.reduceBNe,Int.reduceAdd,Int.reduceSub,Nat.reduceBEq,reduceCtorEq,Nat.reduceMul,ax,Tryz.results86,t2],by simp only[wq.1,↓reduceIte,Nat.reduceEqDiff,Nat.reduceLT,Nat.reduceLeDiff,Nat.reduceAdd,Nat.reduceSub,Int.reduceToNat,Nat.reduceDiv,Int.reduceLT,Int.reduceLE,Int.reduceNeg,Int.reduceBEq,Int.reduceBNe,Int.reduceAdd,Int.reduceSub,Nat.reduceBEq,reduceCtorEq,Nat.reduceMul,ax,Tryz.results86,t3],by simp only[wq.1,↓reduceIte,Nat.reduceEqDiff,Nat.reduceLT,Nat.reduceLeDiff,Nat.reduceAdd,Nat.reduceSub,Int.reduceToNat,Nat.reduceDiv,Int.reduceLT,Int.reduceLE,Int.reduceNeg,Int.reduceBEq,Int.reduceBNe,Int.reduceAdd,Int.reduceSub,Nat.reduceBEq,reduceCtorEq,Nat.reduceMul,ax,Tryz.results86,t6],by simp only[wq.1,↓reduceIte,Nat.reduceEqDiff,Nat.reduceLT,Nat.reduceLeDiff,Nat.reduceAdd,Nat.reduceSub,Int.reduceToNat,Nat.reduceDiv,Int.reduceLT,Int.reduceLE,Int.reduceNeg,Int.reduceBEq,Int.reduceBNe,Int.reduceAdd,Int.reduceSub,Nat.reduceBEq,reduceCtorEq,Nat.reduceMul,ax,Tryz.results86,t9],by simp only[wq.1,↓reduceIte,Nat.reduceEqDiff,Nat.reduceLT,Nat.reduceLeDiff,Nat.reduceAdd,Nat.reduceSub,Int.reduceToNat,Nat.reduceDiv,Int.reduceLT,Int.reduceLE,Int.reduceNeg,Int.reduceBEq,Int.reduceBNe,Int.reduceAdd,Int.reduceSub,Nat.reduceBEq,reduceCtorEq,Nat.reduceMul,ax,Tryz.results86],by simp only[wq.1,↓reduceIte,Nat.reduceEqDiff,Nat.reduceLT,Nat.reduceLeDiff,Nat.reduceAdd,Nat.reduceSub,Int.reduceToNat,Nat.reduceDiv,Int.reduceLT,Int.reduceLE,Int.reduceNeg,Int.reduceBEq,Int.reduceBNe,Int.reduceAdd,Int.reduceSub,Nat.reduceBEq,reduceCtorEq,Nat.reduceMul,ax,Tryz.results86,t30],by simp only[wq.1,↓reduceIte,Nat.reduceEqDiff,Nat.reduceLT,Nat.reduceLeDiff,Nat.reduceAdd,Nat.reduceSub,Int.reduceToNat,Nat.reduceDiv,Int.reduceLT,Int.reduceLE,Int.reduceNeg,Int.reduceBEq,Int.reduceBNe,Int.reduceAdd,Int.reduceSub,Nat.reduceBEq,reduceCtorEq,Nat.reduceMul,ax,Tryz.results86,t31],by simp only[wq.1,↓reduceIte,Nat.reduceEqDiff,Nat.reduceLT,Nat.reduceLeDiff,Nat.reduceAdd,Nat.reduceSub,Int.reduceToNat,Nat.reduceDiv,Int.reduceLT,Int.reduceLE,Int.reduceNeg,Int.reduceBEq,Int.reduceBNe,Int.reduceAdd,Int.reduceSub,Nat.reduceBEq,reduceCtorEq,Nat.reduceMul,ax,Tryz.results86],by simp only[wq.1,↓reduceIte,Nat.reduceEqDiff,Nat.reduceLT,Nat.reduceLeDiff,Nat.reduceAdd,Nat.reduceSub,Int.reduceToNat,Nat.reduceDiv,Int.reduceLT,Int.reduceLE,Int.reduceNeg,Int.reduceBEq,Int.reduceBNe,Int.reduceAdd,Int.reduceSub,Nat.reduceBEq,reduceCtorEq,Nat.reduceMul,ax,Tryz.results86,hd],?_⟩⟩;rw[hnx];simp only[hU5,wF,if_neg h2,zql];rfl
  ·simp only [zqd,zqi] at hlt;have : i = b.length := by omega
   subst this;have hbo:=yD b (1,[]) hb2 (zrb _) (fun a ha=>by cases ha);rw[zrx];obtain⟨o1,o2,o3,o4⟩:=hbo;obtain⟨lat,hlat⟩:∃lat,lat=(b.foldl wF (1,[])).2:=⟨_,rfl⟩;obtain⟨n0,hn0⟩:∃n0,n0=(b.foldl wF (1,[])).1:=⟨_,rfl⟩;rw[←hlat,←hn0]at o3;rw[←hlat]at o4;rw[←hn0]at o1 o2;rw[←hlat,←hn0];have o4:lat.length=b.length:=by rw[o4];simp
   rw[←o4]at t10;refine vm ?_;simp only[wq.1];refine vm ?_;simp only[wq.1,seval,t9,t10];refine tH (b:=2) (q:=5) (n:=n0) (g:=g) (cv:= .ls 3 1 0 1 1) (lv:= .ls 4 1 0 0 0) (rv:= .nils) (lat:=lat) rfl rfl (fun j o ho=> ?_) i0 (by omega) (by omega) (by decide) ?_
   ·rcases j with _|_|_|_|_|_|j
    all_goals first
     | (obtain rfl:=Option.some.inj ho;rfl)
     | (obtain rfl:=Option.some.inj ho;show O.cells (V.drops _ _)=_;rw[bD])
     | (simp at ho)
   simp only[wq.1,seval,aX,t2,hd];have hnb:n0+q*(g.ins.toNat+g.ands.length)≤20000:=by
    have e:=MR b (1,[]) (q*(g.ins+g.ands.length)) hb2;have e2:Wn g q b=b.foldl (fun n b=>n+b/2) (((1:Nat):Int)+q*(g.ins+g.ands.length)):=rfl;rw[e2,e,←hn0]at hnu;have e3:((q*(g.ins.toNat+g.ands.length):Nat):Int)=q*(g.ins+g.ands.length):=by rw[Int.natCast_mul,Int.natCast_add,Int.toNat_of_nonneg i0]
    omega
   have hB0:BH g 6 (hU6 g n0 lat) 2 3 4 (gz g b 0).n (gz g b 0).cl [] 6 (pW g (gz g b 0).lat) (hU6 g n0 lat):=by
    have e1 : (gz g b 0).n = n0 := hn0.symm;have e2 : (gz g b 0).lat = lat := hlat.symm;rw [e1,e2];exact {
     hb:=rfl
     hC:=rfl
     hL:=rfl
     hr:=rfl
     hrs:=fun p hp=>by cases hp
     n1:=by decide
     n2:=by decide
     n3:=by decide
     bk:=by decide
     Ck:=by decide
     Lk:=by decide
     rk:=by decide
     pl:=fun j o ho j1 j2 D=>by
      rcases j with _|_|_|_|_|_|_|j
      all_goals first
       | exact absurd rfl j1
       | exact absurd rfl j2
       | (obtain rfl:=Option.some.inj ho;rfl)
       | (obtain rfl:=Option.some.inj ho;show O.cells (V.drops _ _)=_;rw[bD])
       | (simp at ho)
     bs:=fun _ _ _ _ _=>rfl}
   refine aB (fun m f h=>∃(i r:Nat) (rs:List (Nat×Cl)),m+i=q∧BH g 6 (hU6 g n0 lat) 2 3 4 (gz g b i).n (gz g b i).cl rs r (pW g (gz g b i).lat) h∧rs.map (·.2)=(gz g b i).rows∧f.t 3= .lp 0 0∧f.t 6= .lp 1 0∧f.t 9= .lp 2 0∧f.t 51=vi q∧f.t 52=vi i∧f.d=[]) q ⟨0,6,[],by omega,hB0,rfl,by simp only[wq.1,seval,t3],by simp only[wq.1,seval,t6],by simp only[wq.1,seval,t9],by simp only[wq.1,seval],rfl,hd⟩ ?_;clear t2 t3 t6 t9 t10 t30 t31 t32 hd hm f;rintro m f h ⟨i,r,rs,hm,hB,hrs,t3,t6,t9,t51,t52,hd⟩;have hrl:rs.length=i:=by rw[←jM (g:=g) (b:=b) i,←hrs,zra]
   have hni:=MS (g:=g) (b:=b) i;have hci:=MV (g:=g) (b:=b) i;have hmul:i*(g.ins.toNat+g.ands.length)≤q*(g.ins.toNat+g.ands.length):=Nat.mul_le_mul_right _ (by omega);have hmul2:i*g.ands.length≤i*(g.ins.toNat+g.ands.length):=Nat.mul_le_mul_left _ (by omega);have hb0:(EW b).1=n0:=hn0.symm;rw[hb0]at hni;refine ag (vm ?_);simp only[wq.1,Nat.reduceLT,t51,t52];refine ag (bG (b:=decide ((i:Int)<q)) (by simp only[wq.1,↓reduceIte]) (by simp only[wq.1,↓reduceIte]) (fun hlt=> ?_) (fun hlt=> ?_))
   ·simp only[zqb,zqi]at hlt;have hw:=aA (show i<maxLen by omega);refine vm ?_;simp only[wq.1];refine vm ?_;simp only[wq.1,seval,t9];refine Je hg hB (CY hg hbl hb2 i) (by omega) (by omega) (by omega) (fun h' r' hB'=> ?_);simp only[wq.1,seval,aX,t52,hd,hw];refine .inl ⟨m-1,by omega,i+1,r',_,by omega,hB',?_,by simp only[wq.1,seval,t3],by simp only[wq.1,seval,t6],by simp only[wq.1,seval,t9],by simp only[wq.1,seval,t51],by simp only[wq.1,↓reduceIte],hd⟩;rw[zql,hrs];rfl
   ·simp only [zqd,zqi] at hlt;have : i = q := by omega
    subst this;refine vm ?_;simp only[wq.1];show awp _ _ _ _ _ _ _;have hti:ti TE.P 22=some ⟨.slice 3,1,24,.nils⟩:=by simp only[wq.1]
    have htn:ti TE.P 3=some ⟨.int .i64,1,8,.int .i64 0⟩:=by simp only[wq.1]
    have hrk:=hB.rk;have e2r:(2==r)=false:=by simp;omega
    have e4r:(4==r)=false:=by simp;omega
    have e3r:(3==r)=false:=by simp;omega
    have hll:=(CY hg hbl hb2 i).l;obtain⟨row,hrow⟩:∃row,row=pW g (gz g b i).lat:=⟨_,rfl⟩;have hrl2:row.length=1+g.ins.toNat+g.next.length:=by rw[hrow];unfold pW;simp;omega
    rw[←hrow]at hB;have hbl2:=(zqe hB.hb).1;have hLl:=(zqe hB.hL).1;have hrl3:=(zqe hB.hr).1;obtain⟨H1,hH1⟩:∃H1,(h.map (O.drop fun x=>x==r)).set r (.cells (V.drops (fun x=>x==r) (row.map vi++List.replicate g.ands.length (vi 0))))=H1:=⟨_,rfl⟩;have H1b:H1[2]? =some (.cells [vi (gz g b i).n,.ls 3 1 0 (gz g b i).cl.length (gz g b i).cl.length,.ls 4 1 0 rs.length rs.length,vi g.ins,aH g.next,aH g.init,prs g.ands,aH g.outs,.any]):=by
     rw[←hH1,zqn (by omega),zqo,hB.hb];simp only[zrw,bU,O.drop,V.drops,V.drop,beq_self_eq_true,if_true,e3r,e4r,zrm,if_false]
    have H1L:H1[4]? =some (.cells (rs.map fun p=> .ls p.1 1 0 p.2.length p.2.length)):=by rw[←hH1,zqn (by omega),zqo,hB.hL];show some (O.cells (V.drops _ _))=_;rw[sG fun p hp=>by have:=(hB.hrs p hp).2.2;simpa using this]
    have r4:(r==4)=false:=by simp;omega
    have e1r:(1==r)=false:=by simp;omega
    have hv4:V.drops (fun x=>x==4) (rs.map fun p=>V.ls p.1 1 0 p.2.length p.2.length)=rs.map fun p=>V.ls p.1 1 0 p.2.length p.2.length:=sG fun p hp=>by have:=(hB.hrs p hp).2.1;simp;omega
    have H1l:H1.length=h.length:=by rw[←hH1];simp
    obtain⟨H2,hH2⟩:∃H2,(H1.map (O.drop fun x=>x==4)).set 4 (.cells ((rs.map fun p=>V.ls p.1 1 0 p.2.length p.2.length)++[.ls r 1 0 (row.length+g.ands.length) (row.length+g.ands.length)]))=H2:=⟨_,rfl⟩;have H2b:H2[2]? =some (.cells [vi (gz g b i).n,.ls 3 1 0 (gz g b i).cl.length (gz g b i).cl.length,.any,vi g.ins,aH g.next,aH g.init,prs g.ands,aH g.outs,.any]):=by rw[←hH2,zqn (by omega),zqo,H1b];rfl
    refine BQ mixed 13 MW (fun f' h'=>f'.t 6= .lp 1 0∧f'.t 9= .lp 2 0∧f'.d=[]∧h'=H2.set 2 (.cells [vi (gz g b i).n,.ls 3 1 0 (gz g b i).cl.length (gz g b i).cl.length,.ls 4 1 0 (rs.length+1) (rs.length+1),vi g.ins,aH g.next,aH g.init,prs g.ands,aH g.outs,.any])) (by decide +kernel) (by decide +kernel) ?_ ?_
    ·intro K hK;have h00 : h[0]? = some (.cells [vi g.ins,aH g.next,aH g.init,prs g.ands,aH g.outs]) := hB.bs 0 (by decide) (by decide) (by decide) (by decide);simp only [wq.1,seval,MW,mO,II,t3,t9,hB.hb,h00]
     repeat' apply And.intro
     all_goals refine FW (d:=70) rfl rfl rfl rfl (fun r' o ho hod=> ?_)
     all_goals refine nG (x:= .tmp 66) (y:= .tmp 69) (t:=22) (xt:=3) (el:=3) (by subst ho;exact⟨⟨_,rfl,rfl,rfl⟩,hti,rfl,htn,rfl,rfl,Nat.zero_lt_one⟩) (by simp only[wq.1,seval]) (by simp only[wq.1,seval]) (id:=r) (len:=row.length) (cap:=row.length) (by simp only[wq.1,seval]) hB.hr (by show(row.map vi).length=row.length*1;simp) (m:=g.ands.length) (by simp only[wq.1,seval]) htn rfl (by omega) rfl (zv:=vi 0) rfl (cs:=List.replicate g.ands.length (vi 0)) rfl (by rw[←List.map_replicate (f:=vi)];exact lM _) (by omega) (by show(row.length+g.ands.length)*8≤_;omega) (by simp only[wq.1,↓reduceIte,Nat.reduceEqDiff,Nat.reduceLT,Nat.reduceLeDiff,Nat.reduceAdd,Nat.reduceSub,Int.reduceToNat,Nat.reduceDiv,Int.reduceLT,Int.reduceLE,Int.reduceNeg,Int.reduceBEq,Int.reduceBNe,Int.reduceAdd,Int.reduceSub,Nat.reduceBEq,reduceCtorEq,Nat.reduceMul,ax,Tryz.results86,hd]) (hK _ _ _ ?_)
     all_goals rw[hH1,hod]
     all_goals simp only[wq.1,↓reduceIte,Nat.reduceEqDiff,Nat.reduceLT,Nat.reduceLeDiff,Nat.reduceAdd,Nat.reduceSub,Int.reduceToNat,Nat.reduceDiv,Int.reduceLT,Int.reduceLE,Int.reduceNeg,Int.reduceBEq,Int.reduceBNe,Int.reduceAdd,Int.reduceSub,Nat.reduceBEq,reduceCtorEq,Nat.reduceMul,ax,Tryz.results86,t3,t6,t9,t51,t52,hd,H1b,H1L,e2r,e4r,r4,e1r,hv4,hH2,H2b]
     all_goals exact⟨⟨rfl,by decide⟩,by omega,by omega,by omega⟩
    ·rintro f h' ⟨t6,t9,hd,rfl⟩;have H2l : H2.length = H1.length := by rw [← hH2];simp
     have h1l:1<h.length:=by omega
     obtain⟨H3,hH3⟩:∃H3,H2.set 2 (.cells [vi (gz g b i).n,.ls 3 1 0 (gz g b i).cl.length (gz g b i).cl.length,.ls 4 1 0 (rs.length+1) (rs.length+1),vi g.ins,aH g.next,aH g.init,prs g.ands,aH g.outs,.any])=H3:=⟨_,rfl⟩;have H3l:H3.length=h.length:=by rw[←hH3];simp;omega
     have H3b:H3[2]? =some (.cells [vi (gz g b i).n,.ls 3 1 0 (gz g b i).cl.length (gz g b i).cl.length,.ls 4 1 0 (rs.length+1) (rs.length+1),vi g.ins,aH g.next,aH g.init,prs g.ands,aH g.outs,.any]):=by rw[←hH3,zqt (by omega)]
     have go:∀(j:Nat) (cs:List V),j≠2→j≠4→j≠r→h[j]? =some (.cells cs)→(∀D,V.drops D cs=cs)→H3[j]? =some (.cells cs):=fun j cs j2 j4 jr hj hD=>by rw[←hH3,zqn (Ne.symm j2),←hH2,zqn (Ne.symm j4),zqo,←hH1,zqn (Ne.symm jr),zqo,hj];show some (O.cells (V.drops _ (V.drops _ cs)))=_;rw[hD,hD]
     have H31:H3[1]? =some (.cells [vi 0,.nils,.nils]):=go 1 _ (by decide) (by decide) (by omega) (hB.bs 1 (by decide) (by decide) (by decide) (by decide)) (fun D=>rfl);have H33:H3[3]? =some (.cells ((gz g b i).cl.map xC)):=go 3 _ (by decide) (by decide) (by omega) hB.hC (fun D=>ng _);have H34:H3[4]? =some (.cells ((rs.map fun p=>V.ls p.1 1 0 p.2.length p.2.length)++[.ls r 1 0 (row.length+g.ands.length) (row.length+g.ands.length)])):=by rw[←hH3,zqn (by decide),←hH2,zqt (by simp;omega)]
     have H3r:H3[r]? =some (.cells ((row++List.replicate g.ands.length 0).map vi)):=by rw[←hH3,zqn (by omega),←hH2,zqn (by omega),zqo,←hH1,zqt (by simpa using hrl3)];show some (O.cells (V.drops _ (V.drops _ _)))=_;rw[←List.map_replicate (f:=vi),←zql,bD,bD]
     have H3p:∀p∈rs,H3[p.1]? =some (.cells (p.2.map vi)):=fun p hp=>by obtain⟨p1,p2,p3⟩:=hB.hrs p hp;exact go p.1 _ (by omega) (by omega) p3 p1 (fun D=>bD _)
     show vc _ _ _ _ _ _ _;simp only[wq.1,seval,t6,t9,hd,H3b,H31,hH3];obtain⟨Y,hY⟩:∃Y:O,O.cells [vi (gz g b i).n,V.ls 3 1 0 (gz g b i).cl.length (gz g b i).cl.length,V.ls 4 1 0 (rs.length+1) (rs.length+1)]=Y:=⟨_,rfl⟩;have H41:(H3.set 1 Y)[1]? =some Y:=zqt (by omega);have H4o:∀j,j≠1→(H3.set 1 Y)[j]? =H3[j]? :=fun j hj=>zqn (Ne.symm hj);rw[hY,H41,←hY];rw[←hY]at H4o;have hE:iG g b i=rs.map (·.2)++[row++List.replicate g.ands.length 0]:=by unfold iG;rw[hrs,hrow]
     refine⟨zrb _,az.tup (ak.cons (az.agg (ak.cons (az.dat rfl) (ak.cons ?_ (ak.cons ?_ ak.nil)))) (ak.cons (az.dat rfl) ak.nil))⟩
     ·exact az.ls ((H4o 3 (by decide)).trans H33) (uA _) (kG _).1 (kG _).2 (by simp)
     ·refine az.ls ((H4o 4 (by decide)).trans H34) (cs' := (iG g b i).map fun c => aH c) ?_ (kG _).1 (kG _).2 (by rw [hE];simp);rw [hE,zql,List.map_map];refine ak.append (GR _ fun p hp => ?_) (ak.cons (qR (l := row ++ List.replicate g.ands.length 0) (len := row.length + g.ands.length) ?_ (by rw [zqa,List.length_replicate])) ak.nil) (by simp)
      ·exact(H4o _ (by have:=(hB.hrs p hp).2.1;omega)).trans (H3p p hp)
      ·exact(H4o _ (by omega)).trans H3r
abbrev tab (a b:List S):V:= .agg [bF a,bF b]
def ni (a b:List S):Int :=
 if(decide (200<a.length)||decide (200<b.length))=true then 8
 else if a.length≠b.length then 1
 else if(!(a.all bf)|| !(b.all bf))=true then 4
 else if(!(wE a)|| !(wE b))=true then 5
 else 0
theorem Ak {a b:List S} (h:(decide (200<(a.length:Int))||decide (200<(b.length:Int)))=true):ni a b=8:=by unfold ni;rw[if_pos];simp only[Bool.or_eq_true,zqb]at h ⊢;omega
theorem oq {a b:List S} (h:(decide (200<(a.length:Int))||decide (200<(b.length:Int)))=false):ni a b =
 if((a.length:Int) != b.length)=true then 1 else if(!(a.all bf)|| !(b.all bf))=true then 4 else if(!(wE a)|| !(wE b))=true then 5 else 0:=by
 unfold ni;rw[if_neg]
 ·simp only[bne_iff_ne,ne_eq,Int.natCast_inj]
 ·simp only[Bool.or_eq_false_iff,zqd]at h;simp only[Bool.or_eq_true,zqb];omega
theorem yE (a b:List S):Ev TE 27 [tab a b] (.int .i64 (ni a b)):=by
 refine ai Tryz.func27 rfl (by simp[nts]) (vm ?_);simp only[wq.1,seval,Tryz.results27];refine vcB.mk (fun hc=> ?_) (fun hc=> ?_)
 ·simp only[wq.1,seval];rw[Ak hc];exact az.dat rfl
 ·rw [oq hc];simp only [wq.1,seval];refine vcB.mk (fun hc2 => ?_) (fun hc2 => ?_)
  ·rw[if_pos hc2];simp only[wq.1,seval];exact az.dat rfl
  ·rw [if_neg (by rw [hc2];simp)];simp only [wq.1,seval];refine ah.ev (Gx a) rfl ?_;simp only [wq.1,seval];refine AX.ev (q := 58) (vs := [bF b]) (by simp only [wq.1,↓reduceIte]) (by simp only [wq.1,↓reduceIte]) rfl (fun _ => Gx b) (fun _ => rfl) ?_;simp only [wq.1,seval];refine vcB.mk (fun hc3 => ?_) (fun hc3 => ?_)
   ·rw[if_pos hc3];simp only[wq.1,seval];exact az.dat rfl
   ·rw [if_neg (by rw [hc3];simp)];simp only [wq.1,seval];refine ah.ev (Ac a) rfl ?_;simp only [wq.1,seval];refine AX.ev (q := 59) (vs := [bF b]) (by simp only [wq.1,↓reduceIte]) (by simp only [wq.1,↓reduceIte]) rfl (fun _ => Ac b) (fun _ => rfl) ?_;simp only [wq.1,seval];refine vcB.mk (fun hc4 => ?_) (fun hc4 => ?_)
    ·rw[if_pos hc4];simp only[wq.1,seval];exact az.dat rfl
    ·rw[if_neg (by rw[hc4];simp)];simp only[wq.1,seval];exact az.dat rfl
def inv (a b:List S):List S×List S:=if ni a b=0 then(b,a)else([],[])
theorem Am : ∀ {l : List S} {s : S} {i : Nat} (h : i < l.length),(∀ x ∈ l.take i,¬ x = s) → l[i] = s → at? l s = some i
 | x::l,s,0,h,_,he=>by simp only[List.getElem_cons_zero]at he;simp[at?,he]
 | x::l,s,i+1,h,hn,he=>by have h1:¬x=s:=hn x (by simp);have:=Am (l:=l) (s:=s) (i:=i) (by simpa using h) (fun y hy=>hn y (by simp[hy])) (by simpa using he);simp[at?,h1,this]
theorem C9 : ∀ {l : List S} {s : S},(∀ x ∈ l,¬ x = s) → at? l s = none
 | [],s,_=>rfl
 | x::l,s,hn=>by have h1:¬x=s:=hn x (by simp);have:=C9 (l:=l) (s:=s) (fun y hy=>hn y (by simp[hy]));simp[at?,h1,this]
def ug (a b:List S) (s:S):Option S:=if ni a b=0 then(at? a s).map fun i=>b.getD i []else none
def goV (o:Option S):V:= .tup [.str (o.getD []),.bool o.isSome]
theorem Ap {a b:List S} (h:ni a b=0):a.length=b.length:=by
 unfold ni at h;split at h
 ·cases h
 ·split at h
  ·cases h
  ·omega
theorem Jf (a b:List S) (s:S):Ev TE 28 [tab a b,.str s] (goV (ug a b s)):=by
 refine Ev.bnd fun hb=> ?_;have hlen:a.length≤maxLen:=by
  simp only[V.bnds,V.bnd,zra]at hb;exact hb.1.1.1
 refine ai Tryz.func28 rfl (by simp[nts]) (vm ?_);simp only[wq.1,seval,Tryz.results28];refine ah.ev (yE a b) rfl ?_;simp only[wq.1,seval];refine vcB.mk (fun hc=> ?_) (fun hc=> ?_)
 ·have h0 : ug a b s = none := by unfold ug;rw [if_neg (by simpa using hc)]
  rw[h0];simp only[wq.1,seval];exact az.dat rfl
 ·have hz : ni a b = 0 := by simpa using hc
  have hab:=Ap hz;simp only[wq.1,Nat.reduceLT];refine aB (fun m f h=>∃i,m+i=a.length∧f.t 2= .lp 0 0∧f.t 1= .str s∧f.t 6= .int .i64 (i:Int)∧f.d=[]∧h=[.cells [bF a,bF b]]∧∀x∈a.take i,¬x=s) a.length ⟨0,by simp,rfl,rfl,rfl,rfl,rfl,by simp⟩ ?_;rintro m f h ⟨i,hm,h2,h1,h5,hd,rfl,hall⟩;refine vm ?_;simp only[wq.1,seval,h2,h5];refine vcB.mk (fun hc=> ?_) (fun hc=> ?_)
  ·simp only [zqb,zqi] at hc;have hc2 : i < b.length := by omega
   simp only[wq.1,seval,h2,h1,h5,xu hc];refine⟨⟨by omega,by omega⟩,vcB.mk (fun hc'=> ?_) (fun hc'=> ?_)⟩
   ·simp only [wq.1,seval,h2,h5,hd,xu hc2];have := Am hc hall (by simpa using hc');have hg : ug a b s = some b[i] := by simp [ug,hz,this,hc2]
    rw[hg];exact⟨⟨by omega,by omega⟩,aG rfl rfl⟩
   ·simp only[wq.1,seval,h5,aA (show i<maxLen by omega)];exact .inl ⟨m-1,by omega,i+1,by omega,h2,h1,rfl,hd,rfl,aK hc hall (by simpa using hc')⟩
  ·simp only [zqd,zqi] at hc;rw [zqh (by omega)] at hall;have hg : ug a b s = none := by simp [ug,hz,C9 hall]
   rw[hg];simp only[wq.1,seval,hd];exact az.dat rfl
def QW (m:List S×List Int) (s:S) (i:Int):List S×List Int :=
 match at? m.1 s with
 | some n=>(m.1,m.2.set n i)
 | none=>(m.1++[s],m.2++[i])
def kK (l : List S) : Nat → List S × List Int
 | 0=>([],[])
 | i+1=>QW (kK l i) (l.getD i []) i
def imV (m:List S×List Int):V:= .im (m.1.map V.str) (m.2.map (V.int .i64))
theorem ny (s : S) : ∀ (ks : List S),jC .str (.str s) (ks.map V.str) = some (at? ks s)
 | []=>rfl
 | k::ks=>by
  simp only[zrd,jC,keq,at?];by_cases h:k=s
  ·subst h;simp
  ·have : (s == k) = false := by simpa using fun h' => h h'.symm
   rw[this,ny s ks,if_neg h];cases at? ks s<;>rfl
theorem yF (m:List S×List Int) (s:S) (i:Int):Jw .str (.str s) (.int .i64 i) (m.1.map V.str) (m.2.map (V.int .i64))=some ((QW m s i).1.map V.str,(QW m s i).2.map (V.int .i64)):=by
 unfold Jw QW;rw[ny];cases h:at? m.1 s with
 | none=>simp
 | some n =>
  obtain⟨h1,h2⟩:=og h;have:(m.1.map V.str).set n (.str s)=m.1.map V.str:=by rw[←List.map_set,←h2,List.set_getElem_self]
  simp only[this,List.map_set]
theorem kH {k:IntKind} {l:List Int}:V.dats (l.map (V.int k))=true:=by
 induction l with
 | nil=>rfl
 | cons a l ih=>simp only[zrd,V.dats,ih,V.dat,zre]
theorem wH (l:List S):Ev TE 56 [bF l] (imV (kK l l.length)):=by
 refine Ev.bnd fun hb=> ?_;have hlen:=jl hb;refine ai Tryz.func56 rfl (by simp[nts]) (vm ?_);simp only[wq.1,seval,Tryz.results56];refine aB (fun m f h=>∃i,m+i=l.length∧f.t 3= .lm 0∧f.t 7=bF l∧f.t 8= .int .i64 (l.length:Int)∧f.t 9= .int .i64 (i:Int)∧f.d=[]∧h=[.map ((kK l i).1.map V.str) ((kK l i).2.map (V.int .i64))]) l.length ⟨0,by simp,rfl,rfl,rfl,rfl,rfl,rfl⟩ ?_;rintro m f h ⟨i,hm,h3,h7,h8,h9,hd,rfl⟩;refine vm ?_;simp only[wq.1,seval,h8,h9];refine vcB.mk (fun hc=> ?_) (fun hc=> ?_)
 ·simp only [zqb,zqi] at hc;simp only [wq.1,seval,h3,h7,h9,xu hc,yF,K.keyOk];refine ⟨⟨by omega,by omega⟩,.inl ⟨m - 1,by omega,i + 1,by omega,h3,h7,h8,by rw [aA (by omega)];rfl,hd,?_⟩⟩;have : l.getD i [] = l[i] := by simp [zqg,hc]
  simp only[kK,this]
 ·simp only [zqd,zqi] at hc;have : i = l.length := by omega
  subst this;simp only[wq.1,seval,h3,hd];exact az.lm rfl (ak.dat bV) (ak.dat kH)
def lY (m:List S×List Int) (s:S):Int:=match at? m.1 s with | some n=>m.2.getD n 0 | none=>-1
theorem PW (m:List S×List Int) (hm:m.1.length=m.2.length) (s:S):Ev TE 93 [imV m,.str s] (.int .i64 (lY m s)):=by
 refine ai Tryz.func93 rfl (by simp[nts]) (vm ?_);unfold lY;cases h:at? m.1 s with
 | none=>simp only[wq.1,seval,Tryz.results93,imV,ny,ui,K.keyOk,h];exact az.dat rfl
 | some n =>
  obtain⟨h1,h2⟩:=og h;have hn:n<m.2.length:=by omega
  have hg:(m.2.map (V.int .i64)).getD n .any= .int .i64 m.2[n]:=fK hn _;have hg2:m.2.getD n 0=m.2[n]:=by simp[zqg,hn]
  simp only[wq.1,seval,Tryz.results93,imV,ny,ui,K.keyOk,h,hg,hg2];exact az.dat rfl
theorem GU (l:List S) (hl:l.length≤1000000):Ev TE 53 [bF l] (bF l):=by
 refine ai Tryz.func53 rfl (by simp[nts]) (vm ?_);simp only[wq.1,↓reduceIte,Nat.reduceLT,reduceCtorEq,Tryz.results53];intro b hb;cases b
 ·have hM:maxLen=9223372036854775807:=rfl;simp only[wq.1,↓reduceIte,Nat.reduceEqDiff,Nat.reduceLT,reduceCtorEq,Nat.reduceMul,Es];exact⟨⟨rfl,by decide⟩,⟨by omega,by omega⟩,jy rfl rfl⟩
 ·have : l = [] := by simpa using hb rfl
  subst this;simp only[wq.1,seval];exact az.nils
structure PlcOk (l : List S) (i : Nat) : Prop where
 le:(kK l i).1.length≤i
 mem:∀s,s∈(kK l i).1↔s∈l.take i
 len:(kK l i).1.length=(kK l i).2.length
 nd:(l.take i).Nodup→kK l i=(l.take i,(List.range i).map Int.ofNat)
 dup:¬(l.take i).Nodup→(kK l i).1.length<i
theorem MZ (l : List S) : ∀ i,i ≤ l.length → PlcOk l i
 | 0,_=>⟨zrb _,fun s=>by simp[kK],rfl,fun _=>by simp[kK],fun h=>by simp at h⟩
 | i+1,hi=>by
  have ih:=MZ l i (by omega);have hlt:i<l.length:=by omega
  have hg:l.getD i []=l[i]:=by simp[zqg,hlt]
  have ht:l.take (i+1)=l.take i++[l[i]]:=by rw[zrg];simp[hlt]
  cases hm:at? (kK l i).1 l[i]with
  | some n =>
   have hp:kK l (i+1)=((kK l i).1,(kK l i).2.set n i):=by simp only[kK,QW,hg,hm]
   obtain⟨h1,h2⟩:=og hm;have hin:l[i]∈l.take i:=(ih.mem _).1 (h2▸zqu h1);have hnd:¬(l.take (i+1)).Nodup:=by rw[ht,List.nodup_append];rintro⟨_,_,h3⟩;exact h3 _ hin _ (by simp) rfl
   refine⟨by rw[hp];have:=ih.le;exact Nat.le_succ_of_le this,fun s=> ?_,by rw[hp];simpa using ih.len,fun h=>absurd h hnd,fun _=>by rw[hp];exact Nat.lt_succ_of_le ih.le⟩;rw[hp,ht,zrf,ih.mem];constructor
   ·exact fun h=> .inl h
   ·rintro (h | h)
    ·exact h
    ·rw[zrc]at h;rw[h];exact hin
  | none =>
   have hp:kK l (i+1)=((kK l i).1++[l[i]],(kK l i).2++[(i:Int)]):=by simp only[kK,QW,hg,hm]
   have hin:¬l[i]∈l.take i:=by intro h;obtain⟨n,hn⟩:=Ae ((ih.mem _).2 h);rw[hm]at hn;cases hn
   refine⟨by rw[hp];simpa using ih.le,fun s=>by rw[hp,ht,zrf,zrf,ih.mem],by rw[hp];simpa using ih.len,fun h=> ?_,fun h=> ?_⟩
   ·have h0 : (l.take i).Nodup := by rw [ht,List.nodup_append] at h;exact h.1
    rw[hp,ih.nd h0,ht,List.range_succ,zql];rfl
   ·have h0:¬(l.take i).Nodup:=fun h0=>h (yx hlt h0 hin);rw[hp];simpa using ih.dup h0
theorem GX (l:List S):decide (((kK l l.length).1.length:Int)<(l.length:Int))= !wE l:=by
 have h:=MZ l l.length (zrb _);by_cases hn:l.Nodup
 ·have h1:=h.nd (by rw[zrx];exact hn);simp[h1,wE,hn]
 ·have h1 := h.dup (by rw [zrx];exact hn);have : wE l = false := by simp [wE,hn]
  rw[this];simpa using h1
theorem Jg {l:List S} (h:wE l=true) (s:S):lY (kK l l.length) s=match at? l s with | some n=>(n:Int) | none=>-1:=by
 have hn:l.Nodup:=by simpa [wE]using h
 have h1:=(MZ l l.length (zrb _)).nd (by rw[zrx];exact hn);unfold lY;rw[h1,zrx];cases hm:at? l s with
 | none=>rfl
 | some n=>obtain⟨h2,_⟩:=og hm;simp[zqg,h2]
theorem PX {a b:List S} (h:(decide (200<(a.length:Int))||decide (200<(b.length:Int)))=false) (h2:((a.length:Int) != b.length)=true):ni a b=1:=by rw[oq h,if_pos h2]
theorem Dc {a b:List S} (h:(decide (200<(a.length:Int))||decide (200<(b.length:Int)))=false) (h2:((a.length:Int) != b.length)=false) (h3:(!(a.all bf)|| !(b.all bf))=true):ni a b=4:=by rw[oq h,if_neg (by rw[h2];simp),if_pos h3]
theorem yG {a b:List S} (h:(decide (200<(a.length:Int))||decide (200<(b.length:Int)))=false) (h2:((a.length:Int) != b.length)=false) (h3:(!(a.all bf)|| !(b.all bf))=false) (h4:(!(wE a)|| !(wE b))=true):ni a b=5:=by rw[oq h,if_neg (by rw[h2];simp),if_neg (by rw[h3];simp),if_pos h4]
theorem Tn {a b:List S} (h:(decide (200<(a.length:Int))||decide (200<(b.length:Int)))=false) (h2:((a.length:Int) != b.length)=false) (h3:(!(a.all bf)|| !(b.all bf))=false) (h4:(!(wE a)|| !(wE b))=false):ni a b=0:=by rw[oq h,if_neg (by rw[h2];simp),if_neg (by rw[h3];simp),if_neg (by rw[h4];simp)]
theorem wI (a b:List S):Ev TE 25 [tab a b] (.int .i64 (ni a b)):=by
 refine ai Tryz.func25 rfl (by simp[nts]) (vm ?_);simp only[wq.1,seval,Tryz.results25];refine vcB.mk (fun hc=> ?_) (fun hc=> ?_)
 ·simp only[wq.1,seval,hc];exact aG rfl (by rw[Ak (by rw[hc];rfl)])
 ·simp only [wq.1,seval,hc];refine vcB.mk (fun hc1 => ?_) (fun hc1 => ?_)
  ·simp only[wq.1,seval,hc1];exact aG rfl (by rw[Ak (by rw[hc1];simp)])
  ·have g1 : (decide (200 < (a.length : Int)) || decide (200 < (b.length : Int))) = false := by rw [hc,hc1];rfl
   simp only[wq.1,seval,hc1];refine vcB.mk (fun hc2=> ?_) (fun hc2=> ?_)
   ·simp only[wq.1,seval];exact aG rfl (by rw[PX g1 hc2])
   ·simp only [wq.1,seval];refine ah.ev (Gy a) rfl ?_;simp only [wq.1,seval];refine vcB.mk (fun hc3 => ?_) (fun hc3 => ?_)
    ·simp only[wq.1,seval,hc3];exact aG rfl (by rw[Dc g1 hc2 (by rw[hc3];rfl)])
    ·simp only [wq.1,seval,hc3];refine ah.ev (Gy b) rfl ?_;simp only [wq.1,seval];refine vcB.mk (fun hc4 => ?_) (fun hc4 => ?_)
     ·simp only[wq.1,seval,hc4];exact aG rfl (by rw[Dc g1 hc2 (by rw[hc4];simp)])
     ·have g3 : (!(a.all bf) || !(b.all bf)) = false := by rw [hc3,hc4];rfl
      simp only[wq.1,seval,hc4];refine⟨by decide +kernel,ul.mk (wH a) rfl rfl ?_⟩;simp only[wq.1,seval,imV,GX];refine vcB.mk (fun hc5=> ?_) (fun hc5=> ?_)
      ·simp only[wq.1,seval,hc5];exact aG rfl (by rw[yG g1 hc2 g3 (by rw[hc5];rfl)])
      ·simp only [wq.1,seval,hc5];refine ⟨by decide +kernel,ul.mk (wH b) rfl rfl ?_⟩;simp only [wq.1,seval,imV,GX];refine vcB.mk (fun hc6 => ?_) (fun hc6 => ?_)
       ·simp only[wq.1,seval,hc6];exact aG rfl (by rw[yG g1 hc2 g3 (by rw[hc6];simp)])
       ·simp only[wq.1,seval,hc6];exact aG rfl (by rw[Tn g1 hc2 g3 (by rw[hc5,hc6];rfl)])
def mkT (a b:List S):List S×List S:=if ni a b=0 then(a,b)else([],[])
theorem Vy (a b:List S) (ha:a.length≤1000000) (hb:b.length≤1000000):Ev TE 22 [bF a,bF b] (.tup [tab (mkT a b).1 (mkT a b).2,.int .i64 (ni a b)]):=by
 refine ai Tryz.func22 rfl (by simp[nts]) (vm ?_);simp only[wq.1,seval,Tryz.results22];refine ah.ev (GU a ha) rfl ?_;simp only[wq.1,seval];refine ah.ev (GU b hb) rfl ?_;simp only[wq.1,seval];refine ah.ev (wI a b) rfl ?_;simp only[wq.1,seval];refine vcB.mk (fun hc=> ?_) (fun hc=> ?_)
 ·have h0 : mkT a b = ([],[]) := by unfold mkT;rw [if_neg (by simpa using hc)]
  rw[h0];simp only[wq.1,seval];exact az.tup (ak.cons (az.agg (ak.cons az.nils (ak.cons az.nils ak.nil))) (ak.cons (az.dat rfl) ak.nil))
 ·have hz : ni a b = 0 := by simpa using hc
  have h0:mkT a b=(a,b):=by unfold mkT;rw[if_pos hz]
  rw[h0];simp only[wq.1,seval,hz];exact az.dat rfl
theorem Vz (s:S):Ev TE 92 [.str s] (goV none):=by refine ai Tryz.func92 rfl (by simp[nts]) (vm ?_);simp only[wq.1,seval,Tryz.results92];exact az.dat rfl
def wJ (a b:List S):V :=
 if ni a b=0 then .fn (.func 94) [] [.ip (.fn (.func 93) [imV (kK a a.length)] []),.ip (tab a b)]else .fn (.func 92) [] []
theorem GY (a b:List S):Ev TE 57 [tab a b] (wJ a b):=by
 refine ai Tryz.func57 rfl (by simp[nts]) (vm ?_);simp only[wq.1,seval,Tryz.results57];refine ah.ev (wI a b) rfl ?_;simp only[wq.1,seval];refine vcB.mk (fun hc=> ?_) (fun hc=> ?_)
 ·have h0 : wJ a b = .fn (.func 92) [] [] := by unfold wJ;rw [if_neg (by simpa using hc)]
  rw[h0];simp only[wq.1,seval];exact az.dat rfl
 ·have h0 : wJ a b = .fn (.func 94) [] [.ip (.fn (.func 93) [imV (kK a a.length)] []),.ip (tab a b)] := by unfold wJ;rw [if_pos (by simpa using hc)]
  rw[h0];simp only[wq.1,seval];refine ah.ev (wH a) rfl ?_;simp only[wq.1,seval];exact az.fn ak.nil (ak.cons (az.lp rfl (ak.dat rfl) rfl rfl (by simp[V.vc]) rfl) (ak.cons (az.lp rfl (ak.dat rfl) rfl rfl (by simp[V.vc]) rfl) ak.nil))
theorem Tq {a b:List S} {s:S} {n:Nat} (h:at? a s=some n) (hz:ni a b=0):∃h2:n<b.length,ug a b s=some b[n]:=by obtain⟨h1,_⟩:=og h;have:=Ap hz;exact⟨by omega,by simp[ug,hz,h,zqg,show n<b.length by omega]⟩
theorem Df {a b:List S} (h:ni a b=0):wE a=true:=by
 unfold ni at h;split at h
 ·cases h
 ·split at h
  ·cases h
  ·split at h
   ·cases h
   ·split at h
    ·cases h
    ·rename_i hh;simp only[Bool.or_eq_true,Bool.not_eq_true',not_or,Bool.not_eq_false]at hh;exact hh.1
theorem VA (a b:List S) (s:S) (hz:ni a b=0):Ev TE 94 [.str s,.ip (.fn (.func 93) [imV (kK a a.length)] []),.ip (tab a b)] (goV (ug a b s)):=by
 refine ai Tryz.func94 rfl (by simp[nts]) (vm ?_);simp only[wq.1,seval,Tryz.results94];refine ah.ev (PW _ (MZ a a.length (zrb _)).len s) rfl ?_;rw[Jg (Df hz)];cases h:at? a s with
 | none =>
  have h0:ug a b s=none:=by simp[ug,h]
  rw[h0];simp only[wq.1,seval];exact az.dat rfl
 | some n =>
  obtain⟨h2,h0⟩:=Tq h hz;have hneg:decide ((n:Int)<0)=false:=by simp
  rw[h0];simp only[wq.1,seval,hneg,xu h2];exact⟨⟨by omega,by omega⟩,az.dat rfl⟩
theorem Na (a b:List S) (s:S):Ev TE 26 [tab a b,.str s] (goV (ug a b s)):=by
 refine ai Tryz.func26 rfl (by simp[nts]) (vm ?_);by_cases hz:ni a b=0
 ·simp only[wq.1,seval,Tryz.results26];refine ah.ev (GY a b) rfl ?_;unfold wJ;rw[if_pos hz];simp only[wq.1,seval];refine ah.ev (VA a b s hz) rfl ?_;simp only[wq.1,seval,goV];exact az.dat rfl
 ·have h0 : ug a b s = none := by unfold ug;rw [if_neg hz]
  rw[h0];simp only[wq.1,seval,Tryz.results26];refine ah.ev (GY a b) rfl ?_;unfold wJ;rw[if_neg hz];simp only[wq.1,seval];refine ah.ev (Vz s) rfl ?_;simp only[wq.1,seval,goV];exact az.dat rfl
theorem Dh (a b:List S):ni a b=ni b a:=by unfold ni;rw[Bool.or_comm (decide (200<a.length)),Bool.or_comm (!(a.all bf)),Bool.or_comm (!wE a)];simp only[ne_comm (a:=a.length)]
abbrev Lt:=S×Bool
abbrev D5 (x:Lt):V:= .agg [.str x.1,.bool x.2]
abbrev fH (c:List Lt):V:= .is false 2 (c.map D5)
abbrev lss (l:List (List Lt)):V:= .is false 1 (l.map fun c=>fH c)
def lfl (c:List Lt):List V:=c.flatMap fun x=>[V.str x.1,V.bool x.2]
theorem QX : ∀ c : List Lt,(c.map D5).flatMap V.vc = lfl c
 | []=>rfl
 | x::c=>by rw[zrd,List.flatMap_cons,QX c];rfl
theorem wK : ∀ c : List Lt,(lfl c).length = c.length * 2
 | []=>rfl
 | x::c=>by show([V.str x.1,V.bool x.2]++lfl c).length=_;rw[zqa,wK c];simp;omega
theorem fU {p : Nat → Bool} : ∀ c : List Lt,V.drops p (lfl c) = lfl c
 | []=>rfl
 | x::c=>by show V.drop p (.str x.1)::V.drop p (.bool x.2)::V.drops p (lfl c)=_;rw[fU c];rfl
theorem Aq (c:List Lt) (x:Lt):lfl (c++[x])=lfl c++[V.str x.1,V.bool x.2]:=by unfold lfl;rw[List.flatMap_append];rfl
theorem GZ : ∀ c : List Lt,V.dats (lfl c) = true
 | []=>rfl
 | x::c=>by show(V.dat (.str x.1)&&(V.dat (.bool x.2)&&V.dats (lfl c)))=true;rw[GZ c];rfl
theorem G5 : ∀ c : List Lt,dO 2 (c.map D5) = true
 | []=>rfl
 | x::c=>by show(_&&dO 2 (c.map D5))=true;rw[G5 c];rfl
theorem eu : ∀ c : List Lt,V.dats (c.map D5) = true
 | []=>rfl
 | x::c=>by show(V.dat (D5 x)&&V.dats (c.map D5))=true;rw[eu c];rfl
theorem eG {p : Nat → Bool} : ∀ l : List (List Lt),V.drops p (l.map fun c => fH c) = l.map fun c => fH c
 | []=>rfl
 | c::l=>by show V.drop p (fH c)::V.drops p (l.map fun c=>fH c)=_;rw[eG l];rfl
theorem dV : ∀ l : List (List Lt),V.dats (l.map fun c => fH c) = true ∧ dO 1 (l.map fun c => fH c) = true ∧ (l.map fun c => fH c).flatMap V.vc = l.map fun c => fH c
 | []=>⟨rfl,rfl,rfl⟩
 | c::l=>by obtain⟨h1,h2,h3⟩:=dV l;simp only[zrd,V.dats,V.dat,dO,V.fit,V.vc,V.one,List.flatMap_cons,h1,h2,h3,zrk,eu];exact⟨rfl,rfl,rfl⟩
theorem qW {h:H} {id len cap:Nat} {c:List Lt} (hc:h[id]? =some (.cells (lfl c))) (hl:len=c.length):az TE h (.ls id 2 0 len cap) (fH c) :=
 az.ls hc (ak.dat (GZ c)) (G5 c) (QX c) (by rw[zra];exact hl)
theorem uB {h:H} {id len cap:Nat} {l:List (List Lt)} (hc:h[id]? =some (.cells (l.map fun c=>fH c))) (hl:len=l.length):az TE h (.ls id 1 0 len cap) (lss l) :=
 az.ls hc (ak.dat (dV l).1) (dV l).2.1 (dV l).2.2 (by rw[zra];exact hl)
theorem pY {c:List Lt} {i:Nat} (h:i<c.length) (d:V):(c.map D5).getD i d=D5 c[i]:=fK h _
theorem oN {l:List (List Lt)} {i:Nat} (h:i<l.length) (d:V):(l.map fun c=>fH c).getD i d=fH l[i]:=fK h _
def Nb (x:Lt):S:=(if x.2 then 45 else 43)::x.1
theorem Nc (x:Lt) (hx:x.1.length≤1000000000):Ev TE 38 [D5 x] (.str (Nb x)):=by
 have hM:maxLen=9223372036854775807:=rfl;refine ai Tryz.func38 rfl (by simp[nts]) (vm ?_);unfold Nb;cases hb:x.2 with
 | true=>simp only[wq.1,seval,Tryz.results38,hb];exact⟨by omega,az.dat rfl⟩
 | false=>simp only[wq.1,seval,Tryz.results38,hb];exact⟨by omega,az.dat rfl⟩
def Nh (a b:List S) (o:Option (List Lt)) (x:Lt):Option (List Lt):=match o,ug a b x.1 with | some ds,some s=>some (ds++[(s,x.2)]) | _,_=>none
def Jh (a b:List S) (c:List Lt):Option (List Lt):=c.foldl (Nh a b) (some [])
def Nj (a b:List S) (o:Option (List (List Lt))) (c:List Lt):Option (List (List Lt)):=match o,Jh a b c with | some out,some d=>some (out++[d]) | _,_=>none
def Ji (a b:List S) (l:List (List Lt)):Option (List (List Lt)):=l.foldl (Nj a b) (some [])
def oZ (a b:List S) (l:List (List Lt)):List (List Lt)×Int:=if ni a b=0 then(match Ji a b l with | some o=>(o,0) | none=>([],12))else([],ni a b)
theorem wL {a b : List S} : ∀ c : List Lt,c.foldl (Nh a b) none = none
 | []=>rfl
 | x::c=>by rw[List.foldl_cons];exact wL c
theorem wM {a b : List S} : ∀ l : List (List Lt),l.foldl (Nj a b) none = none
 | []=>rfl
 | x::c=>by rw[List.foldl_cons];exact wM c
theorem wO {a b:List S} {c:List Lt} {i:Nat} (h:i<c.length):Jh a b (c.take (i+1))=Nh a b (Jh a b (c.take i)) c[i]:=by unfold Jh;rw[zrg,zqk h,List.foldl_append];rfl
theorem wP {a b:List S} {l:List (List Lt)} {i:Nat} (h:i<l.length):Ji a b (l.take (i+1))=Nj a b (Ji a b (l.take i)) l[i]:=by unfold Ji;rw[zrg,zqk h,List.foldl_append];rfl
theorem Di {a b:List S} {c:List Lt} {i:Nat} (h:i<c.length) (hg:ug a b c[i].1=none):Jh a b c=none:=by
 have e:Jh a b (c.take (i+1))=none:=by rw[wO h];unfold Nh;rw[hg];split<;>simp_all
 unfold Jh at e ⊢
 conv=>lhs;rw[←List.take_append_drop (i+1) c,List.foldl_append,e]
 exact wL _
theorem Dj {a b:List S} {l:List (List Lt)} {i:Nat} (h:i<l.length) (hg:Jh a b l[i]=none):Ji a b l=none:=by
 have e:Ji a b (l.take (i+1))=none:=by rw[wP h];unfold Nj;rw[hg];split<;>simp_all
 unfold Ji at e ⊢
 conv=>lhs;rw[←List.take_append_drop (i+1) l,List.foldl_append,e]
 exact wM _
abbrev hRn (a b:List S) (outs:List (List Lt)):H:=[.cells [bF a,bF b],.cells (outs.map fun c=>fH c)]
abbrev hRd (a b:List S) (outs:List (List Lt)) (ds:List Lt):H:=[.cells [bF a,bF b],.cells (outs.map fun c=>fH c),.cells (lfl ds)]
theorem yH (a b:List S) (l:List (List Lt)) (hl:l.length≤1000000) (hc:∀c∈l,c.length≤1000000):Ev TE 9 [lss l,tab a b] (.tup [lss (oZ a b l).1,vi (oZ a b l).2]):=by
 have hM:maxLen=9223372036854775807:=rfl;have hck:=wI a b;refine ai Tryz.func9 rfl (by simp[nts]) ?_;refine ag (vm ?_);simp only[wq.1,Nat.reduceLT,Tryz.results9];refine ag (vm ?_);simp only[wq.1,seval];refine ah.ev hck rfl ?_;simp only[wq.1,seval];refine vcB.mk (fun hz=> ?_) (fun hz=> ?_)
 ·have hz : ni a b ≠ 0 := by simpa using hz
  unfold oZ;rw[if_neg hz];simp only[wq.1,seval];exact az.tup (ak.cons az.nils (ak.cons (az.dat rfl) ak.nil))
 have hz:ni a b=0:=by simpa using hz
 unfold oZ;rw[if_pos hz];simp only[wq.1];refine ag (vm ?_);simp only[wq.1,Nat.reduceLT];refine dC 7 1 (by simp only[wq.1,↓reduceIte]) ?_;refine ag (vm ?_);simp only[wq.1,seval];refine aB (fun m f h=>∃(i:Nat) (outs:List (List Lt)) (X:H),m+i=l.length∧outs.length=i∧Ji a b (l.take i)=some outs∧f.t 3= .lp 0 0∧f.t 5=vi 0∧f.t 7= .ls 1 1 0 i i∧f.t 20=lss l∧f.t 21=vi l.length∧f.t 22=vi i∧f.d=[]∧h=hRn a b outs++X) l.length ⟨0,[],[],by omega,rfl,rfl,by simp only[wq.1,seval],by simp only[wq.1,seval],by simp only[wq.1,seval],by simp only[wq.1,seval],by simp only[wq.1,seval],rfl,by simp only[wq.1],rfl⟩ ?_;rintro m f h ⟨i,outs,X,hm,hol,hren,t3,t5,t7,t20,t21,t22,hd,rfl⟩;refine dY (by rw[hd];simp) ?_;have cl1:(hRn a b outs).map (O.drop (aT (hRn a b outs).length))=hRn a b outs:=by
  show [O.cells [_,_],O.cells (V.drops _ _)]=_;rw[eG];rfl
 rw[cl1];refine ag (vm ?_);simp only[wq.1,seval,t21,t22];refine ag (bG (b:=decide ((i:Int)<l.length)) (by simp only[wq.1,↓reduceIte]) (by simp only[wq.1,↓reduceIte]) (fun hlt=> ?_) (fun hlt=> ?_))
 ·simp only[zqb,zqi]at hlt;have hw:=aA (show i<maxLen by omega);have hgl:=oN hlt .any;have hcl:=hc _ (zqu hlt);obtain⟨c,hce⟩:∃c,c=l[i]:=⟨_,rfl⟩;rw[←hce]at hgl hcl;refine vm ?_;simp only[wq.1];refine ag (aC ?_);refine ag (vm ?_);simp only[wq.1,seval,t20,t22,hgl];refine⟨⟨by omega,by omega⟩,?_⟩;refine ag (vm ?_);simp only[wq.1,Nat.reduceLT];refine dC 10 2 (by simp only[wq.1,↓reduceIte]) ?_;refine ag (vm ?_);simp only[wq.1,seval,hd,aT];refine aB (fun m' f h=>∃(j:Nat) (ds:List Lt) (Y:H),m'+j=c.length∧ds.length=j∧Jh a b (c.take j)=some ds∧f.t 3= .lp 0 0∧f.t 5=vi 0∧f.t 7= .ls 1 1 0 i i∧f.t 10= .ls 2 2 0 j j∧f.t 20=lss l∧f.t 21=vi l.length∧f.t 22=vi i∧f.t 26=fH c∧f.t 27=vi c.length∧f.t 28=vi j∧f.d=[]∧h=hRd a b outs ds++Y) c.length ⟨0,[],[],by omega,rfl,rfl,by simp only[wq.1,seval,t3,aT],by simp only[wq.1,seval,t5],by simp only[wq.1,seval,t7,aT],by simp only[wq.1,seval],by simp only[wq.1,seval,t20],by simp only[wq.1,seval,t21],by simp only[wq.1,seval,t22],by simp only[wq.1,seval],by simp only[wq.1,seval],rfl,by simp only[wq.1],rfl⟩ ?_;clear t3 t5 t7 t20 t21 t22 hd f;rintro m' f h ⟨j,ds,Y,hm',hdl,hrc,t3,t5,t7,t10,t20,t21,t22,t26,t27,t28,hd,rfl⟩;refine dY (by rw[hd];simp) ?_;have cl2:(hRd a b outs ds).map (O.drop (aT (hRd a b outs ds).length))=hRd a b outs ds:=by
   show [O.cells [_,_],O.cells (V.drops _ _),O.cells (V.drops _ _)]=_;rw[eG,fU];rfl
  rw[cl2];refine ag (vm ?_);simp only[wq.1,seval,t27,t28];refine ag (bG (b:=decide ((j:Int)<c.length)) (by simp only[wq.1,↓reduceIte]) (by simp only[wq.1,↓reduceIte]) (fun hlt2=> ?_) (fun hlt2=> ?_))
  ·simp only [zqb,zqi] at hlt2;have hw2 := aA (show j < maxLen by omega);have hgc := pY hlt2 .any;have hsucc := wO (a := a) (b := b) hlt2;obtain ⟨x,hx⟩ : ∃ x,x = c[j] := ⟨_,rfl⟩;rw [← hx] at hgc hsucc;have hah := Na a b x.1;unfold goV at hah;refine vm ?_;simp only [wq.1];refine vm ?_;simp only [wq.1,seval,t3,t26,t28,hgc,aT];refine ⟨⟨by omega,by omega⟩,?_⟩;have hel : (lfl ds).length = j * 2 := by rw [wK,hdl]
   have dcs:∀p,V.drops p (lfl ds)=lfl ds:=fun p=>fU _;have dos:∀p,V.drops p (outs.map fun c=>fH c)=outs.map fun c=>fH c:=fun p=>eG _;cases hgo:ug a b x.1 with
   | none=>rw[hgo]at hah;have e:=Di hlt2 (by rw[←hx];exact hgo);have e2:=Dj hlt (by rw[←hce];exact e);rw[e2];refine ah.ev hah rfl ?_;simp only[wq.1,seval,hd,aT,Option.isSome_none];exact az.tup (ak.cons az.nils (ak.cons (az.dat rfl) ak.nil))
   | some s =>
    rw[hgo]at hah;refine ah.ev hah rfl ?_;simp only[wq.1,↓reduceIte,Nat.reduceEqDiff,Nat.reduceLT,Nat.reduceLeDiff,Nat.reduceAdd,reduceCtorEq,Nat.reduceMul,t10,t28,hd,aT,Option.isSome_some,Option.getD_some,hel,dcs,dos,hw2];refine⟨⟨rfl,by decide⟩,rfl,⟨rfl,by omega,by omega⟩,.inl ⟨m'-1,by omega,j+1,ds++[(s,x.2)],[.cells [.str x.1,.bool x.2]],by omega,by simp[hdl],?_,by simp only[wq.1,↓reduceIte,Nat.reduceEqDiff,Nat.reduceLT,Nat.reduceLeDiff,Nat.reduceAdd,Nat.reduceSub,Int.reduceToNat,Nat.reduceDiv,Int.reduceLT,Int.reduceLE,Int.reduceNeg,Int.reduceBEq,Int.reduceBNe,Int.reduceAdd,Int.reduceSub,Nat.reduceBEq,reduceCtorEq,Nat.reduceMul,ax,Tryz.results9,t3,aT],by simp only[wq.1,↓reduceIte,Nat.reduceEqDiff,Nat.reduceLT,Nat.reduceLeDiff,Nat.reduceAdd,Nat.reduceSub,Int.reduceToNat,Nat.reduceDiv,Int.reduceLT,Int.reduceLE,Int.reduceNeg,Int.reduceBEq,Int.reduceBNe,Int.reduceAdd,Int.reduceSub,Nat.reduceBEq,reduceCtorEq,Nat.reduceMul,ax,Tryz.results9,t5,aT],by simp only[wq.1,↓reduceIte,Nat.reduceEqDiff,Nat.reduceLT,Nat.reduceLeDiff,Nat.reduceAdd,Nat.reduceSub,Int.reduceToNat,Nat.reduceDiv,Int.reduceLT,Int.reduceLE,Int.reduceNeg,Int.reduceBEq,Int.reduceBNe,Int.reduceAdd,Int.reduceSub,Nat.reduceBEq,reduceCtorEq,Nat.reduceMul,ax,Tryz.results9,t7,aT],by simp only[wq.1,↓reduceIte,Nat.reduceEqDiff,Nat.reduceLT,Nat.reduceLeDiff,Nat.reduceAdd,Nat.reduceSub,Int.reduceToNat,Nat.reduceDiv,Int.reduceLT,Int.reduceLE,Int.reduceNeg,Int.reduceBEq,Int.reduceBNe,Int.reduceAdd,Int.reduceSub,Nat.reduceBEq,reduceCtorEq,Nat.reduceMul,ax,Tryz.results9],by simp only[wq.1,↓reduceIte,Nat.reduceEqDiff,Nat.reduceLT,Nat.reduceLeDiff,Nat.reduceAdd,Nat.reduceSub,Int.reduceToNat,Nat.reduceDiv,Int.reduceLT,Int.reduceLE,Int.reduceNeg,Int.reduceBEq,Int.reduceBNe,Int.reduceAdd,Int.reduceSub,Nat.reduceBEq,reduceCtorEq,Nat.reduceMul,ax,Tryz.results9,t20,aT],by simp only[wq.1,↓reduceIte,Nat.reduceEqDiff,Nat.reduceLT,Nat.reduceLeDiff,Nat.reduceAdd,Nat.reduceSub,Int.reduceToNat,Nat.reduceDiv,Int.reduceLT,Int.reduceLE,Int.reduceNeg,Int.reduceBEq,Int.reduceBNe,Int.reduceAdd,Int.reduceSub,Nat.reduceBEq,reduceCtorEq,Nat.reduceMul,ax,Tryz.results9,t21,aT],by simp only[wq.1,↓reduceIte,Nat.reduceEqDiff,Nat.reduceLT,Nat.reduceLeDiff,Nat.reduceAdd,Nat.reduceSub,Int.reduceToNat,Nat.reduceDiv,Int.reduceLT,Int.reduceLE,Int.reduceNeg,Int.reduceBEq,Int.reduceBNe,Int.reduceAdd,Int.reduceSub,Nat.reduceBEq,reduceCtorEq,Nat.reduceMul,ax,Tryz.results9,t22,aT],by simp only[wq.1,↓reduceIte,Nat.reduceEqDiff,Nat.reduceLT,Nat.reduceLeDiff,Nat.reduceAdd,Nat.reduceSub,Int.reduceToNat,Nat.reduceDiv,Int.reduceLT,Int.reduceLE,Int.reduceNeg,Int.reduceBEq,Int.reduceBNe,Int.reduceAdd,Int.reduceSub,Nat.reduceBEq,reduceCtorEq,Nat.reduceMul,ax,Tryz.results9,t26,aT],by simp only[wq.1,↓reduceIte,Nat.reduceEqDiff,Nat.reduceLT,Nat.reduceLeDiff,Nat.reduceAdd,Nat.reduceSub,Int.reduceToNat,Nat.reduceDiv,Int.reduceLT,Int.reduceLE,Int.reduceNeg,Int.reduceBEq,Int.reduceBNe,Int.reduceAdd,Int.reduceSub,Nat.reduceBEq,reduceCtorEq,Nat.reduceMul,ax,Tryz.results9,t27,aT],by simp only[wq.1,↓reduceIte,Nat.reduceEqDiff,Nat.reduceLT,Nat.reduceLeDiff,Nat.reduceAdd,Nat.reduceSub,Int.reduceToNat,Nat.reduceDiv,Int.reduceLT,Int.reduceLE,Int.reduceNeg,Int.reduceBEq,Int.reduceBNe,Int.reduceAdd,Int.reduceSub,Nat.reduceBEq,reduceCtorEq,Nat.reduceMul,ax,Tryz.results9],by simp only[wq.1,↓reduceIte,Nat.reduceEqDiff,Nat.reduceLT,Nat.reduceLeDiff,Nat.reduceAdd,Nat.reduceSub,Int.reduceToNat,Nat.reduceDiv,Int.reduceLT,Int.reduceLE,Int.reduceNeg,Int.reduceBEq,Int.reduceBNe,Int.reduceAdd,Int.reduceSub,Nat.reduceBEq,reduceCtorEq,Nat.reduceMul,ax,Tryz.results9,hd],?_⟩⟩
    ·rw[hsucc,hrc];unfold Nh;rw[hgo]
    ·rw[Aq];rfl
  ·simp only [zqd,zqi] at hlt2;have : j = c.length := by omega
   subst this;rw[zrx]at hrc;refine vm ?_;simp only[wq.1];show awp _ _ _ _ _ _ _;refine nX 2 10 (fH ds) (by simp only[wq.1,seval,t10,aT]) (by simp only[wq.1,seval,t10,aT];exact qW (by show some (O.cells (V.drops _ (lfl ds)))=_;rw[fU]) hdl.symm) (by simp only[wq.1,hd]) ?_;have dcs:∀p,V.drops p (lfl ds)=lfl ds:=fun p=>fU _;have dos:∀p,V.drops p (outs.map fun c=>fH c)=outs.map fun c=>fH c:=fun p=>eG _;rw[show iV (·==2) 0 (hRd a b outs ds)=[.cells [bF a,bF b],.cells (outs.map fun c=>fH c),.dead] by simp[iV,O.drop,V.drops,V.drop,dos]];refine mJ (fun f'=>f'.t 3= .lp 0 0∧f'.t 5=vi 0∧f'.t 7= .ls 1 1 0 i i∧f'.t 10=fH ds∧f'.t 20=lss l∧f'.t 21=vi l.length∧f'.t 22=vi i∧f'.d=[]) _ (fun hk=>hk _ ⟨by simp only[wq.1,seval,t3,aT],by simp only[wq.1,seval,t5],by simp only[wq.1,seval,t7,aT],by simp only[wq.1,↓reduceIte],by simp only[wq.1,seval,t20],by simp only[wq.1,seval,t21],by simp only[wq.1,seval,t22],hd⟩) ?_;clear t3 t5 t7 t10 t20 t21 t22 t26 t27 t28 hd f;rintro f ⟨t3,t5,t7,t10,t20,t21,t22,hd⟩;have hel:(outs.map fun c=>fH c).length=i*1:=by rw[zra];omega
   refine vm ?_;simp only[wq.1,↓reduceIte,Nat.reduceEqDiff,Nat.reduceLT,reduceCtorEq,Nat.reduceMul,t7,t10,hd,dos];refine⟨⟨rfl,by decide⟩,⟨by omega,by omega,by omega⟩,?_⟩;refine vm ?_;simp only[wq.1,seval,t22,hw];refine .inl ⟨m-1,by omega,i+1,outs++[ds],[.dead],by omega,by simp[hol],?_,by simp only[wq.1,seval,t3],by simp only[wq.1,seval,t5],by simp only[wq.1,seval],by simp only[wq.1,seval,t20],by simp only[wq.1,seval,t21],by simp only[wq.1,↓reduceIte],hd,by rw[zql];rfl⟩;rw[wP hlt,hren];unfold Nj;rw[←hce,hrc]
 ·simp only [zqd,zqi] at hlt;have : i = l.length := by omega
  subst this;rw[zrx]at hren;rw[hren];refine vm ?_;simp only[wq.1];refine vm ?_;simp only[wq.1,seval,t7,hd,aT];exact az.tup (ak.cons (uB rfl hol.symm) (ak.cons (az.dat rfl) ak.nil))
abbrev qX (m:Mo):List S×List Int:=kK m.lat m.lat.length
def fJ (m:Mo) (s:S):Bool:=(at? (qX m).1 s).isSome
def jo (m:Mo) (l:List (List Lt)):Bool:=l.all fun c=>c.all fun x=>fJ m x.1
def bK (m:Mo) (l:List (List Lt)):V×Int:=if m.chk≠0 then(.nilm,m.chk)else if jo m l then(imV (qX m),0)else(.nilm,12)
abbrev hPl (m:Mo) (p:List S×List Int):H:=[.cells [vi m.g.ins,aH m.g.next,aH m.g.init,prs m.g.ands,aH m.g.outs,bF m.ins,bF m.lat,bF m.out],.map (p.1.map V.str) (p.2.map (V.int .i64))]
theorem jR {p : Nat → Bool} : ∀ l : List S,V.drops p (l.map V.str) = l.map V.str
 | []=>rfl
 | a::l=>by rw[zrd,V.drops,jR l];rfl
theorem yI (m:Mo) (hs:m.g.Sm) (l:List (List Lt)) (hlat:m.lat.length≤1000000) (hl:l.length≤1000000) (hc:∀c∈l,c.length≤1000000):Ev TE 29 [m.v,lss l] (.tup [(bK m l).1,vi (bK m l).2]):=by
 have hM:maxLen=9223372036854775807:=rfl;have hck:=MK m hs;unfold Mo.v at hck ⊢;refine ai Tryz.func29 rfl (by simp[nts]) ?_;refine ag (vm ?_);simp only[wq.1,Nat.reduceLT,Tryz.results29];refine ag (vm ?_);simp only[wq.1,seval];refine ah.ev hck (by simp only[V.dats,V.dat,eu,zre]) ?_;simp only[wq.1,seval];refine vcB.mk (fun hz=> ?_) (fun hz=> ?_)
 ·have hz : m.chk ≠ 0 := by simpa using hz
  unfold bK;rw[if_pos hz];simp only[wq.1,seval];exact az.tup (ak.cons (az.dat rfl) (ak.cons (az.dat rfl) ak.nil))
 have hz:¬m.chk≠0:=by simpa using hz
 unfold bK;rw[if_neg hz];simp only[wq.1];refine ag (vm ?_);simp only[wq.1,seval];refine ag (vm ?_);simp only[wq.1,seval];refine aB (fun q f h=>∃i,q+i=m.lat.length∧f.t 1=lss l∧f.t 2= .lp 0 0∧f.t 7= .lm 1∧f.t 23=bF m.lat∧f.t 24=vi m.lat.length∧f.t 25=vi i∧f.d=[]∧h=hPl m (kK m.lat i)) m.lat.length ⟨0,by omega,by simp only[wq.1,seval],by simp only[wq.1,seval],by simp only[wq.1,seval],by simp only[wq.1,seval],by simp only[wq.1,seval],rfl,by simp only[wq.1],rfl⟩ ?_;rintro q f h ⟨i,hq,t1,t2,t7,t23,t24,t25,hd,rfl⟩;refine ag (vm ?_);simp only[wq.1,Nat.reduceLT,t24,t25];refine ag (bG (b:=decide ((i:Int)<m.lat.length)) (by simp only[wq.1,↓reduceIte]) (by simp only[wq.1,↓reduceIte]) (fun hlt=> ?_) (fun hlt=> ?_))
 ·simp only [zqb,zqi] at hlt;have hw := aA (show i < maxLen by omega);refine vm ?_;simp only [wq.1];refine vm ?_;simp only [wq.1,seval,t7,t23,t25,xu hlt,yF,K.keyOk,hw];refine ⟨⟨by omega,by omega⟩,.inl ⟨q - 1,by omega,i + 1,by omega,t1,t2,t7,t23,t24,by simp only [wq.1,↓reduceIte],hd,?_⟩⟩;have : m.lat.getD i [] = m.lat[i] := by simp [zqg,hlt]
  simp only[kK,this,hPl]
 simp only[zqd,zqi]at hlt;have:i=m.lat.length:=by omega
 subst this;refine vm ?_;simp only[wq.1];show awp _ _ _ _ _ _ _;refine ag (vm ?_);simp only[wq.1,seval,t1];refine aB (fun q f h=>∃(i:Nat) (X:H),q+i=l.length∧jo m (l.take i)=true∧f.t 2= .lp 0 0∧f.t 7= .lm 1∧f.t 34=lss l∧f.t 35=vi l.length∧f.t 36=vi i∧f.d=[]∧h=hPl m (qX m)++X) l.length ⟨0,[],by omega,rfl,t2,t7,by simp only[wq.1,seval],by simp only[wq.1,seval],rfl,hd,by rw[zqp]⟩ ?_;clear t1 t2 t7 t23 t24 t25 hd hlt f hq q;rintro q f h ⟨i,X,hq,hkn,t2,t7,t34,t35,t36,hd,rfl⟩;have dl:∀p,V.drops p ((qX m).1.map V.str)=(qX m).1.map V.str:=fun p=>jR _;have dv:∀p,V.drops p ((qX m).2.map (V.int .i64))=(qX m).2.map (V.int .i64):=fun p=>bD _;have cl1:(hPl m (qX m)).map (O.drop (aT (hPl m (qX m)).length))=hPl m (qX m):=by
  simp only[hPl,zrd,List.map_nil,O.drop,dl,dv];rfl
 refine dY (by rw[hd];simp) ?_;rw[cl1];refine ag (vm ?_);simp only[wq.1,seval,t35,t36];refine ag (bG (b:=decide ((i:Int)<l.length)) (by simp only[wq.1,↓reduceIte]) (by simp only[wq.1,↓reduceIte]) (fun hlt=> ?_) (fun hlt=> ?_))
 ·simp only[zqb,zqi]at hlt;have hw:=aA (show i<maxLen by omega);have hgl:=oN hlt .any;have hcl:=hc _ (zqu hlt);have hfa:jo m l=true→(l[i].all fun x=>fJ m x.1)=true:=fun h=>zrs.1 h _ (zqu hlt);have hsu:(l[i].all fun x=>fJ m x.1)=true→jo m (l.take (i+1))=true:=fun h=>by
   unfold jo at hkn ⊢;rw[zrg,zqk hlt,List.all_append,hkn];simpa using h
  obtain⟨c,hce⟩:∃c,c=l[i]:=⟨_,rfl⟩;rw[←hce]at hgl hcl hfa hsu;refine vm ?_;simp only[wq.1];refine ag (aC ?_);refine ag (vm ?_);simp only[wq.1,seval,t34,t36,hgl];refine⟨⟨by omega,by omega⟩,?_⟩;refine ag (vm ?_);simp only[wq.1,seval];refine aC ?_;refine aB (fun q' f h=>∃(j:Nat) (Y:H),q'+j=c.length∧(∀x∈c.take j,fJ m x.1=true)∧f.t 2= .lp 0 0∧f.t 7= .lm 1∧f.t 34=lss l∧f.t 35=vi l.length∧f.t 36=vi i∧f.t 40=fH c∧f.t 41=vi c.length∧f.t 42=vi j∧f.d=[]∧h=hPl m (qX m)++Y) c.length ⟨0,[],by omega,by simp,by simp only[wq.1,seval,t2,aT],by simp only[wq.1,seval,t7,aT],by simp only[wq.1,seval,t34],by simp only[wq.1,seval,t35],by simp only[wq.1,seval,t36],by simp only[wq.1,seval],by simp only[wq.1,seval],rfl,hd,by rw[zqp]⟩ ?_;clear t2 t7 t34 t35 t36 hd f;rintro q' f h ⟨j,Y,hq',hkj,t2,t7,t34,t35,t36,t40,t41,t42,hd,rfl⟩;refine dY (by rw[hd];simp) ?_;rw[cl1];refine ag (vm ?_);simp only[wq.1,seval,t41,t42];refine ag (bG (b:=decide ((j:Int)<c.length)) (by simp only[wq.1,↓reduceIte]) (by simp only[wq.1,↓reduceIte]) (fun hlt2=> ?_) (fun hlt2=> ?_))
  ·simp only[zqb,zqi]at hlt2;have hw2:=aA (show j<maxLen by omega);have hgc:=pY hlt2 .any;have hma:=zqu hlt2;have hsx:fJ m c[j].1=true→∀x∈c.take (j+1),fJ m x.1=true:=fun h x hx=>by
    rw[zrg,zqk hlt2]at hx;rcases zrf.1 hx with hx | hx
    ·exact hkj x hx
    ·have : x = c[j] := by simpa using hx
     rw[this];exact h
   obtain⟨x,hx⟩:∃x,x=c[j]:=⟨_,rfl⟩;rw[←hx]at hgc hma hsx;have hkx:fJ m x.1=(at? (qX m).1 x.1).isSome:=rfl;refine vm ?_;simp only[wq.1];cases hat:at? (qX m).1 x.1 with
   | none=>refine vm ?_;simp only[wq.1,seval,t7,t40,t42,hd,hgc,aT,ui,jd,K.keyOk,hat];refine⟨⟨by omega,by omega⟩,?_⟩;rw[if_neg (fun h=>by have:=zrs.1 (hfa h) x hma;rw[hkx,hat]at this;cases this)];exact az.tup (ak.cons (az.dat rfl) (ak.cons (az.dat rfl) ak.nil))
   | some w=>refine vm ?_;simp only[wq.1,seval,t7,t40,t42,hgc,aT,ui,jd,K.keyOk,hat,hw2];refine⟨⟨by omega,by omega⟩,.inl ⟨q'-1,by omega,j+1,[.cells [.str x.1,.bool x.2]],by omega,hsx (by rw[hkx,hat];rfl),by simp only[wq.1,seval,t2,aT],by simp only[wq.1,seval,t7,aT],by simp only[wq.1,seval,t34],by simp only[wq.1,seval,t35],by simp only[wq.1,seval,t36],by simp only[wq.1,seval,t40],by simp only[wq.1,seval,t41],by simp only[wq.1,↓reduceIte],hd,rfl⟩⟩
  ·simp only [zqd,zqi] at hlt2;have : j = c.length := by omega
   subst this;rw[zrx]at hkj;refine vm ?_;simp only[wq.1];refine vm ?_;simp only[wq.1,seval,t36,hw];exact .inl ⟨q-1,by omega,i+1,[],by omega,hsu (zrs.2 fun x hx=>hkj x hx),by simp only[wq.1,seval,t2,aT],by simp only[wq.1,seval,t7,aT],by simp only[wq.1,seval,t34],by simp only[wq.1,seval,t35],by simp only[wq.1,↓reduceIte],hd,rfl⟩
 ·simp only [zqd,zqi] at hlt;have : i = l.length := by omega
  subst this;rw[zrx]at hkn;rw[if_pos hkn];refine vm ?_;simp only[wq.1];refine vm ?_;simp only[wq.1,seval,t7,hd,aT];exact az.tup (ak.cons (az.lm rfl (ak.dat bV) (ak.dat kH)) (ak.cons (az.dat rfl) ak.nil))
end Go.Proofs.YtmlacppmbfbjgaaGreatDoor
