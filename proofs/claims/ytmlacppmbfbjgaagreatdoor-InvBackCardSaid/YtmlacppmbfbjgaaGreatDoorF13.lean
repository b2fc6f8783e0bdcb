/- Lemmas for this claim, part F13: each holds under what it names. -/
import Derived.Test.YtmlacppmbfbjgaaGreatDoorF12
import Derived.Test.YtmlacppmbfbjgaaGreatDoorA11
set_option linter.unusedVariables false
set_option linter.unusedSimpArgs false
set_option linter.unnecessarySimpa false
set_option maxRecDepth 20000
set_option maxHeartbeats 4000000
namespace Go.Proofs.YtmlacppmbfbjgaaGreatDoor
open Go Go.Proofs Go.Abs
theorem MC : ∀ (l : Cl) (s : Nat × Cl) (d : Int),(∀ b ∈ l,0 ≤ b ∧ b ≤ 2) → l.foldl (fun n b => n + b / 2) ((s.1 : Int) + d) = ((l.foldl vX s).1 : Int) + d
 | [],s,d,_=>rfl
 | b::l,s,d,hl=>by
  have hb:=hl b (by simp);have hr:∀x∈l,0≤x∧x≤2:=fun x hx=>hl x (by simp[hx]);rw[List.foldl_cons,List.foldl_cons,←MC l (vX s b) d hr]
  congr 1
  unfold vX;split
  ·rename_i h;subst h;show(s.1:Int)+d+2/2=((s.1+1:Nat):Int)+d;omega
  ·show (s.1 : Int) + d + b / 2 = (s.1 : Int) + d;have : b / 2 = 0 := by omega
   omega
theorem MF {g : Gr} {b : Cl} : ∀ k,(fZ g b k).n = (Ew b).1 + k * (g.ins.toNat + g.ands.length)
 | 0=>by simp[fZ]
 | k+1=>by show((fZ g b k).ands g g.ands.length).n=_;rw[nZ (Nat.le_refl _),MF k,Nat.add_mul,Nat.one_mul];omega
theorem MG {g : Gr} {b : Cl} : ∀ k,(fZ g b k).cl.length = 1 + 3 * (k * g.ands.length)
 | 0=>by simp[fZ]
 | k+1=>by show((fZ g b k).ands g g.ands.length).cl.length=_;rw[rV (Nat.le_refl _),MG k,Nat.add_mul,Nat.one_mul];omega
theorem jH {g : Gr} {b : Cl} : ∀ k,(fZ g b k).rows.length = k
 | 0=>rfl
 | k+1=>by show((fZ g b k).rows++[_]).length=_;rw[List.length_append,jH k];rfl
def iC (g:Gr) (b:Cl) (k:Nat):List Cl:=(fZ g b k).rows++[pK g (fZ g b k).lat++List.replicate g.ands.length 0]
def WB (g:Gr) (b:Cl) (k:Nat):V:= .agg [vi (fZ g b k).n,cls (fZ g b k).cl,cls (iC g b k)]
def pM (g:Gr) (b:Cl) (k:Int):V:=if zJ g b k=0 then WB g b k.toNat else .agg [vi 0,cls [],cls []]
abbrev hU5 (g:Gr) (n:Nat) (cl lat:Cl):H:=[.cells [vi g.ins,aG g.next,aG g.init,prs g.ands,aG g.outs],.cells [vi 0,.nils,.nils],bU g n (.ls 3 1 0 1 1) (.ls 4 1 0 0 0) .nils,.cells [xC cl],.cells [],.cells (lat.map vi)]
theorem SI {g:Gr} {b:Cl} {k:Int} (h:zJ g b k=0):g.chk=0∧b.length=g.next.length∧(∀x∈b,0≤x∧x≤2)∧0≤k∧k≤40∧VO g k b≤20000:=by
 unfold zJ at h;split at h
 ·rename_i hc;exact absurd h hc
 ·rename_i hc;split at h
  ·cases h
  ·rename_i ho;split at h
   ·cases h
   ·rename_i hk;split at h
    ·cases h
    ·rename_i hn;refine⟨by omega,by omega,fun x hx=> ?_,by omega,by omega,by omega⟩;have:FY x=false:=by
      cases e:FY x with
      | false=>rfl
      | true=>exact absurd (.inr (List.any_eq_true.2 ⟨x,hx,e⟩)) ho
     simp only[FY,Bool.or_eq_false_iff,decide_eq_false_iff_not]at this;omega
theorem jY : ∀ l : List Cl,dN 1 (l.map fun c => aG c) = true ∧ (l.map fun c => aG c).flatMap V.vc = l.map fun c => aG c
 | []=>⟨rfl,rfl⟩
 | c::l=>by
  obtain⟨h1,h2⟩:=jY l;refine⟨?_,?_⟩
  ·show(_&&dN 1 (l.map fun c=>aG c))=true;rw[h1];rfl
  ·rw[List.map_cons,List.flatMap_cons,h2];rfl
theorem uj {h : H} : ∀ l : List Cl,aj TE h (l.map xC) (l.map fun c => aG c)
 | []=>aj.nil
 | c::l=>aj.cons (fun ok pl w x hs hv=>dB _ _ (az.dat (by simp only[V.dat]) ok pl w x hs hv)) (uj l)
theorem F9 {h : H} : ∀ rs : List (Nat × Cl),(∀ p ∈ rs,h[p.1]? = some (.cells (p.2.map vi))) → aj TE h (rs.map fun p => V.ls p.1 1 0 p.2.length p.2.length) (rs.map ((fun c => aG c) ∘ fun p => p.2))
 | [],_=>aj.nil
 | p::rs,hp=>aj.cons (qJ (hp p (by simp)) rfl) (F9 rs fun q hq=>hp q (by simp[hq]))
def MH:Plan:= .take 0<| .take 1<| .take 2<| .take 3<| .take 4<| .take 6<| .take 7<| .take 8<| .take 10<| .alt 5 (.alt 9 (.one 11<| .one 12<| .one 13<| .one 14<| .one 15<| .take 16<| .take 17<| .take 18<| .one 19<| .fin) (.one 11 (.alt 9 (.one 12<| .one 13<| .one 14<| .one 15<| .take 16<| .take 17<| .take 18<| .one 19<| .fin) (.one 12 (.one 9<| .one 13<| .one 14<| .one 15<| .take 16<| .take 17<| .take 18<| .one 19<| .fin))))) (.alt 9 (.alt 5 (.one 11<| .one 12<| .one 13<| .one 14<| .one 15<| .take 16<| .take 17<| .take 18<| .one 19<| .fin) (.one 11 (.alt 5 (.one 12<| .one 13<| .one 14<| .one 15<| .take 16<| .take 17<| .take 18<| .one 19<| .fin) (.one 12 (.alt 5 (.one 13<| .one 14<| .one 15<| .take 16<| .take 17<| .take 18<| .one 19<| .fin) (.one 13 (.alt 5 (.one 14<| .one 15<| .take 16<| .take 17<| .take 18<| .one 19<| .fin) (.one 14 (.one 5<| .one 15<| .take 16<| .take 17<| .take 18<| .one 19<| .fin))))))))) (.one 11 (.alt 5 (.alt 9 (.one 12<| .one 13<| .one 14<| .one 15<| .take 16<| .take 17<| .take 18<| .one 19<| .fin) (.one 12 (.one 9<| .one 13<| .one 14<| .one 15<| .take 16<| .take 17<| .take 18<| .one 19<| .fin))) (.alt 9 (.alt 5 (.one 12<| .one 13<| .one 14<| .one 15<| .take 16<| .take 17<| .take 18<| .one 19<| .fin) (.one 12 (.alt 5 (.one 13<| .one 14<| .one 15<| .take 16<| .take 17<| .take 18<| .one 19<| .fin) (.one 13 (.alt 5 (.one 14<| .one 15<| .take 16<| .take 17<| .take 18<| .one 19<| .fin) (.one 14 (.one 5<| .one 15<| .take 16<| .take 17<| .take 18<| .one 19<| .fin))))))) (.one 12 (.alt 5 (.one 9<| .one 13<| .one 14<| .one 15<| .take 16<| .take 17<| .take 18<| .one 19<| .fin) (.one 9 (.alt 5 (.one 13<| .one 14<| .one 15<| .take 16<| .take 17<| .take 18<| .one 19<| .fin) (.one 13 (.alt 5 (.one 14<| .one 15<| .take 16<| .take 17<| .take 18<| .one 19<| .fin) (.one 14 (.one 5<| .one 15<| .take 16<| .take 17<| .take 18<| .one 19<| .fin))))))))))))
abbrev hU6 (g:Gr) (n:Nat) (lat:Cl):H:=[.cells [vi g.ins,aG g.next,aG g.init,prs g.ands,aG g.outs],.cells [vi 0,.nils,.nils],bU g n (.ls 3 1 0 1 1) (.ls 4 1 0 0 0) (.ls 6 1 0 (pK g lat).length (pK g lat).length),.cells [xC [1]],.cells [],.cells (lat.map vi),.cells ((pK g lat).map vi)]
theorem MI (g:Gr) (b:Cl) (k:Int) (hs:g.Sm) (hb:b.length≤1000000):Ev TE 86 [g.v,aG b,vi k] (.tup [pM g b k,vi (zJ g b k)]):=by
 have hM:maxLen=9223372036854775807:=rfl;have hc0:=SH g b k hs hb;unfold Gr.v at hc0 ⊢;refine ak Tryz.func86 rfl (by simp[nts]) ?_;refine ag (vm ?_);simp only[wq.1,Nat.reduceLT,Tryz.results86];refine ag (vm ?_);simp only[wq.1,seval];refine ah.ev hc0 rfl ?_;simp only[wq.1,seval];refine vcB.mk (fun hz=> ?_) (fun hz=> ?_)
 ·have hz : zJ g b k ≠ 0 := by simpa using hz
  unfold pM;rw[if_neg hz];simp only[wq.1,seval];refine az.tup (aj.cons (az.agg (aj.cons (az.dat rfl) (aj.cons az.nils (aj.cons az.nils aj.nil)))) (aj.cons (az.dat rfl) aj.nil))
 ·have hz : zJ g b k = 0 := by simpa using hz
  unfold pM;rw[if_pos hz,hz];simp only[wq.1,Int.reduceBNe];obtain⟨hg,hbl,hb2,k0,k1,hnu⟩:=SI hz;obtain⟨q,rfl⟩:∃q:Nat,k=q:=⟨k.toNat,by omega⟩;clear hc0;obtain⟨_,i0,i1,i2,i3,i4,i5⟩:=jG hg;rw[Int.toNat_natCast];refine ag (vm ?_);simp only[wq.1,seval];refine jC (jC ?_);refine uU (h':=[.cells [vi g.ins,aG g.next,aG g.init,prs g.ands,aG g.outs],.cells [vi 0,.nils,.nils],bU g 0 (.ls 3 1 0 0 0) (.ls 4 1 0 0 0) .nils,.cells [],.cells []]) (HLe.set (i:=2) (o':=bU g 0 (.ls 3 1 0 0 0) (.ls 4 1 0 0 0) .nils) rfl (OLe.cells (by simp) (gK.cons (VLe.refl _) (gK.cons gz (gK.cons gz (gK.refl _)))))) ?_;refine ag (vm ?_);simp only[wq.1,↓reduceIte,Nat.reduceEqDiff,Nat.reduceLT];refine mX (b:=2) (g:=g) (n:=0) (cv:= .ls 3 1 0 0 0) (lv:= .ls 4 1 0 0 0) (rv:= .nils) rfl (by omega) ?_;simp only[wq.1,↓reduceIte,Nat.reduceEqDiff,Nat.reduceLT,reduceCtorEq,Nat.reduceMul];refine⟨⟨rfl,by decide⟩,?_⟩;refine oI (b:=2) (C:=3) (n:=1) (g:=g) (cl:=[]) (c:=[1]) (lv:= .ls 4 1 0 0 0) (rv:= .nils) (by decide) rfl rfl (fun j o ho hj=> ?_) rfl rfl (by simp) ?_
  ·rcases j with _|_|_|_|_|j
   all_goals first
    | exact absurd rfl hj
    | (obtain rfl:=Option.some.inj ho;rfl)
    | (simp at ho)
  simp only[wq.1,aZ];refine ag (vm ?_);simp only[wq.1,Nat.reduceLT];refine fJ 10 1 (by simp only[wq.1,↓reduceIte]) ?_;refine ag (vm ?_);simp only[wq.1,seval];refine aA (fun m f h=>∃i,m+i=b.length∧f.t 2=vi q∧f.t 3= .lp 0 0∧f.t 6= .lp 1 0∧f.t 9= .lp 2 0∧f.t 10= .ls 5 1 0 i i∧f.t 30=aG b∧f.t 31=vi b.length∧f.t 32=vi i∧f.d=[]∧h=hU5 g ((b.take i).foldl vX (1,[])).1 [1] ((b.take i).foldl vX (1,[])).2) b.length ⟨0,by omega,by simp only[wq.1,seval],by simp only[wq.1,seval],by simp only[wq.1,seval],by simp only[wq.1,seval],by simp only[wq.1,seval],by simp only[wq.1,seval],by simp only[wq.1,seval],rfl,by simp only[wq.1],rfl⟩ ?_;rintro m f h ⟨i,hm,t2,t3,t6,t9,t10,t30,t31,t32,hd,rfl⟩;refine ag (vm ?_);simp only[wq.1,Nat.reduceLT,t31,t32];refine ag (bu (b:=decide ((i:Int)<b.length)) (by simp only[wq.1,↓reduceIte]) (by simp only[wq.1,↓reduceIte]) (fun hlt=> ?_) (fun hlt=> ?_))
  ·simp only[decide_eq_true_eq,Int.ofNat_lt]at hlt;have hw:=aC (show i<maxLen by omega);have hgn:(b.map vi).getD i .any=vi b[i]:=KJ hlt _;have hbi:=hb2 _ (List.getElem_mem hlt);have hnx:(b.take (i+1)).foldl vX (1,[])=vX ((b.take i).foldl vX (1,[])) b[i]:=by
    rw[List.take_add_one,List.getElem?_eq_getElem hlt,List.foldl_append];rfl
   have hbo:=xX (b.take i) (1,[]) (fun x hx=>hb2 x (List.mem_of_mem_take hx)) (Nat.le_refl _) (fun a ha=>by cases ha);obtain⟨s,hsd⟩:∃s,s=(b.take i).foldl vX (1,[]):=⟨_,rfl⟩;rw[←hsd]at hnx hbo ⊢;obtain⟨s1,s2⟩:=s;obtain⟨o1,o2,o3,o4⟩:=hbo;have o4:s2.length=i:=by rw[o4];simp;omega
   have o2 : s1 ≤ 1 + i := by have : (b.take i).length = i := by simp; omega
                              simp only at o2;omega
   refine vm ?_;simp only[wq.1];refine vm ?_;have w1:IntKind.i64.wrap (2*b[i])=2*b[i]:=dE (by omega) (by omega);have w2:IntKind.i64.wrap (2*b[i]-1)=2*b[i]-1:=dE (by omega) (by omega);simp only[wq.1,seval,t30,t32,hgn,w1,w2];have hcl2:(s2.map vi).length=i*1:=by rw[List.length_map];omega
   have dcs:∀p,V.drops p (s2.map vi)=s2.map vi:=fun p=>bg _;refine⟨⟨by omega,by omega⟩,?_⟩;refine vcB.mk (fun h2=> ?_) (fun h2=> ?_)
   ·have h2 : b[i] = 2 := by simpa using h2
    simp only[wq.1,seval,t9];refine mX (b:=2) (g:=g) (n:=s1) (cv:= .ls 3 1 0 1 1) (lv:= .ls 4 1 0 0 0) (rv:= .nils) rfl (by omega) ?_;simp only[wq.1,↓reduceIte,Nat.reduceEqDiff,Nat.reduceLT,Nat.reduceBEq,reduceCtorEq,Nat.reduceMul,t10,t32,hd,dcs,hw];refine⟨⟨rfl,by decide⟩,⟨by omega,by omega,by omega⟩,.inl ⟨m-1,by omega,i+1,by omega,by simp only[wq.1,↓reduceIte,Nat.reduceEqDiff,Nat.reduceLT,Nat.reduceLeDiff,Nat.reduceAdd,Nat.reduceSub,Int.reduceToNat,Nat.reduceDiv,Int.reduceLT,Int.reduceLE,Int.reduceNeg,Int.reduceBEq,Int.reduceBNe,Int.reduceAdd,Int.reduceSub,Nat.reduceBEq,reduceCtorEq,Nat.reduceMul,ay,Tryz.results86,t2],by simp only[wq.1,↓reduceIte,Nat.reduceEqDiff,Nat.reduceLT,Nat.reduceLeDiff,Nat.reduceAdd,Nat.reduceSub,Int.reduceToNat,Nat.reduceDiv,Int.reduceLT,Int.reduceLE,Int.reduceNeg,Int.reduceBEq,Int.reduceBNe,Int.reduceAdd,Int.reduceSub,Nat.reduceBEq,reduceCtorEq,Nat.reduceMul,ay,Tryz.results86,t3],by simp only[wq.1,↓reduceIte,Nat.reduceEqDiff,Nat.reduceLT,Nat.reduceLeDiff,Nat.reduceAdd,Nat.reduceSub,Int.reduceToNat,Nat.reduceDiv,Int.reduceLT,Int.reduceLE,Int.reduceNeg,Int.reduceBEq,Int.reduceBNe,Int.reduceAdd,Int.reduceSub,Nat.reduceBEq,reduceCtorEq,Nat.reduceMul,ay,Tryz.results86,t6],by simp only[wq.1,↓reduceIte,Nat.reduceEqDiff,Nat.reduceLT,Nat.reduceLeDiff,Nat.reduceAdd,Nat.reduceSub,Int.reduceToNat,Nat.reduceDiv,Int.reduceLT,Int.reduceLE,Int.reduceNeg,Int.reduceBEq,Int.reduceBNe,Int.reduceAdd,Int.reduceSub,Nat.reduceBEq,reduceCtorEq,Nat.reduceMul,ay,Tryz.results86,t9],by simp only[wq.1,↓reduceIte,Nat.reduceEqDiff,Nat.reduceLT,Nat.reduceLeDiff,Nat.reduceAdd,Nat.reduceSub,Int.reduceToNat,Nat.reduceDiv,Int.reduceLT,Int.reduceLE,Int.reduceNeg,Int.reduceBEq,Int.reduceBNe,Int.reduceAdd,Int.reduceSub,Nat.reduceBEq,reduceCtorEq,Nat.reduceMul,ay,Tryz.results86],by simp only[wq.1,↓reduceIte,Nat.reduceEqDiff,Nat.reduceLT,Nat.reduceLeDiff,Nat.reduceAdd,Nat.reduceSub,Int.reduceToNat,Nat.reduceDiv,Int.reduceLT,Int.reduceLE,Int.reduceNeg,Int.reduceBEq,Int.reduceBNe,Int.reduceAdd,Int.reduceSub,Nat.reduceBEq,reduceCtorEq,Nat.reduceMul,ay,Tryz.results86,t30],by simp only[wq.1,↓reduceIte,Nat.reduceEqDiff,Nat.reduceLT,Nat.reduceLeDiff,Nat.reduceAdd,Nat.reduceSub,Int.reduceToNat,Nat.reduceDiv,Int.reduceLT,Int.reduceLE,Int.reduceNeg,Int.reduceBEq,Int.reduceBNe,Int.reduceAdd,Int.reduceSub,Nat.reduceBEq,reduceCtorEq,Nat.reduceMul,ay,Tryz.results86,t31],by simp only[wq.1,↓reduceIte,Nat.reduceEqDiff,Nat.reduceLT,Nat.reduceLeDiff,Nat.reduceAdd,Nat.reduceSub,Int.reduceToNat,Nat.reduceDiv,Int.reduceLT,Int.reduceLE,Int.reduceNeg,Int.reduceBEq,Int.reduceBNe,Int.reduceAdd,Int.reduceSub,Nat.reduceBEq,reduceCtorEq,Nat.reduceMul,ay,Tryz.results86],by simp only[wq.1,↓reduceIte,Nat.reduceEqDiff,Nat.reduceLT,Nat.reduceLeDiff,Nat.reduceAdd,Nat.reduceSub,Int.reduceToNat,Nat.reduceDiv,Int.reduceLT,Int.reduceLE,Int.reduceNeg,Int.reduceBEq,Int.reduceBNe,Int.reduceAdd,Int.reduceSub,Nat.reduceBEq,reduceCtorEq,Nat.reduceMul,ay,Tryz.results86,hd],?_⟩⟩;rw[hnx];simp only[hU5,vX,if_pos h2,List.map_append];rfl
   ·have h2 : b[i] ≠ 2 := by simpa using h2
    simp only[wq.1,↓reduceIte,Nat.reduceEqDiff,Nat.reduceLT,Nat.reduceBEq,reduceCtorEq,Nat.reduceMul,t10,t32,hd,dcs,hw];refine⟨⟨rfl,by decide⟩,⟨by omega,by omega,by omega⟩,.inl ⟨m-1,by omega,i+1,by omega,by simp only[wq.1,↓reduceIte,Nat.reduceEqDiff,Nat.reduceLT,Nat.reduceLeDiff,Nat.reduceAdd,Nat.reduceSub,Int.reduceToNat,Nat.reduceDiv,Int.reduceLT,Int.reduceLE,Int.reduceNeg,Int.reduceBEq,Int.reduceBNe,Int.reduceAdd,Int.reduceSub,Nat.reduceBEq,reduceCtorEq,Nat.reduceMul,ay,Tryz.results86,t2],by simp only[wq.1,↓reduceIte,Nat.reduceEqDiff,Nat.reduceLT,Nat.reduceLeDiff,Nat.reduceAdd,Nat.reduceSub,Int.reduceToNat,Nat.reduceDiv,Int.reduceLT,Int.reduceLE,Int.reduceNeg,Int.reduceBEq,Int.reduceBNe,Int.reduceAdd,Int.reduceSub,Nat.reduceBEq,reduceCtorEq,Nat.reduceMul,ay,Tryz.results86,t3],by simp only[wq.1,↓reduceIte,Nat.reduceEqDiff,Nat.reduceLT,Nat.reduceLeDiff,Nat.reduceAdd,Nat.reduceSub,Int.reduceToNat,Nat.reduceDiv,Int.reduceLT,Int.reduceLE,Int.reduceNeg,Int.reduceBEq,Int.reduceBNe,Int.reduceAdd,Int.reduceSub,Nat.reduceBEq,reduceCtorEq,Nat.reduceMul,ay,Tryz.results86,t6],by simp only[wq.1,↓reduceIte,Nat.reduceEqDiff,Nat.reduceLT,Nat.reduceLeDiff,Nat.reduceAdd,Nat.reduceSub,Int.reduceToNat,Nat.reduceDiv,Int.reduceLT,Int.reduceLE,Int.reduceNeg,Int.reduceBEq,Int.reduceBNe,Int.reduceAdd,Int.reduceSub,Nat.reduceBEq,reduceCtorEq,Nat.reduceMul,ay,Tryz.results86,t9],by simp only[wq.1,↓reduceIte,Nat.reduceEqDiff,Nat.reduceLT,Nat.reduceLeDiff,Nat.reduceAdd,Nat.reduceSub,Int.reduceToNat,Nat.reduceDiv,Int.reduceLT,Int.reduceLE,Int.reduceNeg,Int.reduceBEq,Int.reduceBNe,Int.reduceAdd,Int.reduceSub,Nat.reduceBEq,reduceCtorEq,Nat.reduceMul,ay,Tryz.results86],by simp only[wq.1,↓reduceIte,Nat.reduceEqDiff,Nat.reduceLT,Nat.reduceLeDiff,Nat.reduceAdd,Nat.reduceSub,Int.reduceToNat,Nat.reduceDiv,Int.reduceLT,Int.reduceLE,Int.reduceNeg,Int.reduceBEq,Int.reduceBNe,Int.reduceAdd,Int.reduceSub,Nat.reduceBEq,reduceCtorEq,Nat.reduceMul,ay,Tryz.results86,t30],by simp only[wq.1,↓reduceIte,Nat.reduceEqDiff,Nat.reduceLT,Nat.reduceLeDiff,Nat.reduceAdd,Nat.reduceSub,Int.reduceToNat,Nat.reduceDiv,Int.reduceLT,Int.reduceLE,Int.reduceNeg,Int.reduceBEq,Int.reduceBNe,Int.reduceAdd,Int.reduceSub,Nat.reduceBEq,reduceCtorEq,Nat.reduceMul,ay,Tryz.results86,t31],by simp only[wq.1,↓reduceIte,Nat.reduceEqDiff,Nat.reduceLT,Nat.reduceLeDiff,Nat.reduceAdd,Nat.reduceSub,Int.reduceToNat,Nat.reduceDiv,Int.reduceLT,Int.reduceLE,Int.reduceNeg,Int.reduceBEq,Int.reduceBNe,Int.reduceAdd,Int.reduceSub,Nat.reduceBEq,reduceCtorEq,Nat.reduceMul,ay,Tryz.results86],by simp only[wq.1,↓reduceIte,Nat.reduceEqDiff,Nat.reduceLT,Nat.reduceLeDiff,Nat.reduceAdd,Nat.reduceSub,Int.reduceToNat,Nat.reduceDiv,Int.reduceLT,Int.reduceLE,Int.reduceNeg,Int.reduceBEq,Int.reduceBNe,Int.reduceAdd,Int.reduceSub,Nat.reduceBEq,reduceCtorEq,Nat.reduceMul,ay,Tryz.results86,hd],?_⟩⟩;rw[hnx];simp only[hU5,vX,if_neg h2,List.map_append];rfl
  ·simp only [decide_eq_false_iff_not,Int.ofNat_lt] at hlt;have : i = b.length := by omega
   subst this;have hbo:=xX b (1,[]) hb2 (Nat.le_refl _) (fun a ha=>by cases ha);rw[List.take_length];obtain⟨o1,o2,o3,o4⟩:=hbo;obtain⟨lat,hlat⟩:∃lat,lat=(b.foldl vX (1,[])).2:=⟨_,rfl⟩;obtain⟨n0,hn0⟩:∃n0,n0=(b.foldl vX (1,[])).1:=⟨_,rfl⟩;rw[←hlat,←hn0]at o3;rw[←hlat]at o4;rw[←hn0]at o1 o2;rw[←hlat,←hn0];have o4:lat.length=b.length:=by rw[o4];simp
   rw[←o4]at t10;refine vm ?_;simp only[wq.1];refine vm ?_;simp only[wq.1,seval,t9,t10];refine sO (b:=2) (q:=5) (n:=n0) (g:=g) (cv:= .ls 3 1 0 1 1) (lv:= .ls 4 1 0 0 0) (rv:= .nils) (lat:=lat) rfl rfl (fun j o ho=> ?_) i0 (by omega) (by omega) (by decide) ?_
   ·rcases j with _|_|_|_|_|_|j
    all_goals first
     | (obtain rfl:=Option.some.inj ho;rfl)
     | (obtain rfl:=Option.some.inj ho;show O.cells (V.drops _ _)=_;rw[bg])
     | (simp at ho)
   simp only[wq.1,seval,aZ,t2,hd];have hnb:n0+q*(g.ins.toNat+g.ands.length)≤20000:=by
    have e:=MC b (1,[]) (q*(g.ins+g.ands.length)) hb2;have e2:VO g q b=b.foldl (fun n b=>n+b/2) (((1:Nat):Int)+q*(g.ins+g.ands.length)):=rfl;rw[e2,e,←hn0]at hnu;have e3:((q*(g.ins.toNat+g.ands.length):Nat):Int)=q*(g.ins+g.ands.length):=by rw[Int.natCast_mul,Int.natCast_add,Int.toNat_of_nonneg i0]
    omega
   have hB0:BH g 6 (hU6 g n0 lat) 2 3 4 (fZ g b 0).n (fZ g b 0).cl [] 6 (pK g (fZ g b 0).lat) (hU6 g n0 lat):=by
    have e1 : (fZ g b 0).n = n0 := hn0.symm;have e2 : (fZ g b 0).lat = lat := hlat.symm;rw [e1,e2];exact {
     hb:=rfl
     hC:=rfl
     hL:=rfl
     hr:=rfl
     hrs:=fun p hp=>by cases hp
     n1:=by decide
     n2:=by decide
     n3:=by decide
     bk:=by decide
     Ck:=by decide
     Lk:=by decide
     rk:=by decide
     pl:=fun j o ho j1 j2 D=>by
      rcases j with _|_|_|_|_|_|_|j
      all_goals first
       | exact absurd rfl j1
       | exact absurd rfl j2
       | (obtain rfl:=Option.some.inj ho;rfl)
       | (obtain rfl:=Option.some.inj ho;show O.cells (V.drops _ _)=_;rw[bg])
       | (simp at ho)
     bs:=fun _ _ _ _ _=>rfl}
   refine aA (fun m f h=>∃(i r:Nat) (rs:List (Nat×Cl)),m+i=q∧BH g 6 (hU6 g n0 lat) 2 3 4 (fZ g b i).n (fZ g b i).cl rs r (pK g (fZ g b i).lat) h∧rs.map (·.2)=(fZ g b i).rows∧f.t 3= .lp 0 0∧f.t 6= .lp 1 0∧f.t 9= .lp 2 0∧f.t 51=vi q∧f.t 52=vi i∧f.d=[]) q ⟨0,6,[],by omega,hB0,rfl,by simp only[wq.1,seval,t3],by simp only[wq.1,seval,t6],by simp only[wq.1,seval,t9],by simp only[wq.1,seval],rfl,by simp only[wq.1,hd]⟩ ?_;clear t2 t3 t6 t9 t10 t30 t31 t32 hd hm f;rintro m f h ⟨i,r,rs,hm,hB,hrs,t3,t6,t9,t51,t52,hd⟩;have hrl:rs.length=i:=by rw[←jH (g:=g) (b:=b) i,←hrs,List.length_map]
   have hni:=MF (g:=g) (b:=b) i;have hci:=MG (g:=g) (b:=b) i;have hmul:i*(g.ins.toNat+g.ands.length)≤q*(g.ins.toNat+g.ands.length):=Nat.mul_le_mul_right _ (by omega);have hmul2:i*g.ands.length≤i*(g.ins.toNat+g.ands.length):=Nat.mul_le_mul_left _ (by omega);have hb0:(Ew b).1=n0:=hn0.symm;rw[hb0]at hni;refine ag (vm ?_);simp only[wq.1,Nat.reduceLT,t51,t52];refine ag (bu (b:=decide ((i:Int)<q)) (by simp only[wq.1,↓reduceIte]) (by simp only[wq.1,↓reduceIte]) (fun hlt=> ?_) (fun hlt=> ?_))
   ·simp only[decide_eq_true_eq,Int.ofNat_lt]at hlt;have hw:=aC (show i<maxLen by omega);refine vm ?_;simp only[wq.1];refine vm ?_;simp only[wq.1,seval,t9];refine IM hg hB (BU hg hbl hb2 i) (by omega) (by omega) (by omega) (fun h' r' hB'=> ?_);simp only[wq.1,seval,aZ,t52,hd,hw];refine .inl ⟨m-1,by omega,i+1,r',_,by omega,hB',?_,by simp only[wq.1,seval,t3],by simp only[wq.1,seval,t6],by simp only[wq.1,seval,t9],by simp only[wq.1,seval,t51],by simp only[wq.1,↓reduceIte],by simp only[wq.1,hd]⟩;rw[List.map_append,hrs];rfl
   ·simp only [decide_eq_false_iff_not,Int.ofNat_lt] at hlt;have : i = q := by omega
    subst this;refine vm ?_;simp only[wq.1];show awp _ _ _ _ _ _ _;have hti:ti TE.P 22=some ⟨.slice 3,1,24,.nils⟩:=by simp only[wq.1]
    have htn:ti TE.P 3=some ⟨.int .i64,1,8,.int .i64 0⟩:=by simp only[wq.1]
    have hrk:=hB.rk;have e2r:(2==r)=false:=by simp;omega
    have e4r:(4==r)=false:=by simp;omega
    have e3r:(3==r)=false:=by simp;omega
    have hll:=(BU hg hbl hb2 i).l;obtain⟨row,hrow⟩:∃row,row=pK g (fZ g b i).lat:=⟨_,rfl⟩;have hrl2:row.length=1+g.ins.toNat+g.next.length:=by rw[hrow];unfold pK;simp;omega
    rw[←hrow]at hB;have hbl2:=(List.getElem?_eq_some_iff.1 hB.hb).1;have hLl:=(List.getElem?_eq_some_iff.1 hB.hL).1;have hrl3:=(List.getElem?_eq_some_iff.1 hB.hr).1;obtain⟨H1,hH1⟩:∃H1,(h.map (O.drop fun x=>x==r)).set r (.cells (V.drops (fun x=>x==r) (row.map vi++List.replicate g.ands.length (vi 0))))=H1:=⟨_,rfl⟩;have H1b:H1[2]? =some (.cells [vi (fZ g b i).n,.ls 3 1 0 (fZ g b i).cl.length (fZ g b i).cl.length,.ls 4 1 0 rs.length rs.length,vi g.ins,aG g.next,aG g.init,prs g.ands,aG g.outs,.any]):=by
     rw[←hH1,List.getElem?_set_ne (by omega),List.getElem?_map,hB.hb];simp only[Option.map_some,bU,O.drop,V.drops,V.drop,beq_self_eq_true,if_true,e3r,e4r,Bool.false_eq_true,if_false]
    have H1L:H1[4]? =some (.cells (rs.map fun p=> .ls p.1 1 0 p.2.length p.2.length)):=by rw[←hH1,List.getElem?_set_ne (by omega),List.getElem?_map,hB.hL];show some (O.cells (V.drops _ _))=_;rw[rQ fun p hp=>by have:=(hB.hrs p hp).2.2;simpa using this]
    have r4:(r==4)=false:=by simp;omega
    have e1r:(1==r)=false:=by simp;omega
    have hv4:V.drops (fun x=>x==4) (rs.map fun p=>V.ls p.1 1 0 p.2.length p.2.length)=rs.map fun p=>V.ls p.1 1 0 p.2.length p.2.length:=rQ fun p hp=>by have:=(hB.hrs p hp).2.1;simp;omega
    have H1l:H1.length=h.length:=by rw[←hH1];simp
    obtain⟨H2,hH2⟩:∃H2,(H1.map (O.drop fun x=>x==4)).set 4 (.cells ((rs.map fun p=>V.ls p.1 1 0 p.2.length p.2.length)++[.ls r 1 0 (row.length+g.ands.length) (row.length+g.ands.length)]))=H2:=⟨_,rfl⟩;have H2b:H2[2]? =some (.cells [vi (fZ g b i).n,.ls 3 1 0 (fZ g b i).cl.length (fZ g b i).cl.length,.any,vi g.ins,aG g.next,aG g.init,prs g.ands,aG g.outs,.any]):=by rw[←hH2,List.getElem?_set_ne (by omega),List.getElem?_map,H1b];rfl
    refine Bf mixed 13 MH (fun f' h'=>f'.t 6= .lp 1 0∧f'.t 9= .lp 2 0∧f'.d=[]∧h'=H2.set 2 (.cells [vi (fZ g b i).n,.ls 3 1 0 (fZ g b i).cl.length (fZ g b i).cl.length,.ls 4 1 0 (rs.length+1) (rs.length+1),vi g.ins,aG g.next,aG g.init,prs g.ands,aG g.outs,.any])) (by decide +kernel) (by decide +kernel) ?_ ?_
    ·intro K hK;have h00 : h[0]? = some (.cells [vi g.ins,aG g.next,aG g.init,prs g.ands,aG g.outs]) := hB.bs 0 (by decide) (by decide) (by decide) (by decide);simp only [wq.1,seval,MH,mJ,Ie,t3,t9,hB.hb,h00]
     repeat' apply And.intro
     all_goals refine Fb (d:=70) rfl rfl rfl rfl (fun r' o ho hod=> ?_)
     all_goals refine nz (x:= .tmp 66) (y:= .tmp 69) (t:=22) (xt:=3) (el:=3) (by subst ho;exact⟨⟨_,rfl,rfl,rfl⟩,hti,rfl,htn,rfl,rfl,Nat.zero_lt_one⟩) (by simp only[wq.1,seval]) (by simp only[wq.1,seval]) (id:=r) (len:=row.length) (cap:=row.length) (by simp only[wq.1,seval]) hB.hr (by show(row.map vi).length=row.length*1;simp) (m:=g.ands.length) (by simp only[wq.1,seval]) htn rfl (by omega) rfl (zv:=vi 0) rfl (cs:=List.replicate g.ands.length (vi 0)) rfl (by rw[←List.map_replicate (f:=vi)];exact lH _) (by omega) (by show(row.length+g.ands.length)*8≤_;omega) (by simp only[wq.1,↓reduceIte,Nat.reduceEqDiff,Nat.reduceLT,Nat.reduceLeDiff,Nat.reduceAdd,Nat.reduceSub,Int.reduceToNat,Nat.reduceDiv,Int.reduceLT,Int.reduceLE,Int.reduceNeg,Int.reduceBEq,Int.reduceBNe,Int.reduceAdd,Int.reduceSub,Nat.reduceBEq,reduceCtorEq,Nat.reduceMul,ay,Tryz.results86,hd]) (hK _ _ _ ?_)
     all_goals rw[hH1,hod]
     all_goals simp only[wq.1,↓reduceIte,Nat.reduceEqDiff,Nat.reduceLT,Nat.reduceLeDiff,Nat.reduceAdd,Nat.reduceSub,Int.reduceToNat,Nat.reduceDiv,Int.reduceLT,Int.reduceLE,Int.reduceNeg,Int.reduceBEq,Int.reduceBNe,Int.reduceAdd,Int.reduceSub,Nat.reduceBEq,reduceCtorEq,Nat.reduceMul,ay,Tryz.results86,t3,t6,t9,t51,t52,hd,H1b,H1L,e2r,e4r,r4,e1r,hv4,hH2,H2b]
     all_goals exact⟨⟨rfl,by decide⟩,by omega,by omega,by omega⟩
    ·rintro f h' ⟨t6,t9,hd,rfl⟩;have H2l : H2.length = H1.length := by rw [← hH2];simp
     have h1l:1<h.length:=by omega
     obtain⟨H3,hH3⟩:∃H3,H2.set 2 (.cells [vi (fZ g b i).n,.ls 3 1 0 (fZ g b i).cl.length (fZ g b i).cl.length,.ls 4 1 0 (rs.length+1) (rs.length+1),vi g.ins,aG g.next,aG g.init,prs g.ands,aG g.outs,.any])=H3:=⟨_,rfl⟩;have H3l:H3.length=h.length:=by rw[←hH3];simp;omega
     have H3b:H3[2]? =some (.cells [vi (fZ g b i).n,.ls 3 1 0 (fZ g b i).cl.length (fZ g b i).cl.length,.ls 4 1 0 (rs.length+1) (rs.length+1),vi g.ins,aG g.next,aG g.init,prs g.ands,aG g.outs,.any]):=by rw[←hH3,List.getElem?_set_self (by omega)]
     have go:∀(j:Nat) (cs:List V),j≠2→j≠4→j≠r→h[j]? =some (.cells cs)→(∀D,V.drops D cs=cs)→H3[j]? =some (.cells cs):=fun j cs j2 j4 jr hj hD=>by rw[←hH3,List.getElem?_set_ne (Ne.symm j2),←hH2,List.getElem?_set_ne (Ne.symm j4),List.getElem?_map,←hH1,List.getElem?_set_ne (Ne.symm jr),List.getElem?_map,hj];show some (O.cells (V.drops _ (V.drops _ cs)))=_;rw[hD,hD]
     have H31:H3[1]? =some (.cells [vi 0,.nils,.nils]):=go 1 _ (by decide) (by decide) (by omega) (hB.bs 1 (by decide) (by decide) (by decide) (by decide)) (fun D=>rfl);have H33:H3[3]? =some (.cells ((fZ g b i).cl.map xC)):=go 3 _ (by decide) (by decide) (by omega) hB.hC (fun D=>mY _);have H34:H3[4]? =some (.cells ((rs.map fun p=>V.ls p.1 1 0 p.2.length p.2.length)++[.ls r 1 0 (row.length+g.ands.length) (row.length+g.ands.length)])):=by rw[←hH3,List.getElem?_set_ne (by decide),←hH2,List.getElem?_set_self (by simp;omega)]
     have H3r:H3[r]? =some (.cells ((row++List.replicate g.ands.length 0).map vi)):=by rw[←hH3,List.getElem?_set_ne (by omega),←hH2,List.getElem?_set_ne (by omega),List.getElem?_map,←hH1,List.getElem?_set_self (by simpa using hrl3)];show some (O.cells (V.drops _ (V.drops _ _)))=_;rw[←List.map_replicate (f:=vi),←List.map_append,bg,bg]
     have H3p:∀p∈rs,H3[p.1]? =some (.cells (p.2.map vi)):=fun p hp=>by obtain⟨p1,p2,p3⟩:=hB.hrs p hp;exact go p.1 _ (by omega) (by omega) p3 p1 (fun D=>bg _)
     show vc _ _ _ _ _ _ _;simp only[wq.1,seval,t6,t9,hd,H3b,H31,hH3];obtain⟨Y,hY⟩:∃Y:O,O.cells [vi (fZ g b i).n,V.ls 3 1 0 (fZ g b i).cl.length (fZ g b i).cl.length,V.ls 4 1 0 (rs.length+1) (rs.length+1)]=Y:=⟨_,rfl⟩;have H41:(H3.set 1 Y)[1]? =some Y:=List.getElem?_set_self (by omega);have H4o:∀j,j≠1→(H3.set 1 Y)[j]? =H3[j]? :=fun j hj=>List.getElem?_set_ne (Ne.symm hj);rw[hY,H41,←hY];rw[←hY]at H4o;have hE:iC g b i=rs.map (·.2)++[row++List.replicate g.ands.length 0]:=by unfold iC;rw[hrs,hrow]
     refine⟨Nat.le_refl _,az.tup (aj.cons (az.agg (aj.cons (az.dat rfl) (aj.cons ?_ (aj.cons ?_ aj.nil)))) (aj.cons (az.dat rfl) aj.nil))⟩
     ·exact az.ls ((H4o 3 (by decide)).trans H33) (uj _) (jY _).1 (jY _).2 (by simp)
     ·refine az.ls ((H4o 4 (by decide)).trans H34) (cs' := (iC g b i).map fun c => aG c) ?_ (jY _).1 (jY _).2 (by rw [hE];simp);rw [hE,List.map_append,List.map_map];refine aj.append (F9 _ fun p hp => ?_) (aj.cons (qJ (l := row ++ List.replicate g.ands.length 0) (len := row.length + g.ands.length) ?_ (by rw [List.length_append,List.length_replicate])) aj.nil) (by simp)
      ·exact(H4o _ (by have:=(hB.hrs p hp).2.1;omega)).trans (H3p p hp)
      ·exact(H4o _ (by omega)).trans H3r
abbrev tab (a b:List S):V:= .agg [dF a,dF b]
def og (a b:List S):Int :=
 if(decide (200<a.length)||decide (200<b.length))=true then 8
 else if a.length≠b.length then 1
 else if(!(a.all bi)|| !(b.all bi))=true then 4
 else if(!(Ac a)|| !(Ac b))=true then 5
 else 0
theorem Gf {a b:List S} (h:(decide (200<(a.length:Int))||decide (200<(b.length:Int)))=true):og a b=8:=by unfold og;rw[if_pos];simp only[Bool.or_eq_true,decide_eq_true_eq]at h ⊢;omega
theorem qM {a b:List S} (h:(decide (200<(a.length:Int))||decide (200<(b.length:Int)))=false):og a b =
 if((a.length:Int) != b.length)=true then 1 else if(!(a.all bi)|| !(b.all bi))=true then 4 else if(!(Ac a)|| !(Ac b))=true then 5 else 0:=by
 unfold og;rw[if_neg]
 ·simp only[bne_iff_ne,ne_eq,Int.natCast_inj]
 ·simp only[Bool.or_eq_false_iff,decide_eq_false_iff_not]at h;simp only[Bool.or_eq_true,decide_eq_true_eq];omega
def inv (a b:List S):List S×List S:=if og a b=0 then(b,a)else([],[])
theorem Gg : ∀ {l : List S} {s : S} {i : Nat} (h : i < l.length),(∀ x ∈ l.take i,¬ x = s) → l[i] = s → at? l s = some i
 | x::l,s,0,h,_,he=>by simp only[List.getElem_cons_zero]at he;simp[at?,he]
 | x::l,s,i+1,h,hn,he=>by have h1:¬x=s:=hn x (by simp);have:=Gg (l:=l) (s:=s) (i:=i) (by simpa using h) (fun y hy=>hn y (by simp[hy])) (by simpa using he);simp[at?,h1,this]
def BX (a b:List S) (s:S):Option S:=if og a b=0 then(at? a s).map fun i=>b.getD i []else none
def goV (o:Option S):V:= .tup [.str (o.getD []),.bool o.isSome]
theorem Gh {a b:List S} (h:og a b=0):a.length=b.length:=by
 unfold og at h;split at h
 ·cases h
 ·split at h
  ·cases h
  ·omega
def QI (m:List S×List Int) (s:S) (i:Int):List S×List Int :=
 match at? m.1 s with
 | some n=>(m.1,m.2.set n i)
 | none=>(m.1++[s],m.2++[i])
def kD (l : List S) : Nat → List S × List Int
 | 0=>([],[])
 | i+1=>QI (kD l i) (l.getD i []) i
def imV (m:List S×List Int):V:= .im (m.1.map V.str) (m.2.map (V.int .i64))
theorem mZ (s : S) : ∀ (ks : List S),ji .str (.str s) (ks.map V.str) = some (at? ks s)
 | []=>rfl
 | k::ks=>by
  simp only[List.map_cons,ji,keq,at?];by_cases h:k=s
  ·subst h;simp
  ·have : (s == k) = false := by simpa using fun h' => h h'.symm
   rw[this,mZ s ks,if_neg h];cases at? ks s<;>rfl
theorem xY (m:List S×List Int) (s:S) (i:Int):Jd .str (.str s) (.int .i64 i) (m.1.map V.str) (m.2.map (V.int .i64))=some ((QI m s i).1.map V.str,(QI m s i).2.map (V.int .i64)):=by
 unfold Jd QI;rw[mZ];cases h:at? m.1 s with
 | none=>simp
 | some n =>
  obtain⟨h1,h2⟩:=nY h;have:(m.1.map V.str).set n (.str s)=m.1.map V.str:=by rw[←List.map_set,←h2,List.set_getElem_self]
  simp only[this,List.map_set]
theorem jZ {k:IntKind} {l:List Int}:V.dats (l.map (V.int k))=true:=by
 induction l with
 | nil=>rfl
 | cons a l ih=>simp only[List.map_cons,V.dats,ih,V.dat,Bool.and_self]
theorem vZ (l:List S):Ev TE 56 [dF l] (imV (kD l l.length)):=by
 refine Ev.bnd fun hb=> ?_;have hlen:=qI hb;refine ak Tryz.func56 rfl (by simp[nts]) (vm ?_);simp only[wq.1,seval,Tryz.results56];refine aA (fun m f h=>∃i,m+i=l.length∧f.t 3= .lm 0∧f.t 7=dF l∧f.t 8= .int .i64 (l.length:Int)∧f.t 9= .int .i64 (i:Int)∧f.d=[]∧h=[.map ((kD l i).1.map V.str) ((kD l i).2.map (V.int .i64))]) l.length ⟨0,by simp,rfl,rfl,rfl,rfl,rfl,rfl⟩ ?_;rintro m f h ⟨i,hm,h3,h7,h8,h9,hd,rfl⟩;refine vm ?_;simp only[wq.1,seval,h8,h9];refine vcB.mk (fun hc=> ?_) (fun hc=> ?_)
 ·simp only [decide_eq_true_eq,Int.ofNat_lt] at hc;simp only [wq.1,seval,h3,h7,h9,Ji hc,xY,K.keyOk];refine ⟨⟨by omega,by omega⟩,.inl ⟨m - 1,by omega,i + 1,by omega,h3,h7,h8,by rw [aC (by omega)];rfl,hd,?_⟩⟩;have : l.getD i [] = l[i] := by simp [List.getD_eq_getElem?_getD,hc]
  simp only[kD,this]
 ·simp only [decide_eq_false_iff_not,Int.ofNat_lt] at hc;have : i = l.length := by omega
  subst this;simp only[wq.1,seval,h3,hd];exact az.lm rfl (aj.dat bK) (aj.dat jZ)
def lU (m:List S×List Int) (s:S):Int:=match at? m.1 s with | some n=>m.2.getD n 0 | none=>-1
theorem PD (m:List S×List Int) (hm:m.1.length=m.2.length) (s:S):Ev TE 93 [imV m,.str s] (.int .i64 (lU m s)):=by
 refine ak Tryz.func93 rfl (by simp[nts]) (vm ?_);unfold lU;cases h:at? m.1 s with
 | none=>simp only[wq.1,seval,Tryz.results93,imV,mZ,tJ,K.keyOk,h];exact az.dat rfl
 | some n =>
  obtain⟨h1,h2⟩:=nY h;have hn:n<m.2.length:=by omega
  have hg:(m.2.map (V.int .i64)).getD n .any= .int .i64 m.2[n]:=gy hn _;have hg2:m.2.getD n 0=m.2[n]:=by simp[List.getD_eq_getElem?_getD,hn]
  simp only[wq.1,seval,Tryz.results93,imV,mZ,tJ,K.keyOk,h,hg,hg2];exact az.dat rfl
theorem Gi (l:List S) (hl:l.length≤1000000):Ev TE 53 [dF l] (dF l):=by
 refine ak Tryz.func53 rfl (by simp[nts]) (vm ?_);simp only[wq.1,↓reduceIte,Nat.reduceLT,reduceCtorEq,Tryz.results53];intro b hb;cases b
 ·have hM:maxLen=9223372036854775807:=rfl;simp only[wq.1,↓reduceIte,Nat.reduceEqDiff,Nat.reduceLT,reduceCtorEq,Nat.reduceMul,DY];exact⟨⟨rfl,by decide⟩,⟨by omega,by omega⟩,kF rfl rfl⟩
 ·have : l = [] := by simpa using hb rfl
  subst this;simp only[wq.1,seval];exact az.nils
structure PlcOk (l : List S) (i : Nat) : Prop where
 le:(kD l i).1.length≤i
 mem:∀s,s∈(kD l i).1↔s∈l.take i
 len:(kD l i).1.length=(kD l i).2.length
 nd:(l.take i).Nodup→kD l i=(l.take i,(List.range i).map Int.ofNat)
 dup:¬(l.take i).Nodup→(kD l i).1.length<i
theorem MJ (l : List S) : ∀ i,i ≤ l.length → PlcOk l i
 | 0,_=>⟨Nat.le_refl _,fun s=>by simp[kD],rfl,fun _=>by simp[kD],fun h=>by simp at h⟩
 | i+1,hi=>by
  have ih:=MJ l i (by omega);have hlt:i<l.length:=by omega
  have hg:l.getD i []=l[i]:=by simp[List.getD_eq_getElem?_getD,hlt]
  have ht:l.take (i+1)=l.take i++[l[i]]:=by rw[List.take_add_one];simp[hlt]
  cases hm:at? (kD l i).1 l[i]with
  | some n =>
   have hp:kD l (i+1)=((kD l i).1,(kD l i).2.set n i):=by simp only[kD,QI,hg,hm]
   obtain⟨h1,h2⟩:=nY hm;have hin:l[i]∈l.take i:=(ih.mem _).1 (h2▸List.getElem_mem h1);have hnd:¬(l.take (i+1)).Nodup:=by rw[ht,List.nodup_append];rintro⟨_,_,h3⟩;exact h3 _ hin _ (by simp) rfl
   refine⟨by rw[hp];have:=ih.le;exact Nat.le_succ_of_le this,fun s=> ?_,by rw[hp];simpa using ih.len,fun h=>absurd h hnd,fun _=>by rw[hp];exact Nat.lt_succ_of_le ih.le⟩;rw[hp,ht,List.mem_append,ih.mem];constructor
   ·exact fun h=> .inl h
   ·rintro (h | h)
    ·exact h
    ·rw[List.mem_singleton]at h;rw[h];exact hin
  | none =>
   have hp:kD l (i+1)=((kD l i).1++[l[i]],(kD l i).2++[(i:Int)]):=by simp only[kD,QI,hg,hm]
   have hin:¬l[i]∈l.take i:=by intro h;obtain⟨n,hn⟩:=zD ((ih.mem _).2 h);rw[hm]at hn;cases hn
   refine⟨by rw[hp];simpa using ih.le,fun s=>by rw[hp,ht,List.mem_append,List.mem_append,ih.mem],by rw[hp];simpa using ih.len,fun h=> ?_,fun h=> ?_⟩
   ·have h0 : (l.take i).Nodup := by rw [ht,List.nodup_append] at h;exact h.1
    rw[hp,ih.nd h0,ht,List.range_succ,List.map_append];rfl
   ·have h0:¬(l.take i).Nodup:=fun h0=>h (Iz hlt h0 hin);rw[hp];simpa using ih.dup h0
theorem Gj (l:List S):decide (((kD l l.length).1.length:Int)<(l.length:Int))= !Ac l:=by
 have h:=MJ l l.length (Nat.le_refl _);by_cases hn:l.Nodup
 ·have h1:=h.nd (by rw[List.take_length];exact hn);simp[h1,Ac,hn]
 ·have h1 := h.dup (by rw [List.take_length];exact hn);have : Ac l = false := by simp [Ac,hn]
  rw[this];simpa using h1
theorem IP {l:List S} (h:Ac l=true) (s:S):lU (kD l l.length) s=match at? l s with | some n=>(n:Int) | none=>-1:=by
 have hn:l.Nodup:=by simpa [Ac]using h
 have h1:=(MJ l l.length (Nat.le_refl _)).nd (by rw[List.take_length];exact hn);unfold lU;rw[h1,List.take_length];cases hm:at? l s with
 | none=>rfl
 | some n=>obtain⟨h2,_⟩:=nY hm;simp[List.getD_eq_getElem?_getD,h2]
theorem PE {a b:List S} (h:(decide (200<(a.length:Int))||decide (200<(b.length:Int)))=false) (h2:((a.length:Int) != b.length)=true):og a b=1:=by rw[qM h,if_pos h2]
theorem BZ {a b:List S} (h:(decide (200<(a.length:Int))||decide (200<(b.length:Int)))=false) (h2:((a.length:Int) != b.length)=false) (h3:(!(a.all bi)|| !(b.all bi))=true):og a b=4:=by rw[qM h,if_neg (by rw[h2];simp),if_pos h3]
theorem xZ {a b:List S} (h:(decide (200<(a.length:Int))||decide (200<(b.length:Int)))=false) (h2:((a.length:Int) != b.length)=false) (h3:(!(a.all bi)|| !(b.all bi))=false) (h4:(!(Ac a)|| !(Ac b))=true):og a b=5:=by rw[qM h,if_neg (by rw[h2];simp),if_neg (by rw[h3];simp),if_pos h4]
theorem SK {a b:List S} (h:(decide (200<(a.length:Int))||decide (200<(b.length:Int)))=false) (h2:((a.length:Int) != b.length)=false) (h3:(!(a.all bi)|| !(b.all bi))=false) (h4:(!(Ac a)|| !(Ac b))=false):og a b=0:=by rw[qM h,if_neg (by rw[h2];simp),if_neg (by rw[h3];simp),if_neg (by rw[h4];simp)]
theorem wo (a b:List S):Ev TE 25 [tab a b] (.int .i64 (og a b)):=by
 refine ak Tryz.func25 rfl (by simp[nts]) (vm ?_);simp only[wq.1,seval,Tryz.results25];refine vcB.mk (fun hc=> ?_) (fun hc=> ?_)
 ·simp only[wq.1,seval,hc];exact aQ rfl (by rw[Gf (by rw[hc];rfl)])
 ·simp only [wq.1,seval,hc];refine vcB.mk (fun hc1 => ?_) (fun hc1 => ?_)
  ·simp only[wq.1,seval,hc1];exact aQ rfl (by rw[Gf (by rw[hc1];simp)])
  ·have g1 : (decide (200 < (a.length : Int)) || decide (200 < (b.length : Int))) = false := by rw [hc,hc1];rfl
   simp only[wq.1,seval,hc1];refine vcB.mk (fun hc2=> ?_) (fun hc2=> ?_)
   ·simp only[wq.1,seval];exact aQ rfl (by rw[PE g1 hc2])
   ·simp only [wq.1,seval];refine ah.ev (FV a) rfl ?_;simp only [wq.1,seval];refine vcB.mk (fun hc3 => ?_) (fun hc3 => ?_)
    ·simp only[wq.1,seval,hc3];exact aQ rfl (by rw[BZ g1 hc2 (by rw[hc3];rfl)])
    ·simp only [wq.1,seval,hc3];refine ah.ev (FV b) rfl ?_;simp only [wq.1,seval];refine vcB.mk (fun hc4 => ?_) (fun hc4 => ?_)
     ·simp only[wq.1,seval,hc4];exact aQ rfl (by rw[BZ g1 hc2 (by rw[hc4];simp)])
     ·have g3 : (!(a.all bi) || !(b.all bi)) = false := by rw [hc3,hc4];rfl
      simp only[wq.1,seval,hc4];refine⟨by decide +kernel,Je.mk (vZ a) rfl rfl ?_⟩;simp only[wq.1,seval,imV,Gj];refine vcB.mk (fun hc5=> ?_) (fun hc5=> ?_)
      ·simp only[wq.1,seval,hc5];exact aQ rfl (by rw[xZ g1 hc2 g3 (by rw[hc5];rfl)])
      ·simp only [wq.1,seval,hc5];refine ⟨by decide +kernel,Je.mk (vZ b) rfl rfl ?_⟩;simp only [wq.1,seval,imV,Gj];refine vcB.mk (fun hc6 => ?_) (fun hc6 => ?_)
       ·simp only[wq.1,seval,hc6];exact aQ rfl (by rw[xZ g1 hc2 g3 (by rw[hc6];simp)])
       ·simp only[wq.1,seval,hc6];exact aQ rfl (by rw[SK g1 hc2 g3 (by rw[hc5,hc6];rfl)])
def mkT (a b:List S):List S×List S:=if og a b=0 then(a,b)else([],[])
theorem QJ (a b:List S) (ha:a.length≤1000000) (hb:b.length≤1000000):Ev TE 22 [dF a,dF b] (.tup [tab (mkT a b).1 (mkT a b).2,.int .i64 (og a b)]):=by
 refine ak Tryz.func22 rfl (by simp[nts]) (vm ?_);simp only[wq.1,seval,Tryz.results22];refine ah.ev (Gi a ha) rfl ?_;simp only[wq.1,seval];refine ah.ev (Gi b hb) rfl ?_;simp only[wq.1,seval];refine ah.ev (wo a b) rfl ?_;simp only[wq.1,seval];refine vcB.mk (fun hc=> ?_) (fun hc=> ?_)
 ·have h0 : mkT a b = ([],[]) := by unfold mkT;rw [if_neg (by simpa using hc)]
  rw[h0];simp only[wq.1,seval];exact az.tup (aj.cons (az.agg (aj.cons az.nils (aj.cons az.nils aj.nil))) (aj.cons (az.dat rfl) aj.nil))
 ·have hz : og a b = 0 := by simpa using hc
  have h0:mkT a b=(a,b):=by unfold mkT;rw[if_pos hz]
  rw[h0];simp only[wq.1,seval,hz];exact az.dat rfl
theorem U9 (s:S):Ev TE 92 [.str s] (goV none):=by refine ak Tryz.func92 rfl (by simp[nts]) (vm ?_);simp only[wq.1,seval,Tryz.results92];exact az.dat rfl
def ww (a b:List S):V :=
 if og a b=0 then .fn (.func 94) [] [.ip (.fn (.func 93) [imV (kD a a.length)] []),.ip (tab a b)]else .fn (.func 92) [] []
theorem Gl (a b:List S):Ev TE 57 [tab a b] (ww a b):=by
 refine ak Tryz.func57 rfl (by simp[nts]) (vm ?_);simp only[wq.1,seval,Tryz.results57];refine ah.ev (wo a b) rfl ?_;simp only[wq.1,seval];refine vcB.mk (fun hc=> ?_) (fun hc=> ?_)
 ·have h0 : ww a b = .fn (.func 92) [] [] := by unfold ww;rw [if_neg (by simpa using hc)]
  rw[h0];simp only[wq.1,seval];exact az.dat rfl
 ·have h0 : ww a b = .fn (.func 94) [] [.ip (.fn (.func 93) [imV (kD a a.length)] []),.ip (tab a b)] := by unfold ww;rw [if_pos (by simpa using hc)]
  rw[h0];simp only[wq.1,seval];refine ah.ev (vZ a) rfl ?_;simp only[wq.1,seval];exact az.fn aj.nil (aj.cons (az.lp rfl (aj.dat rfl) rfl rfl (by simp[V.vc]) rfl) (aj.cons (az.lp rfl (aj.dat rfl) rfl rfl (by simp[V.vc]) rfl) aj.nil))
theorem SL {a b:List S} {s:S} {n:Nat} (h:at? a s=some n) (hz:og a b=0):∃h2:n<b.length,BX a b s=some b[n]:=by obtain⟨h1,_⟩:=nY h;have:=Gh hz;exact⟨by omega,by simp[BX,hz,h,List.getD_eq_getElem?_getD,show n<b.length by omega]⟩
theorem Cb {a b:List S} (h:og a b=0):Ac a=true:=by
 unfold og at h;split at h
 ·cases h
 ·split at h
  ·cases h
  ·split at h
   ·cases h
   ·split at h
    ·cases h
    ·rename_i hh;simp only[Bool.or_eq_true,Bool.not_eq_true',not_or,Bool.not_eq_false]at hh;exact hh.1
theorem Va (a b:List S) (s:S) (hz:og a b=0):Ev TE 94 [.str s,.ip (.fn (.func 93) [imV (kD a a.length)] []),.ip (tab a b)] (goV (BX a b s)):=by
 refine ak Tryz.func94 rfl (by simp[nts]) (vm ?_);simp only[wq.1,seval,Tryz.results94];refine ah.ev (PD _ (MJ a a.length (Nat.le_refl _)).len s) rfl ?_;rw[IP (Cb hz)];cases h:at? a s with
 | none =>
  have h0:BX a b s=none:=by simp[BX,h]
  rw[h0];simp only[wq.1,seval];exact az.dat rfl
 | some n =>
  obtain⟨h2,h0⟩:=SL h hz;have hneg:decide ((n:Int)<0)=false:=by simp
  rw[h0];simp only[wq.1,seval,hneg,Ji h2];exact⟨⟨by omega,by omega⟩,az.dat rfl⟩
theorem MK (a b:List S) (s:S):Ev TE 26 [tab a b,.str s] (goV (BX a b s)):=by
 refine ak Tryz.func26 rfl (by simp[nts]) (vm ?_);by_cases hz:og a b=0
 ·simp only[wq.1,seval,Tryz.results26];refine ah.ev (Gl a b) rfl ?_;unfold ww;rw[if_pos hz];simp only[wq.1,seval];refine ah.ev (Va a b s hz) rfl ?_;simp only[wq.1,seval,goV];exact az.dat rfl
 ·have h0 : BX a b s = none := by unfold BX;rw [if_neg hz]
  rw[h0];simp only[wq.1,seval,Tryz.results26];refine ah.ev (Gl a b) rfl ?_;unfold ww;rw[if_neg hz];simp only[wq.1,seval];refine ah.ev (U9 s) rfl ?_;simp only[wq.1,seval,goV];exact az.dat rfl
theorem wz (a b:List S):og a b=og b a:=by unfold og;rw[Bool.or_comm (decide (200<a.length)),Bool.or_comm (!(a.all bi)),Bool.or_comm (!Ac a)];simp only[ne_comm (a:=a.length)]
theorem SN (a b:List S) (ha:a.length≤1000000) (hb:b.length≤1000000):Ev TE 18 [tab a b] (tab (inv a b).1 (inv a b).2):=by
 have h0:inv a b=mkT b a:=by unfold inv mkT;rw[wz a b]
 rw[h0];refine ak Tryz.func18 rfl (by simp[nts]) (vm ?_);simp only[wq.1,seval,Tryz.results18];refine ah.ev (QJ b a hb ha) rfl ?_;simp only[wq.1,seval];exact az.dat rfl
end Go.Proofs.YtmlacppmbfbjgaaGreatDoor
