/- Lemmas for this claim, part F11: each holds under what it names. -/
import Derived.Test.YtokppohljajhjaaGreatDoorRF10
import Derived.Test.YtokppohljajhjaaGreatDoorRA10
import Derived.Test.YtokppohljajhjaaGreatDoorRA7
import Derived.Test.YtokppohljajhjaaGreatDoorRA9
import Derived.Test.YtokppohljajhjaaGreatDoorRF02
set_option linter.all false
set_option maxRecDepth 20000
set_option maxHeartbeats 8000000
namespace Go.Proofs.YtokppohljajhjaaGreatDoor
open Go Go.Proofs Go.Abs
theorem QF[MO](l:List Tk):Ev TE 32 [iO l] (.fn (.func 73) [] [.ip (iO l)]):=by refine ah Tryz.func32 rfl (by simp[nts]) (vm ?_);simp only[wq.1,seval,Tryz.results32];exact aA.fn au.nil (au.cons (aA.lp rfl (au.dat rfl) rfl rfl (by simp[V.vc]) rfl) au.nil)
theorem DU[MO](l:List Tk)(hl:l.length<=3000000){y:Nat}(Hp:List (List Tk)->H->Prop)(Bad:V->H->Prop)(kp:Nat->Prop)(hky:kp y)
 (happ:∀d h X,Hp d h->Hp d (h++X))
 (step:∀d ln rest h,Hp d h->bM [] l=d++ln::rest->UM TE y [iO ln] h (fun h' p=>(∀i,kp i->p i=false)/\Hp (d++[ln]) h') (fun v h' p=>(∀i,kp i->p i=false)/\Bad v h'))
 (h:H) (h0:Hp [] h) :
 ag TE 73 ([]++[.yd y]++[.ip (iO l)]) h fun ae h' p=>(∀i,kp i->p i=false)/\match ae with
  | .ret _=>Hp (bM [] l) h'
  | .pan v=>Bad v h':=by
 have hM := mLx;obtain ⟨A,hA⟩ : ∃ A,A = bM [] l := ⟨_,rfl⟩;rw [<- hA] at step ⊢;refine ax Tryz.func73 rfl (by simp [nts]) ?_;refine vn ?_;simp only [wq.1,Nat.reduceLT,Tryz.results73];refine vn ?_;simp only [wq.1,seval];refine aB ?_;refine aF (fun m f h => ∃ (i b : Nat) (d : List (List Tk)),m + i = l.length /\ i <= l.length /\ b <= i /\ A = d ++ bM ((l.drop b).take (i - b)) (l.drop i) /\ Hp d h /\ f.t 0 = .yd y /\ f.t 1 = .ip (iO l) /\ f.t 3 = vi b /\ f.t 6 = iO l /\ f.t 7 = vi l.length /\ f.t 8 = vi i /\ f.d = [] /\ (∀ j,kp j -> f.k j = false)) l.length
  ⟨0,0,[],by omega,by omega,by omega,by rw[hA];simp,h0,by simp only[wq.1,seval],by simp only[wq.1,seval],by simp only[wq.1,↓reduceIte,Nat.reduceEqDiff];rfl,by simp only[wq.1,↓reduceIte,Nat.reduceEqDiff,Nat.reduceLT,Nat.reduceLeDiff,Nat.reduceAdd,Nat.reduceSub,Int.reduceToNat,Nat.reduceDiv,Int.reduceLT,Int.reduceLE,Int.reduceNeg,Int.reduceBEq,Int.reduceBNe,Int.reduceAdd,Int.reduceSub,Nat.reduceBEq,reduceCtorEq,Nat.reduceMul,ak,Tryz.results73],by simp only[wq.1,↓reduceIte,Nat.reduceEqDiff,Nat.reduceLT,Nat.reduceLeDiff,Nat.reduceAdd,Nat.reduceSub,Int.reduceToNat,Nat.reduceDiv,Int.reduceLT,Int.reduceLE,Int.reduceNeg,Int.reduceBEq,Int.reduceBNe,Int.reduceAdd,Int.reduceSub,Nat.reduceBEq,reduceCtorEq,Nat.reduceMul,ak,Tryz.results73],by simp only[wq.1,↓reduceIte,Nat.reduceEqDiff,Nat.reduceLT,Nat.reduceLeDiff,Nat.reduceAdd,Nat.reduceSub,Int.reduceToNat,Nat.reduceDiv,Int.reduceLT,Int.reduceLE,Int.reduceNeg,Int.reduceBEq,Int.reduceBNe,Int.reduceAdd,Int.reduceSub,Nat.reduceBEq,reduceCtorEq,Nat.reduceMul,ak,Tryz.results73];rfl,by simp only[wq.1,↓reduceIte,Nat.reduceEqDiff,Nat.reduceLT,Nat.reduceLeDiff,Nat.reduceAdd,Nat.reduceSub,Int.reduceToNat,Nat.reduceDiv,Int.reduceLT,Int.reduceLE,Int.reduceNeg,Int.reduceBEq,Int.reduceBNe,Int.reduceAdd,Int.reduceSub,Nat.reduceBEq,reduceCtorEq,Nat.reduceMul,ak,Tryz.results73],fun _ _=>rfl⟩ ?_
 rintro m f h ⟨i,b,d,hm,hil,hbi,hAi,hHp,t0,t1,t3,t6,t7,t8,hd,hk⟩;have hw:=az (show i<maxLen by omega);refine vn ?_;simp only[wq.1,Nat.reduceLT,t7,t8];refine vn ?_;simp only[wq.1,↓reduceIte];refine vcB.mk (fun hlt=> ?_) (fun hlt=> ?_)
 ·have hlt:i<l.length:=by have:=zqs hlt;omega
  obtain⟨t,ht⟩:∃t,t=l[i]:=⟨_,rfl⟩;have hgt:=PY hlt .any;rw[<-ht]at hgt;rw[List.drop_eq_getElem_cons hlt,<-ht,bM]at hAi;have hgE:∀x:O,(h++[x])[h.length]? =some x:=fun x=>by simp
  have hgS:∀x y:O,(h++[x]).set h.length y=h++[y]:=fun x y=>by simp
  simp only[wq.1];refine aj ?_;refine aB ?_;refine vn ?_;simp only[wq.1,seval,t6,t8,hgt,hgE,hgS];refine⟨⟨by omega,by omega⟩,?_⟩;have hHp2:=happ d h [.cells [vi t.k,.str t.t,vi t.at']] hHp;obtain⟨h2,hh2⟩:∃h2,h2=h++[O.cells [vi t.k,.str t.t,vi t.at']]:=⟨_,rfl⟩;have hc2:h2[h.length]? =some (.cells [vi t.k,.str t.t,vi t.at']):=by rw[hh2];exact hgE _
  rw[<-hh2]at hHp2 ⊢;obtain⟨acc,hacc⟩:∃acc,acc=(l.drop b).take (i-b):=⟨_,rfl⟩;rw[<-hacc]at hAi;refine aj ?_;refine vn ?_;simp only[wq.1,seval,hc2];by_cases hk3:t.k=3
  ·have e3:(((t.k:Nat):Int) != 3)=false:=by rw[hk3];rfl
   rw[if_pos hk3]at hAi;have hsl:((l.map Tk.v).drop b).take (i-b)=acc.map Tk.v:=by rw[hacc,<-List.map_drop,<-List.map_take]
   refine vm ?_;simp only[wq.1,↓reduceIte,e3];refine aj (aj (iL ?_));refine ay rfl rfl ?_;simp only[wq.1,seval,t0];refine ay rfl rfl ?_;simp only[wq.1,seval,t1];refine ay rfl rfl ?_;simp only[wq.1,seval,t3];refine ay rfl rfl ?_;simp only[wq.1,seval];refine ay rfl rfl ?_;simp only[wq.1,seval,hsl];refine⟨⟨by omega,by omega,by omega⟩,?_⟩;refine eX rfl rfl ?_;have gp:=step d acc _ h2 hHp2 hAi;refine Lj rfl rfl (id:=y) (by simp only[wq.1,seval]) (by simp only[wq.1,seval]) (S:=fun h' p=>(∀i,kp i->p i=false)/\Hp (d++[acc]) h') (SP:=fun v h' p=>(∀i,kp i->p i=false)/\Bad v h') (by simp only[wq.1,↓reduceIte];exact gp) (fun h' p hp hs=>⟨fun i hi=> ?_,?_⟩) (fun v h' p hs=>⟨fun i hi=> ?_,?_⟩)
   ·have hi:i∈f.d:=hi;rw[hd]at hi;cases hi
   ·obtain⟨hkp,hH⟩:=hs;refine ay rfl rfl ?_;simp only[wq.1,↓reduceIte];refine eG ?_;show awp _ _ _ _ _ _ _;refine vm ?_;simp only[wq.1,↓reduceIte];refine vm ?_;simp only[wq.1,seval,hw];refine vm ?_;simp only[wq.1,seval,t8,hw];refine .inl ⟨m-1,by omega,i+1,i+1,d++[acc],by omega,by omega,by omega,?_,hH,by simp only[wq.1,seval,t0,hp],by simp only[wq.1,seval,t1],by simp only[wq.1,seval],by simp only[wq.1,seval,t6],by simp only[wq.1,seval,t7],by simp only[wq.1,↓reduceIte],by simp only[wq.1,hd],fun j hj=> ?_⟩
    ·rw[hAi,Nat.sub_self,List.take_zero,zqc];rfl
    ·show(f.k j||p j)=false;rw[hk j hj,hkp j hj];rfl
   ·have hi:i∈f.d:=hi;rw[hd]at hi;cases hi
   ·obtain⟨hkp,hB⟩:=hs;refine dA (P:=P) (rs:=[]) (R:=fun ae h' p=>(∀i,kp i->p i=false)/\match ae with
     | .ret _=>Hp A h'
     | .pan v=>Bad v h') hd ⟨fun j hj=> ?_,hB⟩
    show(f.k j||p j)=false;rw[hk j hj,hkp j hj];rfl
  ·have e3:(((t.k:Nat):Int) != 3)=true:=by rw[bne_iff_ne];omega
   rw[if_neg hk3]at hAi;have hacc2:acc++[t]=(l.drop b).take (i+1-b):=by
    rw[hacc,show i+1-b=(i-b)+1 by omega,List.take_succ_eq_append_getElem (by rw[List.length_drop];omega),List.getElem_drop,ht];simp only[show b+(i-b)=i by omega]
   rw[hacc2]at hAi;refine vm ?_;simp only[wq.1,↓reduceIte,e3];show awp _ _ _ _ _ _ _;refine vm ?_;simp only[wq.1,seval,t8,hw];exact .inl ⟨m-1,by omega,i+1,b,d,by omega,by omega,by omega,hAi,hHp2,by simp only[wq.1,seval,t0],by simp only[wq.1,seval,t1],by simp only[wq.1,seval,t3],by simp only[wq.1,seval,t6],by simp only[wq.1,seval,t7],by simp only[wq.1,↓reduceIte],by simp only[wq.1,hd],fun j hj=>by simp only[wq.1,hk j hj]⟩
 ·have hi:i=l.length:=by have:=of_decide_eq_false hlt;omega
  rw[hi,List.drop_length,bM,zqp]at hAi;subst hAi;simp only[wq.1,hd];exact⟨hk,hHp⟩
theorem xy(s:ByteArray)(c:Int):∀k:Nat,-1<=Lib.lastIdx s c k/\Lib.lastIdx s c k<k
 |0=>by simp[Lib.lastIdx]
 |k+1=>by have:=xy s c k;unfold Lib.lastIdx;split<;>omega
def DV(a b:Int)(s:S):Int×Int:=if s.count 10=0 then(a,b+s.length)else(a+(s.count 10:Nat),s.length-Lib.lastIndexByte ⟨s.toArray⟩ 10)
def Rx:Plan:=tkZ [0,2,4,6]<| .alt 1 (.alt 3 (.alt 5 (onZ [7,8,9,10]<| .fin) (.one 7 (onZ [5,8,9,10]<| .fin))) (.alt 5 (.alt 3 (onZ [7,8,9,10]<| .fin) (.one 7 (.alt 3 (onZ [8,9,10]<| .fin) (.one 8 (onZ [3,9,10]<| .fin))))) (.one 7 (.alt 3 (onZ [5,8,9,10]<| .fin) (.one 5 (.alt 3 (onZ [8,9,10]<| .fin) (.one 8 (onZ [3,9,10]<| .fin)))))))) (.alt 5 (.alt 1 (.alt 3 (onZ [7,8,9,10]<| .fin) (.one 7 (.alt 3 (onZ [8,9,10]<| .fin) (.one 8 (onZ [3,9,10]<| .fin))))) (.one 7 (.alt 1 (.alt 3 (onZ [8,9,10]<| .fin) (.one 8 (onZ [3,9,10]<| .fin))) (.one 8 (onZ [1,3,9,10]<| .fin))))) (.one 7 (.alt 1 (.alt 3 (onZ [5,8,9,10]<| .fin) (.one 5 (.alt 3 (onZ [8,9,10]<| .fin) (.one 8 (onZ [3,9,10]<| .fin))))) (.one 5 (.alt 1 (.alt 3 (onZ [8,9,10]<| .fin) (.one 8 (onZ [3,9,10]<| .fin))) (.one 8 (onZ [1,3,9,10]<| .fin)))))))
theorem QG[MO](a b:Int)(s:S)(ha:0<=a/\a<=1000000000)(hb:0<=b/\b<=1000000000)(hs:s.length<=1000000000):Ev TE 110 [.agg [vi a,vi b],.str s] (.agg [vi (DV a b s).1,vi (DV a b s).2]):=by
 have hc:s.count 10<=s.length:=List.count_le_length;have hl:=xy ⟨s.toArray⟩ 10 s.length;have hl':Lib.lastIndexByte ⟨s.toArray⟩ 10=Lib.lastIdx ⟨s.toArray⟩ 10 s.length:=rfl;refine ah Tryz.func110 rfl (by simp[nts]) ?_;refine vn ?_;simp only[wq.1,Nat.reduceLT,Tryz.results110];refine vn ?_;simp only[wq.1,seval];refine ag.ev (CX s 10) rfl ?_;simp only[wq.1,seval];refine vn ?_;simp only[wq.1,↓reduceIte,Nat.reduceLT];refine vcB.mk (fun h0=> ?_) (fun h0=> ?_)
 ·have h0:s.count 10=0:=by simpa using h0
  have w1:IntKind.i64.wrap (b+(s.length:Int))=b+s.length:=iw (by omega) (by omega);simp only[wq.1,↓reduceIte,Nat.reduceEqDiff,Nat.reduceLT,Nat.reduceLeDiff,Nat.reduceAdd,Int.reduceToNat,Int.reduceLE,reduceCtorEq,Nat.reduceMul,w1];unfold DV;rw[if_pos h0];exact⟨by decide,by decide,aA.dat rfl⟩
 ·have h0:s.count 10≠0:=by simpa using h0
  have w1:IntKind.i64.wrap (a+((s.count 10:Nat):Int))=a+(s.count 10:Nat):=iw (by omega) (by omega);have w2:IntKind.i64.wrap ((s.length:Int)-Lib.lastIndexByte ⟨s.toArray⟩ 10)=s.length-Lib.lastIndexByte ⟨s.toArray⟩ 10:=iw (by omega) (by omega);simp only[wq.1];refine aj ?_;refine gQ mixed Rx (fun f' h'=>f'.t 4= .lp 1 0/\f'.d=[]/\h'=[.cells [vi a,vi b],.cells [vi (a+(s.count 10:Nat)),vi (s.length-Lib.lastIndexByte ⟨s.toArray⟩ 10)]]) (by rw[TEP];decide +kernel) (by decide +kernel) ?_ ?_
  ·have hten:((10:UInt8).toNat:Int)=10:=rfl;simp only[wq.1,seval,Rx]
   repeat' apply zsa
   all_goals try(first|decide|rfl)
   all_goals (refine ag.ev (PK s 10 hs) rfl ?_)
   all_goals (simp only[wq.1,seval,w1,w2,hten])
   all_goals trace_state
  ·rintro f h ⟨h4,hd,rfl⟩;simp only[wq.1];refine vm ?_;simp only[wq.1,seval,h4,hd];unfold DV;rw[if_neg h0];exact aA.dat rfl
theorem mx(a b:Int):JF [vi a,vi b]=(True,vi (max a b)):=by simp only[JF,Int.max_def];split<;>split<;>first|rfl|(congr 2;omega)
theorem mn(a b:Int):Eh [vi a,vi b]=(True,vi (min a b)):=by simp only[Eh,Int.min_def];split<;>split<;>first|rfl|(congr 2;omega)
def oh(s:S)(a:Int):Int×Int:=DV 1 1 (s.take (min (max a 0) (s.length:Int)).toNat)
def Nz:Plan:= .take 0<| .take 2<| .alt 1 (.take 4<| .one 3<| .take 5<| .fin) (.one 3 (.one 1<| .take 4<| .take 5<| .fin))
def Ry:Plan:=tkZ [1,2,4]<| .alt 0 (.alt 3 (.alt 5 (.alt 6 (.take 7<| .alt 8 (.one 9<| .one 10<| .fin) (.one 9 (.one 8<| .one 10<| .fin))) (.one 9 (.one 6<| .take 7<| .one 8<| .one 10<| .fin))) (.one 9 (.one 5<| .one 6<| .take 7<| .one 8<| .one 10<| .fin))) (.alt 5 (.alt 3 (.alt 6 (.take 7<| .alt 8 (.one 9<| .one 10<| .fin) (.one 9 (.one 8<| .one 10<| .fin))) (.one 9 (.one 6<| .take 7<| .one 8<| .one 10<| .fin))) (.one 9 (.one 3<| .one 6<| .take 7<| .one 8<| .one 10<| .fin))) (.one 9 (.alt 3 (.one 5<| .one 6<| .take 7<| .one 8<| .one 10<| .fin) (.one 5 (.one 3<| .one 6<| .take 7<| .one 8<| .one 10<| .fin)))))) (.alt 3 (.alt 0 (.alt 5 (.alt 6 (.take 7<| .alt 8 (.one 9<| .one 10<| .fin) (.one 9 (.one 8<| .one 10<| .fin))) (.one 9 (.one 6<| .take 7<| .one 8<| .one 10<| .fin))) (.one 9 (.one 5<| .one 6<| .take 7<| .one 8<| .one 10<| .fin))) (.alt 5 (.alt 0 (.alt 6 (.take 7<| .alt 8 (.one 9<| .one 10<| .fin) (.one 9 (.one 8<| .one 10<| .fin))) (.one 9 (.one 6<| .take 7<| .one 8<| .one 10<| .fin))) (.alt 6 (.take 7<| .alt 0 (.alt 8 (.one 9<| .one 10<| .fin) (.one 9 (.one 8<| .one 10<| .fin))) (.one 9 (onZ [0,8,10]<| .fin))) (.one 9 (.alt 0 (.one 6<| .take 7<| .one 8<| .one 10<| .fin) (.one 6 (.take 7<|onZ [0,8,10]<| .fin)))))) (.one 9 (.alt 0 (.one 5<| .one 6<| .take 7<| .one 8<| .one 10<| .fin) (.one 5 (.alt 0 (.one 6<| .take 7<| .one 8<| .one 10<| .fin) (.one 6 (.take 7<|onZ [0,8,10]<| .fin)))))))) (.alt 5 (.alt 0 (.alt 3 (.alt 6 (.take 7<| .alt 8 (.one 9<| .one 10<| .fin) (.one 9 (.one 8<| .one 10<| .fin))) (.one 9 (.one 6<| .take 7<| .one 8<| .one 10<| .fin))) (.one 9 (.one 3<| .one 6<| .take 7<| .one 8<| .one 10<| .fin))) (.alt 3 (.alt 0 (.alt 6 (.take 7<| .alt 8 (.one 9<| .one 10<| .fin) (.one 9 (.one 8<| .one 10<| .fin))) (.one 9 (.one 6<| .take 7<| .one 8<| .one 10<| .fin))) (.alt 6 (.take 7<| .alt 0 (.alt 8 (.one 9<| .one 10<| .fin) (.one 9 (.one 8<| .one 10<| .fin))) (.one 9 (onZ [0,8,10]<| .fin))) (.one 9 (.alt 0 (.one 6<| .take 7<| .one 8<| .one 10<| .fin) (.one 6 (.take 7<|onZ [0,8,10]<| .fin)))))) (.one 9 (.alt 0 (.one 3<| .one 6<| .take 7<| .one 8<| .one 10<| .fin) (.one 3 (.alt 0 (.one 6<| .take 7<| .one 8<| .one 10<| .fin) (.one 6 (.take 7<|onZ [0,8,10]<| .fin)))))))) (.one 9 (.alt 0 (.alt 3 (.one 5<| .one 6<| .take 7<| .one 8<| .one 10<| .fin) (.one 5 (.one 3<| .one 6<| .take 7<| .one 8<| .one 10<| .fin))) (.alt 3 (.alt 0 (.one 5<| .one 6<| .take 7<| .one 8<| .one 10<| .fin) (.one 5 (.alt 0 (.one 6<| .take 7<| .one 8<| .one 10<| .fin) (.one 6 (.take 7<|onZ [0,8,10]<| .fin))))) (.one 5 (.alt 0 (.one 3<| .one 6<| .take 7<| .one 8<| .one 10<| .fin) (.one 3 (.alt 0 (.one 6<| .take 7<| .one 8<| .one 10<| .fin) (.one 6 (.take 7<|onZ [0,8,10]<| .fin)))))))))))
theorem NC[MO](s:S)(a:Int)(hs:s.length<=1000000000):Ev TE 71 [.str s,vi a] (.tup [vi (oh s a).1,vi (oh s a).2]):=by
 refine ah Tryz.func71 rfl (by simp[nts]) ?_;refine vn ?_;simp only[wq.1,Nat.reduceLT,Tryz.results71];refine vn ?_;refine gQ mixed Ry (fun f' h'=>f'.t 6= .lp 0 0/\f'.d=[]/\h'=[.cells [vi (oh s a).1,vi (oh s a).2]]) (by rw[TEP];decide +kernel) (by decide +kernel) ?_ ?_
 ·have hm:0<=min (max a 0) (s.length:Int)/\min (max a 0) (s.length:Int)<=s.length:=by omega
  have hov:=QG 1 1 (s.take (min (max a 0) (s.length:Int)).toNat) (by decide) (by decide) (by rw[zrl];omega);simp only[wq.1,seval,Ry,gl0,gm,mx,mn]
  repeat' apply zsa
  all_goals try omega
  all_goals (refine ag.ev hov rfl ?_)
  all_goals (simp only[wq.1,↓reduceIte,Nat.reduceEqDiff,Nat.reduceLT,Nat.reduceAdd])
  all_goals rfl
 ·rintro f h ⟨h6,hd,rfl⟩;refine aj ?_;refine gQ mixed Nz (fun f' h'=>f'.t 4=vi (oh s a).1/\f'.t 5=vi (oh s a).2/\f'.d=[]) (by rw[TEP];decide +kernel) (by decide +kernel) ?_ ?_
  ·simp only[wq.1,↓reduceIte,Nat.reduceEqDiff,Nat.reduceLT,Nat.reduceLeDiff,Nat.reduceAdd,Int.reduceToNat,Int.reduceLE,Nat.reduceMul,Nz,h6,hd];exact⟨by decide,by decide⟩
  ·rintro f h ⟨h4,h5,hd⟩;simp only[wq.1];refine vm ?_;simp only[wq.1,h4,h5,hd];exact aA.dat rfl
def jU(s:S)(a e:Int):V:=if e=0 then .agg [vi 0,vi 0,vi 0]else .agg [vi e,vi (oh s a).1,vi (oh s a).2]
theorem QH[MO](s:S)(a e:Int)(hs:s.length<=1000000000):Ev TE 30 [.str s,vi a,vi e] (jU s a e):=by
 unfold jU;refine ah Tryz.func30 rfl (by simp[nts]) (vm ?_);simp only[wq.1,seval,Tryz.results30];refine vcB.mk (fun hc=> ?_) (fun hc=> ?_)
 ·have hc:e=0:=by simpa using hc
  simp only[wq.1,seval];rw[if_pos hc];exact aA.dat rfl
 ·have hc:e≠0:=by simpa using hc
  simp only[wq.1,seval];refine ag.ev (NC s a hs) rfl ?_;simp only[wq.1,seval];rw[if_neg hc];exact aA.dat rfl
theorem Am:JI P 39 [.i64,.i64,.i64]:=by
 refine⟨by kernel_rfl,fun w xs ys hx hy=> ?_⟩
 match xs,hx with
 |[a,b,c],_ =>
 match ys,hy with
 |[a',b',c'],_ =>
 have p0:∀(x y z:Value),(part 29 #[x,y,z] 0).run P w= .ok x w:=fun x y z=>jv Tryz.underlying29 (by simp);have p1:∀(x y z:Value),(part 3 #[x,y,z] 1).run P w= .ok y w:=fun x y z=>jv Tryz.underlying3 (by simp);have p2:∀(x y z:Value),(part 3 #[x,y,z] 2).run P w= .ok z w:=fun x y z=>jv Tryz.underlying3 (by simp);have hso:P.stoodInHeld 39=false:=by kernel_rfl
 show(Op.equalIn 10000 39 (.agg #[.int .i64 a,.int .i64 b,.int .i64 c]) (.agg #[.int .i64 a',.int .i64 b',.int .i64 c'])).run P w= .ok ([a,b,c]==[a',b',c']) w;rw[Op.equalIn];have e31:=ny (P:=P) (w:=w) Tryz.underlying29 9998;have e3:=ny (P:=P) (w:=w) Tryz.underlying3 9998;simp only[Sem.run_bind,run_underlying Tryz.underlying39,Result.andThen];by_cases ha:a=a'
 ·subst ha;by_cases hb:b=b'
  ·subst hb;by_cases hc:c=c'
   ·subst hc;simp[hso,p0,p1,p2,e31,e3,Sem.run_bind,Result.andThen]
   ·have hc':(c==c')=false:=by simpa using hc
    simp[hso,p0,p1,p2,e31,e3,Sem.run_bind,Result.andThen,hc',hc]
  ·have hb':(b==b')=false:=by simpa using hb
   simp[hso,p0,p1,p2,e31,e3,Sem.run_bind,Result.andThen,hb',hb]
 ·have ha':(a==a')=false:=by simpa using ha
  simp[hso,p0,p1,p2,e31,e3,Sem.run_bind,Result.andThen,ha',ha]
def Rz:Plan:=tkZ [0,1,2,3,4,6,7,8,9]<| .alt 5 (.one 10<| .one 11<|tkZ [12,13,14,15]<| .one 16<| .fin) (.one 10 (.alt 5 (.one 11<|tkZ [12,13,14,15]<| .one 16<| .fin) (.one 11 (.take 12<| .one 5<|tkZ [13,14,15]<| .one 16<| .fin))))
theorem Vg[MO]{o:Pl}{a b c d e:V}{m:Nat}{f:Fr}{h:H}{R:AEnd->H->(Nat->Bool)->Prop}(hm:m<=1000000)(hpp:h[o.PP]? =some (.cells [a,b,c,.ls o.GA 5 0 (m+1) (m+1),d,e,.nilp]))(t0:f.t 0= .lp o.PP 0)(hd:f.d=[])
 (hr:R (.ret (.tup [])) (h.set o.PP (.cells [a,b,c,.ls o.GA 5 0 (m+1) (m+1),d,e,.lp o.GA (m*5)])) f.k) :
 awp TE 58 none (.region 3 (xY Tryz.f213 3) true) (qF P [] R) f h:=by
 simp only[xY,Tryz.f213,uG,List.nil_append,zqp,List.headD_cons,Nat.reduceBEq,zrm,if_false,if_true,List.cons_append];have hM:=mLx;have hw:IntKind.i64.wrap (((m+1:Nat):Int)-1)=(m:Int):=by rw[iw (by omega) (by omega)];omega
 refine gQ mixed Rz (fun f' h'=>f'.d=[]/\f'.k=f.k/\h'=h.set o.PP (.cells [a,b,c,.ls o.GA 5 0 (m+1) (m+1),d,e,.lp o.GA (m*5)])) (by rw[TEP];decide +kernel) (by decide +kernel) ?_ ?_
 ·simp only[wq.1,seval,Rz,t0,hd,hpp,hw];exact⟨by omega,by omega⟩
 ·rintro f' h' ⟨hd',hk',rfl⟩;simp only[wq.1,hd'];rw[hk'];exact hr
theorem PH.mapped{o:Pl}{p:Ps}{h h':H}(k:PH o p none h){q:Nat}(hq:h.length<=q)(hj:∀j,j<h.length->h'[j]? =(h[j]?).map (O.drop (·==q))):PH o p none h':=by
 have lt:∀ {j x},h[j]? =some x->j<h.length:=fun hx=>(zqe hx).1;have on:p.on=false:=k.rows;have old:∀(j:Nat)(x:O),h[j]? =some x->x.drop (·==q)=x->h'[j]? =some x:=fun j x hx h3=>by rw[hj j (lt hx),hx,zrw,h3]
 have ne:∀ {j x},h[j]? =some x->(j==q)=false:=fun hx=>by rw[beq_eq_false_iff_ne];have:=lt hx;omega
 refine⟨old _ _ k.pp ?_,old _ _ k.i (by show O.cells (V.drops _ _)=_;rw[aC]),old _ _ k.u (by show O.cells (V.drops _ _)=_;rw[aC]),old _ _ k.l (by show O.cells (V.drops _ _)=_;rw[bC jk]),old _ _ k.g (by show O.cells (V.drops _ (List.flatMap gaX _))=_;rw[bC jl];rfl),on,k.d⟩;have hptr:jV o p= .nilp:=by unfold jV;rw[if_neg (by rw[on];decide)]
 rw[hptr];show O.cells [V.drop _ _,V.drop _ _,V.drop _ _,V.drop _ _,V.drop _ _,V.drop _ _,V.drop _ _]=_;simp only[V.drop,ne k.i,ne k.u,ne k.l,ne k.g,zrm,if_false]
def xA(ws:List S):Ga:=⟨ws.getLastD [],10,ws.dropLast,[],false⟩
def DW(p:Ps)(ws:List S):Ps:={p with c:={p.c with gates:=p.c.gates++[xA ws]},on:=true}
theorem ND{p:Ps}{t:Tk}{r:List Tk}{ws:List S}(hr:r≠[])(hw:bQ r= .ok ws):pI p t r= .ok (DW p ws):=by
 cases r with
 |nil=>exact absurd rfl hr
 |cons a r=>unfold pI;dsimp only;rw[hw];rfl
theorem Jg{p:Ps}{t:Tk}{r:List Tk}{x:Nat×Int}(hr:r≠[])(hw:bQ r= .error x):pI p t r= .error x:=by
 cases r with
 |nil=>exact absurd rfl hr
 |cons a r=>unfold pI;dsimp only;rw[hw]
theorem o5:∀l:List Ga,(l.flatMap gaX).length=l.length*5
 |[]=>rfl
 |g::l=>by rw[List.flatMap_cons,zqa,o5 l,zrt];show 5+_=_;omega
theorem PH.gaD{o:Pl}{p:Ps}{h0:H}(k:PH o p none h0)(ws:List S) :
 PH o (DW p ws) (some .nils) (((h0.map (O.drop (·==o.GA))).set o.GA (.cells (p.c.gates.flatMap gaX++xP (xA ws) .nils))).set o.PP (.cells [.ls o.IN 1 0 p.c.ins.length p.c.ins.length,.ls o.OU 1 0 p.c.outs.length p.c.outs.length,.ls o.LA 3 0 p.c.lat.length p.c.lat.length,.ls o.GA 5 0 (p.c.gates.length+1) (p.c.gates.length+1),.bool p.begun,.bool p.ended,.lp o.GA (p.c.gates.length*5)])):=by
 obtain⟨d1,d2,d3,d4,d5,d6,d7,d8,d9,d10⟩:=k.d;have on:p.on=false:=k.rows;have lt:∀ {j x},h0[j]? =some x->j<h0.length:=fun hx=>(zqe hx).1;have l1:=lt k.pp;have l2:=lt k.g;obtain⟨C,hC⟩:∃C,C=O.cells [.ls o.IN 1 0 p.c.ins.length p.c.ins.length,.ls o.OU 1 0 p.c.outs.length p.c.outs.length,.ls o.LA 3 0 p.c.lat.length p.c.lat.length,.ls o.GA 5 0 (p.c.gates.length+1) (p.c.gates.length+1),.bool p.begun,.bool p.ended,.lp o.GA (p.c.gates.length*5)]:=⟨_,rfl⟩;obtain⟨G,hG⟩:∃G,G=O.cells (p.c.gates.flatMap gaX++xP (xA ws) .nils):=⟨_,rfl⟩;rw[<-hC,<-hG];have old:∀j x',h0[j]? =some x'->j≠o.PP->j≠o.GA->x'.drop (·==o.GA)=x'->(((h0.map (O.drop (·==o.GA))).set o.GA G).set o.PP C)[j]? =some x':=fun j x' hx h1 h2 h3=>by rw[zqn (Ne.symm h1),zqn (Ne.symm h2),zqo,hx,zrw,h3]
 have hgl:(DW p ws).c.gates=p.c.gates++[xA ws]:=rfl;refine⟨?_,?_,?_,?_,?_,⟨rfl,xA ws,by rw[hgl,List.getLast?_append];rfl,.inl ⟨rfl,rfl⟩⟩,k.d⟩
 ·rw[zqt (by simp;omega),hC];have:jV o (DW p ws)= .lp o.GA (p.c.gates.length*5):=by
   unfold jV;rw[if_pos (show(DW p ws).on=true from rfl),hgl,zqa,zrk,Nat.add_sub_cancel]
  rw[this,hgl,zqa,zrk];rfl
 ·exact old _ _ k.i (Ne.symm d1) d7 (by show O.cells (V.drops _ _)=_;rw[aC])
 ·exact old _ _ k.u (Ne.symm d2) d9 (by show O.cells (V.drops _ _)=_;rw[aC])
 ·exact old _ _ k.l (Ne.symm d3) d10 (by show O.cells (V.drops _ _)=_;rw[bC jk])
 ·rw[zqn d4,zqt (by simp;omega),hG,hgl];have:QE (p.c.gates++[xA ws]) (some .nils)=p.c.gates.flatMap gaX++xP (xA ws) .nils:=by
   unfold QE;rw[List.getLast?_append];show(p.c.gates++[xA ws]).dropLast.flatMap gaX++_=_;rw[List.dropLast_concat];rfl
  rw[this]
theorem DX[MO]{Hp:H->Prop}{fx:Nat->Prop}{o:Pl}(K:HpOk Hp fx o){p:Ps}{h0:H}(k:PH o p none h0)(hp:Hp h0)(t:Tk)(r:List Tk)(hl:r.length<=900000)(hs:∀t∈r,t.t.length<=1000000)(hn:p.c.gates.length<=1000000) :
 ag TE 213 [.lp o.PP 0,iO (t::r)] h0 (ru Hp fx o (pI p t r)):=by
 have hM:=mLx;have hg:((t::r).map Tk.v).getD 0 .any=t.v:=rfl;have hsl:((t::r).map Tk.v).drop 1=r.map Tk.v:=rfl;have lt:∀ {j x},h0[j]? =some x->j<h0.length:=fun hx=>(zqe hx).1;have e1:decide (2<=((r.length+1:Nat):Int))=decide (r≠[]):=decide_eq_decide.2 (by rw[ne_eq,<-List.length_eq_zero_iff];omega);refine ax Tryz.func213 rfl (by simp[nts]) ?_;refine vn ?_;simp only[wq.1,seval,Tryz.results213,e1];refine⟨by omega,?_⟩;refine aS (decide (r≠[])) t.at' 2 (fun h=> ?_) (fun h=> ?_)
 ·have hr:r≠[]:=zqs h;simp only[wq.1];refine vn ?_;simp only[wq.1,seval];refine⟨by omega,?_⟩;refine qo r (by omega) hs fun X=> ?_;cases hw:bQ r with
  |error x=>rw[Jg hr hw];simp only[wq.1,dW];simp only[XE.seq];exact dA (R:=ru Hp fx o (.error x)) rfl ⟨fun _ _=>rfl,K.same hp fun j hf=>by rw[zqj (K.lt _ hp j hf)],rfl⟩
  |ok ws =>
   intro hX;rw[ND hr hw];simp only[wq.1,seval];have hwl:=jT hw;obtain⟨wi,wl,hws⟩:∃wi wl,ws=wi++[wl]:=⟨ws.dropLast,ws.getLast (by intro e;rw[e]at hwl;exact hr (List.eq_nil_of_length_eq_zero hwl.symm)),(List.dropLast_concat_getLast _).symm⟩;have hn1:ws.length=wi.length+1:=by rw[hws];simp
   have hli:wi.length<=1000000:=by omega
   refine Ld h0.length 4 (aV ws) (by simp only[wq.1,↓reduceIte]) (by simp only[wq.1,↓reduceIte];exact bu (by rw[iK,hX];show some (if _ then O.cells (V.drops _ _)else _)=_;rw[aC,if_pos (by simp)]) rfl) rfl ?_;obtain⟨h1,hh1⟩:∃h1,h1=rW (·==h0.length) 0 (h0++X):=⟨_,rfl⟩;rw[<-hh1];have hj1:∀j,j<h0.length->h1[j]? =(h0[j]?).map (O.drop (·==h0.length)):=fun j hj=>by
    rw[hh1,je,zqj hj];cases h0[j]? with
    |none=>rfl
    |some x=>rw[zrw,zrw,if_neg (by simp;omega)]
   have k1:=k.mapped (zrb _) hj1;have qfx:∀i,fx i\/i=o.PP->(i==h0.length)=false:=fun i hi=>by
    rw[beq_eq_false_iff_ne];rcases hi with hi|rfl
    ·have:=K.lt _ hp i hi;omega
    ·have:=lt k.pp;omega
   have hp1:Hp h1:=K.ext h0 h1 (·==h0.length) hp qfx fun j hf=>hj1 j (K.lt _ hp j hf);refine mG (fun f=>f.t 0= .lp o.PP 0/\f.t 4=aV ws/\f.d=[]/\f.k=(·==h0.length)) ⟨by simp only[wq.1,seval,qfx o.PP (.inr rfl)],by simp only[wq.1,↓reduceIte],by simp only[wq.1],by simp only[wq.1]⟩ ?_;rintro f ⟨t0,t4,hd,hk⟩;clear hh1 hX;obtain⟨d1,d2,d3,d4,d5,d6,d7,d8,d9,d10⟩:=k1.d;have on:p.on=false:=k1.rows;have hpp:=k1.pp;have hptr:jV o p= .nilp:=by unfold jV;rw[if_neg (by rw[on];decide)]
   rw[hptr]at hpp;have hG:h1[o.GA]? =some (.cells (p.c.gates.flatMap gaX)):=k1.g;have k2:=k1.gaD ws;have hg0:xP (xA ws) .nils=[.str wl,vi 10,aV wi,.nils,.bool false]:=by
    unfold xA xP;rw[hws,List.dropLast_concat];simp
   have hgl:(ws.map V.str).getD wi.length .any= .str wl:=by rw[hws];simp
   have htk:(ws.map V.str).take wi.length=wi.map V.str:=by rw[hws,zql];exact List.take_left' (by simp)
   have hwn:IntKind.i64.wrap (((wi.length+1:Nat):Int)-1)=(wi.length:Int):=by rw[iw (by omega) (by omega)];omega
   have h5:=o5 p.c.gates;obtain⟨X3,hX3⟩:∃X3,X3=p.c.gates.flatMap gaX++xP (xA ws) .nils:=⟨_,rfl⟩;rw[<-hX3]at k2;obtain⟨X4,hX4⟩:∃X4,X4=p.c.gates.flatMap gaX++[.str wl,vi 10,.is true 1 (wi.map V.str),.nils,.bool false]:=⟨_,rfl⟩;have hx43:OLe (.cells X4) (.cells X3):=by
    have e:X3=X4.set (p.c.gates.length*5+2) (aV wi):=by rw[hX3,hX4,hg0,List.set_append_right _ _ (by omega),h5,show p.c.gates.length*5+2-p.c.gates.length*5=2 by omega];rfl
    rw[e];refine OLe.cells (by simp) ?_;rw[zrn,zrx];refine gX.set (v:= .is true 1 (wi.map V.str)) ?_ VLe.exact;rw[hX4,zsb (by omega),h5,show p.c.gates.length*5+2-p.c.gates.length*5=2 by omega];rfl
   have hfv:List.flatMap V.vc [V.agg [V.str wl,vi 10,.is true 1 (wi.map V.str),.nils,.bool false]]=[V.str wl,vi 10,.is true 1 (wi.map V.str),.nils,.bool false]:=rfl;have hdl:V.drops (fun x=>x==o.GA) (p.c.gates.flatMap gaX)=p.c.gates.flatMap gaX:=bC jl _;have hdv:V.drops (fun x=>x==o.GA) [V.str wl,vi 10,.is true 1 (wi.map V.str),.nils,.bool false]=[V.str wl,vi 10,.is true 1 (wi.map V.str),.nils,.bool false]:=rfl;have hao:dm [V.str wl,vi 10,.is true 1 (wi.map V.str),.nils,.bool false]=true:=rfl;have haf:lY [V.agg [V.str wl,vi 10,.is true 1 (wi.map V.str),.nils,.bool false]]=true:=rfl;have bI:(o.IN==o.GA)=false:=by rw[beq_eq_false_iff_ne];exact d7
   have bU:(o.OU==o.GA)=false:=by rw[beq_eq_false_iff_ne];exact d9
   have bL:(o.LA==o.GA)=false:=by rw[beq_eq_false_iff_ne];exact d10
   have bP:(o.PP==o.GA)=false:=by rw[beq_eq_false_iff_ne];exact d4
   have hz:∀x:O,((h1.map (O.drop fun x=>x==o.GA)).set o.GA x)[o.PP]? =some (.cells [.ls o.IN 1 0 p.c.ins.length p.c.ins.length,.ls o.OU 1 0 p.c.outs.length p.c.outs.length,.ls o.LA 3 0 p.c.lat.length p.c.lat.length,.any,.bool p.begun,.bool p.ended,.nilp]):=fun x=>by rw[zqn (Ne.symm d4),zqo,hpp];show some (O.cells [V.drop _ _,V.drop _ _,V.drop _ _,V.drop _ _,V.drop _ _,V.drop _ _,V.drop _ _])=_;simp only[V.drop,beq_self_eq_true,if_true,bI,bU,bL,zrm,if_false]
   have lPP:=(zqe hpp).1;have lGA:=(zqe hG).1;obtain⟨C,hC⟩:∃C,C=O.cells [.ls o.IN 1 0 p.c.ins.length p.c.ins.length,.ls o.OU 1 0 p.c.outs.length p.c.outs.length,.ls o.LA 3 0 p.c.lat.length p.c.lat.length,.ls o.GA 5 0 (p.c.gates.length+1) (p.c.gates.length+1),.bool p.begun,.bool p.ended,.nilp]:=⟨_,rfl⟩;obtain⟨h2,hh2⟩:∃h2,h2=((h1.map (O.drop fun x=>x==o.GA)).set o.GA (.cells X4)).set o.PP C:=⟨_,rfl⟩;refine aj (Ll mixed [0] 1 21 22 (.one 22<| .take 23<| .take 24<| .take 25<| .one 26<| .fin) (fun f' h'=>f'.t 0= .lp o.PP 0/\f'.d=[]/\f'.k=(fun i=>(i==h0.length)||i==o.GA)/\h'=h2) (by rw[TEP];decide +kernel) ?_ ?_)
   ·intro K hK;simp only[List.drop_succ_cons,List.drop_zero,List.take_succ_cons,List.take_zero,sG];simp only[wq.1,↓reduceIte,Nat.reduceEqDiff,Nat.reduceLT,Nat.reduceLeDiff,Nat.reduceAdd,Int.reduceLE,reduceCtorEq,Nat.reduceMul,t0,t4,hn1,hwn,hgl,htk,hpp];refine⟨⟨by omega,by omega⟩,⟨by omega,by omega⟩,⟨rfl,by decide⟩,hK _ _ ?_⟩;have hnx:p.c.gates.flatMap gaX++[.str wl,vi 10,.is true 1 (wi.map V.str),.nils,.bool false]=X4:=hX4.symm;have hd4:V.drops (fun x=>x==o.GA) X4=X4:=by rw[hX4,fE,bC jl];rfl
    simp only[wq.1,seval,t0,hd,hG,hfv,hnx,hz,bP,haf,h5,hk,hd4];rw[hh2,hC]
    and_intros<;>first|omega|decide|rfl
   ·rintro f' h' ⟨t0',hd',hk',rfl⟩;show awp _ _ _ _ _ _ _;have e2:h'.set o.GA (.cells X3)=((h1.map (O.drop fun x=>x==o.GA)).set o.GA (.cells X3)).set o.PP C:=by
     rw[hh2,List.set_comm _ _ d4,List.set_set]
    have hg2:h'[o.GA]? =some (.cells X4):=by rw[hh2,zqn d4,zqt (by simp;omega)]
    refine jG (HLe.set hg2 hx43) ?_;rw[e2];have hp2:(((h1.map (O.drop fun x=>x==o.GA)).set o.GA (.cells X3)).set o.PP C)[o.PP]? =some C:=zqt (by simp;omega);rw[hC]at hp2 ⊢;refine Vg (m:=p.c.gates.length) hn hp2 t0' hd' ?_;rw[List.set_set];refine⟨fun i hi=> ?_,K.ext h1 _ (·==o.GA) hp1 (fun i hi=> ?_) (fun j hf=> ?_),rfl,_,k2,fun _ _ h=>(by cases h)⟩
    ·rw[hk'];show((i==h0.length)||i==o.GA)=false;rw[qfx i hi,Bool.false_or,beq_eq_false_iff_ne];rcases hi with hi|rfl
     ·rintro rfl;exact K.n5 hi
     ·exact d4
    ·rw[beq_eq_false_iff_ne];rcases hi with hi|rfl
     ·rintro rfl;exact K.n5 hi
     ·exact d4
    ·have n1:o.PP≠j:=fun e=>K.n1 (by rw[e];exact hf);have n2:o.GA≠j:=fun e=>K.n5 (by rw[e];exact hf);rw[zqn n1,zqn n2,zqo]
 ·have hr:r=[]:=by have:=of_decide_eq_false h;simpa using this
  subst hr;simp only[wq.1,dW];simp only[XE.seq];exact dA (R:=ru Hp fx o (.error (t.at',2))) rfl ⟨fun _ _=>rfl,hp,rfl⟩
def o6:S->List Bool->Bool
 |_,[]=>true
 |r,v::vs=>(r.headD 0==45||((r.headD 0==49)==v))&&o6 r.tail vs
def opB(op:Nat)(l:List Bool):Bool :=
 if op<=1 then false else if op<=5 then l.count true==l.length else if op<=7 then decide (0<l.count true)else l.count true%2==1
def NE(op:Nat):Bool:=op==1||op==3||op==5||op==7||op==9
def Jy(g:Ga)(l:List Bool):Bool:=if g.op=10 then(g.rows.any fun r=>o6 r l) != g.off else opB g.op.toNat l != NE g.op.toNat
def DY:Nat->List (List Bool)
 |0=>[[]]
 |n+1=>(DY n).flatMap fun l=>[false::l,true::l]
theorem DZ:∀l:List Bool,l∈DY l.length
 |[]=>by simp[DY]
 |b::l=>by
  show b::l∈(DY l.length).flatMap fun l=>[false::l,true::l]
  refine List.mem_flatMap.2 ⟨l,DZ l,?_⟩;cases b<;>simp
theorem QI:∀n,n<9->∀op,op<10->Ce op n=true->((DY n).all fun l=>(((jy op n).1.any fun r=>o6 r l) != (jy op n).2)==(opB op l != NE op))=true:=by decide +kernel
theorem TN{n op:Nat}(h:Ce op n=true)(ho:op<10){l:List Bool}(hl:l.length=n):(((jy op n).1.any fun r=>o6 r l) != (jy op n).2)=(opB op l != NE op):=by have h1:=zrs.1 (QI n (zV h) op ho h) l (hl▸DZ l);exact eq_of_beq h1
theorem QJ{g:Ga}(h:GOk g):gY g=g:=by
 unfold gY;split
 ·rename_i h1;have hh:=h.h;rw[h1.1]at hh;split
  ·rename_i h2;rcases h2 with e|e|e<;>rw[e]at hh<;>exact absurd hh (by decide)
  ·split
   ·rename_i h2;rcases h2 with e|e|e<;>rw[e]at hh<;>exact absurd hh (by decide)
   ·rfl
 ·rfl
theorem xB{g:Ga}(h:GOk g){l:List Bool}(hl:l.length=g.ins.length):Jy (aU g) l=Jy g l:=by
 unfold aU;rw[QJ h];split
 ·rfl
 ·rename_i h1;have h1:g.op=10:=Decidable.not_not.1 h1;cases hf:jg g.ins.length g.rows g.off with
  |none=>rfl
  |some op=>obtain⟨f1,f2,f3⟩:=wJ hf;have h2:=TN f2 f1 hl;rw[f3]at h2;unfold Jy;rw[if_pos h1,h2];dsimp only;rw[if_neg (by omega),zsg]
theorem Ha:∀(n:Nat)(l:List Bool),l.length<=n->o6 (List.replicate n 45) l=true
 |_,[],_=>by simp[o6]
 |0,_::_,h=>by simp at h
 |n+1,v::l,h=>by rw[List.replicate_succ];unfold o6;rw[List.headD_cons,List.tail_cons,Ha n l (by simpa using h)];rfl
theorem NF{g:Ga}(h:GOk g){l:List Bool}(hl:l.length=g.ins.length):Jy (aK g) l=Jy g l:=by
 obtain⟨c1,c2,c3⟩:=nS h;have hv:=xB h hl;unfold aK;split
 ·rename_i hc;obtain⟨m,hm⟩:∃m:Ga,m={aU g with rows:=[List.replicate (aU g).ins.length 45],off:=false}:=⟨_,rfl⟩;have hm1:m.op=10:=by rw[hm];exact hc.1
  rw[<-hm,xB (g:=m) ⟨by rw[hm];exact c1.h,fun e=>absurd hm1 e⟩ (by rw[hm];exact hl.trans (congrArg _ c2.symm)),<-hv];unfold Jy;rw[if_pos hm1,if_pos hc.1,hc.2.1,hc.2.2,hm];dsimp only;rw[List.any_cons,Ha _ _ (by rw[c2,hl];exact zrb _)];rfl
 ·rw[xB ⟨c1.h,c1.r⟩ (hl.trans (congrArg _ c2.symm)),hv]
def ry(g:Ga)(l:List Bool):Bool×Int:=if(fB g&&l.length==g.ins.length)=true then(Jy g l,0)else(false,1)
theorem Jh{g:Ga}{l:List Bool}(h:(ry g l).2=0):ry (aK g) l=ry g l:=by
 unfold ry at h ⊢;split at h
 ·rename_i hc;have hc':=hc;rw[zqf,beq_iff_eq]at hc';have hg:=dV hc'.1;have hp:=iY hc'.1;obtain⟨_,p2,_,_⟩:=gy hg.1;rw[if_pos hc,if_pos (by rw[hp,p2];simpa using hc'.2),NF hg.1 hc'.2]
 ·exact absurd h (by decide)
theorem Ap{gs:List Ga}{w:List V}{j:Nat}:(gs.flatMap gaX++w).getD (gs.length*5+j) .any=w.getD j .any:=by have h5:=o5 gs;rw[zqg,zsb (by omega),h5,Nat.add_sub_cancel_left,zqg]
theorem NG[MO]{Hp:H->Prop}{fx:Nat->Prop}{o:Pl}(K:HpOk Hp fx o){p:Ps}{v:V}{h0:H}(k:PH o p (some v) h0)(hp:Hp h0){n:Nat}{r:Option Nat}{c:Code}{Q:XE->Fr->H->Prop}{f:Fr}
 (hw:∀h1 RW g,p.c.gates.getLast? =some g->h1[RW]? =some (.cells (g.rows.map V.str))->PH o p (some (.ls RW 1 0 g.rows.length g.rows.length)) h1->RW≠o.PP/\RW≠o.IN/\RW≠o.OU/\RW≠o.LA/\RW≠o.GA/\¬fx RW->Hp h1->awp TE n r c Q f h1)
 (hfx:∀RW n,some v=some (.ls RW 1 0 n n)->¬fx RW):awp TE n r c Q f h0:=by
 obtain⟨on,g,hgl,hv⟩:=k.rows;rcases hv with⟨rfl,hr0⟩|⟨RW,rfl,hRW,n1,n2,n3,n4,n5⟩
 ·obtain⟨gs,hgs⟩:=List.getLast?_eq_some_iff.1 hgl;have lt:∀ {j x},h0[j]? =some x->j<h0.length:=fun hx=>(zqe hx).1;have hgc:∀w,QE p.c.gates (some w)=gs.flatMap gaX++xP g w:=fun w=>by unfold QE;rw[hgl];dsimp only;rw[hgs,List.dropLast_concat]
  have hG:=k.g;rw[hgc]at hG;have lG:=lt hG;obtain⟨d1,d2,d3,d4,d5,d6,d7,d8,d9,d10⟩:=k.d;refine iC (jG (h':=(h0++[O.cells []]).set o.GA (O.cells (gs.flatMap gaX++xP g (.ls h0.length 1 0 0 0)))) ?_ ?_)
  ·refine HLe.set (o:= .cells (gs.flatMap gaX++xP g .nils)) (by rw[zqj lG];exact hG) ?_;have e:gs.flatMap gaX++xP g (.ls h0.length 1 0 0 0)=(gs.flatMap gaX++xP g .nils).set (gs.length*5+3) (.ls h0.length 1 0 0 0):=by
    rw[List.set_append_right _ _ (by rw[o5];omega),o5,Nat.add_sub_cancel_left];rfl
   rw[e];refine OLe.cells (by simp) ?_;rw[zrn,zrx];refine gX.set (v:= .nils) ?_ eU;rw[zsb (by rw[o5];omega),o5,Nat.add_sub_cancel_left];rfl
  ·have old:∀j x',h0[j]? =some x'->o.GA≠j->((h0++[O.cells []]).set o.GA (.cells (gs.flatMap gaX++xP g (.ls h0.length 1 0 0 0))))[j]? =some x':=fun j x' hx h1=>by rw[zqn h1,zqj (lt hx)];exact hx
   have ne:∀ {j x},h0[j]? =some x->h0.length≠j:=fun hx=>by have:=lt hx;omega
   have hnew:((h0++[O.cells []]).set o.GA (.cells (gs.flatMap gaX++xP g (.ls h0.length 1 0 0 0))))[h0.length]? =some (.cells (g.rows.map V.str)):=by rw[zqn (Ne.symm (ne hG)),hr0];simp
   have z:(.ls h0.length 1 0 0 0:V)= .ls h0.length 1 0 g.rows.length g.rows.length:=by rw[hr0];rfl
   refine hw _ h0.length g hgl hnew ⟨old _ _ k.pp (Ne.symm d4),old _ _ k.i (Ne.symm d7),old _ _ k.u (Ne.symm d9),old _ _ k.l (Ne.symm d10),?_,⟨on,g,hgl,.inr ⟨h0.length,rfl,hnew,ne k.pp,ne k.i,ne k.u,ne k.l,ne hG⟩⟩,k.d⟩ ⟨ne k.pp,ne k.i,ne k.u,ne k.l,ne hG,fun hf=> ?_⟩ (K.same hp fun j hf=> ?_)
   ·rw[zqt (by simp;omega),hgc,z]
   ·have:=K.lt _ hp _ hf;omega
   ·rw[zqn (fun e=>K.n5 (by rw[e];exact hf)),zqj (K.lt _ hp j hf)]
 ·exact hw h0 RW g hgl hRW k ⟨n1,n2,n3,n4,n5,hfx RW _ rfl⟩ hp
def Ji(p:Ps)(g:Ga)(row:S)(off:Bool):Ps:={p with c:={p.c with gates:=p.c.gates.dropLast++[{g with rows:=g.rows++[row],off:=off}]}}
theorem PH.rowD{o:Pl}{p:Ps}{h:H}{RW:Nat}{g:Ga}{gs:List Ga}(k:PH o p (some (.ls RW 1 0 g.rows.length g.rows.length)) h)(hgs:p.c.gates=gs++[g])(hRW:h[RW]? =some (.cells (g.rows.map V.str)))(n1:RW≠o.PP)(n2:RW≠o.IN)(n3:RW≠o.OU)(n4:RW≠o.LA)(n5:RW≠o.GA)(row:S)(off:Bool) :
 PH o (Ji p g row off) (some (.ls RW 1 0 (g.rows.length+1) (g.rows.length+1))) (((h.map (O.drop fun x=>x==RW)).set RW (.cells ((g.rows++[row]).map V.str))).set o.GA (.cells (gs.flatMap gaX++[.str g.name,vi g.op,aV g.ins,.ls RW 1 0 (g.rows.length+1) (g.rows.length+1),.bool off]))):=by
 obtain⟨d1,d2,d3,d4,d5,d6,d7,d8,d9,d10⟩:=k.d;have lt:∀ {j x},h[j]? =some x->j<h.length:=fun hx=>(zqe hx).1;have l1:=lt hRW;have l2:=lt k.g;have on:p.on=true:=k.rows.1;have hgl:(Ji p g row off).c.gates=gs++[{g with rows:=g.rows++[row],off:=off}]:=by show p.c.gates.dropLast++_=_;rw[hgs,List.dropLast_concat]
 have hln:(g.rows++[row]).length=g.rows.length+1:=by simp
 have old:∀(j:Nat)(x':O),h[j]? =some x'->j≠RW->j≠o.GA->x'.drop (fun x=>x==RW)=x'->(((h.map (O.drop fun x=>x==RW)).set RW (.cells ((g.rows++[row]).map V.str))).set o.GA (.cells (gs.flatMap gaX++[.str g.name,vi g.op,aV g.ins,.ls RW 1 0 (g.rows.length+1) (g.rows.length+1),.bool off])))[j]? =some x':=fun j x' hx h1 h2 h3=>by rw[zqn (Ne.symm h2),zqn (Ne.symm h1),zqo,hx,zrw,h3]
 have b:∀ {j:Nat},RW≠j->(j==RW)=false:=fun hn=>by rw[beq_eq_false_iff_ne];exact Ne.symm hn
 have hlen:(Ji p g row off).c.gates.length=p.c.gates.length:=by rw[hgl,hgs];simp
 have hnew:(((h.map (O.drop fun x=>x==RW)).set RW (.cells ((g.rows++[row]).map V.str))).set o.GA (.cells (gs.flatMap gaX++[.str g.name,vi g.op,aV g.ins,.ls RW 1 0 (g.rows.length+1) (g.rows.length+1),.bool off])))[RW]? =some (.cells ((g.rows++[row]).map V.str)):=by rw[zqn (Ne.symm n5),zqt (by simp;omega)]
 refine⟨?_,?_,?_,?_,?_,⟨on,{g with rows:=g.rows++[row],off:=off},by rw[hgl,List.getLast?_append];rfl,.inr ⟨RW,by rw[hln],hnew,n1,n2,n3,n4,n5⟩⟩,k.d⟩
 ·have hptr:jV o (Ji p g row off)=jV o p:=by unfold jV;rw[hlen];rfl
  rw[hptr,hlen];refine old _ _ k.pp (Ne.symm n1) d4 ?_;have hpo:jV o p= .lp o.GA ((p.c.gates.length-1)*5):=by unfold jV;rw[if_pos on]
  rw[hpo];show O.cells [V.drop _ _,V.drop _ _,V.drop _ _,V.drop _ _,V.drop _ _,V.drop _ _,V.drop _ _]=_;simp only[V.drop,b n2,b n3,b n4,b n5,zrm,if_false]
 ·exact old _ _ k.i (Ne.symm n2) d7 (by show O.cells (V.drops _ _)=_;rw[aC])
 ·exact old _ _ k.u (Ne.symm n3) d9 (by show O.cells (V.drops _ _)=_;rw[aC])
 ·exact old _ _ k.l (Ne.symm n4) d10 (by show O.cells (V.drops _ _)=_;rw[bC jk])
 ·rw[zqt (by simp;omega)];unfold QE;rw[hgl,List.getLast?_append];show _=some (O.cells ((gs++[_]).dropLast.flatMap gaX++_));rw[List.dropLast_concat];rfl
def TP(p:Ps)(g:Ga)(t:Tk)(r:List Tk):RB Ps :=
 if r.length = min g.ins.length 1 then
  if Uc g t r=true then .ok (Ji p g (CJ g t) (uK t r==[48]))else .error (t.at',2)
 else .error (t.at',2)
theorem Jj[MO]{Hp:H->Prop}{fx:Nat->Prop}{o:Pl}(K:HpOk Hp fx o){p:Ps}{last:Option V}{h0:H}(k:PH o p last h0)(lo:∀RW n,last=some (.ls RW 1 0 n n)->¬fx RW)(hp:Hp h0)(t:Tk)(r:List Tk)(hl:r.length<=900000)(hst:t.t.length<=1000000)(hs:∀t∈r,t.t.length<=1000000)
 (hn:p.c.gates.length<=1000000) (hgs:∀g,p.c.gates.getLast? =some g->g.rows.length<=1000000/\g.ins.length<=1000000) :
 ag TE 74 [.lp o.PP 0,iO (t::r)] h0 (ru Hp fx o (IW p t r)):=by
 have hM:=mLx;have hg:((t::r).map Tk.v).getD 0 .any=t.v:=rfl;have lt:∀ {j x},h0[j]? =some x->j<h0.length:=fun hx=>(zqe hx).1;have hpp:=k.pp;refine ax Tryz.func74 rfl (by simp[nts]) ?_;cases last with
 |none =>
  have on:p.on=false:=k.rows;have hptr:jV o p= .nilp:=by unfold jV;rw[if_neg (by rw[on];decide)]
  have he:IW p t r= .error (t.at',2):=by unfold IW;rw[on]
  rw[hptr]at hpp;rw[he];refine vn ?_;simp only[wq.1,seval,Tryz.results74,hpp];refine⟨by decide +kernel,by omega,?_⟩;refine vn ?_;simp only[wq.1,seval,V.nil?];refine⟨⟨rfl,rfl⟩,?_⟩;refine aS false t.at' 2 (fun h=>by cases h) (fun h=> ?_);simp only[wq.1,dW];simp only[XE.seq];exact dA (R:=ru Hp fx o (.error (t.at',2))) rfl ⟨fun _ _=>rfl,hp,rfl⟩
 |some v =>
  refine NG K k hp (fun h1 RW g hgl hRW k1 hRn hp1=> ?_) lo;obtain⟨n1,n2,n3,n4,n5,n6⟩:=hRn;clear hpp lt hp;have hpp:=k1.pp;have on:p.on=true:=k1.rows.1;obtain⟨hgr,hgi⟩:=hgs g hgl;clear k;obtain⟨gs,hgs⟩:=List.getLast?_eq_some_iff.1 hgl;have he:IW p t r=TP p g t r:=by unfold IW TP Ji;rw[on,hgl]
  have hgn:p.c.gates.length=gs.length+1:=by rw[hgs];simp
  have hptr:jV o p= .lp o.GA (gs.length*5):=by unfold jV;rw[if_pos on,hgn,Nat.add_sub_cancel]
  rw[hptr]at hpp;have hG:h1[o.GA]? =some (.cells (gs.flatMap gaX++xP g (.ls RW 1 0 g.rows.length g.rows.length))):=by
   have:=k1.g;rw[this];unfold QE;rw[hgl];dsimp only;rw[hgs,List.dropLast_concat]
  obtain⟨C,hC⟩:∃C,C=gs.flatMap gaX++xP g (.ls RW 1 0 g.rows.length g.rows.length):=⟨_,rfl⟩;rw[<-hC]at hG;have hCl:C.length=gs.length*5+5:=by rw[hC,zqa,o5];rfl
  have c2:C.getD (gs.length*5+2) .any=aV g.ins:=by rw[hC,Ap];rfl
  have c3:C.getD (gs.length*5+3) .any= .ls RW 1 0 g.rows.length g.rows.length:=by rw[hC,Ap];rfl
  have c4:C.getD (gs.length*5+4) .any= .bool g.off:=by rw[hC,Ap];rfl
  rw[he];unfold TP;refine vn ?_;simp only[wq.1,seval,Tryz.results74,hpp];refine⟨by decide +kernel,by omega,?_⟩;refine vn ?_;simp only[wq.1,seval,V.nil?];refine⟨⟨rfl,rfl⟩,?_⟩;refine aS true t.at' 2 (fun _=> ?_) (fun h=>by cases h);simp only[wq.1];refine vn ?_;simp only[wq.1,seval,hG,c2];refine⟨by omega,?_⟩;obtain⟨nq,hn1⟩:∃nq:Nat,nq=min g.ins.length 1:=⟨_,rfl⟩;have hmin:Eh [vi (g.ins.length:Int),V.int .i64 1]=(True,vi (nq:Int)):=by
   rw[mn,hn1];have:min (g.ins.length:Int) 1=((min g.ins.length 1:Nat):Int):=by omega
   rw[this]
  have hw1:IntKind.i64.wrap (1+(nq:Int))=((nq+1:Nat):Int):=by rw[iw (by omega) (by omega)];omega
  have e1:(((r.length+1:Nat):Int)==((nq+1:Nat):Int))=decide (r.length=nq):=by rw[Bool.eq_iff_iff,beq_iff_eq,zqb];omega
  refine vn ?_;simp only[wq.1,seval,hmin,hw1,e1];rw[<-hn1];refine aS (decide (r.length=nq)) t.at' 2 (fun h=> ?_) (fun h=> ?_)
  ·have hrn:r.length=nq:=zqs h;rw[if_pos hrn];simp only[wq.1];have hwr:IntKind.i64.wrap (((r.length+1:Nat):Int)-1)=(r.length:Int):=by rw[iw (by omega) (by omega)];omega
   have hgl2:(t.v::r.map Tk.v).getD r.length .any=(r.getLastD t).v:=by
    rcases List.eq_nil_or_concat r with e|⟨l,x,e⟩
    ·subst e;rfl
    ·rw[e];have:(l.concat x).length=l.length+1:=by simp
     rw[this];simp[List.getLastD_eq_getLast?]
   refine vn ?_;simp only[wq.1,seval,hwr,hgl2];refine⟨by decide +kernel,by omega,⟨by omega,by omega⟩,?_⟩;refine mG (fun f=>f.t 4=vi t.at'/\f.t 5= .lp o.GA (gs.length*5)/\f.t 6=vi g.ins.length/\f.t 7= .str t.t/\f.t 8= .str (r.getLastD t).t/\f.d=[]/\f.k=fun _=>false) ⟨by simp only[wq.1,seval],by simp only[wq.1,seval],by simp only[wq.1,seval],by simp only[wq.1,seval],by simp only[wq.1,↓reduceIte],by simp only[wq.1],by simp only[wq.1]⟩ ?_;rintro f ⟨t4,t5,t6,t7,t8,hd,hk⟩;refine aj (bi (Q:=fun xe f h=>xe= .normal/\h=h1/\f.t 4=vi t.at'/\f.t 5= .lp o.GA (gs.length*5)/\f.t 6=vi g.ins.length/\f.t 7= .str (CJ g t)/\f.t 8= .str (uK t r)/\f.d=[]/\f.k=fun _=>false) ?_ ?_)
   ·rintro xe f h ⟨rfl,rfl,t4,t5,t6,t7,t8,hd,hk⟩;show awp _ _ _ _ _ _ _;have hrl:(CJ g t).length<=1000000:=by unfold CJ;split;exact Nat.zero_le _;exact hst
    obtain⟨row,hrow⟩:∃row,row=CJ g t:=⟨_,rfl⟩;obtain⟨sg,hsg⟩:∃sg,sg=uK t r:=⟨_,rfl⟩;have hRG:Uc g t r=(iW g.ins.length row&&((sg==[48]||sg==[49])&&(g.rows.isEmpty||g.off==(sg==[48])))):=by rw[hrow,hsg];rfl
    obtain⟨B,hB⟩:∃B,B=Uc g t r:=⟨_,rfl⟩;rw[<-hB]at hRG ⊢;rw[<-hrow]at t7 hrl ⊢;rw[<-hsg]at t8 ⊢;refine vn ?_;simp only[wq.1,seval,t8];refine vn ?_;simp only[wq.1,seval,t6,t7];have ht:=Gy row [48,49,45] (by decide) (by decide);refine Bg.ev (q:=112) (vs:=[.str row,.str [48,49,45]]) (by simp only[wq.1,seval]) (by simp only[wq.1,seval]) rfl (fun _=>ht) (fun _=>rfl) ?_;simp only[wq.1,seval,t4,t5,t8,hG,c3,c4];simp only[GN];refine⟨fun h=>⟨h,fun h2=>by rw[h,h2];rfl⟩,fun h=>⟨h,by omega⟩,fun h=>⟨h,by omega⟩,fun h=>⟨h,fun h2=>by rw[h,h2];rfl⟩,?_⟩;have e5:((g.rows.length:Int)==0)=g.rows.isEmpty:=by rw[Bool.eq_iff_iff,beq_iff_eq,List.isEmpty_iff,<-List.length_eq_zero_iff];omega
    have e6:(iW g.ins.length row&&(sg==[48]||sg==[49])&&((g.rows.length:Int)==0||g.off==(sg==[48])))=B:=by rw[e5,Bool.and_assoc,hRG]
    rw[e6];refine aS B t.at' 2 (fun hb=> ?_) (fun hb=> ?_)
    ·rw[if_pos hb];simp only[wq.1];have lPP:=(zqe hpp).1;have lGA:=(zqe hG).1;obtain⟨X3,hX3⟩:∃X3,X3=(g.rows++[row]).map V.str:=⟨_,rfl⟩;have hnx:g.rows.map V.str++[.str row]=X3:=by rw[hX3,zql];rfl
     have hd3:V.drops (fun x=>x==RW) X3=X3:=by rw[hX3,aC]
     obtain⟨C5,hC5⟩:∃C5,C5=gs.flatMap gaX++xP g .any:=⟨_,rfl⟩;have hCd:V.drops (fun x=>x==RW) C=C5:=by rw[hC,fE,bC jl,hC5];show _++[V.drop _ _,V.drop _ _,V.drop _ _,V.drop _ _,V.drop _ _]=_;simp only[V.drop,beq_self_eq_true,if_true];rfl
     have hz:∀x:O,((h.map (O.drop fun x=>x==RW)).set RW x)[o.GA]? =some (.cells C5):=fun x=>by rw[zqn n5,zqo,hG];show some (O.cells (V.drops _ _))=_;rw[hCd]
     have hC5l:C5.length=gs.length*5+5:=by rw[hC5,zqa,o5];rfl
     have bG:(o.GA==RW)=false:=by rw[beq_eq_false_iff_ne];exact Ne.symm n5
     refine vm ?_;obtain⟨C6,hC6⟩:∃C6,C6=gs.flatMap gaX++[.str g.name,vi g.op,aV g.ins,.ls RW 1 0 (g.rows.length+1) (g.rows.length+1),.bool g.off]:=⟨_,rfl⟩;obtain⟨C7,hC7⟩:∃C7,C7=gs.flatMap gaX++[.str g.name,vi g.op,aV g.ins,.ls RW 1 0 (g.rows.length+1) (g.rows.length+1),.bool (sg==[48])]:=⟨_,rfl⟩;have h5:=o5 gs;have hs3:C5.take (gs.length*5+3)++[.ls RW 1 0 (g.rows.length+1) (g.rows.length+1)]++C5.drop (gs.length*5+4)=C6:=by
      rw[hC5,hC6,<-h5,List.take_length_add_append,List.drop_length_add_append,zqc,zqc];rfl
     have hs4:C6.take (gs.length*5+4)++[.bool (sg==[48])]++C6.drop (gs.length*5+5)=C7:=by rw[hC6,hC7,<-h5,List.take_length_add_append,List.drop_length_add_append,zqc,zqc];rfl
     have hC6l:C6.length=gs.length*5+5:=by rw[hC6,zqa,o5];rfl
     have hz2:∀x y:O,(((h.map (O.drop fun x=>x==RW)).set RW x).set o.GA y)[o.GA]? =some y:=fun x y=>zqt (by simp;omega);have k2:=k1.rowD hgs hRW n1 n2 n3 n4 n5 row (sg==[48]);rw[<-hX3,<-hC7]at k2;simp only[wq.1,↓reduceIte,Nat.reduceEqDiff,Nat.reduceLT,reduceCtorEq,Nat.reduceMul,t5,t7,hd,hG,c3,hRW,hnx,hd3,hz,bG,hs3,hs4,hz2];refine⟨by omega,⟨rfl,by decide⟩,⟨by omega,by omega,by omega⟩,by omega,by omega,?_⟩;rw[List.set_set];refine⟨fun i hi=> ?_,K.ext h _ (·==RW) hp1 (fun i hi=> ?_) (fun j hf=> ?_),rfl,_,k2,fun RW' n hh=> ?_⟩
     ·rw[hk];show(i==RW)=false;rw[beq_eq_false_iff_ne];rcases hi with hi|rfl
      ·rintro rfl;exact n6 hi
      ·exact Ne.symm n1
     ·rw[beq_eq_false_iff_ne];rcases hi with hi|rfl
      ·rintro rfl;exact n6 hi
      ·exact Ne.symm n1
     ·have m1:o.GA≠j:=fun e=>K.n5 (by rw[e];exact hf);have m2:RW≠j:=fun e=>n6 (by rw[e];exact hf);rw[zqn m1,zqn m2,zqo]
     ·cases hh;exact n6
    ·rw[if_neg (by rw[hb];decide)];simp only[wq.1,dW];simp only[XE.seq];exact dA (R:=ru Hp fx o (.error (t.at',2))) (by simp only[wq.1,hd]) ⟨fun _ _=>by simp only[wq.1,hk],hp1,rfl⟩
   ·by_cases h0n:g.ins.length=0
    ·have e0:((g.ins.length:Int)==0)=true:=by rw[h0n];rfl
     have hT:CJ g t=[]:=by unfold CJ;rw[if_pos h0n]
     refine vn ?_;simp only[wq.1,seval,t6,e0];refine vm ?_;simp only[wq.1,seval,t4,t5,t6,t8,hd,hT,hk];rfl
    ·have e0:((g.ins.length:Int)==0)=false:=by rw[beq_eq_false_iff_ne];omega
     have hT:CJ g t=t.t:=by unfold CJ;rw[if_neg h0n]
     refine vn ?_;simp only[wq.1,seval,t6,e0];refine vm ?_;simp only[wq.1,seval,t4,t5,t6,t7,t8,hd,hT,hk];rfl
  ·rw[if_neg (of_decide_eq_false h)];simp only[wq.1,dW];simp only[XE.seq];exact dA (R:=ru Hp fx o (.error (t.at',2))) rfl ⟨fun _ _=>rfl,hp1,rfl⟩
end Go.Proofs.YtokppohljajhjaaGreatDoor
