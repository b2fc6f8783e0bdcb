/- Lemmas for the statement of this claim, part F03: they hold with no conditions but those that each one names. -/
import Derived.Test.YtfcpapokknfeeaaGreatDoorF02
import Derived.Shelf.Strconv.AtoiAll
import Derived.Shelf.Strconv.Itoa3
import Derived.Shelf.LaysM
import Derived.Shelf.LaysC
import Derived.Test.YtfcpapokknfeeaaGreatDoorA9
import Derived.Lib.AtoiAll
import Derived.Shelf.Sort.Plain
import Derived.Shelf.Strings.Count
import Derived.Shelf.Strings.LastIndex
import Derived.Shelf.Small.Strs
import Derived.Shelf.Strings.OnBuilder
import Derived.Test.YtfcpapokknfeeaaGreatDoorA10
import Derived.Test.YtfcpapokknfeeaaGreatDoorA11
set_option linter.unusedVariables false
set_option maxRecDepth 20000
set_option linter.unusedSimpArgs false
set_option linter.unnecessarySimpa false
namespace Go.Proofs.YtfcpapokknfeeaaGreatDoor
open Go Go.Proofs Go.Shelf Go.Lib Go.RowKit Go.Sort
def Wj : Go.Shelf.Ren := ⟨fun | 171 => 34 | 243 => 74 | 246 => 125 | 283 => 153 | 284 => 154 | 285 => 155 | 286 => 156 | 129 => 173 | 317 => 172 | 318 => 174 | 319 => 175 | 320 => 176 | 337 => 193 | 338 => 194 | n => n, fun | 3 => 3 | 9 => 9 | 2 => 2 | 4 => 4 | 171 => 197 | 0 => 0 | 53 => 198 | 37 => 55 | 5 => 5 | 173 => 201 | 212 => 214 | 51 => 215 | 20 => 20 | 213 => 216 | 46 => 123 | 232 => 256 | 233 => 257 | n => n, fun | 17 => 1 | 18 => 4 | 19 => 5 | n => n⟩
theorem Y4 : Go.Proofs.LaysM.n171 Tryz.prog Wj where
 mixed := by kernel_rfl
 f129 := Tryz.func173.trans (congrArg some (by kernel_rfl))
 f171 := Tryz.func34.trans (congrArg some (by kernel_rfl))
 f243 := Tryz.func74.trans (congrArg some (by kernel_rfl))
 f246 := Tryz.func125.trans (congrArg some (by kernel_rfl))
 f283 := Tryz.func153.trans (congrArg some (by kernel_rfl))
 f284 := Tryz.func154.trans (congrArg some (by kernel_rfl))
 f285 := Tryz.func155.trans (congrArg some (by kernel_rfl))
 f286 := Tryz.func156.trans (congrArg some (by kernel_rfl))
 f317 := Tryz.func172.trans (congrArg some (by kernel_rfl))
 f318 := Tryz.func174.trans (congrArg some (by kernel_rfl))
 f319 := Tryz.func175.trans (congrArg some (by kernel_rfl))
 f320 := Tryz.func176.trans (congrArg some (by kernel_rfl))
 f337 := Tryz.func193.trans (congrArg some (by kernel_rfl))
 f338 := Tryz.func194.trans (congrArg some (by kernel_rfl))
 t0 := Tryz.underlying0
 a0 := Tryz.isAgg0
 z0 := Tryz.sizeOf0
 v0 := Tryz.zeroValue0
 t2 := Tryz.underlying2
 a2 := Tryz.isAgg2
 z2 := Tryz.sizeOf2
 v2 := Tryz.zeroValue2
 t3 := Tryz.underlying3
 a3 := Tryz.isAgg3
 z3 := Tryz.sizeOf3
 v3 := Tryz.zeroValue3
 t4 := Tryz.underlying4
 a4 := Tryz.isAgg4
 z4 := Tryz.sizeOf4
 v4 := Tryz.zeroValue4
 t5 := Tryz.underlying5
 a5 := Tryz.isAgg5
 z5 := Tryz.sizeOf5
 v5 := Tryz.zeroValue5
 t9 := Tryz.underlying9
 a9 := Tryz.isAgg9
 z9 := Tryz.sizeOf9
 v9 := Tryz.zeroValue9
 t20 := Tryz.underlying20
 a20 := Tryz.isAgg20
 z20 := Tryz.sizeOf20
 v20 := Tryz.zeroValue20
 t37 := Tryz.underlying55
 a37 := Tryz.isAgg55
 z37 := Tryz.sizeOf55
 v37 := Tryz.zeroValue55
 t46 := Tryz.underlying123
 a46 := Tryz.isAgg123
 z46 := Tryz.sizeOf123
 v46 := Tryz.zeroValue123
 t51 := Tryz.underlying215
 a51 := Tryz.isAgg215
 z51 := Tryz.sizeOf215
 v51 := Tryz.zeroValue215
 t53 := Tryz.underlying198
 a53 := Tryz.isAgg198
 z53 := Tryz.sizeOf198
 v53 := Tryz.zeroValue198
 t171 := Tryz.underlying197
 a171 := Tryz.isAgg197
 z171 := Tryz.sizeOf197
 v171 := Tryz.zeroValue197
 t173 := Tryz.underlying201
 a173 := Tryz.isAgg201
 z173 := Tryz.sizeOf201
 v173 := Tryz.zeroValue201
 t212 := Tryz.underlying214
 a212 := Tryz.isAgg214
 z212 := Tryz.sizeOf214
 v212 := Tryz.zeroValue214
 t213 := Tryz.underlying216
 a213 := Tryz.isAgg216
 z213 := Tryz.sizeOf216
 t232 := Tryz.underlying256
 a232 := Tryz.isAgg256
 z232 := Tryz.sizeOf256
 v232 := Tryz.zeroValue256
 t233 := Tryz.underlying257
 a233 := Tryz.isAgg257
 z233 := Tryz.sizeOf257
 v233 := Tryz.zeroValue257
 g17 := by kernel_rfl
 g18 := by kernel_rfl
 g19 := by kernel_rfl
 i0 := by kernel_rfl
 i2 := by kernel_rfl
 i3 := by kernel_rfl
 i4 := by kernel_rfl
 i5 := by kernel_rfl
 i9 := by kernel_rfl
 i20 := by kernel_rfl
 i37 := by kernel_rfl
 i46 := by kernel_rfl
 i51 := by kernel_rfl
 i53 := by kernel_rfl
 i171 := by kernel_rfl
 i173 := by kernel_rfl
 i212 := by kernel_rfl
 i232 := by kernel_rfl
 i233 := by kernel_rfl
 m17 := by kernel_rfl
 m18 := by kernel_rfl
 m19 := by kernel_rfl
def Wl : Go.Shelf.Ren := ⟨fun | 172 => 164 | 244 => 187 | 245 => 188 | 247 => 199 | 279 => 200 | 280 => 201 | 281 => 202 | 282 => 203 | 287 => 205 | 316 => 206 | 171 => 34 | 205 => 207 | 321 => 208 | 322 => 209 | 243 => 74 | 246 => 125 | 283 => 153 | 284 => 154 | 285 => 155 | 286 => 156 | 129 => 173 | 317 => 172 | 318 => 174 | 319 => 175 | 320 => 176 | 337 => 193 | 338 => 194 | n => n, fun | 9 => 9 | 3 => 3 | 75 => 61 | 76 => 62 | 4 => 4 | 5 => 5 | 167 => 250 | 37 => 55 | 0 => 0 | 85 => 251 | 2 => 2 | 168 => 253 | 53 => 198 | 175 => 258 | 46 => 123 | 210 => 262 | 127 => 126 | 145 => 267 | 143 => 265 | 21 => 21 | 171 => 197 | 173 => 201 | 212 => 214 | 51 => 215 | 20 => 20 | 213 => 216 | 232 => 256 | 233 => 257 | 80 => 67 | n => n, fun | 15 => 6 | 16 => 7 | 17 => 1 | 18 => 4 | 19 => 5 | n => n⟩
theorem Yi : Go.Proofs.LaysC.n172 Tryz.prog Wl where
 mixed := by kernel_rfl
 f129 := Tryz.func173.trans (congrArg some (by kernel_rfl))
 f171 := Tryz.func34.trans (congrArg some (by kernel_rfl))
 f172 := Tryz.func164.trans (congrArg some (by kernel_rfl))
 f205 := Tryz.func207.trans (congrArg some (by kernel_rfl))
 f243 := Tryz.func74.trans (congrArg some (by kernel_rfl))
 f244 := Tryz.func187.trans (congrArg some (by kernel_rfl))
 f245 := Tryz.func188.trans (congrArg some (by kernel_rfl))
 f246 := Tryz.func125.trans (congrArg some (by kernel_rfl))
 f247 := Tryz.func199.trans (congrArg some (by kernel_rfl))
 f279 := Tryz.func200.trans (congrArg some (by kernel_rfl))
 f280 := Tryz.func201.trans (congrArg some (by kernel_rfl))
 f281 := Tryz.func202.trans (congrArg some (by kernel_rfl))
 f282 := Tryz.func203.trans (congrArg some (by kernel_rfl))
 f283 := Tryz.func153.trans (congrArg some (by kernel_rfl))
 f284 := Tryz.func154.trans (congrArg some (by kernel_rfl))
 f285 := Tryz.func155.trans (congrArg some (by kernel_rfl))
 f286 := Tryz.func156.trans (congrArg some (by kernel_rfl))
 f287 := Tryz.func205.trans (congrArg some (by kernel_rfl))
 f316 := Tryz.func206.trans (congrArg some (by kernel_rfl))
 f317 := Tryz.func172.trans (congrArg some (by kernel_rfl))
 f318 := Tryz.func174.trans (congrArg some (by kernel_rfl))
 f319 := Tryz.func175.trans (congrArg some (by kernel_rfl))
 f320 := Tryz.func176.trans (congrArg some (by kernel_rfl))
 f321 := Tryz.func208.trans (congrArg some (by kernel_rfl))
 f322 := Tryz.func209.trans (congrArg some (by kernel_rfl))
 f337 := Tryz.func193.trans (congrArg some (by kernel_rfl))
 f338 := Tryz.func194.trans (congrArg some (by kernel_rfl))
 t0 := Tryz.underlying0
 a0 := Tryz.isAgg0
 z0 := Tryz.sizeOf0
 v0 := Tryz.zeroValue0
 t2 := Tryz.underlying2
 a2 := Tryz.isAgg2
 z2 := Tryz.sizeOf2
 v2 := Tryz.zeroValue2
 t3 := Tryz.underlying3
 a3 := Tryz.isAgg3
 z3 := Tryz.sizeOf3
 v3 := Tryz.zeroValue3
 t4 := Tryz.underlying4
 a4 := Tryz.isAgg4
 z4 := Tryz.sizeOf4
 v4 := Tryz.zeroValue4
 t5 := Tryz.underlying5
 a5 := Tryz.isAgg5
 z5 := Tryz.sizeOf5
 v5 := Tryz.zeroValue5
 t9 := Tryz.underlying9
 a9 := Tryz.isAgg9
 z9 := Tryz.sizeOf9
 v9 := Tryz.zeroValue9
 t20 := Tryz.underlying20
 a20 := Tryz.isAgg20
 z20 := Tryz.sizeOf20
 v20 := Tryz.zeroValue20
 t21 := Tryz.underlying21
 a21 := Tryz.isAgg21
 z21 := Tryz.sizeOf21
 v21 := Tryz.zeroValue21
 t37 := Tryz.underlying55
 a37 := Tryz.isAgg55
 z37 := Tryz.sizeOf55
 v37 := Tryz.zeroValue55
 t46 := Tryz.underlying123
 a46 := Tryz.isAgg123
 z46 := Tryz.sizeOf123
 v46 := Tryz.zeroValue123
 t51 := Tryz.underlying215
 a51 := Tryz.isAgg215
 z51 := Tryz.sizeOf215
 v51 := Tryz.zeroValue215
 t53 := Tryz.underlying198
 a53 := Tryz.isAgg198
 z53 := Tryz.sizeOf198
 v53 := Tryz.zeroValue198
 t75 := Tryz.underlying61
 a75 := Tryz.isAgg61
 z75 := Tryz.sizeOf61
 v75 := Tryz.zeroValue61
 t76 := Tryz.underlying62
 a76 := Tryz.isAgg62
 z76 := Tryz.sizeOf62
 v76 := Tryz.zeroValue62
 t85 := Tryz.underlying251
 a85 := Tryz.isAgg251
 z85 := Tryz.sizeOf251
 v85 := Tryz.zeroValue251
 t127 := Tryz.underlying126
 a127 := Tryz.isAgg126
 z127 := Tryz.sizeOf126
 v127 := Tryz.zeroValue126
 t143 := Tryz.underlying265
 a143 := Tryz.isAgg265
 z143 := Tryz.sizeOf265
 v143 := Tryz.zeroValue265
 t145 := Tryz.underlying267
 a145 := Tryz.isAgg267
 z145 := Tryz.sizeOf267
 v145 := Tryz.zeroValue267
 t167 := Tryz.underlying250
 a167 := Tryz.isAgg250
 z167 := Tryz.sizeOf250
 v167 := Tryz.zeroValue250
 t168 := Tryz.underlying253
 a168 := Tryz.isAgg253
 z168 := Tryz.sizeOf253
 v168 := Tryz.zeroValue253
 t171 := Tryz.underlying197
 a171 := Tryz.isAgg197
 z171 := Tryz.sizeOf197
 v171 := Tryz.zeroValue197
 t173 := Tryz.underlying201
 a173 := Tryz.isAgg201
 z173 := Tryz.sizeOf201
 v173 := Tryz.zeroValue201
 t175 := Tryz.underlying258
 a175 := Tryz.isAgg258
 z175 := Tryz.sizeOf258
 v175 := Tryz.zeroValue258
 t210 := Tryz.underlying262
 a210 := Tryz.isAgg262
 z210 := Tryz.sizeOf262
 v210 := Tryz.zeroValue262
 t212 := Tryz.underlying214
 a212 := Tryz.isAgg214
 z212 := Tryz.sizeOf214
 v212 := Tryz.zeroValue214
 t213 := Tryz.underlying216
 a213 := Tryz.isAgg216
 z213 := Tryz.sizeOf216
 t232 := Tryz.underlying256
 a232 := Tryz.isAgg256
 z232 := Tryz.sizeOf256
 v232 := Tryz.zeroValue256
 t233 := Tryz.underlying257
 a233 := Tryz.isAgg257
 z233 := Tryz.sizeOf257
 v233 := Tryz.zeroValue257
 g15 := by kernel_rfl
 g16 := by kernel_rfl
 g17 := by kernel_rfl
 g18 := by kernel_rfl
 g19 := by kernel_rfl
 t80 := Tryz.underlying67
 a80 := Tryz.isAgg67
 z80 := Tryz.sizeOf67
 v80 := Tryz.zeroValue67
 i0 := by kernel_rfl
 i2 := by kernel_rfl
 i3 := by kernel_rfl
 i4 := by kernel_rfl
 i5 := by kernel_rfl
 i9 := by kernel_rfl
 i20 := by kernel_rfl
 i21 := by kernel_rfl
 i37 := by kernel_rfl
 i46 := by kernel_rfl
 i51 := by kernel_rfl
 i53 := by kernel_rfl
 i75 := by kernel_rfl
 i76 := by kernel_rfl
 i80 := by kernel_rfl
 i85 := by kernel_rfl
 i127 := by kernel_rfl
 i143 := by kernel_rfl
 i145 := by kernel_rfl
 i167 := by kernel_rfl
 i168 := by kernel_rfl
 i171 := by kernel_rfl
 i173 := by kernel_rfl
 i175 := by kernel_rfl
 i210 := by kernel_rfl
 i212 := by kernel_rfl
 i232 := by kernel_rfl
 i233 := by kernel_rfl
 m15 := by kernel_rfl
 m16 := by kernel_rfl
 m17 := by kernel_rfl
 m18 := by kernel_rfl
 m19 := by kernel_rfl
 c0 := by kernel_rfl
 c2 := by kernel_rfl
 c3 := by kernel_rfl
 c4 := by kernel_rfl
 c5 := by kernel_rfl
 c9 := by kernel_rfl
 c20 := by kernel_rfl
 c21 := by kernel_rfl
 c37 := by kernel_rfl
 c46 := by kernel_rfl
 c51 := by kernel_rfl
 c53 := by kernel_rfl
 c75 := by kernel_rfl
 c76 := by kernel_rfl
 c80 := by kernel_rfl
 c85 := by kernel_rfl
 c127 := by kernel_rfl
 c143 := by kernel_rfl
 c145 := by kernel_rfl
 c167 := by kernel_rfl
 c168 := by kernel_rfl
 c171 := by kernel_rfl
 c173 := by kernel_rfl
 c175 := by kernel_rfl
 c210 := by kernel_rfl
 c212 := by kernel_rfl
 c213 := by kernel_rfl
 c232 := by kernel_rfl
 c233 := by kernel_rfl
theorem Wn (n : Int) (h0 : -9223372036854775808 ≤ n) (h1 : n ≤ 9223372036854775807) (w : World) (htab : Lib.TabIs Tryz.prog w "internal/strconv.uint64pow10" .u64 Lib.pow10Tab) :
 Calls Tryz.prog 34 #[.int .i64 n] w fun e w' => e = .returned (.string ⟨(Lib.itoa n).toArray⟩) ∧ ∃ k os, w' = grow (w.drewN k) os := Any.strconv_Itoa Y4 n h0 h1 w htab
theorem Wp (s : ByteArray) (hmax : s.size ≤ 9223372036854775806) (v : Int) (h : Lib.atoiAll s.data.toList = .ok v) (w : World) :
 Calls Tryz.prog 164 #[.string s] w fun e w' => e = .returned (.tuple #[.int .i64 v, .nilIface]) ∧ (w' = w ∨ ∃ t, w' = Lib.bytesWorld w 5 t) := Any.strconv_Atoi_ok Yi s hmax v h w
theorem Ku (s : ByteArray) (hlim : s.size ≤ 281474976710656) (h : Lib.atoiAll s.data.toList = .range) (ev : Value) (w : World) (hv : w.cell? ⟨7, 0, none⟩ = some ev) (hev : ev = .nilIface ∨ ∃ te pe, ev = .iface te pe) :
 Calls Tryz.prog 164 #[.string s] w fun e w' => ∃ N, e = .returned (.tuple #[.int .i64 (Lib.atoiSat s.data.toList), .iface 253 (.pointer (some ⟨N, 0, none⟩))]) ∧ w.heap.size ≤ N ∧ w'.heap[N]? = some (.cells #[.string ⟨#[65, 116, 111, 105]⟩, .string s, ev] 262 (0, 0)) ∧ RowKit.Below w.heap.size w w' := Any.strconv_Atoi_range Yi s hlim h ev w hv hev
open Go.Abs
def Tn (k : Int) : V := .iface 182 (.ip (.iface 31 (.int .i64 k)))
theorem Wq (t : V) (h : H) (R : AEnd → H → (Nat → Bool) → Prop) (hr : R (.ret (.bool false)) h (fun _ => false)) : ah TE 163 [.nili, t] h R := by intro ok pl w vs hs hl;simp only [VList, VRel] at hl;obtain ⟨y, ys, rfl, rfl, y2, ys2, rfl, hv2, rfl⟩ := hl;refine Calls.mono (Yg y2 w) ?_;rintro en w' ⟨rfl, rfl⟩;exact ⟨_, pl, h, .ret (.bool false), hs, dH pl w', by simp only [wX, VRel], hr⟩
theorem EU (t : Addr) (k : Int) (w : World) : WExt w (ET t k w) :=
 (((WExt.alloc w _).trans (WExt.alloc _ _)).trans (WExt.alloc _ _)).trans (WExt.alloc _ _)
theorem Ws (k : Int) (j : Nat) (old : V) (h : H) (hh : h[j]? = some (.cells [old])) (R : AEnd → H → (Nat → Bool) → Prop)
 (hr : R (.ret (.bool true)) (h.set j (.cells [.int .i64 k])) (fun _ => false)) : ah TE 163 [Tn k, .iface 208 (.lp j 0)] h R := by
 intro ok pl w vs hs hl;simp only [Tn, VList, VRel] at hl;obtain ⟨y, ys, rfl, ⟨ev1, rfl, p, po, ev2, rfl, hrd, hpos, ev3, rfl, rfl⟩, y2, ys2, rfl, ⟨ev4, rfl, b, hb, rfl⟩, rfl⟩ := hl;have hp : w.cell? ⟨p, po, none⟩ = some (.iface 31 (.int .i64 k)) := by
  have h1 : w.cell? ⟨p, po + 0, none⟩ = (Value.iface 31 (.int .i64 k)).cells[0]? := (hrd 0 hpos).2;simpa [Value.cells] using h1
 obtain ⟨_, cs, ty, fz, hg0, hg1⟩ := hs.exa 2 _ rfl;have hg : w.cell? ⟨2, 0, none⟩ = some (.iface 237 (.agg #[.pointer (some ⟨8, 61, none⟩)])) := by have hg0 : w.heap[2]? = some (.cells cs ty fz) := hg0;simp only [World.cell?, hg0];have hg1 : cs = _ := hg1;subst hg1;rfl
 obtain ⟨o, ho, hat⟩ := hs.obj j b hb;rw [hh] at ho; cases ho;obtain ⟨arr, el, fz2, a1, a2, a3, a4⟩ := hat;have a1 : w.heap[b]? = some (.cells arr el fz2) := a1;have a3 : 1 ≤ arr.size := a3;have ht : w.cell? ⟨b, 0, none⟩ = some arr[0] := by simp only [World.cell?, a1];simp [show 0 < arr.size by omega]
 have hf : w.frozen? ⟨b, 0, none⟩ = false := by simp only [World.frozen?, a1];have := a2 0 (by omega);simpa using this
 refine Calls.mono (Yh p po ⟨b, 0, none⟩ k arr[0] w hp hg ht hf) ?_;rintro en w' ⟨rfl, rfl⟩;have x := EU ⟨b, 0, none⟩ k w;have hs1 := hs.wext x;obtain ⟨w2, hrun, hs2, k2⟩ := oH (xs := [.int .i64 k]) hs1 hb (off := 0) (vs := [.int .i64 k]) (by simp [VList, VRel]) rfl hh (by simp);obtain ⟨o3, ho3, hat3⟩ := hs1.obj j b hb;rw [hh] at ho3; cases ho3;obtain ⟨arr3, el3, fz3, c1, c2, c3, c4⟩ := hat3;have hrun2 := dV (P := TE.P) (w := ET ⟨b, 0, none⟩ k w) (o := 0) (vs := [.int .i64 k]) c1 c2 (by simpa using c3) (by intro v hv; simp at hv; subst hv; rfl);rw [hrun2] at hrun;cases hrun;exact ⟨_, pl, _, .ret (.bool true), hs2, (x.keeps hs).trans k2, by simp only [wX, VRel], hr⟩
theorem Kv (n e a : Int) : Ev TE 137 [vi n, vi e, vi a, .nili] (.tup [vi n, vi e, vi 0]) := by refine ax Tryz.func137 rfl (by simp [nts]) (vm ?_);simp only [wq.1, seval, Tryz.results137];refine ⟨nofun, Wq _ _ _ ?_⟩;simp only [wq.1, seval];exact aG.dat rfl
theorem oU (n e a k : Int) : Ev TE 137 [vi n, vi e, vi a, Tn k] (.tup [vi 0, vi a, vi k]) := by refine ax Tryz.func137 rfl (by simp [nts]) (vm ?_);simp only [wq.1, seval, Tryz.results137, Tn];refine ⟨nofun, Ws k 0 _ _ rfl _ ?_⟩;simp only [wq.1, seval];exact ⟨by decide +kernel, aG.dat rfl⟩
def wO (n : Int) : Bool := decide (0 ≤ n) && decide (n ≤ 2147483647)
theorem Wu (n : Int) : Ev TE 85 [vi n] (.bool (wO n)) := by refine ax Tryz.func85 rfl (by simp [nts]) (vm ?_);simp only [wq.1, seval, Tryz.results85];exact aI rfl rfl
def dW (c : UInt8) : Bool := decide (48 ≤ c.toNat) && decide (c.toNat ≤ 57)
theorem Tq (c : UInt8) : Ev TE 162 [.int .u8 c.toNat] (.bool (dW c)) := by refine ax Tryz.func162 rfl (by simp [nts]) (vm ?_);simp only [wq.1, seval, Tryz.results162];refine aI rfl (congrArg V.bool ?_);have := c.toNat_lt;unfold dW;rw [IntKind.wrap_u8, Bool.eq_iff_iff];simp only [decide_eq_true_eq, Bool.and_eq_true];omega
theorem Tt (w : World) (k : Nat) (os : Array Obj) : WExt w (Sort.grow (w.drewN k) os) := by
 refine ⟨rfl, rfl, rfl, ?_, fun b hb => ?_⟩
 ·show w.heap.size ≤ (w.heap ++ os).size;simp
 ·show (w.heap ++ os)[b]? = w.heap[b]?;rw [Array.getElem?_append_left hb]
theorem Yj {w : World} {name : String} {g : Nat} {cs : Array Value} {ty : TypeId} {fz : Nat × Nat} (hn : Tryz.prog.globalNamed name = some g) (hg : w.heap[g]? = some (.cells cs ty fz)) : w.var? Tryz.prog name = some cs := by unfold World.var?;rw [hn];simp [hg]
theorem uI : ∀ (k u : Nat), u < 10 ^ (k + 1) → Lib.nDigits u ≤ k + 1
 | 0, u, h => by rw [Lib.nDigits_small (by simpa using h)]; exact Nat.le_refl _
 | k + 1, u, h => by
  by_cases hu : u < 10
  ·rw [Lib.nDigits_small hu]; omega
  ·rw [Lib.nDigits_big hu];have := uI k (u / 10) (by rw [Nat.pow_succ] at h; omega);omega
theorem jR (n : Int) (h0 : 0 ≤ n) (h1 : n ≤ 2147483647) : (Lib.itoa n).length ≤ 10 := by obtain ⟨m, rfl⟩ : ∃ m : Nat, n = m := ⟨n.toNat, by omega⟩;unfold Lib.itoa;rw [if_neg (by omega), Int.toNat_natCast, Lib.decDigits_length];exact uI 9 m (by omega)
theorem yT (n : Int) (h0 : 0 ≤ n) (h1 : n ≤ 2147483647) : Ev TE 34 [vi n] (.str (Lib.itoa n)) := by intro ok w vs hs hl;simp only [VList, VRel] at hl;obtain ⟨y, ys, rfl, rfl, rfl⟩ := hl;obtain ⟨_, cs, ty, fz, hg0, hg1⟩ := hs.exa 1 _ rfl;have hg1 : cs = _ := hg1;subst hg1;refine Calls.mono (Wn n (by omega) (by omega) w (Yj (by kernel_rfl) hg0)) ?_;rintro en w' ⟨rfl, k, os, rfl⟩;refine ⟨_, rfl, Tt w k os, ?_⟩;simp only [VRel];exact ⟨_, rfl, by simp, by have := jR n h0 h1; simp only [maxLen]; omega⟩
def EW (n : Int) : List UInt8 × Int := if wO n = true then (Lib.itoa n, 0) else ([], 3)
theorem UV (n : Int) : Ev TE 165 [vi n] (.tup [.str (EW n).1, vi (EW n).2]) := by
 refine ax Tryz.func165 rfl (by simp [nts]) (vm ?_);simp only [wq.1, seval, Tryz.results165];refine ah.ev (Wu n) rfl ?_;unfold EW;cases hf : wO n with
 | false => simp only [wq.1, seval];exact aG.dat rfl
 | true =>
  have hf : 0 ≤ n ∧ n ≤ 2147483647 := by simpa [wO] using hf
  simp only [wq.1, seval];refine ah.ev (yT n hf.1 hf.2) rfl ?_;simp only [wq.1, seval];exact aG.dat rfl
abbrev By := List UInt8
def qc (a : Nat) (ds : By) : Nat := ds.foldl (fun a c => 10 * a + (c.toNat - 48)) a
theorem Wv (ds : By) : ∀ a, a ≤ qc a ds := by
 induction ds with
 | nil => intro a; exact Nat.le_refl _
 | cons c ds ih => intro a;have := ih (10 * a + (c.toNat - 48));show a ≤ qc (10 * a + (c.toNat - 48)) ds;omega
theorem NW {c : UInt8} (h : dW c = true) : 48 ≤ c.toNat ∧ c.toNat ≤ 57 := by simpa [dW] using h
theorem BR (ds : By) : ∀ (a : Nat), (∀ c ∈ ds, dW c = true) → a < 18446744073709551616 → Lib.parseUint10 a ds = if qc a ds < 18446744073709551616 then .ok (qc a ds) else .range := by
 induction ds with
 | nil =>
  intro a _ h;show Lib.NumEnd.ok a = if a < _ then _ else _
  rw [if_pos h];rfl
 | cons c ds ih =>
  intro a hd h;obtain ⟨h1, h2⟩ := NW (hd c List.mem_cons_self);have hv : qc a (c :: ds) = qc (10 * a + (c.toNat - 48)) ds := rfl;have hge := Wv ds (10 * a + (c.toNat - 48));unfold Lib.parseUint10;rw [if_pos ⟨h1, h2⟩];split
  ·rw [if_neg (by omega)]
  ·split
   ·rw [if_neg (by omega)]
   ·rw [ih _ (fun c hc => hd c (List.mem_cons_of_mem _ hc)) (by omega), hv, Nat.mul_comm a 10]
theorem EX {ds : By} (hd : ∀ c ∈ ds, dW c = true) (hne : ds ≠ []) : Lib.atoiAll ds = if (qc 0) ds < 9223372036854775808 then .ok ((qc 0) ds : Int) else .range := by
 cases ds with
 | nil => exact absurd rfl hne
 | cons c r =>
  obtain ⟨h1, h2⟩ := NW (hd c List.mem_cons_self);unfold Lib.atoiAll;have e1 : ¬ (c.toNat = 43 ∨ c.toNat = 45) := by omega
  have e2 : ¬ c.toNat = 45 := by omega
  simp only [if_neg e1];unfold Lib.parseMag;rw [if_neg hne, BR _ 0 hd (by omega)];by_cases h3 : qc 0 (c :: r) < 18446744073709551616
  ·rw [if_pos h3];simp only [e2, not_false_eq_true, true_and, false_and, if_false];by_cases h4 : qc 0 (c :: r) < 9223372036854775808
   ·rw [if_neg (by omega), if_pos h4]
   ·rw [if_pos (by omega), if_neg h4]
  ·rw [if_neg h3, if_neg (by omega)]
theorem xA : ∀ (k u : Nat), u < 10 ^ (k + 1) → Lib.nDigits u ≤ k + 1
 | 0, u, h => by rw [Lib.nDigits_small (by simpa using h)]; exact Nat.le_refl _
 | k + 1, u, h => by
  by_cases hu : u < 10
  ·rw [Lib.nDigits_small hu]; omega
  ·rw [Lib.nDigits_big hu];have := xA k (u / 10) (by rw [Nat.pow_succ] at h; omega);omega
theorem Wx {u k : Nat} (h : u < 10 ^ (k + 1)) : (Lib.decDigits u).length ≤ k + 1 := by rw [Lib.decDigits_length]; exact xA k u h
theorem NY {u : Nat} (h : ¬ u < 10) : Lib.decDigits u = Lib.decDigits (u / 10) ++ [UInt8.ofNat (48 + u % 10)] := by rw [Lib.decDigits, dif_neg h]
theorem EY {d : Nat} (h : d < 10) : (UInt8.ofNat (48 + d)).toNat = 48 + d := by rw [UInt8.toNat_ofNat'];omega
def Xj (ds : By) : Prop := (qc 0) ds ≤ 2147483647 ∧ Lib.decDigits ((qc 0) ds) = ds
instance (ds : By) : Decidable (Xj ds) := by unfold Xj; infer_instance
theorem Gl (n : Nat) : Lib.itoa n = Lib.decDigits n := by unfold Lib.itoa;rw [if_neg (by omega), Int.toNat_natCast]
theorem BU {w w' : World} (x : Below w.heap.size w w') : WExt w w' := ⟨x.os, x.tape, x.output, x.size, x.block⟩
theorem Wy (ds : By) (hd : ∀ c ∈ ds, dW c = true) (hne : ds ≠ []) (hl : ds.length ≤ 100000) :
 EvR TE 164 [.str ds] fun v => (v = .tup [vi (qc 0 ds : Nat), .nili] ∧ qc 0 ds < 9223372036854775808) ∨ (∃ n, v = .tup [vi n, .iface 253 .any] ∧ ¬ qc 0 ds < 9223372036854775808) := by
 intro ok w vs hs hl2;simp only [VList, VRel] at hl2;obtain ⟨y, ys, rfl, ⟨s, rfl, hsd, _⟩, rfl⟩ := hl2;have hsz : s.size = ds.length := by rw [fD, hsd]
 have ha := EX hd hne;rw [← hsd] at ha;by_cases hv : qc 0 ds < 9223372036854775808
 ·rw [hsd, if_pos hv, ← hsd] at ha;rw [hsd] at ha;refine Calls.mono (Wp s (by omega) _ (by rw [hsd]; exact ha) w) ?_;rintro en w' ⟨rfl, hw⟩;refine ⟨_, _, .inl ⟨rfl, hv⟩, rfl, ?_, ?_⟩
  ·rcases hw with rfl | ⟨t, rfl⟩
   ·exact bW _
   ·exact BU (Lib.bytesWorld_below _ _ _)
  ·simp only [VRel, VList];exact ⟨_, rfl, _, _, rfl, rfl, _, _, rfl, rfl, rfl⟩
 ·rw [hsd, if_neg hv] at ha;obtain ⟨_, cs, ty, fz, hg0, hg1⟩ := hs.exa 7 _ rfl;obtain ⟨te, pe, rfl⟩ := hg1;refine Calls.mono (Ku s (by omega) (by rw [hsd]; exact ha) (.iface te pe) w (by
   have hg0 : w.heap[7]? = some (.cells #[.iface te pe] ty fz) := hg0;simp [World.cell?, hg0]) (.inr ⟨te, pe, rfl⟩)) ?_
  rintro en w' ⟨N, rfl, _, _, hb⟩;refine ⟨_, _, .inr ⟨Lib.atoiSat s.data.toList, rfl, hv⟩, rfl, BU hb, ?_⟩;simp only [VRel, VList];exact ⟨_, rfl, _, _, rfl, rfl, _, _, rfl, ⟨_, rfl, trivial⟩, rfl⟩
def NZ (ds : By) : Int × V := if Xj ds then ((qc 0 ds : Nat), .nili) else (0, Tn 3)
theorem mX (k : Int) : aG TE [.cells [.iface 31 (.int .i64 k)]] (.iface 182 (.lp 0 0)) (Tn k) :=
 aG.iface (aG.lp rfl (aC.dat rfl) rfl rfl Nat.zero_lt_one rfl)
theorem Yk (ds : By) (hd : ∀ c ∈ ds, dW c = true) (hne : ds ≠ []) (hl : ds.length ≤ 100000) : Ev TE 138 [.str ds] (.tup [vi (NZ ds).1, (NZ ds).2]) := by
 refine ax Tryz.func138 rfl (by simp [nts]) (vm ?_);simp only [wq.1, seval, Tryz.results138];refine JU (Wy ds hd hne hl) rfl ?_;rintro r (⟨rfl, hv⟩ | ⟨n, rfl, hv⟩)
 ·simp only [wq.1, seval];refine ah.ev (UV _) rfl ?_;by_cases hm : qc 0 ds ≤ 2147483647
  ·have hp : EW (qc 0 ds : Nat) = (Lib.decDigits (qc 0 ds), 0) := by unfold EW;rw [if_pos (by simp [wO]; omega), Gl]
   rw [hp];by_cases hc : Lib.decDigits (qc 0 ds) = ds
   ·have hg : NZ ds = (((qc 0 ds : Nat) : Int), V.nili) := by unfold NZ; rw [if_pos ⟨hm, hc⟩]
    have hb : (Lib.decDigits (qc 0 ds) == ds) = true := by simp [hc]
    rw [hg];simp only [wq.1, seval, au, hb];exact aG.dat rfl
   ·have hg : NZ ds = (0, Tn 3) := by unfold NZ; rw [if_neg (fun h => hc h.2)]
    have hb : (Lib.decDigits (qc 0 ds) == ds) = false := by simp [hc]
    rw [hg];simp only [wq.1, seval, au, hb];exact ⟨nofun, nofun, aG.tup (aC.cons (aG.dat rfl) (aC.cons (mX 3) aC.nil))⟩
  ·have hp : EW (qc 0 ds : Nat) = ([], 3) := by unfold EW;rw [if_neg (by simp [wO]; omega)]
   have hg : NZ ds = (0, Tn 3) := by unfold NZ; rw [if_neg (fun h => hm h.1)]
   rw [hp, hg];simp only [wq.1, seval, au];exact ⟨nofun, nofun, aG.tup (aC.cons (aG.dat rfl) (aC.cons (mX 3) aC.nil))⟩
 ·have hg : NZ ds = (0, Tn 3) := by unfold NZ;rw [if_neg];rintro ⟨h, _⟩;omega
  rw [hg];simp only [wq.1, seval];refine ah.ev (UV _) rfl ?_;simp only [wq.1, seval, au];exact ⟨nofun, nofun, aG.tup (aC.cons (aG.dat rfl) (aC.cons (mX 3) aC.nil))⟩
def endR (s : By) (at_ : Int) : Int := if at_ < 0 ∨ (s.length : Int) < at_ then at_ else at_ + ((s.drop at_.toNat).takeWhile dW).length
theorem UW {l : By} {i : Nat} (hi : i ≤ l.length) (h1 : (l.take i).all dW = true) (h2 : i < l.length → dW (l.getD i 0) = false) : (l.takeWhile dW).length = i := by
 have h3 : l.takeWhile dW = l.take i ++ (l.drop i).takeWhile dW := by
  conv => lhs; rw [← List.take_append_drop i l]
  exact List.takeWhile_append_of_pos (List.all_eq_true.1 h1)
 have h4 : (l.drop i).takeWhile dW = [] := by
  by_cases hl : i < l.length
  ·rw [List.drop_eq_getElem_cons hl];have := h2 hl;rw [aO hl] at this;rw [List.takeWhile_cons, this]; rfl
  ·rw [List.drop_eq_nil_of_le (by omega)]; rfl
 rw [h3, h4, List.append_nil, List.length_take];omega
theorem BV {l : By} {p i : Nat} : (l.drop p).getD i 0 = l.getD (p + i) 0 := by rw [List.getD_eq_getElem?_getD, List.getD_eq_getElem?_getD, List.getElem?_drop]
theorem Yl (s : By) (a : Int) (hl : s.length ≤ 100000) : Ev TE 136 [.str s, vi a] (vi (endR s a)) := by
 have hM : maxLen = 9223372036854775807 := rfl;refine ax Tryz.func136 rfl (by simp [nts]) (vm ?_);simp only [wq.1, seval, Tryz.results136];refine vcB.mk (fun hc => ?_) (fun hc => ?_)
 ·have h0 : endR s a = a := by unfold endR;rw [if_pos (by simpa using hc)]
  rw [h0];simp only [wq.1, seval];exact aG.dat rfl
 ·simp only [Bool.or_eq_false_iff, decide_eq_false_iff_not] at hc;obtain ⟨p, rfl⟩ : ∃ p : Nat, a = p := ⟨a.toNat, by omega⟩;have hp : p ≤ s.length := by omega
  have h0 : endR s p = p + ((s.drop p).takeWhile dW).length := by unfold endR;rw [if_neg (by omega), Int.toNat_natCast]
  have hsub : IntKind.i64.wrap ((s.length : Int) - p) = ((s.length - p : Nat) : Int) := by rw [bu (by omega) (by omega)]; omega
  rw [h0];simp only [wq.1, seval, hsub];have hdl : (s.drop p).length = s.length - p := List.length_drop;refine aA (fun m f h => ∃ i, m + i = s.length - p ∧ f.t 0 = .str s ∧ f.t 1 = vi p ∧ f.t 18 = vi ((s.length - p : Nat) : Int) ∧ f.t 19 = vi i ∧ f.d = [] ∧ h = [] ∧ ((s.drop p).take i).all dW = true) (s.length - p) ⟨0, by omega, rfl, rfl, rfl, rfl, rfl, rfl, by simp⟩ ?_;rintro m f h ⟨i, hm, h0, h1, h18, h19, hd, rfl, hall⟩;have hadd : IntKind.i64.wrap ((p : Int) + i) = ((p + i : Nat) : Int) := by rw [bu (by omega) (by omega)]; omega
  refine vm ?_;simp only [wq.1, seval, h18, h19];refine vcB.mk (fun hlt => ?_) (fun hlt => ?_)
  ·simp only [decide_eq_true_eq, Int.ofNat_lt] at hlt;simp only [wq.1, seval, h0, h1, h19, hadd];refine ⟨⟨by omega, by omega⟩, ah.ev (Tq (s.getD (p + i) 0)) rfl ?_⟩;cases hD : dW (s.getD (p + i) 0) with
   | false => have hlen := UW (l := s.drop p) (i := i) (by omega) hall (fun _ => by rw [BV]; exact hD);simp only [wq.1, seval, h1, hd, hadd];exact aI rfl (by rw [hlen]; rfl)
   | true =>
    simp only [wq.1, seval, h19, ak (show i < maxLen by omega)];refine .inl ⟨m - 1, by omega, i + 1, by omega, h0, h1, h18, rfl, hd, rfl, ?_⟩;have hli : i < (s.drop p).length := by omega
    have hD2 : dW ((s.drop p)[i]) = true := by rw [← aO (d := 0) hli, BV]; exact hD
    rw [List.take_add_one, List.all_append, hall, List.getElem?_eq_getElem hli, Option.toList_some, List.all_cons, hD2];rfl
  ·simp only [decide_eq_false_iff_not, Int.ofNat_lt] at hlt;have hlen := UW (l := s.drop p) (i := i) (by omega) hall (fun h => by omega);simp only [wq.1, seval, h0, hd];exact aI rfl (by rw [hlen]; congr 1; omega)
def Eg (s : By) (a : Int) : Int × Int × Int :=
 if a < 0 ∨ (s.length : Int) < a then (0, a, 3)
 else if (s.drop a.toNat).takeWhile dW ≠ [] ∧ Xj ((s.drop a.toNat).takeWhile dW) then ((qc 0 ((s.drop a.toNat).takeWhile dW) : Nat), a + ((s.drop a.toNat).takeWhile dW).length, 0)
 else (0, a, 3)
theorem Ym (s : By) (a : Int) (hl : s.length ≤ 100000) : Ev TE 93 [.str s, vi a] (.tup [vi (Eg s a).1, vi (Eg s a).2.1, vi (Eg s a).2.2]) := by
 have hM : maxLen = 9223372036854775807 := rfl;refine ax Tryz.func93 rfl (by simp [nts]) (vm ?_);simp only [wq.1, seval, Tryz.results93];refine ah.ev (Yl s a hl) rfl ?_;by_cases hc : a < 0 ∨ (s.length : Int) < a
 ·have h0 : endR s a = a := by unfold endR; rw [if_pos hc]
  have h1 : Eg s a = (0, a, 3) := by unfold Eg; rw [if_pos hc]
  rw [h0, h1];simp only [wq.1, seval];refine ⟨nofun, nofun, ah.lend (oU 0 a a 3) (aC.cons (aG.dat rfl) (aC.cons (aG.dat rfl) (aC.cons (aG.dat rfl) (aC.cons (mX 3) aC.nil)))) rfl ?_⟩;simp only [wq.1, ↓reduceIte, Nat.reduceEqDiff, Nat.reduceLT, Nat.reduceLeDiff, Nat.reduceAdd, Nat.reduceSub, Int.reduceToNat, Nat.reduceDiv, Int.reduceLT, Int.reduceLE, Int.reduceNeg, Int.reduceBEq, Int.reduceBNe, Int.reduceAdd, Int.reduceSub, Nat.reduceBEq, reduceCtorEq, Nat.reduceMul, au, Tryz.results93];exact aG.dat rfl
 ·obtain ⟨p, rfl⟩ : ∃ p : Nat, a = p := ⟨a.toNat, by omega⟩;have hp : p ≤ s.length := by omega
  have h0 : endR s p = p + ((s.drop p).takeWhile dW).length := by unfold endR;rw [if_neg hc, Int.toNat_natCast]
  have h1 : Eg s p = if (s.drop p).takeWhile dW ≠ [] ∧ Xj ((s.drop p).takeWhile dW) then (((qc 0 ((s.drop p).takeWhile dW) : Nat) : Int), (p : Int) + ((s.drop p).takeWhile dW).length, (0 : Int)) else (0, (p : Int), 3) := by unfold Eg;rw [if_neg hc, Int.toNat_natCast]
  have hpre : (s.drop p).take ((s.drop p).takeWhile dW).length = (s.drop p).takeWhile dW := (List.prefix_iff_eq_take.1 (List.takeWhile_prefix dW)).symm;have hdg : ∀ c ∈ (s.drop p).takeWhile dW, dW c = true := fun c hc => List.all_eq_true.1 List.all_takeWhile c hc;have hlen : ((s.drop p).takeWhile dW).length ≤ s.length - p := by
   have := (List.takeWhile_prefix (l := s.drop p) dW).length_le
   rwa [List.length_drop] at this
  rw [h0, h1];generalize (s.drop p).takeWhile dW = ds at hpre hdg hlen;by_cases hne : ds = []
  ·subst hne;rw [if_neg (fun h => h.1 rfl)];have hb : ((p : Int) + ((0 : Nat) : Int) == (p : Int)) = true := by simp
   simp only [wq.1, ↓reduceIte, Nat.reduceEqDiff, Nat.reduceLT, Nat.reduceLeDiff, Nat.reduceAdd, Nat.reduceSub, Int.reduceToNat, Nat.reduceDiv, Int.reduceLT, Int.reduceLE, Int.reduceNeg, Int.reduceBEq, Int.reduceBNe, Int.reduceAdd, Int.reduceSub, Nat.reduceBEq, reduceCtorEq, Nat.reduceMul, au, Tryz.results93, hb];refine ⟨nofun, nofun, ah.lend (oU 0 p p 3) (aC.cons (aG.dat rfl) (aC.cons (aG.dat rfl) (aC.cons (aG.dat rfl) (aC.cons (mX 3) aC.nil)))) rfl ?_⟩;simp only [wq.1, ↓reduceIte, Nat.reduceEqDiff, Nat.reduceLT, Nat.reduceAdd];exact aG.dat rfl
  ·have hpos : 0 < ds.length := List.length_pos_iff.2 hne;have hb : ((p : Int) + (ds.length : Nat) == (p : Int)) = false := by rw [beq_eq_false_iff_ne]; omega
   have hsl : List.take (((p : Int) + (ds.length : Nat)).toNat - p) (List.drop p s) = ds := by rw [show ((p : Int) + (ds.length : Nat)).toNat - p = ds.length by omega, hpre]
   simp only [wq.1, seval, hb, hsl];refine ⟨⟨by omega, by omega, by omega⟩, ah.ev (Yk ds hdg hne (by omega)) rfl ?_⟩;unfold NZ;by_cases hg : Xj ds
   ·rw [if_pos hg, if_pos ⟨hne, hg⟩];simp only [wq.1, seval];refine ah.ev (Kv _ _ _) rfl ?_;simp only [wq.1, seval];exact aG.dat rfl
   ·rw [if_neg hg, if_neg (fun h => hg h.2)];simp only [wq.1, seval];refine ⟨trivial, ah.ev (oU _ _ _ 3) rfl ?_⟩;simp only [wq.1, seval];exact aG.dat rfl
abbrev rd (s : S) (a : Nat) : O := .cells [.str s, vi a]
def yU (s : S) (a : Nat) (c : UInt8) : Bool := s[a]? == some c
theorem Y5 (x c : UInt8) : ((x.toNat : Int) == (c.toNat : Int)) = (x == c) := by rw [Bool.eq_iff_iff];simp only [beq_iff_eq, Int.natCast_inj, UInt8.toNat_inj]
def BX : Go.Shelf.Ren := ⟨fun | 137 => 112 | 217 => 145 | 266 => 167 | n => n, fun | 9 => 9 | 5 => 5 | 3 => 3 | n => n, fun | n => n⟩
theorem xB : Go.Proofs.Lays.n137 Tryz.prog BX where
 mixed := by kernel_rfl
 f137 := Tryz.func112.trans (congrArg some (by kernel_rfl))
 f217 := Tryz.func145.trans (congrArg some (by kernel_rfl))
 f266 := Tryz.func167.trans (congrArg some (by kernel_rfl))
 t3 := Tryz.underlying3
 a3 := Tryz.isAgg3
 z3 := Tryz.sizeOf3
 v3 := Tryz.zeroValue3
 t5 := Tryz.underlying5
 a5 := Tryz.isAgg5
 z5 := Tryz.sizeOf5
 v5 := Tryz.zeroValue5
 t9 := Tryz.underlying9
 a9 := Tryz.isAgg9
 z9 := Tryz.sizeOf9
 v9 := Tryz.zeroValue9
def Tu : Go.Shelf.Ren := ⟨fun | 138 => 160 | 195 => 178 | 218 => 179 | 143 => 180 | 219 => 168 | 217 => 145 | 225 => 189 | 224 => 190 | 267 => 191 | 266 => 167 | 314 => 204 | n => n, fun | 9 => 9 | 3 => 3 | 4 => 4 | 5 => 5 | 0 => 0 | 46 => 123 | 146 => 234 | 51 => 215 | n => n, fun | 1 => 3 | n => n⟩
theorem Yn : Go.Proofs.Lays.n138 Tryz.prog Tu where
 mixed := by kernel_rfl
 f138 := Tryz.func160.trans (congrArg some (by kernel_rfl))
 f143 := Tryz.func180.trans (congrArg some (by kernel_rfl))
 f195 := Tryz.func178.trans (congrArg some (by kernel_rfl))
 f217 := Tryz.func145.trans (congrArg some (by kernel_rfl))
 f218 := Tryz.func179.trans (congrArg some (by kernel_rfl))
 f219 := Tryz.func168.trans (congrArg some (by kernel_rfl))
 f224 := Tryz.func190.trans (congrArg some (by kernel_rfl))
 f225 := Tryz.func189.trans (congrArg some (by kernel_rfl))
 f266 := Tryz.func167.trans (congrArg some (by kernel_rfl))
 f267 := Tryz.func191.trans (congrArg some (by kernel_rfl))
 f314 := Tryz.func204.trans (congrArg some (by kernel_rfl))
 t0 := Tryz.underlying0
 a0 := Tryz.isAgg0
 z0 := Tryz.sizeOf0
 v0 := Tryz.zeroValue0
 t3 := Tryz.underlying3
 a3 := Tryz.isAgg3
 z3 := Tryz.sizeOf3
 v3 := Tryz.zeroValue3
 t4 := Tryz.underlying4
 a4 := Tryz.isAgg4
 z4 := Tryz.sizeOf4
 v4 := Tryz.zeroValue4
 t5 := Tryz.underlying5
 a5 := Tryz.isAgg5
 z5 := Tryz.sizeOf5
 v5 := Tryz.zeroValue5
 t9 := Tryz.underlying9
 a9 := Tryz.isAgg9
 z9 := Tryz.sizeOf9
 v9 := Tryz.zeroValue9
 t46 := Tryz.underlying123
 a46 := Tryz.isAgg123
 z46 := Tryz.sizeOf123
 v46 := Tryz.zeroValue123
 t51 := Tryz.underlying215
 a51 := Tryz.isAgg215
 z51 := Tryz.sizeOf215
 v51 := Tryz.zeroValue215
 t146 := Tryz.underlying234
 a146 := Tryz.isAgg234
 z146 := Tryz.sizeOf234
 v146 := Tryz.zeroValue234
 g1 := by kernel_rfl
def BZ : Go.Shelf.Ren := ⟨fun | 148 => 161 | 222 => 181 | 223 => 182 | 269 => 195 | n => n, fun | 9 => 9 | 3 => 3 | 4 => 4 | 5 => 5 | 146 => 234 | 51 => 215 | 46 => 123 | n => n, fun | n => n⟩
theorem Kw : Go.Proofs.Lays.n148 Tryz.prog BZ where
 mixed := by kernel_rfl
 f148 := Tryz.func161.trans (congrArg some (by kernel_rfl))
 f222 := Tryz.func181.trans (congrArg some (by kernel_rfl))
 f223 := Tryz.func182.trans (congrArg some (by kernel_rfl))
 f269 := Tryz.func195.trans (congrArg some (by kernel_rfl))
 t3 := Tryz.underlying3
 a3 := Tryz.isAgg3
 z3 := Tryz.sizeOf3
 v3 := Tryz.zeroValue3
 t4 := Tryz.underlying4
 a4 := Tryz.isAgg4
 z4 := Tryz.sizeOf4
 v4 := Tryz.zeroValue4
 t5 := Tryz.underlying5
 a5 := Tryz.isAgg5
 z5 := Tryz.sizeOf5
 v5 := Tryz.zeroValue5
 t9 := Tryz.underlying9
 a9 := Tryz.isAgg9
 z9 := Tryz.sizeOf9
 v9 := Tryz.zeroValue9
 t46 := Tryz.underlying123
 a46 := Tryz.isAgg123
 z46 := Tryz.sizeOf123
 v46 := Tryz.zeroValue123
 t51 := Tryz.underlying215
 a51 := Tryz.isAgg215
 z51 := Tryz.sizeOf215
 v51 := Tryz.zeroValue215
 t146 := Tryz.underlying234
 a146 := Tryz.isAgg234
 z146 := Tryz.sizeOf234
 v146 := Tryz.zeroValue234
theorem Gm {c : C} {l : S} {x : Value} (h : VRel c (.str l) x) : x = .string ⟨l.toArray⟩ := by
 simp only [VRel] at h;obtain ⟨s, rfl, h, _⟩ := h
 congr 1
 rw [← h]
theorem Yo (s : S) (n : Nat) (hn : n < 256) : Ev TE 112 [.str s, .int .u8 n] (vi (Lib.indexByte s (UInt8.ofNat n))) := by intro ok w vs hs hl;simp only [VList, VRel] at hl;obtain ⟨y, ys, rfl, ⟨b, rfl, hb, _⟩, y2, ys2, rfl, rfl, rfl⟩ := hl;refine Calls.mono (Any.strings_IndexByte xB b n w) ?_;rintro en w' ⟨rfl, rfl⟩;refine ⟨_, rfl, bW _, ?_⟩;simp only [VRel];rw [hb];rfl
theorem N7 (s : S) (c : UInt8) : Ev TE 160 [.str s, .str [c]] (vi (s.count c : Nat)) := by intro ok w vs hs hl;simp only [VList] at hl;obtain ⟨y, ys, rfl, h1, y2, ys2, rfl, h2, rfl⟩ := hl;have := Gm h1; subst this;have := Gm h2; subst this;refine Calls.mono (Any.strings_Count_one Yn ⟨s.toArray⟩ c w) ?_;rintro en w' ⟨rfl, rfl⟩;exact ⟨_, rfl, bW _, by simp only [VRel]; rfl⟩
theorem Tv (s : S) (c : UInt8) (hs0 : s.length ≤ 1000000000) : Ev TE 161 [.str s, .str [c]] (vi (Lib.lastIndexByte ⟨s.toArray⟩ c.toNat)) := by intro ok w vs hs hl;simp only [VList] at hl;obtain ⟨y, ys, rfl, h1, y2, ys2, rfl, h2, rfl⟩ := hl;have := Gm h1; subst this;have := Gm h2; subst this;refine Calls.mono (Any.strings_LastIndex_one Kw ⟨s.toArray⟩ ⟨#[c]⟩ rfl (by show s.toArray.size < _; simp; omega) w) ?_;rintro en w' ⟨rfl, rfl⟩;exact ⟨_, rfl, bW _, by simp only [VRel]; rfl⟩
theorem EZ (p s : S) : p.isPrefixOf s = (decide (p.length ≤ s.length) && (s.take p.length == p)) := by
 rw [Bool.eq_iff_iff, List.isPrefixOf_iff_prefix, List.prefix_iff_eq_take, Bool.and_eq_true, decide_eq_true_eq, beq_iff_eq];constructor
 ·intro h;have := congrArg List.length h;rw [List.length_take] at this;exact ⟨by omega, h.symm⟩
 ·exact fun h => h.2.symm
theorem N8 (s p : S) : Ev TE 142 [.str s, .str p] (.bool (p.isPrefixOf s)) := by
 rw [EZ];refine ax Tryz.func142 rfl (by simp [nts]) (vm ?_);by_cases hle : p.length ≤ s.length
 ·have e1 : decide ((p.length : Int) ≤ (s.length : Int)) = true := by simpa using hle
  have e2 : decide (p.length ≤ s.length) = true := by simpa using hle
  simp only [wq.1, seval, Tryz.results142, e1, e2];exact ⟨⟨by omega, by omega⟩, aG.dat rfl⟩
 ·have e1 : decide ((p.length : Int) ≤ (s.length : Int)) = false := by simpa using hle
  have e2 : decide (p.length ≤ s.length) = false := by simpa using hle
  simp only [wq.1, seval, Tryz.results142, e1, e2];exact aG.dat rfl
theorem N9 (s p : S) : Ev TE 99 [.str s, .str p] (.bool (p.isPrefixOf s)) := by refine ax Tryz.func99 rfl (by simp [nts]) (vm ?_);simp only [wq.1, seval, Tryz.results99];refine ah.ev (N8 s p) rfl ?_;simp only [wq.1, seval];exact aG.dat rfl
theorem WA (s : S) (c : UInt8) : Ev TE 145 [.str s, vb c] (vi (Lib.indexByte s c)) := by intro ok w vs hs hl;simp only [VList, VRel] at hl;obtain ⟨y, ys, rfl, ⟨b, rfl, hb, _⟩, y2, ys2, rfl, rfl, rfl⟩ := hl;refine Calls.mono (Any.stringslite_IndexByte { xB with } b c.toNat w) ?_;rintro en w' ⟨rfl, rfl⟩;refine ⟨_, rfl, bW _, ?_⟩;simp only [VRel];rw [hb];simp
theorem uJ (c : UInt8) : ∀ s : S, (c ∉ s ∧ Lib.indexByte s c = -1 ∧ s.takeWhile (· != c) = s) ∨ (Lib.indexByte s c = ((s.takeWhile (· != c)).length : Int) ∧ (s.takeWhile (· != c)).length < s.length)
 | [] => .inl ⟨by simp, rfl, rfl⟩
 | b :: s => by
  unfold Lib.indexByte;by_cases hb : b = c
  ·subst hb;refine .inr ?_;simp
  ·have h1 : (b == c) = false := by simpa using hb
   have h2 : (b != c) = true := by simpa using hb
   have h3 : Lib.indexByte s c ≥ -1 := Lib.indexByte_ge s c;rw [h1, if_neg (by decide), List.takeWhile_cons, if_pos h2];rcases uJ c s with ⟨a1, a2, a3⟩ | ⟨a1, a2⟩
   ·refine .inl ⟨by simp [a1, Ne.symm hb], ?_, by rw [a3]⟩;rw [a2]; rfl
   ·refine .inr ⟨?_, by simpa using a2⟩;rw [a1, if_neg (by simp)];simp
theorem Ky (s : S) (c : UInt8) (hs : s.length ≤ 1000000000) : Ev TE 168 [.str s, .str [c]] (vi (Lib.indexByte s c)) := by
 have hb := WA s c;refine ax Tryz.func168 rfl (by simp [nts]) (vm ?_);by_cases he : ([c] == s) = true
 ·have : s = [c] := (eq_of_beq he).symm;subst this;have e0 : Lib.indexByte [c] c = 0 := by simp [Lib.indexByte]
  simp only [wq.1, seval, -Int.reduceNatCast, -Int.reduceNatCast', Tryz.results168, e0];exact aG.dat rfl
 ·have he : ([c] == s) = false := by simpa using he
  have e1 : (((1 : Nat) : Int) == 0) = false := by decide
  have e2 : (((1 : Nat) : Int) == 1) = true := by decide
  simp only [wq.1, seval, -Int.reduceNatCast, -Int.reduceNatCast', au, Tryz.results168, he, e1, e2];refine ⟨by decide, ah.ev hb rfl ?_⟩;simp only [wq.1, ↓reduceIte, Nat.reduceLT, Int.reduceNeg];exact aG.dat rfl
def UX (s : S) (c : UInt8) : V := if Lib.indexByte s c < 0 then .tup [.str s, .str [], .bool false] else .tup [.str (s.takeWhile (· != c)), .str (s.drop ((s.takeWhile (· != c)).length + 1)), .bool true]
theorem Tz (s : S) (c : UInt8) (hs : s.length ≤ 1000000000) : Ev TE 146 [.str s, .str [c]] (UX s c) := by
 have hi := Ky s c hs;unfold UX;refine ax Tryz.func146 rfl (by simp [nts]) (vm ?_);simp only [wq.1, seval, Tryz.results146];refine ah.ev hi rfl ?_;simp only [wq.1, seval];rcases uJ c s with ⟨a1, a2, a3⟩ | ⟨a1, a2⟩
 ·have e1 : decide ((0 : Int) ≤ Lib.indexByte s c) = false := by rw [a2]; decide
  rw [if_pos (by omega)];simp only [wq.1, seval, -Int.reduceNatCast, -Int.reduceNatCast', au, Tryz.results146, e1];exact aG.dat rfl
 ·have e1 : decide ((0 : Int) ≤ Lib.indexByte s c) = true := by rw [a1]; simp
  rw [a1] at e1;rw [if_neg (by omega)];have w1 : IntKind.i64.wrap (((s.takeWhile (· != c)).length : Int) + ((1 : Nat) : Int)) = ((s.takeWhile (· != c)).length + 1 : Nat) := by rw [bu (by omega) (by omega)]; omega
  simp only [wq.1, seval, -Int.reduceNatCast, -Int.reduceNatCast', au, Tryz.results146, e1, a1, w1];have e3 : s.take (s.takeWhile (· != c)).length = s.takeWhile (· != c) := (List.prefix_iff_eq_take.1 (List.takeWhile_prefix _)).symm;refine ⟨by decide +kernel, ⟨by omega, by omega⟩, ⟨by omega, by omega⟩, ?_⟩;rw [e3];exact aG.dat rfl
theorem Yp (s : S) (c : UInt8) (hs : s.length ≤ 1000000000) : Ev TE 113 [.str s, .str [c]] (UX s c) := by
 have hc := Tz s c hs;unfold UX at hc ⊢;by_cases hn : Lib.indexByte s c < 0
 ·rw [if_pos hn] at hc ⊢;refine ax Tryz.func113 rfl (by simp [nts]) (vm ?_);simp only [wq.1, seval, Tryz.results113];refine ah.ev hc rfl ?_;simp only [wq.1, seval];exact aG.dat rfl
 ·rw [if_neg hn] at hc ⊢;refine ax Tryz.func113 rfl (by simp [nts]) (vm ?_);simp only [wq.1, seval, Tryz.results113];refine ah.ev hc rfl ?_;simp only [wq.1, seval];exact aG.dat rfl
def Zz (c : UInt8) : Bool := c == 48 || c == 49 || c == 120
def sgv (c : UInt8) : Int := Lib.indexByte [48, 49, 120] c
inductive VQ (k : Nat) (h : H) (L : S) : Fr → H → Prop
 | mk (f : Fr) (X : O) (i : Nat) (h0 : f.t 0 = .lp k 0) (h3 : f.t 3 = .ls (h.length + 1) 1 0 i i) (hd : f.d = []) (hfk : ∀ j, j < h.length → f.k j = false) (hil : i ≤ L.length) (htw : L.takeWhile Zz = L.take i) : VQ k h L f (h ++ [X, .cells (((L.take i).map sgv).map vi)])
theorem uK (s : ByteArray) (c : Int) : ∀ k : Nat, -1 ≤ Lib.lastIdx s c k ∧ Lib.lastIdx s c k < k
 | 0 => by simp [Lib.lastIdx]
 | k + 1 => by have := uK s c k;unfold Lib.lastIdx;split <;> omega
def Cb (a b : Int) (s : S) : Int × Int := if s.count 10 = 0 then (a, b + s.length) else (a + (s.count 10 : Nat), s.length - Lib.lastIndexByte ⟨s.toArray⟩ 10)
def UY : Plan := .take 0 <| .take 2 <| .take 4 <| .take 6 <| .alt 1 (.alt 3 (.alt 5 (.one 7 <| .one 8 <| .one 9 <| .one 10 <| .fin) (.one 7 (.one 5 <| .one 8 <| .one 9 <| .one 10 <| .fin))) (.alt 5 (.alt 3 (.one 7 <| .one 8 <| .one 9 <| .one 10 <| .fin) (.one 7 (.alt 3 (.one 8 <| .one 9 <| .one 10 <| .fin) (.one 8 (.one 3 <| .one 9 <| .one 10 <| .fin))))) (.one 7 (.alt 3 (.one 5 <| .one 8 <| .one 9 <| .one 10 <| .fin) (.one 5 (.alt 3 (.one 8 <| .one 9 <| .one 10 <| .fin) (.one 8 (.one 3 <| .one 9 <| .one 10 <| .fin)))))))) (.alt 5 (.alt 1 (.alt 3 (.one 7 <| .one 8 <| .one 9 <| .one 10 <| .fin) (.one 7 (.alt 3 (.one 8 <| .one 9 <| .one 10 <| .fin) (.one 8 (.one 3 <| .one 9 <| .one 10 <| .fin))))) (.one 7 (.alt 1 (.alt 3 (.one 8 <| .one 9 <| .one 10 <| .fin) (.one 8 (.one 3 <| .one 9 <| .one 10 <| .fin))) (.one 8 (.one 1 <| .one 3 <| .one 9 <| .one 10 <| .fin))))) (.one 7 (.alt 1 (.alt 3 (.one 5 <| .one 8 <| .one 9 <| .one 10 <| .fin) (.one 5 (.alt 3 (.one 8 <| .one 9 <| .one 10 <| .fin) (.one 8 (.one 3 <| .one 9 <| .one 10 <| .fin))))) (.one 5 (.alt 1 (.alt 3 (.one 8 <| .one 9 <| .one 10 <| .fin) (.one 8 (.one 3 <| .one 9 <| .one 10 <| .fin))) (.one 8 (.one 1 <| .one 3 <| .one 9 <| .one 10 <| .fin)))))))
theorem TA (a b : Int) (s : S) (ha : 0 ≤ a ∧ a ≤ 1000000000) (hb : 0 ≤ b ∧ b ≤ 1000000000) (hs : s.length ≤ 1000000000) : Ev TE 135 [.agg [vi a, vi b], .str s] (.agg [vi (Cb a b s).1, vi (Cb a b s).2]) := by
 have hc : s.count 10 ≤ s.length := List.count_le_length;have hl := uK ⟨s.toArray⟩ 10 s.length;have hl' : Lib.lastIndexByte ⟨s.toArray⟩ 10 = Lib.lastIdx ⟨s.toArray⟩ 10 s.length := rfl;refine ax Tryz.func135 rfl (by simp [nts]) ?_;refine ag (vm ?_);simp only [wq.1, Nat.reduceLT, Tryz.results135];refine ag (vm ?_);simp only [wq.1, seval];refine ah.ev (N7 s 10) rfl ?_;simp only [wq.1, seval];refine ag (vm ?_);simp only [wq.1, ↓reduceIte, Nat.reduceLT];refine vcB.mk (fun h0 => ?_) (fun h0 => ?_)
 ·have h0 : s.count 10 = 0 := by simpa using h0
  have w1 : IntKind.i64.wrap (b + (s.length : Int)) = b + s.length := bu (by omega) (by omega);simp only [wq.1, ↓reduceIte, Nat.reduceEqDiff, Nat.reduceLT, Nat.reduceLeDiff, Nat.reduceAdd, Int.reduceToNat, Int.reduceLE, reduceCtorEq, Nat.reduceMul, w1];unfold Cb;rw [if_pos h0];exact ⟨by decide, by decide, aG.dat rfl⟩
 ·have h0 : s.count 10 ≠ 0 := by simpa using h0
  have w1 : IntKind.i64.wrap (a + ((s.count 10 : Nat) : Int)) = a + (s.count 10 : Nat) := bu (by omega) (by omega);have w2 : IntKind.i64.wrap ((s.length : Int) - Lib.lastIndexByte ⟨s.toArray⟩ 10) = s.length - Lib.lastIndexByte ⟨s.toArray⟩ 10 := bu (by omega) (by omega);simp only [wq.1];refine ag ?_;refine bg mixed UY (fun f' h' => f'.t 4 = .lp 1 0 ∧ f'.d = [] ∧ h' = [.cells [vi a, vi b], .cells [vi (a + (s.count 10 : Nat)), vi (s.length - Lib.lastIndexByte ⟨s.toArray⟩ 10)]]) (by decide +kernel) (by decide +kernel) ?_ ?_
  ·have hten : ((10 : UInt8).toNat : Int) = 10 := rfl;simp only [wq.1, seval, UY]
   repeat' apply And.intro
   all_goals try (first | decide | rfl)
   all_goals (refine ah.ev (Tv s 10 hs) rfl ?_)
   all_goals (simp only [wq.1, seval, w1, w2, hten])
   all_goals trace_state
  ·rintro f h ⟨h4, hd, rfl⟩;simp only [wq.1];refine vm ?_;simp only [wq.1, seval, h4, hd];unfold Cb;rw [if_neg h0];exact aG.dat rfl
theorem mx (a b : Int) : LC [vi a, vi b] = (True, vi (max a b)) := by simp only [LC, Int.max_def];split <;> split <;> first | rfl | (congr 2; omega)
theorem mn (a b : Int) : Lu [vi a, vi b] = (True, vi (min a b)) := by simp only [Lu, Int.min_def];split <;> split <;> first | rfl | (congr 2; omega)
def eQ (s : S) (a : Int) : Int × Int := Cb 1 1 (s.take (min (max a 0) (s.length : Int)).toNat)
def Oa : Plan := .take 0 <| .take 2 <| .alt 1 (.take 4 <| .one 3 <| .take 5 <| .fin) (.one 3 (.one 1 <| .take 4 <| .take 5 <| .fin))
def UZ : Plan := .take 1 <| .take 2 <| .take 4 <| .alt 0 (.alt 3 (.alt 5 (.alt 6 (.take 7 <| .alt 8 (.one 9 <| .one 10 <| .fin) (.one 9 (.one 8 <| .one 10 <| .fin))) (.one 9 (.one 6 <| .take 7 <| .one 8 <| .one 10 <| .fin))) (.one 9 (.one 5 <| .one 6 <| .take 7 <| .one 8 <| .one 10 <| .fin))) (.alt 5 (.alt 3 (.alt 6 (.take 7 <| .alt 8 (.one 9 <| .one 10 <| .fin) (.one 9 (.one 8 <| .one 10 <| .fin))) (.one 9 (.one 6 <| .take 7 <| .one 8 <| .one 10 <| .fin))) (.one 9 (.one 3 <| .one 6 <| .take 7 <| .one 8 <| .one 10 <| .fin))) (.one 9 (.alt 3 (.one 5 <| .one 6 <| .take 7 <| .one 8 <| .one 10 <| .fin) (.one 5 (.one 3 <| .one 6 <| .take 7 <| .one 8 <| .one 10 <| .fin)))))) (.alt 3 (.alt 0 (.alt 5 (.alt 6 (.take 7 <| .alt 8 (.one 9 <| .one 10 <| .fin) (.one 9 (.one 8 <| .one 10 <| .fin))) (.one 9 (.one 6 <| .take 7 <| .one 8 <| .one 10 <| .fin))) (.one 9 (.one 5 <| .one 6 <| .take 7 <| .one 8 <| .one 10 <| .fin))) (.alt 5 (.alt 0 (.alt 6 (.take 7 <| .alt 8 (.one 9 <| .one 10 <| .fin) (.one 9 (.one 8 <| .one 10 <| .fin))) (.one 9 (.one 6 <| .take 7 <| .one 8 <| .one 10 <| .fin))) (.alt 6 (.take 7 <| .alt 0 (.alt 8 (.one 9 <| .one 10 <| .fin) (.one 9 (.one 8 <| .one 10 <| .fin))) (.one 9 (.one 0 <| .one 8 <| .one 10 <| .fin))) (.one 9 (.alt 0 (.one 6 <| .take 7 <| .one 8 <| .one 10 <| .fin) (.one 6 (.take 7 <| .one 0 <| .one 8 <| .one 10 <| .fin)))))) (.one 9 (.alt 0 (.one 5 <| .one 6 <| .take 7 <| .one 8 <| .one 10 <| .fin) (.one 5 (.alt 0 (.one 6 <| .take 7 <| .one 8 <| .one 10 <| .fin) (.one 6 (.take 7 <| .one 0 <| .one 8 <| .one 10 <| .fin)))))))) (.alt 5 (.alt 0 (.alt 3 (.alt 6 (.take 7 <| .alt 8 (.one 9 <| .one 10 <| .fin) (.one 9 (.one 8 <| .one 10 <| .fin))) (.one 9 (.one 6 <| .take 7 <| .one 8 <| .one 10 <| .fin))) (.one 9 (.one 3 <| .one 6 <| .take 7 <| .one 8 <| .one 10 <| .fin))) (.alt 3 (.alt 0 (.alt 6 (.take 7 <| .alt 8 (.one 9 <| .one 10 <| .fin) (.one 9 (.one 8 <| .one 10 <| .fin))) (.one 9 (.one 6 <| .take 7 <| .one 8 <| .one 10 <| .fin))) (.alt 6 (.take 7 <| .alt 0 (.alt 8 (.one 9 <| .one 10 <| .fin) (.one 9 (.one 8 <| .one 10 <| .fin))) (.one 9 (.one 0 <| .one 8 <| .one 10 <| .fin))) (.one 9 (.alt 0 (.one 6 <| .take 7 <| .one 8 <| .one 10 <| .fin) (.one 6 (.take 7 <| .one 0 <| .one 8 <| .one 10 <| .fin)))))) (.one 9 (.alt 0 (.one 3 <| .one 6 <| .take 7 <| .one 8 <| .one 10 <| .fin) (.one 3 (.alt 0 (.one 6 <| .take 7 <| .one 8 <| .one 10 <| .fin) (.one 6 (.take 7 <| .one 0 <| .one 8 <| .one 10 <| .fin)))))))) (.one 9 (.alt 0 (.alt 3 (.one 5 <| .one 6 <| .take 7 <| .one 8 <| .one 10 <| .fin) (.one 5 (.one 3 <| .one 6 <| .take 7 <| .one 8 <| .one 10 <| .fin))) (.alt 3 (.alt 0 (.one 5 <| .one 6 <| .take 7 <| .one 8 <| .one 10 <| .fin) (.one 5 (.alt 0 (.one 6 <| .take 7 <| .one 8 <| .one 10 <| .fin) (.one 6 (.take 7 <| .one 0 <| .one 8 <| .one 10 <| .fin))))) (.one 5 (.alt 0 (.one 3 <| .one 6 <| .take 7 <| .one 8 <| .one 10 <| .fin) (.one 3 (.alt 0 (.one 6 <| .take 7 <| .one 8 <| .one 10 <| .fin) (.one 6 (.take 7 <| .one 0 <| .one 8 <| .one 10 <| .fin)))))))))))
set_option maxHeartbeats 8000000 in
theorem Ob (s : S) (a : Int) (hs : s.length ≤ 1000000000) : Ev TE 92 [.str s, vi a] (.tup [vi (eQ s a).1, vi (eQ s a).2]) := by
 refine ax Tryz.func92 rfl (by simp [nts]) ?_;refine ag (vm ?_);simp only [wq.1, Nat.reduceLT, Tryz.results92];refine ag (vm ?_);refine bg mixed UZ (fun f' h' => f'.t 6 = .lp 0 0 ∧ f'.d = [] ∧ h' = [.cells [vi (eQ s a).1, vi (eQ s a).2]]) (by decide +kernel) (by decide +kernel) ?_ ?_
 ·have hm : 0 ≤ min (max a 0) (s.length : Int) ∧ min (max a 0) (s.length : Int) ≤ s.length := by omega
  have hov := TA 1 1 (s.take (min (max a 0) (s.length : Int)).toNat) (by decide) (by decide) (by rw [List.length_take]; omega);simp only [wq.1, seval, UZ, gl0, MS, mx, mn]
  repeat' apply And.intro
  all_goals try omega
  all_goals (refine ah.ev hov rfl ?_)
  all_goals (simp only [wq.1, ↓reduceIte, Nat.reduceEqDiff, Nat.reduceLT, Nat.reduceAdd])
  all_goals rfl
 ·rintro f h ⟨h6, hd, rfl⟩;refine ag ?_;refine bg mixed Oa (fun f' h' => f'.t 4 = vi (eQ s a).1 ∧ f'.t 5 = vi (eQ s a).2 ∧ f'.d = []) (by decide +kernel) (by decide +kernel) ?_ ?_
  ·simp only [wq.1, ↓reduceIte, Nat.reduceEqDiff, Nat.reduceLT, Nat.reduceLeDiff, Nat.reduceAdd, Int.reduceToNat, Int.reduceLE, Nat.reduceMul, Oa, h6, hd];exact ⟨by decide, by decide⟩
  ·rintro f h ⟨h4, h5, hd⟩;simp only [wq.1];refine vm ?_;simp only [wq.1, h4, h5, hd];exact aG.dat rfl
def bZ (s : S) (a e : Int) : V := if e = 0 then .agg [vi 0, vi 0, vi 0] else .agg [vi e, vi (eQ s a).1, vi (eQ s a).2]
theorem TB (s : S) (a e : Int) (hs : s.length ≤ 1000000000) : Ev TE 45 [.str s, vi a, vi e] (bZ s a e) := by
 unfold bZ;refine ax Tryz.func45 rfl (by simp [nts]) (vm ?_);simp only [wq.1, seval, Tryz.results45];refine vcB.mk (fun hc => ?_) (fun hc => ?_)
 ·have hc : e = 0 := by simpa using hc
  simp only [wq.1, seval];rw [if_pos hc];exact aG.dat rfl
 ·have hc : e ≠ 0 := by simpa using hc
  simp only [wq.1, seval];refine ah.ev (Ob s a hs) rfl ?_;simp only [wq.1, seval];rw [if_neg hc];exact aG.dat rfl
theorem uM : AO P 37 [.i64, .i64, .i64] := by
 refine ⟨by kernel_rfl, fun w xs ys hx hy => ?_⟩
 match xs, hx with
 | [a, b, c], _ =>
 match ys, hy with
 | [a', b', c'], _ =>
 have p0 : ∀ (x y z : Value), (part 31 #[x, y, z] 0).run P w = .ok x w := fun x y z => dw Tryz.underlying31 (by simp);have p1 : ∀ (x y z : Value), (part 3 #[x, y, z] 1).run P w = .ok y w := fun x y z => dw Tryz.underlying3 (by simp);have p2 : ∀ (x y z : Value), (part 3 #[x, y, z] 2).run P w = .ok z w := fun x y z => dw Tryz.underlying3 (by simp);have hso : P.stoodInHeld 37 = false := by kernel_rfl
 show (Op.equalIn 10000 37 (.agg #[.int .i64 a, .int .i64 b, .int .i64 c]) (.agg #[.int .i64 a', .int .i64 b', .int .i64 c'])).run P w = .ok ([a, b, c] == [a', b', c']) w;rw [Op.equalIn];have e31 := kH (P := P) (w := w) Tryz.underlying31 9998;have e3 := kH (P := P) (w := w) Tryz.underlying3 9998;simp only [Sem.run_bind, run_underlying Tryz.underlying37, Result.andThen];by_cases ha : a = a'
 ·subst ha;by_cases hb : b = b'
  ·subst hb;by_cases hc : c = c'
   ·subst hc;simp [hso, p0, p1, p2, e31, e3, Sem.run_bind, Result.andThen]
   ·have hc' : (c == c') = false := by simpa using hc
    simp [hso, p0, p1, p2, e31, e3, Sem.run_bind, Result.andThen, hc', hc]
  ·have hb' : (b == b') = false := by simpa using hb
   simp [hso, p0, p1, p2, e31, e3, Sem.run_bind, Result.andThen, hb', hb]
 ·have ha' : (a == a') = false := by simpa using ha
  simp [hso, p0, p1, p2, e31, e3, Sem.run_bind, Result.andThen, ha', ha]
theorem yV {s : S} {a : Nat} {c : UInt8} (h : yU s a c = true) : a < s.length := by unfold yU at h;simp only [beq_iff_eq] at h;exact (List.getElem?_eq_some_iff.1 h).1
theorem ZA {c : Cl} : (aF c).dat = true := by simp only [V.dat, uC]
structure Ans where
 res : Int
 vals : List Bool
 conf : Int
 ln : List Cl
def Ans.v (a : Ans) : V := .agg [vi a.res, EN a.vals, vi a.conf, cls a.ln]
def Wi.same (w u : Wi) : Bool := (w.bad == u.bad) && ((w.st == u.st) && (w.steps == u.steps))
end Go.Proofs.YtfcpapokknfeeaaGreatDoor
