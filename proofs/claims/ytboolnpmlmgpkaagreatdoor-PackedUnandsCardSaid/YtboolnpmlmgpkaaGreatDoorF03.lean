/- Lemmas for the statement of this claim, part F03: they hold with no conditions but those that each one names. -/
import Derived.Test.YtboolnpmlmgpkaaGreatDoorF02
import Derived.Shelf.Strconv.AtoiAll
import Derived.Shelf.Strconv.Itoa3
import Derived.Shelf.LaysM
import Derived.Shelf.LaysC
import Derived.Test.YtboolnpmlmgpkaaGreatDoorA9
import Derived.Lib.AtoiAll
import Derived.Shelf.Sort.Plain
import Derived.Shelf.Strings.Count
import Derived.Shelf.Strings.LastIndex
import Derived.Shelf.Small.Strs
import Derived.Shelf.Strings.OnBuilder
set_option linter.unusedVariables false
set_option maxRecDepth 20000
set_option linter.unusedSimpArgs false
set_option linter.unnecessarySimpa false
namespace Go.Proofs.YtboolnpmlmgpkaaGreatDoor
open Go Go.Proofs Go.Shelf Go.Lib Go.RowKit Go.Sort
def zp2 : Go.Shelf.Ren := ⟨fun | 171 => 65 | 243 => 136 | 246 => 193 | 283 => 222 | 284 => 223 | 285 => 224 | 286 => 225 | 129 => 245 | 317 => 244 | 318 => 246 | 319 => 247 | 320 => 248 | 337 => 277 | 338 => 278 | n => n, fun | 3 => 3 | 9 => 9 | 2 => 2 | 4 => 4 | 171 => 266 | 0 => 0 | 53 => 267 | 37 => 96 | 5 => 5 | 173 => 270 | 212 => 293 | 51 => 294 | 20 => 20 | 213 => 295 | 46 => 192 | 232 => 341 | 233 => 342 | n => n, fun | 17 => 2 | 18 => 6 | 19 => 7 | n => n⟩
theorem zsk : Go.Proofs.LaysM.n171 Tryz.prog zp2 where
 mixed := by kernel_rfl
 f129 := Tryz.func245.trans (congrArg some (by kernel_rfl))
 f171 := Tryz.func65.trans (congrArg some (by kernel_rfl))
 f243 := Tryz.func136.trans (congrArg some (by kernel_rfl))
 f246 := Tryz.func193.trans (congrArg some (by kernel_rfl))
 f283 := Tryz.func222.trans (congrArg some (by kernel_rfl))
 f284 := Tryz.func223.trans (congrArg some (by kernel_rfl))
 f285 := Tryz.func224.trans (congrArg some (by kernel_rfl))
 f286 := Tryz.func225.trans (congrArg some (by kernel_rfl))
 f317 := Tryz.func244.trans (congrArg some (by kernel_rfl))
 f318 := Tryz.func246.trans (congrArg some (by kernel_rfl))
 f319 := Tryz.func247.trans (congrArg some (by kernel_rfl))
 f320 := Tryz.func248.trans (congrArg some (by kernel_rfl))
 f337 := Tryz.func277.trans (congrArg some (by kernel_rfl))
 f338 := Tryz.func278.trans (congrArg some (by kernel_rfl))
 t0 := Tryz.underlying0
 a0 := Tryz.isAgg0
 z0 := Tryz.sizeOf0
 v0 := Tryz.zeroValue0
 t2 := Tryz.underlying2
 a2 := Tryz.isAgg2
 z2 := Tryz.sizeOf2
 v2 := Tryz.zeroValue2
 t3 := Tryz.underlying3
 a3 := Tryz.isAgg3
 z3 := Tryz.sizeOf3
 v3 := Tryz.zeroValue3
 t4 := Tryz.underlying4
 a4 := Tryz.isAgg4
 z4 := Tryz.sizeOf4
 v4 := Tryz.zeroValue4
 t5 := Tryz.underlying5
 a5 := Tryz.isAgg5
 z5 := Tryz.sizeOf5
 v5 := Tryz.zeroValue5
 t9 := Tryz.underlying9
 a9 := Tryz.isAgg9
 z9 := Tryz.sizeOf9
 v9 := Tryz.zeroValue9
 t20 := Tryz.underlying20
 a20 := Tryz.isAgg20
 z20 := Tryz.sizeOf20
 v20 := Tryz.zeroValue20
 t37 := Tryz.underlying96
 a37 := Tryz.isAgg96
 z37 := Tryz.sizeOf96
 v37 := Tryz.zeroValue96
 t46 := Tryz.underlying192
 a46 := Tryz.isAgg192
 z46 := Tryz.sizeOf192
 v46 := Tryz.zeroValue192
 t51 := Tryz.underlying294
 a51 := Tryz.isAgg294
 z51 := Tryz.sizeOf294
 v51 := Tryz.zeroValue294
 t53 := Tryz.underlying267
 a53 := Tryz.isAgg267
 z53 := Tryz.sizeOf267
 v53 := Tryz.zeroValue267
 t171 := Tryz.underlying266
 a171 := Tryz.isAgg266
 z171 := Tryz.sizeOf266
 v171 := Tryz.zeroValue266
 t173 := Tryz.underlying270
 a173 := Tryz.isAgg270
 z173 := Tryz.sizeOf270
 v173 := Tryz.zeroValue270
 t212 := Tryz.underlying293
 a212 := Tryz.isAgg293
 z212 := Tryz.sizeOf293
 v212 := Tryz.zeroValue293
 t213 := Tryz.underlying295
 a213 := Tryz.isAgg295
 z213 := Tryz.sizeOf295
 t232 := Tryz.underlying341
 a232 := Tryz.isAgg341
 z232 := Tryz.sizeOf341
 v232 := Tryz.zeroValue341
 t233 := Tryz.underlying342
 a233 := Tryz.isAgg342
 z233 := Tryz.sizeOf342
 v233 := Tryz.zeroValue342
 g17 := by kernel_rfl
 g18 := by kernel_rfl
 g19 := by kernel_rfl
 i0 := by kernel_rfl
 i2 := by kernel_rfl
 i3 := by kernel_rfl
 i4 := by kernel_rfl
 i5 := by kernel_rfl
 i9 := by kernel_rfl
 i20 := by kernel_rfl
 i37 := by kernel_rfl
 i46 := by kernel_rfl
 i51 := by kernel_rfl
 i53 := by kernel_rfl
 i171 := by kernel_rfl
 i173 := by kernel_rfl
 i212 := by kernel_rfl
 i232 := by kernel_rfl
 i233 := by kernel_rfl
 m17 := by kernel_rfl
 m18 := by kernel_rfl
 m19 := by kernel_rfl
def zp3 : Go.Shelf.Ren := ⟨fun | 172 => 217 | 244 => 238 | 245 => 239 | 247 => 268 | 279 => 269 | 280 => 270 | 281 => 271 | 282 => 272 | 287 => 286 | 316 => 287 | 171 => 65 | 205 => 288 | 321 => 291 | 322 => 292 | 243 => 136 | 246 => 193 | 283 => 222 | 284 => 223 | 285 => 224 | 286 => 225 | 129 => 245 | 317 => 244 | 318 => 246 | 319 => 247 | 320 => 248 | 337 => 277 | 338 => 278 | n => n, fun | 9 => 9 | 3 => 3 | 75 => 102 | 76 => 103 | 4 => 4 | 5 => 5 | 167 => 320 | 37 => 96 | 0 => 0 | 85 => 321 | 2 => 2 | 168 => 323 | 53 => 267 | 175 => 335 | 46 => 192 | 210 => 339 | 127 => 194 | 145 => 348 | 143 => 346 | 21 => 21 | 171 => 266 | 173 => 270 | 212 => 293 | 51 => 294 | 20 => 20 | 213 => 295 | 232 => 341 | 233 => 342 | 80 => 107 | n => n, fun | 15 => 4 | 16 => 5 | 17 => 2 | 18 => 6 | 19 => 7 | n => n⟩
theorem zrs : Go.Proofs.LaysC.n172 Tryz.prog zp3 where
 mixed := by kernel_rfl
 f129 := Tryz.func245.trans (congrArg some (by kernel_rfl))
 f171 := Tryz.func65.trans (congrArg some (by kernel_rfl))
 f172 := Tryz.func217.trans (congrArg some (by kernel_rfl))
 f205 := Tryz.func288.trans (congrArg some (by kernel_rfl))
 f243 := Tryz.func136.trans (congrArg some (by kernel_rfl))
 f244 := Tryz.func238.trans (congrArg some (by kernel_rfl))
 f245 := Tryz.func239.trans (congrArg some (by kernel_rfl))
 f246 := Tryz.func193.trans (congrArg some (by kernel_rfl))
 f247 := Tryz.func268.trans (congrArg some (by kernel_rfl))
 f279 := Tryz.func269.trans (congrArg some (by kernel_rfl))
 f280 := Tryz.func270.trans (congrArg some (by kernel_rfl))
 f281 := Tryz.func271.trans (congrArg some (by kernel_rfl))
 f282 := Tryz.func272.trans (congrArg some (by kernel_rfl))
 f283 := Tryz.func222.trans (congrArg some (by kernel_rfl))
 f284 := Tryz.func223.trans (congrArg some (by kernel_rfl))
 f285 := Tryz.func224.trans (congrArg some (by kernel_rfl))
 f286 := Tryz.func225.trans (congrArg some (by kernel_rfl))
 f287 := Tryz.func286.trans (congrArg some (by kernel_rfl))
 f316 := Tryz.func287.trans (congrArg some (by kernel_rfl))
 f317 := Tryz.func244.trans (congrArg some (by kernel_rfl))
 f318 := Tryz.func246.trans (congrArg some (by kernel_rfl))
 f319 := Tryz.func247.trans (congrArg some (by kernel_rfl))
 f320 := Tryz.func248.trans (congrArg some (by kernel_rfl))
 f321 := Tryz.func291.trans (congrArg some (by kernel_rfl))
 f322 := Tryz.func292.trans (congrArg some (by kernel_rfl))
 f337 := Tryz.func277.trans (congrArg some (by kernel_rfl))
 f338 := Tryz.func278.trans (congrArg some (by kernel_rfl))
 t0 := Tryz.underlying0
 a0 := Tryz.isAgg0
 z0 := Tryz.sizeOf0
 v0 := Tryz.zeroValue0
 t2 := Tryz.underlying2
 a2 := Tryz.isAgg2
 z2 := Tryz.sizeOf2
 v2 := Tryz.zeroValue2
 t3 := Tryz.underlying3
 a3 := Tryz.isAgg3
 z3 := Tryz.sizeOf3
 v3 := Tryz.zeroValue3
 t4 := Tryz.underlying4
 a4 := Tryz.isAgg4
 z4 := Tryz.sizeOf4
 v4 := Tryz.zeroValue4
 t5 := Tryz.underlying5
 a5 := Tryz.isAgg5
 z5 := Tryz.sizeOf5
 v5 := Tryz.zeroValue5
 t9 := Tryz.underlying9
 a9 := Tryz.isAgg9
 z9 := Tryz.sizeOf9
 v9 := Tryz.zeroValue9
 t20 := Tryz.underlying20
 a20 := Tryz.isAgg20
 z20 := Tryz.sizeOf20
 v20 := Tryz.zeroValue20
 t21 := Tryz.underlying21
 a21 := Tryz.isAgg21
 z21 := Tryz.sizeOf21
 v21 := Tryz.zeroValue21
 t37 := Tryz.underlying96
 a37 := Tryz.isAgg96
 z37 := Tryz.sizeOf96
 v37 := Tryz.zeroValue96
 t46 := Tryz.underlying192
 a46 := Tryz.isAgg192
 z46 := Tryz.sizeOf192
 v46 := Tryz.zeroValue192
 t51 := Tryz.underlying294
 a51 := Tryz.isAgg294
 z51 := Tryz.sizeOf294
 v51 := Tryz.zeroValue294
 t53 := Tryz.underlying267
 a53 := Tryz.isAgg267
 z53 := Tryz.sizeOf267
 v53 := Tryz.zeroValue267
 t75 := Tryz.underlying102
 a75 := Tryz.isAgg102
 z75 := Tryz.sizeOf102
 v75 := Tryz.zeroValue102
 t76 := Tryz.underlying103
 a76 := Tryz.isAgg103
 z76 := Tryz.sizeOf103
 v76 := Tryz.zeroValue103
 t85 := Tryz.underlying321
 a85 := Tryz.isAgg321
 z85 := Tryz.sizeOf321
 v85 := Tryz.zeroValue321
 t127 := Tryz.underlying194
 a127 := Tryz.isAgg194
 z127 := Tryz.sizeOf194
 v127 := Tryz.zeroValue194
 t143 := Tryz.underlying346
 a143 := Tryz.isAgg346
 z143 := Tryz.sizeOf346
 v143 := Tryz.zeroValue346
 t145 := Tryz.underlying348
 a145 := Tryz.isAgg348
 z145 := Tryz.sizeOf348
 v145 := Tryz.zeroValue348
 t167 := Tryz.underlying320
 a167 := Tryz.isAgg320
 z167 := Tryz.sizeOf320
 v167 := Tryz.zeroValue320
 t168 := Tryz.underlying323
 a168 := Tryz.isAgg323
 z168 := Tryz.sizeOf323
 v168 := Tryz.zeroValue323
 t171 := Tryz.underlying266
 a171 := Tryz.isAgg266
 z171 := Tryz.sizeOf266
 v171 := Tryz.zeroValue266
 t173 := Tryz.underlying270
 a173 := Tryz.isAgg270
 z173 := Tryz.sizeOf270
 v173 := Tryz.zeroValue270
 t175 := Tryz.underlying335
 a175 := Tryz.isAgg335
 z175 := Tryz.sizeOf335
 v175 := Tryz.zeroValue335
 t210 := Tryz.underlying339
 a210 := Tryz.isAgg339
 z210 := Tryz.sizeOf339
 v210 := Tryz.zeroValue339
 t212 := Tryz.underlying293
 a212 := Tryz.isAgg293
 z212 := Tryz.sizeOf293
 v212 := Tryz.zeroValue293
 t213 := Tryz.underlying295
 a213 := Tryz.isAgg295
 z213 := Tryz.sizeOf295
 t232 := Tryz.underlying341
 a232 := Tryz.isAgg341
 z232 := Tryz.sizeOf341
 v232 := Tryz.zeroValue341
 t233 := Tryz.underlying342
 a233 := Tryz.isAgg342
 z233 := Tryz.sizeOf342
 v233 := Tryz.zeroValue342
 g15 := by kernel_rfl
 g16 := by kernel_rfl
 g17 := by kernel_rfl
 g18 := by kernel_rfl
 g19 := by kernel_rfl
 t80 := Tryz.underlying107
 a80 := Tryz.isAgg107
 z80 := Tryz.sizeOf107
 v80 := Tryz.zeroValue107
 i0 := by kernel_rfl
 i2 := by kernel_rfl
 i3 := by kernel_rfl
 i4 := by kernel_rfl
 i5 := by kernel_rfl
 i9 := by kernel_rfl
 i20 := by kernel_rfl
 i21 := by kernel_rfl
 i37 := by kernel_rfl
 i46 := by kernel_rfl
 i51 := by kernel_rfl
 i53 := by kernel_rfl
 i75 := by kernel_rfl
 i76 := by kernel_rfl
 i80 := by kernel_rfl
 i85 := by kernel_rfl
 i127 := by kernel_rfl
 i143 := by kernel_rfl
 i145 := by kernel_rfl
 i167 := by kernel_rfl
 i168 := by kernel_rfl
 i171 := by kernel_rfl
 i173 := by kernel_rfl
 i175 := by kernel_rfl
 i210 := by kernel_rfl
 i212 := by kernel_rfl
 i232 := by kernel_rfl
 i233 := by kernel_rfl
 m15 := by kernel_rfl
 m16 := by kernel_rfl
 m17 := by kernel_rfl
 m18 := by kernel_rfl
 m19 := by kernel_rfl
 c0 := by kernel_rfl
 c2 := by kernel_rfl
 c3 := by kernel_rfl
 c4 := by kernel_rfl
 c5 := by kernel_rfl
 c9 := by kernel_rfl
 c20 := by kernel_rfl
 c21 := by kernel_rfl
 c37 := by kernel_rfl
 c46 := by kernel_rfl
 c51 := by kernel_rfl
 c53 := by kernel_rfl
 c75 := by kernel_rfl
 c76 := by kernel_rfl
 c80 := by kernel_rfl
 c85 := by kernel_rfl
 c127 := by kernel_rfl
 c143 := by kernel_rfl
 c145 := by kernel_rfl
 c167 := by kernel_rfl
 c168 := by kernel_rfl
 c171 := by kernel_rfl
 c173 := by kernel_rfl
 c175 := by kernel_rfl
 c210 := by kernel_rfl
 c212 := by kernel_rfl
 c213 := by kernel_rfl
 c232 := by kernel_rfl
 c233 := by kernel_rfl
theorem zp4 (n : Int) (h0 : -9223372036854775808 ≤ n) (h1 : n ≤ 9223372036854775807) (w : World) (htab : Lib.TabIs Tryz.prog w "internal/strconv.uint64pow10" .u64 Lib.pow10Tab) :
 Calls Tryz.prog 65 #[.int .i64 n] w fun e w' => e = .returned (.string ⟨(Lib.itoa n).toArray⟩) ∧ ∃ k os, w' = grow (w.drewN k) os := Any.strconv_Itoa zsk n h0 h1 w htab
theorem zp5 (s : ByteArray) (hmax : s.size ≤ 9223372036854775806) (v : Int) (h : Lib.atoiAll s.data.toList = .ok v) (w : World) :
 Calls Tryz.prog 217 #[.string s] w fun e w' => e = .returned (.tuple #[.int .i64 v, .nilIface]) ∧ (w' = w ∨ ∃ t, w' = Lib.bytesWorld w 5 t) := Any.strconv_Atoi_ok zrs s hmax v h w
theorem zk1 (s : ByteArray) (hlim : s.size ≤ 281474976710656) (h : Lib.atoiAll s.data.toList = .range) (ev : Value) (w : World) (hv : w.cell? ⟨5, 0, none⟩ = some ev) (hev : ev = .nilIface ∨ ∃ te pe, ev = .iface te pe) :
 Calls Tryz.prog 217 #[.string s] w fun e w' => ∃ N, e = .returned (.tuple #[.int .i64 (Lib.atoiSat s.data.toList), .iface 323 (.pointer (some ⟨N, 0, none⟩))]) ∧ w.heap.size ≤ N ∧ w'.heap[N]? = some (.cells #[.string ⟨#[65, 116, 111, 105]⟩, .string s, ev] 339 (0, 0)) ∧ RowKit.Below w.heap.size w w' := Any.strconv_Atoi_range zrs s hlim h ev w hv hev
open Go.Abs
def zjN (k : Int) : V := .iface 233 (.ip (.iface 31 (.int .i64 k)))
theorem zp6 (t : V) (h : H) (R : AEnd → H → (Nat → Bool) → Prop) (hr : R (.ret (.bool false)) h (fun _ => false)) : zb TE 216 [.nili, t] h R := by
 intro ok pl w vs hs hl
 simp only [VList, VRel] at hl
 obtain ⟨y, ys, rfl, rfl, y2, ys2, rfl, hv2, rfl⟩ := hl
 refine Calls.mono (zrq y2 w) ?_
 rintro en w' ⟨rfl, rfl⟩
 exact ⟨_, pl, h, .ret (.bool false), hs, Keeps.refl pl w', by simp only [zf1, VRel], hr⟩
theorem zi7 (t : Addr) (k : Int) (w : World) : WExt w (zi6 t k w) :=
 (((WExt.alloc w _).trans (WExt.alloc _ _)).trans (WExt.alloc _ _)).trans (WExt.alloc _ _)
theorem zp7 (k : Int) (j : Nat) (old : V) (h : H) (hh : h[j]? = some (.cells [old])) (R : AEnd → H → (Nat → Bool) → Prop)
 (hr : R (.ret (.bool true)) (h.set j (.cells [.int .i64 k])) (fun _ => false)) : zb TE 216 [zjN k, .iface 263 (.lp j 0)] h R := by
 intro ok pl w vs hs hl
 simp only [zjN, VList, VRel] at hl
 obtain ⟨y, ys, rfl, ⟨ev1, rfl, p, po, ev2, rfl, hrd, hpos, ev3, rfl, rfl⟩, y2, ys2, rfl, ⟨ev4, rfl, b, hb, rfl⟩, rfl⟩ := hl
 have hp : w.cell? ⟨p, po, none⟩ = some (.iface 31 (.int .i64 k)) := by
  have h1 : w.cell? ⟨p, po + 0, none⟩ = (Value.iface 31 (.int .i64 k)).cells[0]? := (hrd 0 hpos).2
  simpa [Value.cells] using h1
 obtain ⟨_, cs, ty, fz, hg0, hg1⟩ := hs.exa 1 _ rfl
 have hg : w.cell? ⟨1, 0, none⟩ = some (.iface 307 (.agg #[.pointer (some ⟨8, 102, none⟩)])) := by
  have hg0 : w.heap[1]? = some (.cells cs ty fz) := hg0
  simp only [World.cell?, hg0]
  have hg1 : cs = _ := hg1
  subst hg1
  rfl
 obtain ⟨o, ho, hat⟩ := hs.obj j b hb
 rw [hh] at ho; cases ho
 obtain ⟨arr, el, fz2, a1, a2, a3, a4⟩ := hat
 have a1 : w.heap[b]? = some (.cells arr el fz2) := a1
 have a3 : 1 ≤ arr.size := a3
 have ht : w.cell? ⟨b, 0, none⟩ = some arr[0] := by
  simp only [World.cell?, a1]
  simp [show 0 < arr.size by omega]
 have hf : w.frozen? ⟨b, 0, none⟩ = false := by
  simp only [World.frozen?, a1]
  have := a2 0 (by omega)
  simpa using this
 refine Calls.mono (zrr p po ⟨b, 0, none⟩ k arr[0] w hp hg ht hf) ?_
 rintro en w' ⟨rfl, rfl⟩
 have x := zi7 ⟨b, 0, none⟩ k w
 have hs1 := hs.wext x
 obtain ⟨w2, hrun, hs2, k2⟩ := zdc (xs := [.int .i64 k]) hs1 hb (off := 0) (vs := [.int .i64 k]) (by simp [VList, VRel]) rfl hh (by simp)
 obtain ⟨o3, ho3, hat3⟩ := hs1.obj j b hb
 rw [hh] at ho3; cases ho3
 obtain ⟨arr3, el3, fz3, c1, c2, c3, c4⟩ := hat3
 have hrun2 := zaf (P := TE.P) (w := zi6 ⟨b, 0, none⟩ k w) (o := 0) (vs := [.int .i64 k]) c1 c2 (by simpa using c3) (by intro v hv; simp at hv; subst hv; rfl)
 rw [hrun2] at hrun
 cases hrun
 exact ⟨_, pl, _, .ret (.bool true), hs2, (x.keeps hs).trans k2, by simp only [zf1, VRel], hr⟩
theorem zf9 (n e a : Int) : Ev TE 185 [vi n, vi e, vi a, .nili] (.tup [vi n, vi e, vi 0]) := by
 refine zh Tryz.func185 rfl (by simp [nts]) (vm ?_)
 simp only [wq.down, seval, Tryz.results185]
 refine ⟨nofun, zp6 _ _ _ ?_⟩
 simp only [wq.down, seval]
 exact zo.dat rfl
theorem zbz (n e a k : Int) : Ev TE 185 [vi n, vi e, vi a, zjN k] (.tup [vi 0, vi a, vi k]) := by
 refine zh Tryz.func185 rfl (by simp [nts]) (vm ?_)
 simp only [wq.down, seval, Tryz.results185, zjN]
 refine ⟨nofun, zp7 k 0 _ _ rfl _ ?_⟩
 simp only [wq.down, seval]
 exact ⟨by decide +kernel, zo.dat rfl⟩
def zcU (n : Int) : Bool := decide (0 ≤ n) && decide (n ≤ 2147483647)
theorem zmz (n : Int) : Ev TE 155 [vi n] (.bool (zcU n)) := by
 refine zh Tryz.func155 rfl (by simp [nts]) (vm ?_)
 simp only [wq.down, seval, Tryz.results155]
 exact zB rfl rfl
def zP (c : UInt8) : Bool := decide (48 ≤ c.toNat) && decide (c.toNat ≤ 57)
theorem zoh (c : UInt8) : Ev TE 215 [.int .u8 c.toNat] (.bool (zP c)) := by
 refine zh Tryz.func215 rfl (by simp [nts]) (vm ?_)
 simp only [wq.down, seval, Tryz.results215]
 refine zB rfl (congrArg V.bool ?_)
 have := c.toNat_lt
 unfold zP
 rw [IntKind.wrap_u8, Bool.eq_iff_iff]
 simp only [decide_eq_true_eq, Bool.and_eq_true]
 omega
theorem zoi (w : World) (k : Nat) (os : Array Obj) : WExt w (Sort.grow (w.drewN k) os) := by
 refine ⟨rfl, rfl, rfl, ?_, fun b hb => ?_⟩
 ·show w.heap.size ≤ (w.heap ++ os).size
  simp
 ·show (w.heap ++ os)[b]? = w.heap[b]?
  rw [Array.getElem?_append_left hb]
theorem zrt {w : World} {name : String} {g : Nat} {cs : Array Value} {ty : TypeId} {fz : Nat × Nat} (hn : Tryz.prog.globalNamed name = some g) (hg : w.heap[g]? = some (.cells cs ty fz)) : w.var? Tryz.prog name = some cs := by
 unfold World.var?
 rw [hn]
 simp [hg]
theorem zfj : ∀ (k u : Nat), u < 10 ^ (k + 1) → Lib.nDigits u ≤ k + 1
 | 0, u, h => by rw [Lib.nDigits_small (by simpa using h)]; exact Nat.le_refl _
 | k + 1, u, h => by
  by_cases hu : u < 10
  ·rw [Lib.nDigits_small hu]; omega
  ·rw [Lib.nDigits_big hu]
   have := zfj k (u / 10) (by rw [Nat.pow_succ] at h; omega)
   omega
theorem zdB (n : Int) (h0 : 0 ≤ n) (h1 : n ≤ 2147483647) : (Lib.itoa n).length ≤ 10 := by
 obtain ⟨m, rfl⟩ : ∃ m : Nat, n = m := ⟨n.toNat, by omega⟩
 unfold Lib.itoa
 rw [if_neg (by omega), Int.toNat_natCast, Lib.decDigits_length]
 exact zfj 9 m (by omega)
theorem zgX (n : Int) (h0 : 0 ≤ n) (h1 : n ≤ 2147483647) : Ev TE 65 [vi n] (.str (Lib.itoa n)) := by
 intro ok w vs hs hl
 simp only [VList, VRel] at hl
 obtain ⟨y, ys, rfl, rfl, rfl⟩ := hl
 obtain ⟨_, cs, ty, fz, hg0, hg1⟩ := hs.exa 2 _ rfl
 have hg1 : cs = _ := hg1
 subst hg1
 refine Calls.mono (zp4 n (by omega) (by omega) w (zrt (by kernel_rfl) hg0)) ?_
 rintro en w' ⟨rfl, k, os, rfl⟩
 refine ⟨_, rfl, zoi w k os, ?_⟩
 simp only [VRel]
 exact ⟨_, rfl, by simp, by have := zdB n h0 h1; simp only [maxLen]; omega⟩
def zp8 (n : Int) : List UInt8 × Int := if zcU n = true then (Lib.itoa n, 0) else ([], 3)
theorem zpa (n : Int) : Ev TE 114 [vi n] (.tup [.str (zp8 n).1, vi (zp8 n).2]) := by
 refine zh Tryz.func114 rfl (by simp [nts]) (vm ?_)
 simp only [wq.down, seval, Tryz.results114]
 refine zb.ev (zmz n) rfl ?_
 unfold zp8
 cases hf : zcU n with
 | false =>
  simp only [wq.down, seval]
  exact zo.dat rfl
 | true =>
  have hf : 0 ≤ n ∧ n ≤ 2147483647 := by simpa [zcU] using hf
  simp only [wq.down, seval]
  refine zb.ev (zgX n hf.1 hf.2) rfl ?_
  simp only [wq.down, seval]
  exact zo.dat rfl
abbrev By := List UInt8
def zcl (a : Nat) (ds : By) : Nat := ds.foldl (fun a c => 10 * a + (c.toNat - 48)) a
theorem zoj (a : Nat) (x y : By) : zcl a (x ++ y) = zcl (zcl a x) y := by unfold zcl; rw [List.foldl_append]
theorem zp9 (ds : By) : ∀ a, a ≤ zcl a ds := by
 induction ds with
 | nil => intro a; exact Nat.le_refl _
 | cons c ds ih =>
  intro a
  have := ih (10 * a + (c.toNat - 48))
  show a ≤ zcl (10 * a + (c.toNat - 48)) ds
  omega
theorem zmA {c : UInt8} (h : zP c = true) : 48 ≤ c.toNat ∧ c.toNat ≤ 57 := by
 simpa [zP] using h
theorem zh4 (ds : By) : ∀ (a : Nat), (∀ c ∈ ds, zP c = true) → a < 18446744073709551616 → Lib.parseUint10 a ds = if zcl a ds < 18446744073709551616 then .ok (zcl a ds) else .range := by
 induction ds with
 | nil =>
  intro a _ h
  show Lib.NumEnd.ok a = if a < _ then _ else _
  rw [if_pos h]
  rfl
 | cons c ds ih =>
  intro a hd h
  obtain ⟨h1, h2⟩ := zmA (hd c List.mem_cons_self)
  have hv : zcl a (c :: ds) = zcl (10 * a + (c.toNat - 48)) ds := rfl
  have hge := zp9 ds (10 * a + (c.toNat - 48))
  unfold Lib.parseUint10
  rw [if_pos ⟨h1, h2⟩]
  split
  ·rw [if_neg (by omega)]
  ·split
   ·rw [if_neg (by omega)]
   ·rw [ih _ (fun c hc => hd c (List.mem_cons_of_mem _ hc)) (by omega), hv, Nat.mul_comm a 10]
theorem zi8 {ds : By} (hd : ∀ c ∈ ds, zP c = true) (hne : ds ≠ []) : Lib.atoiAll ds = if (zcl 0) ds < 9223372036854775808 then .ok ((zcl 0) ds : Int) else .range := by
 cases ds with
 | nil => exact absurd rfl hne
 | cons c r =>
  obtain ⟨h1, h2⟩ := zmA (hd c List.mem_cons_self)
  unfold Lib.atoiAll
  have e1 : ¬ (c.toNat = 43 ∨ c.toNat = 45) := by omega
  have e2 : ¬ c.toNat = 45 := by omega
  simp only [if_neg e1]
  unfold Lib.parseMag
  rw [if_neg hne, zh4 _ 0 hd (by omega)]
  by_cases h3 : zcl 0 (c :: r) < 18446744073709551616
  ·rw [if_pos h3]
   simp only [e2, not_false_eq_true, true_and, false_and, if_false]
   by_cases h4 : zcl 0 (c :: r) < 9223372036854775808
   ·rw [if_neg (by omega), if_pos h4]
   ·rw [if_pos (by omega), if_neg h4]
  ·rw [if_neg h3, if_neg (by omega)]
theorem zi9 {u : Nat} (h : ¬ u < 10) : Lib.decDigits u = Lib.decDigits (u / 10) ++ [UInt8.ofNat (48 + u % 10)] := by rw [Lib.decDigits, dif_neg h]
theorem zpb (u : Nat) : Lib.decDigits u ≠ [] := by
 by_cases h : u < 10
 ·rw [Lib.decDigits_one h]; simp
 ·rw [zi9 h]; simp
theorem zdi {d : Nat} (h : d < 10) : (UInt8.ofNat (48 + d)).toNat = 48 + d := by
 rw [UInt8.toNat_ofNat']
 omega
theorem zjO {d : Nat} (h : d < 10) : zP (UInt8.ofNat (48 + d)) = true := by
 unfold zP
 rw [zdi h]
 simp
 omega
theorem zqa (u : Nat) : ∀ c ∈ Lib.decDigits u, zP c = true := by
 induction u using Nat.strongRecOn with
 | _ u ih =>
  by_cases h : u < 10
  ·rw [Lib.decDigits_one h]
   intro c hc
   have : c = UInt8.ofNat (48 + u) := by simpa using hc
   rw [this]; exact zjO h
  ·rw [zi9 h]
   intro c hc
   rcases List.mem_append.1 hc with hc | hc
   ·exact ih (u / 10) (by omega) c hc
   ·have : c = UInt8.ofNat (48 + u % 10) := by simpa using hc
    rw [this]; exact zjO (by omega)
theorem zmB (u : Nat) : (zcl 0) (Lib.decDigits u) = u := by
 induction u using Nat.strongRecOn with
 | _ u ih =>
  by_cases h : u < 10
  ·rw [Lib.decDigits_one h]
   show 10 * 0 + ((UInt8.ofNat (48 + u)).toNat - 48) = u
   rw [zdi h]; omega
  ·rw [zi9 h]
   show zcl 0 _ = u
   rw [zoj, ih (u / 10) (by omega)]
   show 10 * (u / 10) + ((UInt8.ofNat (48 + u % 10)).toNat - 48) = u
   rw [zdi (by omega)]; omega
def zpc (ds : By) : Prop := (zcl 0) ds ≤ 2147483647 ∧ Lib.decDigits ((zcl 0) ds) = ds
instance (ds : By) : Decidable (zpc ds) := by unfold zpc; infer_instance
theorem zgY (n : Nat) : Lib.itoa n = Lib.decDigits n := by
 unfold Lib.itoa
 rw [if_neg (by omega), Int.toNat_natCast]
theorem zfk {w w' : World} (x : Below w.heap.size w w') : WExt w w' := ⟨x.os, x.tape, x.output, x.size, x.block⟩
theorem zqb (ds : By) (hd : ∀ c ∈ ds, zP c = true) (hne : ds ≠ []) (hl : ds.length ≤ 100000) :
 EvR TE 217 [.str ds] fun v => (v = .tup [vi (zcl 0 ds : Nat), .nili] ∧ zcl 0 ds < 9223372036854775808) ∨ (∃ n, v = .tup [vi n, .iface 323 .any] ∧ ¬ zcl 0 ds < 9223372036854775808) := by
 intro ok w vs hs hl2
 simp only [VList, VRel] at hl2
 obtain ⟨y, ys, rfl, ⟨s, rfl, hsd, _⟩, rfl⟩ := hl2
 have hsz : s.size = ds.length := by rw [zat, hsd]
 have ha := zi8 hd hne
 rw [← hsd] at ha
 by_cases hv : zcl 0 ds < 9223372036854775808
 ·rw [hsd, if_pos hv, ← hsd] at ha
  rw [hsd] at ha
  refine Calls.mono (zp5 s (by omega) _ (by rw [hsd]; exact ha) w) ?_
  rintro en w' ⟨rfl, hw⟩
  refine ⟨_, _, .inl ⟨rfl, hv⟩, rfl, ?_, ?_⟩
  ·rcases hw with rfl | ⟨t, rfl⟩
   ·exact WExt.refl _
   ·exact zfk (Lib.bytesWorld_below _ _ _)
  ·simp only [VRel, VList]
   exact ⟨_, rfl, _, _, rfl, rfl, _, _, rfl, rfl, rfl⟩
 ·rw [hsd, if_neg hv] at ha
  obtain ⟨_, cs, ty, fz, hg0, hg1⟩ := hs.exa 5 _ rfl
  obtain ⟨te, pe, rfl⟩ := hg1
  refine Calls.mono (zk1 s (by omega) (by rw [hsd]; exact ha) (.iface te pe) w (by
   have hg0 : w.heap[5]? = some (.cells #[.iface te pe] ty fz) := hg0
   simp [World.cell?, hg0]) (.inr ⟨te, pe, rfl⟩)) ?_
  rintro en w' ⟨N, rfl, _, _, hb⟩
  refine ⟨_, _, .inr ⟨Lib.atoiSat s.data.toList, rfl, hv⟩, rfl, zfk hb, ?_⟩
  simp only [VRel, VList]
  exact ⟨_, rfl, _, _, rfl, rfl, _, _, rfl, ⟨_, rfl, trivial⟩, rfl⟩
def zmC (ds : By) : Int × V := if zpc ds then ((zcl 0 ds : Nat), .nili) else (0, zjN 3)
theorem zaI (k : Int) : zo TE [.cells [.iface 31 (.int .i64 k)]] (.iface 233 (.lp 0 0)) (zjN k) :=
 zo.iface (zo.lp rfl (zl.dat rfl) rfl rfl Nat.zero_lt_one rfl)
theorem zru (ds : By) (hd : ∀ c ∈ ds, zP c = true) (hne : ds ≠ []) (hl : ds.length ≤ 100000) : Ev TE 186 [.str ds] (.tup [vi (zmC ds).1, (zmC ds).2]) := by
 refine zh Tryz.func186 rfl (by simp [nts]) (vm ?_)
 simp only [wq.down, seval, Tryz.results186]
 refine zkO (zqb ds hd hne hl) rfl ?_
 rintro r (⟨rfl, hv⟩ | ⟨n, rfl, hv⟩)
 ·simp only [wq.down, seval]
  refine zb.ev (zpa _) rfl ?_
  by_cases hm : zcl 0 ds ≤ 2147483647
  ·have hp : zp8 (zcl 0 ds : Nat) = (Lib.decDigits (zcl 0 ds), 0) := by
    unfold zp8
    rw [if_pos (by simp [zcU]; omega), zgY]
   rw [hp]
   by_cases hc : Lib.decDigits (zcl 0 ds) = ds
   ·have hg : zmC ds = (((zcl 0 ds : Nat) : Int), V.nili) := by unfold zmC; rw [if_pos ⟨hm, hc⟩]
    have hb : (Lib.decDigits (zcl 0 ds) == ds) = true := by simp [hc]
    rw [hg]
    simp only [wq.down, seval, zg, hb]
    exact zo.dat rfl
   ·have hg : zmC ds = (0, zjN 3) := by unfold zmC; rw [if_neg (fun h => hc h.2)]
    have hb : (Lib.decDigits (zcl 0 ds) == ds) = false := by simp [hc]
    rw [hg]
    simp only [wq.down, seval, zg, hb]
    exact ⟨nofun, nofun, zo.tup (zl.cons (zo.dat rfl) (zl.cons (zaI 3) zl.nil))⟩
  ·have hp : zp8 (zcl 0 ds : Nat) = ([], 3) := by
    unfold zp8
    rw [if_neg (by simp [zcU]; omega)]
   have hg : zmC ds = (0, zjN 3) := by unfold zmC; rw [if_neg (fun h => hm h.1)]
   rw [hp, hg]
   simp only [wq.down, seval, zg]
   exact ⟨nofun, nofun, zo.tup (zl.cons (zo.dat rfl) (zl.cons (zaI 3) zl.nil))⟩
 ·have hg : zmC ds = (0, zjN 3) := by
   unfold zmC
   rw [if_neg]
   rintro ⟨h, _⟩
   omega
  rw [hg]
  simp only [wq.down, seval]
  refine zb.ev (zpa _) rfl ?_
  simp only [wq.down, seval, zg]
  exact ⟨nofun, nofun, zo.tup (zl.cons (zo.dat rfl) (zl.cons (zaI 3) zl.nil))⟩
def endR (s : By) (at_ : Int) : Int := if at_ < 0 ∨ (s.length : Int) < at_ then at_ else at_ + ((s.drop at_.toNat).takeWhile zP).length
theorem zpd {l : By} {i : Nat} (hi : i ≤ l.length) (h1 : (l.take i).all zP = true) (h2 : i < l.length → zP (l.getD i 0) = false) : (l.takeWhile zP).length = i := by
 have h3 : l.takeWhile zP = l.take i ++ (l.drop i).takeWhile zP := by
  conv => lhs; rw [← List.take_append_drop i l]
  exact List.takeWhile_append_of_pos (List.all_eq_true.1 h1)
 have h4 : (l.drop i).takeWhile zP = [] := by
  by_cases hl : i < l.length
  ·rw [List.drop_eq_getElem_cons hl]
   have := h2 hl
   rw [zt hl] at this
   rw [List.takeWhile_cons, this]; rfl
  ·rw [List.drop_eq_nil_of_le (by omega)]; rfl
 rw [h3, h4, List.append_nil, List.length_take]
 omega
theorem zh5 {l : By} {p i : Nat} : (l.drop p).getD i 0 = l.getD (p + i) 0 := by
 rw [List.getD_eq_getElem?_getD, List.getD_eq_getElem?_getD, List.getElem?_drop]
theorem zrv (s : By) (a : Int) (hl : s.length ≤ 100000) : Ev TE 184 [.str s, vi a] (vi (endR s a)) := by
 have hM : maxLen = 9223372036854775807 := rfl
 refine zh Tryz.func184 rfl (by simp [nts]) (vm ?_)
 simp only [wq.down, seval, Tryz.results184]
 refine vcB.mk (fun hc => ?_) (fun hc => ?_)
 ·have h0 : endR s a = a := by
   unfold endR
   rw [if_pos (by simpa using hc)]
  rw [h0]
  simp only [wq.down, seval]
  exact zo.dat rfl
 ·simp only [Bool.or_eq_false_iff, decide_eq_false_iff_not] at hc
  obtain ⟨p, rfl⟩ : ∃ p : Nat, a = p := ⟨a.toNat, by omega⟩
  have hp : p ≤ s.length := by omega
  have h0 : endR s p = p + ((s.drop p).takeWhile zP).length := by
   unfold endR
   rw [if_neg (by omega), Int.toNat_natCast]
  have hsub : IntKind.i64.wrap ((s.length : Int) - p) = ((s.length - p : Nat) : Int) := by rw [zJ (by omega) (by omega)]; omega
  rw [h0]
  simp only [wq.down, seval, hsub]
  have hdl : (s.drop p).length = s.length - p := List.length_drop
  refine zw (fun m f h => ∃ i, m + i = s.length - p ∧ f.t 0 = .str s ∧ f.t 1 = vi p ∧ f.t 18 = vi ((s.length - p : Nat) : Int) ∧ f.t 19 = vi i ∧ f.d = [] ∧ h = [] ∧ ((s.drop p).take i).all zP = true) (s.length - p) ⟨0, by omega, rfl, rfl, rfl, rfl, rfl, rfl, by simp⟩ ?_
  rintro m f h ⟨i, hm, h0, h1, h18, h19, hd, rfl, hall⟩
  have hadd : IntKind.i64.wrap ((p : Int) + i) = ((p + i : Nat) : Int) := by rw [zJ (by omega) (by omega)]; omega
  refine vm ?_
  simp only [wq.down, seval, h18, h19]
  refine vcB.mk (fun hlt => ?_) (fun hlt => ?_)
  ·simp only [decide_eq_true_eq, Int.ofNat_lt] at hlt
   simp only [wq.down, seval, h0, h1, h19, hadd]
   refine ⟨⟨by omega, by omega⟩, zb.ev (zoh (s.getD (p + i) 0)) rfl ?_⟩
   cases hD : zP (s.getD (p + i) 0) with
   | false =>
    have hlen := zpd (l := s.drop p) (i := i) (by omega) hall (fun _ => by rw [zh5]; exact hD)
    simp only [wq.down, seval, h1, hd, hadd]
    exact zB rfl (by rw [hlen]; rfl)
   | true =>
    simp only [wq.down, seval, h19, zm (show i < maxLen by omega)]
    refine .inl ⟨m - 1, by omega, i + 1, by omega, h0, h1, h18, rfl, hd, rfl, ?_⟩
    have hli : i < (s.drop p).length := by omega
    have hD2 : zP ((s.drop p)[i]) = true := by rw [← zt (d := 0) hli, zh5]; exact hD
    rw [List.take_add_one, List.all_append, hall, List.getElem?_eq_getElem hli, Option.toList_some, List.all_cons, hD2]
    rfl
  ·simp only [decide_eq_false_iff_not, Int.ofNat_lt] at hlt
   have hlen := zpd (l := s.drop p) (i := i) (by omega) hall (fun h => by omega)
   simp only [wq.down, seval, h0, hd]
   exact zB rfl (by rw [hlen]; congr 1; omega)
def zfT (s : By) (a : Int) : Int × Int × Int :=
 if a < 0 ∨ (s.length : Int) < a then (0, a, 3)
 else if (s.drop a.toNat).takeWhile zP ≠ [] ∧ zpc ((s.drop a.toNat).takeWhile zP) then ((zcl 0 ((s.drop a.toNat).takeWhile zP) : Nat), a + ((s.drop a.toNat).takeWhile zP).length, 0)
 else (0, a, 3)
theorem zpe (s : By) (a : Int) (hl : s.length ≤ 100000) : Ev TE 120 [.str s, vi a] (.tup [vi (zfT s a).1, vi (zfT s a).2.1, vi (zfT s a).2.2]) := by
 have hM : maxLen = 9223372036854775807 := rfl
 refine zh Tryz.func120 rfl (by simp [nts]) (vm ?_)
 simp only [wq.down, seval, Tryz.results120]
 refine zb.ev (zrv s a hl) rfl ?_
 by_cases hc : a < 0 ∨ (s.length : Int) < a
 ·have h0 : endR s a = a := by unfold endR; rw [if_pos hc]
  have h1 : zfT s a = (0, a, 3) := by unfold zfT; rw [if_pos hc]
  rw [h0, h1]
  simp only [wq.down, seval]
  refine ⟨nofun, nofun, zb.lend (zbz 0 a a 3) (zl.cons (zo.dat rfl) (zl.cons (zo.dat rfl) (zl.cons (zo.dat rfl) (zl.cons (zaI 3) zl.nil)))) rfl ?_⟩
  simp only [wq.down, ↓reduceIte, Nat.reduceEqDiff, Nat.reduceLT, Nat.reduceLeDiff, Nat.reduceAdd, Nat.reduceSub, Int.reduceToNat, Nat.reduceDiv, Int.reduceLT, Int.reduceLE, Int.reduceNeg, Int.reduceBEq, Int.reduceBNe, Int.reduceAdd, Int.reduceSub, Nat.reduceBEq, reduceCtorEq, Nat.reduceMul, zg, Tryz.results120]
  exact zo.dat rfl
 ·obtain ⟨p, rfl⟩ : ∃ p : Nat, a = p := ⟨a.toNat, by omega⟩
  have hp : p ≤ s.length := by omega
  have h0 : endR s p = p + ((s.drop p).takeWhile zP).length := by
   unfold endR
   rw [if_neg hc, Int.toNat_natCast]
  have h1 : zfT s p = if (s.drop p).takeWhile zP ≠ [] ∧ zpc ((s.drop p).takeWhile zP) then (((zcl 0 ((s.drop p).takeWhile zP) : Nat) : Int), (p : Int) + ((s.drop p).takeWhile zP).length, (0 : Int)) else (0, (p : Int), 3) := by
   unfold zfT
   rw [if_neg hc, Int.toNat_natCast]
  have hpre : (s.drop p).take ((s.drop p).takeWhile zP).length = (s.drop p).takeWhile zP := (List.prefix_iff_eq_take.1 (List.takeWhile_prefix zP)).symm
  have hdg : ∀ c ∈ (s.drop p).takeWhile zP, zP c = true := fun c hc => List.all_eq_true.1 List.all_takeWhile c hc
  have hlen : ((s.drop p).takeWhile zP).length ≤ s.length - p := by
   have := (List.takeWhile_prefix (l := s.drop p) zP).length_le
   rwa [List.length_drop] at this
  rw [h0, h1]
  generalize (s.drop p).takeWhile zP = ds at hpre hdg hlen
  by_cases hne : ds = []
  ·subst hne
   rw [if_neg (fun h => h.1 rfl)]
   have hb : ((p : Int) + ((0 : Nat) : Int) == (p : Int)) = true := by simp
   simp only [wq.down, ↓reduceIte, Nat.reduceEqDiff, Nat.reduceLT, Nat.reduceLeDiff, Nat.reduceAdd, Nat.reduceSub, Int.reduceToNat, Nat.reduceDiv, Int.reduceLT, Int.reduceLE, Int.reduceNeg, Int.reduceBEq, Int.reduceBNe, Int.reduceAdd, Int.reduceSub, Nat.reduceBEq, reduceCtorEq, Nat.reduceMul, zg, Tryz.results120, hb]
   refine ⟨nofun, nofun, zb.lend (zbz 0 p p 3) (zl.cons (zo.dat rfl) (zl.cons (zo.dat rfl) (zl.cons (zo.dat rfl) (zl.cons (zaI 3) zl.nil)))) rfl ?_⟩
   simp only [wq.down, ↓reduceIte, Nat.reduceEqDiff, Nat.reduceLT, Nat.reduceAdd]
   exact zo.dat rfl
  ·have hpos : 0 < ds.length := List.length_pos_iff.2 hne
   have hb : ((p : Int) + (ds.length : Nat) == (p : Int)) = false := by
    rw [beq_eq_false_iff_ne]; omega
   have hsl : List.take (((p : Int) + (ds.length : Nat)).toNat - p) (List.drop p s) = ds := by
    rw [show ((p : Int) + (ds.length : Nat)).toNat - p = ds.length by omega, hpre]
   simp only [wq.down, seval, hb, hsl]
   refine ⟨⟨by omega, by omega, by omega⟩, zb.ev (zru ds hdg hne (by omega)) rfl ?_⟩
   unfold zmC
   by_cases hg : zpc ds
   ·rw [if_pos hg, if_pos ⟨hne, hg⟩]
    simp only [wq.down, seval]
    refine zb.ev (zf9 _ _ _) rfl ?_
    simp only [wq.down, seval]
    exact zo.dat rfl
   ·rw [if_neg hg, if_neg (fun h => hg h.2)]
    simp only [wq.down, seval]
    refine ⟨trivial, zb.ev (zbz _ _ _ 3) rfl ?_⟩
    simp only [wq.down, seval]
    exact zo.dat rfl
abbrev rd (s : S) (a : Nat) : O := .cells [.str s, vi a]
def zdj (s : S) (a : Nat) (c : UInt8) : Bool := s[a]? == some c
theorem zrw (x c : UInt8) : ((x.toNat : Int) == (c.toNat : Int)) = (x == c) := by
 rw [Bool.eq_iff_iff]
 simp only [beq_iff_eq, Int.natCast_inj, UInt8.toNat_inj]
def zh6 : Go.Shelf.Ren := ⟨fun | 137 => 187 | 217 => 218 | 266 => 240 | n => n, fun | 9 => 9 | 5 => 5 | 3 => 3 | n => n, fun | n => n⟩
theorem zga : Go.Proofs.Lays.n137 Tryz.prog zh6 where
 mixed := by kernel_rfl
 f137 := Tryz.func187.trans (congrArg some (by kernel_rfl))
 f217 := Tryz.func218.trans (congrArg some (by kernel_rfl))
 f266 := Tryz.func240.trans (congrArg some (by kernel_rfl))
 t3 := Tryz.underlying3
 a3 := Tryz.isAgg3
 z3 := Tryz.sizeOf3
 v3 := Tryz.zeroValue3
 t5 := Tryz.underlying5
 a5 := Tryz.isAgg5
 z5 := Tryz.sizeOf5
 v5 := Tryz.zeroValue5
 t9 := Tryz.underlying9
 a9 := Tryz.isAgg9
 z9 := Tryz.sizeOf9
 v9 := Tryz.zeroValue9
def zok : Go.Shelf.Ren := ⟨fun | 138 => 229 | 195 => 250 | 218 => 251 | 143 => 252 | 219 => 241 | 217 => 218 | 225 => 273 | 224 => 274 | 267 => 275 | 266 => 240 | 314 => 289 | n => n, fun | 9 => 9 | 3 => 3 | 4 => 4 | 5 => 5 | 0 => 0 | 46 => 192 | 146 => 327 | 51 => 294 | n => n, fun | 1 => 3 | n => n⟩
theorem zrx : Go.Proofs.Lays.n138 Tryz.prog zok where
 mixed := by kernel_rfl
 f138 := Tryz.func229.trans (congrArg some (by kernel_rfl))
 f143 := Tryz.func252.trans (congrArg some (by kernel_rfl))
 f195 := Tryz.func250.trans (congrArg some (by kernel_rfl))
 f217 := Tryz.func218.trans (congrArg some (by kernel_rfl))
 f218 := Tryz.func251.trans (congrArg some (by kernel_rfl))
 f219 := Tryz.func241.trans (congrArg some (by kernel_rfl))
 f224 := Tryz.func274.trans (congrArg some (by kernel_rfl))
 f225 := Tryz.func273.trans (congrArg some (by kernel_rfl))
 f266 := Tryz.func240.trans (congrArg some (by kernel_rfl))
 f267 := Tryz.func275.trans (congrArg some (by kernel_rfl))
 f314 := Tryz.func289.trans (congrArg some (by kernel_rfl))
 t0 := Tryz.underlying0
 a0 := Tryz.isAgg0
 z0 := Tryz.sizeOf0
 v0 := Tryz.zeroValue0
 t3 := Tryz.underlying3
 a3 := Tryz.isAgg3
 z3 := Tryz.sizeOf3
 v3 := Tryz.zeroValue3
 t4 := Tryz.underlying4
 a4 := Tryz.isAgg4
 z4 := Tryz.sizeOf4
 v4 := Tryz.zeroValue4
 t5 := Tryz.underlying5
 a5 := Tryz.isAgg5
 z5 := Tryz.sizeOf5
 v5 := Tryz.zeroValue5
 t9 := Tryz.underlying9
 a9 := Tryz.isAgg9
 z9 := Tryz.sizeOf9
 v9 := Tryz.zeroValue9
 t46 := Tryz.underlying192
 a46 := Tryz.isAgg192
 z46 := Tryz.sizeOf192
 v46 := Tryz.zeroValue192
 t51 := Tryz.underlying294
 a51 := Tryz.isAgg294
 z51 := Tryz.sizeOf294
 v51 := Tryz.zeroValue294
 t146 := Tryz.underlying327
 a146 := Tryz.isAgg327
 z146 := Tryz.sizeOf327
 v146 := Tryz.zeroValue327
 g1 := by kernel_rfl
def zh7 : Go.Shelf.Ren := ⟨fun | 148 => 230 | 222 => 253 | 223 => 254 | 269 => 279 | n => n, fun | 9 => 9 | 3 => 3 | 4 => 4 | 5 => 5 | 146 => 327 | 51 => 294 | 46 => 192 | n => n, fun | n => n⟩
theorem zk2 : Go.Proofs.Lays.n148 Tryz.prog zh7 where
 mixed := by kernel_rfl
 f148 := Tryz.func230.trans (congrArg some (by kernel_rfl))
 f222 := Tryz.func253.trans (congrArg some (by kernel_rfl))
 f223 := Tryz.func254.trans (congrArg some (by kernel_rfl))
 f269 := Tryz.func279.trans (congrArg some (by kernel_rfl))
 t3 := Tryz.underlying3
 a3 := Tryz.isAgg3
 z3 := Tryz.sizeOf3
 v3 := Tryz.zeroValue3
 t4 := Tryz.underlying4
 a4 := Tryz.isAgg4
 z4 := Tryz.sizeOf4
 v4 := Tryz.zeroValue4
 t5 := Tryz.underlying5
 a5 := Tryz.isAgg5
 z5 := Tryz.sizeOf5
 v5 := Tryz.zeroValue5
 t9 := Tryz.underlying9
 a9 := Tryz.isAgg9
 z9 := Tryz.sizeOf9
 v9 := Tryz.zeroValue9
 t46 := Tryz.underlying192
 a46 := Tryz.isAgg192
 z46 := Tryz.sizeOf192
 v46 := Tryz.zeroValue192
 t51 := Tryz.underlying294
 a51 := Tryz.isAgg294
 z51 := Tryz.sizeOf294
 v51 := Tryz.zeroValue294
 t146 := Tryz.underlying327
 a146 := Tryz.isAgg327
 z146 := Tryz.sizeOf327
 v146 := Tryz.zeroValue327
def zmD : Go.Shelf.Ren := ⟨fun | 156 => 152 | 165 => 199 | 166 => 58 | 169 => 60 | 240 => 134 | 241 => 227 | 276 => 192 | 277 => 249 | n => n, fun | 31 => 26 | 9 => 9 | 3 => 3 | 4 => 4 | 0 => 0 | 20 => 20 | 72 => 98 | 76 => 103 | 70 => 95 | 37 => 96 | 75 => 102 | 127 => 194 | 164 => 242 | 5 => 5 | 80 => 107 | n => n, fun | n => n⟩
theorem zry : Go.Proofs.Lays.n156 Tryz.prog zmD where
 mixed := by kernel_rfl
 f156 := Tryz.func152.trans (congrArg some (by kernel_rfl))
 f165 := Tryz.func199.trans (congrArg some (by kernel_rfl))
 f166 := Tryz.func58.trans (congrArg some (by kernel_rfl))
 f169 := Tryz.func60.trans (congrArg some (by kernel_rfl))
 f240 := Tryz.func134.trans (congrArg some (by kernel_rfl))
 f241 := Tryz.func227.trans (congrArg some (by kernel_rfl))
 f276 := Tryz.func192.trans (congrArg some (by kernel_rfl))
 f277 := Tryz.func249.trans (congrArg some (by kernel_rfl))
 t0 := Tryz.underlying0
 a0 := Tryz.isAgg0
 z0 := Tryz.sizeOf0
 v0 := Tryz.zeroValue0
 t3 := Tryz.underlying3
 a3 := Tryz.isAgg3
 z3 := Tryz.sizeOf3
 v3 := Tryz.zeroValue3
 t4 := Tryz.underlying4
 a4 := Tryz.isAgg4
 z4 := Tryz.sizeOf4
 v4 := Tryz.zeroValue4
 t9 := Tryz.underlying9
 a9 := Tryz.isAgg9
 z9 := Tryz.sizeOf9
 v9 := Tryz.zeroValue9
 t20 := Tryz.underlying20
 a20 := Tryz.isAgg20
 z20 := Tryz.sizeOf20
 v20 := Tryz.zeroValue20
 t31 := Tryz.underlying26
 a31 := Tryz.isAgg26
 z31 := Tryz.sizeOf26
 v31 := Tryz.zeroValue26
 t37 := Tryz.underlying96
 a37 := Tryz.isAgg96
 z37 := Tryz.sizeOf96
 v37 := Tryz.zeroValue96
 t70 := Tryz.underlying95
 a70 := Tryz.isAgg95
 z70 := Tryz.sizeOf95
 v70 := Tryz.zeroValue95
 t72 := Tryz.underlying98
 a72 := Tryz.isAgg98
 z72 := Tryz.sizeOf98
 v72 := Tryz.zeroValue98
 t75 := Tryz.underlying102
 a75 := Tryz.isAgg102
 z75 := Tryz.sizeOf102
 v75 := Tryz.zeroValue102
 t76 := Tryz.underlying103
 a76 := Tryz.isAgg103
 z76 := Tryz.sizeOf103
 v76 := Tryz.zeroValue103
 t127 := Tryz.underlying194
 a127 := Tryz.isAgg194
 z127 := Tryz.sizeOf194
 v127 := Tryz.zeroValue194
 t164 := Tryz.underlying242
 a164 := Tryz.isAgg242
 z164 := Tryz.sizeOf242
 v164 := Tryz.zeroValue242
theorem zgb {c : C} {l : S} {x : Value} (h : VRel c (.str l) x) : x = .string ⟨l.toArray⟩ := by
 simp only [VRel] at h
 obtain ⟨s, rfl, h, _⟩ := h
 congr 1
 rw [← h]
theorem zrz (s : S) (n : Nat) (hn : n < 256) : Ev TE 187 [.str s, .int .u8 n] (vi (Lib.indexByte s (UInt8.ofNat n))) := by
 intro ok w vs hs hl
 simp only [VList, VRel] at hl
 obtain ⟨y, ys, rfl, ⟨b, rfl, hb, _⟩, y2, ys2, rfl, rfl, rfl⟩ := hl
 refine Calls.mono (Any.strings_IndexByte zga b n w) ?_
 rintro en w' ⟨rfl, rfl⟩
 refine ⟨_, rfl, WExt.refl _, ?_⟩
 simp only [VRel]
 rw [hb]
 rfl
theorem zmE (s : S) (c : UInt8) : Ev TE 229 [.str s, .str [c]] (vi (s.count c : Nat)) := by
 intro ok w vs hs hl
 simp only [VList] at hl
 obtain ⟨y, ys, rfl, h1, y2, ys2, rfl, h2, rfl⟩ := hl
 have := zgb h1; subst this
 have := zgb h2; subst this
 refine Calls.mono (Any.strings_Count_one zrx ⟨s.toArray⟩ c w) ?_
 rintro en w' ⟨rfl, rfl⟩
 exact ⟨_, rfl, WExt.refl _, by simp only [VRel]; rfl⟩
theorem zol (s : S) (c : UInt8) (hs0 : s.length ≤ 1000000000) : Ev TE 230 [.str s, .str [c]] (vi (Lib.lastIndexByte ⟨s.toArray⟩ c.toNat)) := by
 intro ok w vs hs hl
 simp only [VList] at hl
 obtain ⟨y, ys, rfl, h1, y2, ys2, rfl, h2, rfl⟩ := hl
 have := zgb h1; subst this
 have := zgb h2; subst this
 refine Calls.mono (Any.strings_LastIndex_one zk2 ⟨s.toArray⟩ ⟨#[c]⟩ rfl (by show s.toArray.size < _; simp; omega) w) ?_
 rintro en w' ⟨rfl, rfl⟩
 exact ⟨_, rfl, WExt.refl _, by simp only [VRel]; rfl⟩
theorem zjP {c : C} : ∀ {l : List S} {xs : List Value}, VList c (l.map V.str) xs → xs = l.map encStr
 | [], xs, h => by simpa only [List.map_nil, VList] using h
 | a :: l, xs, h => by
  simp only [List.map_cons, VList] at h
  obtain ⟨y, ys, rfl, h1, h2⟩ := h
  rw [zjP h2, zgb h1]; rfl
theorem zja (p s : S) : p.isPrefixOf s = (decide (p.length ≤ s.length) && (s.take p.length == p)) := by
 rw [Bool.eq_iff_iff, List.isPrefixOf_iff_prefix, List.prefix_iff_eq_take, Bool.and_eq_true, decide_eq_true_eq, beq_iff_eq]
 constructor
 ·intro h
  have := congrArg List.length h
  rw [List.length_take] at this
  exact ⟨by omega, h.symm⟩
 ·exact fun h => h.2.symm
theorem zmF (s p : S) : Ev TE 196 [.str s, .str p] (.bool (p.isPrefixOf s)) := by
 rw [zja]
 refine zh Tryz.func196 rfl (by simp [nts]) (vm ?_)
 by_cases hle : p.length ≤ s.length
 ·have e1 : decide ((p.length : Int) ≤ (s.length : Int)) = true := by simpa using hle
  have e2 : decide (p.length ≤ s.length) = true := by simpa using hle
  simp only [wq.down, seval, Tryz.results196, e1, e2]
  exact ⟨⟨by omega, by omega⟩, zo.dat rfl⟩
 ·have e1 : decide ((p.length : Int) ≤ (s.length : Int)) = false := by simpa using hle
  have e2 : decide (p.length ≤ s.length) = false := by simpa using hle
  simp only [wq.down, seval, Tryz.results196, e1, e2]
  exact zo.dat rfl
theorem zmG (s p : S) : Ev TE 140 [.str s, .str p] (.bool (p.isPrefixOf s)) := by
 refine zh Tryz.func140 rfl (by simp [nts]) (vm ?_)
 simp only [wq.down, seval, Tryz.results140]
 refine zb.ev (zmF s p) rfl ?_
 simp only [wq.down, seval]
 exact zo.dat rfl
theorem zqc (s : S) (c : UInt8) : Ev TE 218 [.str s, vb c] (vi (Lib.indexByte s c)) := by
 intro ok w vs hs hl
 simp only [VList, VRel] at hl
 obtain ⟨y, ys, rfl, ⟨b, rfl, hb, _⟩, y2, ys2, rfl, rfl, rfl⟩ := hl
 refine Calls.mono (Any.stringslite_IndexByte { zga with } b c.toNat w) ?_
 rintro en w' ⟨rfl, rfl⟩
 refine ⟨_, rfl, WExt.refl _, ?_⟩
 simp only [VRel]
 rw [hb]
 simp
theorem zfl (c : UInt8) : ∀ s : S, (c ∉ s ∧ Lib.indexByte s c = -1 ∧ s.takeWhile (· != c) = s) ∨ (Lib.indexByte s c = ((s.takeWhile (· != c)).length : Int) ∧ (s.takeWhile (· != c)).length < s.length)
 | [] => .inl ⟨by simp, rfl, rfl⟩
 | b :: s => by
  unfold Lib.indexByte
  by_cases hb : b = c
  ·subst hb
   refine .inr ?_
   simp
  ·have h1 : (b == c) = false := by simpa using hb
   have h2 : (b != c) = true := by simpa using hb
   have h3 : Lib.indexByte s c ≥ -1 := Lib.indexByte_ge s c
   rw [h1, if_neg (by decide), List.takeWhile_cons, if_pos h2]
   rcases zfl c s with ⟨a1, a2, a3⟩ | ⟨a1, a2⟩
   ·refine .inl ⟨by simp [a1, Ne.symm hb], ?_, by rw [a3]⟩
    rw [a2]; rfl
   ·refine .inr ⟨?_, by simpa using a2⟩
    rw [a1, if_neg (by simp)]
    simp
theorem zk3 (s : S) (c : UInt8) (hs : s.length ≤ 1000000000) : Ev TE 241 [.str s, .str [c]] (vi (Lib.indexByte s c)) := by
 have hb := zqc s c
 refine zh Tryz.func241 rfl (by simp [nts]) (vm ?_)
 by_cases he : ([c] == s) = true
 ·have : s = [c] := (eq_of_beq he).symm
  subst this
  have e0 : Lib.indexByte [c] c = 0 := by simp [Lib.indexByte]
  simp only [wq.down, ↓reduceIte, Nat.reduceEqDiff, Nat.reduceLT, Int.reduceNeg, reduceCtorEq, Tryz.results241, e0]
  exact zo.dat rfl
 ·have he : ([c] == s) = false := by simpa using he
  have e1 : (((1 : Nat) : Int) == 0) = false := by decide
  have e2 : (((1 : Nat) : Int) == 1) = true := by decide
  simp only [wq.down, ↓reduceIte, Nat.reduceEqDiff, Nat.reduceLT, Nat.reduceLeDiff, Nat.reduceAdd, Nat.reduceSub, Int.reduceToNat, Nat.reduceDiv, Int.reduceLT, Int.reduceLE, Int.reduceNeg, Int.reduceBEq, Int.reduceBNe, Int.reduceAdd, Int.reduceSub, Nat.reduceBEq, reduceCtorEq, Nat.reduceMul, zg, Tryz.results241, he, e1, e2]
  refine ⟨by decide, zb.ev hb rfl ?_⟩
  simp only [wq.down, ↓reduceIte, Nat.reduceLT, Int.reduceNeg]
  exact zo.dat rfl
def zpf (s : S) (c : UInt8) : V := if Lib.indexByte s c < 0 then .tup [.str s, .str [], .bool false] else .tup [.str (s.takeWhile (· != c)), .str (s.drop ((s.takeWhile (· != c)).length + 1)), .bool true]
theorem zom (s : S) (c : UInt8) (hs : s.length ≤ 1000000000) : Ev TE 220 [.str s, .str [c]] (zpf s c) := by
 have hi := zk3 s c hs
 unfold zpf
 refine zh Tryz.func220 rfl (by simp [nts]) (vm ?_)
 simp only [wq.down, seval, Tryz.results220]
 refine zb.ev hi rfl ?_
 simp only [wq.down, seval]
 rcases zfl c s with ⟨a1, a2, a3⟩ | ⟨a1, a2⟩
 ·have e1 : decide ((0 : Int) ≤ Lib.indexByte s c) = false := by rw [a2]; decide
  rw [if_pos (by omega)]
  simp only [wq.down, ↓reduceIte, Nat.reduceEqDiff, Nat.reduceLT, Nat.reduceLeDiff, Nat.reduceAdd, Nat.reduceSub, Int.reduceToNat, Nat.reduceDiv, Int.reduceLT, Int.reduceLE, Int.reduceNeg, Int.reduceBEq, Int.reduceBNe, Int.reduceAdd, Int.reduceSub, Nat.reduceBEq, reduceCtorEq, Nat.reduceMul, zg, Tryz.results220, e1]
  exact zo.dat rfl
 ·have e1 : decide ((0 : Int) ≤ Lib.indexByte s c) = true := by rw [a1]; simp
  rw [a1] at e1
  rw [if_neg (by omega)]
  have w1 : IntKind.i64.wrap (((s.takeWhile (· != c)).length : Int) + ((1 : Nat) : Int)) = ((s.takeWhile (· != c)).length + 1 : Nat) := by rw [zJ (by omega) (by omega)]; omega
  simp only [wq.down, ↓reduceIte, Nat.reduceEqDiff, Nat.reduceLT, Nat.reduceLeDiff, Nat.reduceAdd, Nat.reduceSub, Int.reduceToNat, Nat.reduceDiv, Int.reduceLT, Int.reduceLE, Int.reduceNeg, Int.reduceBEq, Int.reduceBNe, Int.reduceAdd, Int.reduceSub, Nat.reduceBEq, reduceCtorEq, Nat.reduceMul, zg, Tryz.results220, e1, a1, w1]
  have e3 : s.take (s.takeWhile (· != c)).length = s.takeWhile (· != c) := (List.prefix_iff_eq_take.1 (List.takeWhile_prefix _)).symm
  refine ⟨by decide +kernel, ⟨by omega, by omega⟩, ⟨by omega, by omega⟩, ?_⟩
  rw [e3]
  exact zo.dat rfl
theorem zrA (s : S) (c : UInt8) (hs : s.length ≤ 1000000000) : Ev TE 189 [.str s, .str [c]] (zpf s c) := by
 have hc := zom s c hs
 unfold zpf at hc ⊢
 by_cases hn : Lib.indexByte s c < 0
 ·rw [if_pos hn] at hc ⊢
  refine zh Tryz.func189 rfl (by simp [nts]) (vm ?_)
  simp only [wq.down, seval, Tryz.results189]
  refine zb.ev hc rfl ?_
  simp only [wq.down, seval]
  exact zo.dat rfl
 ·rw [if_neg hn] at hc ⊢
  refine zh Tryz.func189 rfl (by simp [nts]) (vm ?_)
  simp only [wq.down, seval, Tryz.results189]
  refine zb.ev hc rfl ?_
  simp only [wq.down, seval]
  exact zo.dat rfl
def zsL (c : UInt8) : Bool := c == 48 || c == 49 || c == 120
def sgv (c : UInt8) : Int := Lib.indexByte [48, 49, 120] c
inductive VQ (k : Nat) (h : H) (L : S) : Fr → H → Prop
 | mk (f : Fr) (X : O) (i : Nat) (h0 : f.t 0 = .lp k 0) (h3 : f.t 3 = .ls (h.length + 1) 1 0 i i) (hd : f.d = []) (hfk : ∀ j, j < h.length → f.k j = false) (hil : i ≤ L.length) (htw : L.takeWhile zsL = L.take i) : VQ k h L f (h ++ [X, .cells (((L.take i).map sgv).map vi)])
end Go.Proofs.YtboolnpmlmgpkaaGreatDoor
