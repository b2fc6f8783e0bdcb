/- Lemmas for the statement of this claim, part F03: they hold with no conditions but those that each one names. -/
import Derived.Test.YtboolnpmlmgpkaaGreatDoorF02
import Derived.Shelf.Strconv.AtoiAll
import Derived.Shelf.Strconv.Itoa3
import Derived.Shelf.LaysM
import Derived.Shelf.LaysC
import Derived.Test.YtboolnpmlmgpkaaGreatDoorA9
import Derived.Lib.AtoiAll
import Derived.Shelf.Sort.Plain
import Derived.Shelf.Strings.Count
import Derived.Shelf.Strings.LastIndex
import Derived.Shelf.Small.Strs
import Derived.Shelf.Strings.OnBuilder
import Derived.Test.YtboolnpmlmgpkaaGreatDoorA10
set_option linter.unusedVariables false
set_option maxRecDepth 20000
set_option linter.unusedSimpArgs false
set_option linter.unnecessarySimpa false
namespace Go.Proofs.YtboolnpmlmgpkaaGreatDoor
open Go Go.Proofs Go.Shelf Go.Lib Go.RowKit Go.Sort
def zuF : Go.Shelf.Ren := ⟨fun | 171 => 65 | 243 => 136 | 246 => 193 | 283 => 222 | 284 => 223 | 285 => 224 | 286 => 225 | 129 => 245 | 317 => 244 | 318 => 246 | 319 => 247 | 320 => 248 | 337 => 277 | 338 => 278 | n => n, fun | 3 => 3 | 9 => 9 | 2 => 2 | 4 => 4 | 171 => 266 | 0 => 0 | 53 => 267 | 37 => 96 | 5 => 5 | 173 => 270 | 212 => 293 | 51 => 294 | 20 => 20 | 213 => 295 | 46 => 192 | 232 => 341 | 233 => 342 | n => n, fun | 17 => 2 | 18 => 6 | 19 => 7 | n => n⟩
theorem zw5 : Go.Proofs.LaysM.n171 Tryz.prog zuF where
 mixed := by kernel_rfl
 f129 := Tryz.func245.trans (congrArg some (by kernel_rfl))
 f171 := Tryz.func65.trans (congrArg some (by kernel_rfl))
 f243 := Tryz.func136.trans (congrArg some (by kernel_rfl))
 f246 := Tryz.func193.trans (congrArg some (by kernel_rfl))
 f283 := Tryz.func222.trans (congrArg some (by kernel_rfl))
 f284 := Tryz.func223.trans (congrArg some (by kernel_rfl))
 f285 := Tryz.func224.trans (congrArg some (by kernel_rfl))
 f286 := Tryz.func225.trans (congrArg some (by kernel_rfl))
 f317 := Tryz.func244.trans (congrArg some (by kernel_rfl))
 f318 := Tryz.func246.trans (congrArg some (by kernel_rfl))
 f319 := Tryz.func247.trans (congrArg some (by kernel_rfl))
 f320 := Tryz.func248.trans (congrArg some (by kernel_rfl))
 f337 := Tryz.func277.trans (congrArg some (by kernel_rfl))
 f338 := Tryz.func278.trans (congrArg some (by kernel_rfl))
 t0 := Tryz.underlying0
 a0 := Tryz.isAgg0
 z0 := Tryz.sizeOf0
 v0 := Tryz.zeroValue0
 t2 := Tryz.underlying2
 a2 := Tryz.isAgg2
 z2 := Tryz.sizeOf2
 v2 := Tryz.zeroValue2
 t3 := Tryz.underlying3
 a3 := Tryz.isAgg3
 z3 := Tryz.sizeOf3
 v3 := Tryz.zeroValue3
 t4 := Tryz.underlying4
 a4 := Tryz.isAgg4
 z4 := Tryz.sizeOf4
 v4 := Tryz.zeroValue4
 t5 := Tryz.underlying5
 a5 := Tryz.isAgg5
 z5 := Tryz.sizeOf5
 v5 := Tryz.zeroValue5
 t9 := Tryz.underlying9
 a9 := Tryz.isAgg9
 z9 := Tryz.sizeOf9
 v9 := Tryz.zeroValue9
 t20 := Tryz.underlying20
 a20 := Tryz.isAgg20
 z20 := Tryz.sizeOf20
 v20 := Tryz.zeroValue20
 t37 := Tryz.underlying96
 a37 := Tryz.isAgg96
 z37 := Tryz.sizeOf96
 v37 := Tryz.zeroValue96
 t46 := Tryz.underlying192
 a46 := Tryz.isAgg192
 z46 := Tryz.sizeOf192
 v46 := Tryz.zeroValue192
 t51 := Tryz.underlying294
 a51 := Tryz.isAgg294
 z51 := Tryz.sizeOf294
 v51 := Tryz.zeroValue294
 t53 := Tryz.underlying267
 a53 := Tryz.isAgg267
 z53 := Tryz.sizeOf267
 v53 := Tryz.zeroValue267
 t171 := Tryz.underlying266
 a171 := Tryz.isAgg266
 z171 := Tryz.sizeOf266
 v171 := Tryz.zeroValue266
 t173 := Tryz.underlying270
 a173 := Tryz.isAgg270
 z173 := Tryz.sizeOf270
 v173 := Tryz.zeroValue270
 t212 := Tryz.underlying293
 a212 := Tryz.isAgg293
 z212 := Tryz.sizeOf293
 v212 := Tryz.zeroValue293
 t213 := Tryz.underlying295
 a213 := Tryz.isAgg295
 z213 := Tryz.sizeOf295
 t232 := Tryz.underlying341
 a232 := Tryz.isAgg341
 z232 := Tryz.sizeOf341
 v232 := Tryz.zeroValue341
 t233 := Tryz.underlying342
 a233 := Tryz.isAgg342
 z233 := Tryz.sizeOf342
 v233 := Tryz.zeroValue342
 g17 := by kernel_rfl
 g18 := by kernel_rfl
 g19 := by kernel_rfl
 i0 := by kernel_rfl
 i2 := by kernel_rfl
 i3 := by kernel_rfl
 i4 := by kernel_rfl
 i5 := by kernel_rfl
 i9 := by kernel_rfl
 i20 := by kernel_rfl
 i37 := by kernel_rfl
 i46 := by kernel_rfl
 i51 := by kernel_rfl
 i53 := by kernel_rfl
 i171 := by kernel_rfl
 i173 := by kernel_rfl
 i212 := by kernel_rfl
 i232 := by kernel_rfl
 i233 := by kernel_rfl
 m17 := by kernel_rfl
 m18 := by kernel_rfl
 m19 := by kernel_rfl
def zuG : Go.Shelf.Ren := ⟨fun | 172 => 217 | 244 => 238 | 245 => 239 | 247 => 268 | 279 => 269 | 280 => 270 | 281 => 271 | 282 => 272 | 287 => 286 | 316 => 287 | 171 => 65 | 205 => 288 | 321 => 291 | 322 => 292 | 243 => 136 | 246 => 193 | 283 => 222 | 284 => 223 | 285 => 224 | 286 => 225 | 129 => 245 | 317 => 244 | 318 => 246 | 319 => 247 | 320 => 248 | 337 => 277 | 338 => 278 | n => n, fun | 9 => 9 | 3 => 3 | 75 => 102 | 76 => 103 | 4 => 4 | 5 => 5 | 167 => 320 | 37 => 96 | 0 => 0 | 85 => 321 | 2 => 2 | 168 => 323 | 53 => 267 | 175 => 335 | 46 => 192 | 210 => 339 | 127 => 194 | 145 => 348 | 143 => 346 | 21 => 21 | 171 => 266 | 173 => 270 | 212 => 293 | 51 => 294 | 20 => 20 | 213 => 295 | 232 => 341 | 233 => 342 | 80 => 107 | n => n, fun | 15 => 4 | 16 => 5 | 17 => 2 | 18 => 6 | 19 => 7 | n => n⟩
theorem zwa : Go.Proofs.LaysC.n172 Tryz.prog zuG where
 mixed := by kernel_rfl
 f129 := Tryz.func245.trans (congrArg some (by kernel_rfl))
 f171 := Tryz.func65.trans (congrArg some (by kernel_rfl))
 f172 := Tryz.func217.trans (congrArg some (by kernel_rfl))
 f205 := Tryz.func288.trans (congrArg some (by kernel_rfl))
 f243 := Tryz.func136.trans (congrArg some (by kernel_rfl))
 f244 := Tryz.func238.trans (congrArg some (by kernel_rfl))
 f245 := Tryz.func239.trans (congrArg some (by kernel_rfl))
 f246 := Tryz.func193.trans (congrArg some (by kernel_rfl))
 f247 := Tryz.func268.trans (congrArg some (by kernel_rfl))
 f279 := Tryz.func269.trans (congrArg some (by kernel_rfl))
 f280 := Tryz.func270.trans (congrArg some (by kernel_rfl))
 f281 := Tryz.func271.trans (congrArg some (by kernel_rfl))
 f282 := Tryz.func272.trans (congrArg some (by kernel_rfl))
 f283 := Tryz.func222.trans (congrArg some (by kernel_rfl))
 f284 := Tryz.func223.trans (congrArg some (by kernel_rfl))
 f285 := Tryz.func224.trans (congrArg some (by kernel_rfl))
 f286 := Tryz.func225.trans (congrArg some (by kernel_rfl))
 f287 := Tryz.func286.trans (congrArg some (by kernel_rfl))
 f316 := Tryz.func287.trans (congrArg some (by kernel_rfl))
 f317 := Tryz.func244.trans (congrArg some (by kernel_rfl))
 f318 := Tryz.func246.trans (congrArg some (by kernel_rfl))
 f319 := Tryz.func247.trans (congrArg some (by kernel_rfl))
 f320 := Tryz.func248.trans (congrArg some (by kernel_rfl))
 f321 := Tryz.func291.trans (congrArg some (by kernel_rfl))
 f322 := Tryz.func292.trans (congrArg some (by kernel_rfl))
 f337 := Tryz.func277.trans (congrArg some (by kernel_rfl))
 f338 := Tryz.func278.trans (congrArg some (by kernel_rfl))
 t0 := Tryz.underlying0
 a0 := Tryz.isAgg0
 z0 := Tryz.sizeOf0
 v0 := Tryz.zeroValue0
 t2 := Tryz.underlying2
 a2 := Tryz.isAgg2
 z2 := Tryz.sizeOf2
 v2 := Tryz.zeroValue2
 t3 := Tryz.underlying3
 a3 := Tryz.isAgg3
 z3 := Tryz.sizeOf3
 v3 := Tryz.zeroValue3
 t4 := Tryz.underlying4
 a4 := Tryz.isAgg4
 z4 := Tryz.sizeOf4
 v4 := Tryz.zeroValue4
 t5 := Tryz.underlying5
 a5 := Tryz.isAgg5
 z5 := Tryz.sizeOf5
 v5 := Tryz.zeroValue5
 t9 := Tryz.underlying9
 a9 := Tryz.isAgg9
 z9 := Tryz.sizeOf9
 v9 := Tryz.zeroValue9
 t20 := Tryz.underlying20
 a20 := Tryz.isAgg20
 z20 := Tryz.sizeOf20
 v20 := Tryz.zeroValue20
 t21 := Tryz.underlying21
 a21 := Tryz.isAgg21
 z21 := Tryz.sizeOf21
 v21 := Tryz.zeroValue21
 t37 := Tryz.underlying96
 a37 := Tryz.isAgg96
 z37 := Tryz.sizeOf96
 v37 := Tryz.zeroValue96
 t46 := Tryz.underlying192
 a46 := Tryz.isAgg192
 z46 := Tryz.sizeOf192
 v46 := Tryz.zeroValue192
 t51 := Tryz.underlying294
 a51 := Tryz.isAgg294
 z51 := Tryz.sizeOf294
 v51 := Tryz.zeroValue294
 t53 := Tryz.underlying267
 a53 := Tryz.isAgg267
 z53 := Tryz.sizeOf267
 v53 := Tryz.zeroValue267
 t75 := Tryz.underlying102
 a75 := Tryz.isAgg102
 z75 := Tryz.sizeOf102
 v75 := Tryz.zeroValue102
 t76 := Tryz.underlying103
 a76 := Tryz.isAgg103
 z76 := Tryz.sizeOf103
 v76 := Tryz.zeroValue103
 t85 := Tryz.underlying321
 a85 := Tryz.isAgg321
 z85 := Tryz.sizeOf321
 v85 := Tryz.zeroValue321
 t127 := Tryz.underlying194
 a127 := Tryz.isAgg194
 z127 := Tryz.sizeOf194
 v127 := Tryz.zeroValue194
 t143 := Tryz.underlying346
 a143 := Tryz.isAgg346
 z143 := Tryz.sizeOf346
 v143 := Tryz.zeroValue346
 t145 := Tryz.underlying348
 a145 := Tryz.isAgg348
 z145 := Tryz.sizeOf348
 v145 := Tryz.zeroValue348
 t167 := Tryz.underlying320
 a167 := Tryz.isAgg320
 z167 := Tryz.sizeOf320
 v167 := Tryz.zeroValue320
 t168 := Tryz.underlying323
 a168 := Tryz.isAgg323
 z168 := Tryz.sizeOf323
 v168 := Tryz.zeroValue323
 t171 := Tryz.underlying266
 a171 := Tryz.isAgg266
 z171 := Tryz.sizeOf266
 v171 := Tryz.zeroValue266
 t173 := Tryz.underlying270
 a173 := Tryz.isAgg270
 z173 := Tryz.sizeOf270
 v173 := Tryz.zeroValue270
 t175 := Tryz.underlying335
 a175 := Tryz.isAgg335
 z175 := Tryz.sizeOf335
 v175 := Tryz.zeroValue335
 t210 := Tryz.underlying339
 a210 := Tryz.isAgg339
 z210 := Tryz.sizeOf339
 v210 := Tryz.zeroValue339
 t212 := Tryz.underlying293
 a212 := Tryz.isAgg293
 z212 := Tryz.sizeOf293
 v212 := Tryz.zeroValue293
 t213 := Tryz.underlying295
 a213 := Tryz.isAgg295
 z213 := Tryz.sizeOf295
 t232 := Tryz.underlying341
 a232 := Tryz.isAgg341
 z232 := Tryz.sizeOf341
 v232 := Tryz.zeroValue341
 t233 := Tryz.underlying342
 a233 := Tryz.isAgg342
 z233 := Tryz.sizeOf342
 v233 := Tryz.zeroValue342
 g15 := by kernel_rfl
 g16 := by kernel_rfl
 g17 := by kernel_rfl
 g18 := by kernel_rfl
 g19 := by kernel_rfl
 t80 := Tryz.underlying107
 a80 := Tryz.isAgg107
 z80 := Tryz.sizeOf107
 v80 := Tryz.zeroValue107
 i0 := by kernel_rfl
 i2 := by kernel_rfl
 i3 := by kernel_rfl
 i4 := by kernel_rfl
 i5 := by kernel_rfl
 i9 := by kernel_rfl
 i20 := by kernel_rfl
 i21 := by kernel_rfl
 i37 := by kernel_rfl
 i46 := by kernel_rfl
 i51 := by kernel_rfl
 i53 := by kernel_rfl
 i75 := by kernel_rfl
 i76 := by kernel_rfl
 i80 := by kernel_rfl
 i85 := by kernel_rfl
 i127 := by kernel_rfl
 i143 := by kernel_rfl
 i145 := by kernel_rfl
 i167 := by kernel_rfl
 i168 := by kernel_rfl
 i171 := by kernel_rfl
 i173 := by kernel_rfl
 i175 := by kernel_rfl
 i210 := by kernel_rfl
 i212 := by kernel_rfl
 i232 := by kernel_rfl
 i233 := by kernel_rfl
 m15 := by kernel_rfl
 m16 := by kernel_rfl
 m17 := by kernel_rfl
 m18 := by kernel_rfl
 m19 := by kernel_rfl
 c0 := by kernel_rfl
 c2 := by kernel_rfl
 c3 := by kernel_rfl
 c4 := by kernel_rfl
 c5 := by kernel_rfl
 c9 := by kernel_rfl
 c20 := by kernel_rfl
 c21 := by kernel_rfl
 c37 := by kernel_rfl
 c46 := by kernel_rfl
 c51 := by kernel_rfl
 c53 := by kernel_rfl
 c75 := by kernel_rfl
 c76 := by kernel_rfl
 c80 := by kernel_rfl
 c85 := by kernel_rfl
 c127 := by kernel_rfl
 c143 := by kernel_rfl
 c145 := by kernel_rfl
 c167 := by kernel_rfl
 c168 := by kernel_rfl
 c171 := by kernel_rfl
 c173 := by kernel_rfl
 c175 := by kernel_rfl
 c210 := by kernel_rfl
 c212 := by kernel_rfl
 c213 := by kernel_rfl
 c232 := by kernel_rfl
 c233 := by kernel_rfl
theorem zuH (n : Int) (h0 : -9223372036854775808 ≤ n) (h1 : n ≤ 9223372036854775807) (w : World) (htab : Lib.TabIs Tryz.prog w "internal/strconv.uint64pow10" .u64 Lib.pow10Tab) :
 Calls Tryz.prog 65 #[.int .i64 n] w fun e w' => e = .returned (.string ⟨(Lib.itoa n).toArray⟩) ∧ ∃ k os, w' = grow (w.drewN k) os := Any.strconv_Itoa zw5 n h0 h1 w htab
theorem zuI (s : ByteArray) (hmax : s.size ≤ 9223372036854775806) (v : Int) (h : Lib.atoiAll s.data.toList = .ok v) (w : World) :
 Calls Tryz.prog 217 #[.string s] w fun e w' => e = .returned (.tuple #[.int .i64 v, .nilIface]) ∧ (w' = w ∨ ∃ t, w' = Lib.bytesWorld w 5 t) := Any.strconv_Atoi_ok zwa s hmax v h w
theorem znx (s : ByteArray) (hlim : s.size ≤ 281474976710656) (h : Lib.atoiAll s.data.toList = .range) (ev : Value) (w : World) (hv : w.cell? ⟨5, 0, none⟩ = some ev) (hev : ev = .nilIface ∨ ∃ te pe, ev = .iface te pe) :
 Calls Tryz.prog 217 #[.string s] w fun e w' => ∃ N, e = .returned (.tuple #[.int .i64 (Lib.atoiSat s.data.toList), .iface 323 (.pointer (some ⟨N, 0, none⟩))]) ∧ w.heap.size ≤ N ∧ w'.heap[N]? = some (.cells #[.string ⟨#[65, 116, 111, 105]⟩, .string s, ev] 339 (0, 0)) ∧ RowKit.Below w.heap.size w w' := Any.strconv_Atoi_range zwa s hlim h ev w hv hev
open Go.Abs
def zsw (k : Int) : V := .iface 233 (.ip (.iface 31 (.int .i64 k)))
theorem zuJ (t : V) (h : H) (R : AEnd → H → (Nat → Bool) → Prop) (hr : R (.ret (.bool false)) h (fun _ => false)) : zb TE 216 [.nili, t] h R := by
 intro ok pl w vs hs hl
 simp only [VList, VRel] at hl
 obtain ⟨y, ys, rfl, rfl, y2, ys2, rfl, hv2, rfl⟩ := hl
 refine Calls.mono (zv8 y2 w) ?_
 rintro en w' ⟨rfl, rfl⟩
 exact ⟨_, pl, h, .ret (.bool false), hs, z8 pl w', by simp only [zgA, VRel], hr⟩
theorem zkv (t : Addr) (k : Int) (w : World) : WExt w (zku t k w) :=
 (((WExt.alloc w _).trans (WExt.alloc _ _)).trans (WExt.alloc _ _)).trans (WExt.alloc _ _)
theorem zuK (k : Int) (j : Nat) (old : V) (h : H) (hh : h[j]? = some (.cells [old])) (R : AEnd → H → (Nat → Bool) → Prop)
 (hr : R (.ret (.bool true)) (h.set j (.cells [.int .i64 k])) (fun _ => false)) : zb TE 216 [zsw k, .iface 263 (.lp j 0)] h R := by
 intro ok pl w vs hs hl
 simp only [zsw, VList, VRel] at hl
 obtain ⟨y, ys, rfl, ⟨ev1, rfl, p, po, ev2, rfl, hrd, hpos, ev3, rfl, rfl⟩, y2, ys2, rfl, ⟨ev4, rfl, b, hb, rfl⟩, rfl⟩ := hl
 have hp : w.cell? ⟨p, po, none⟩ = some (.iface 31 (.int .i64 k)) := by
  have h1 : w.cell? ⟨p, po + 0, none⟩ = (Value.iface 31 (.int .i64 k)).cells[0]? := (hrd 0 hpos).2
  simpa [Value.cells] using h1
 obtain ⟨_, cs, ty, fz, hg0, hg1⟩ := hs.exa 1 _ rfl
 have hg : w.cell? ⟨1, 0, none⟩ = some (.iface 307 (.agg #[.pointer (some ⟨8, 102, none⟩)])) := by
  have hg0 : w.heap[1]? = some (.cells cs ty fz) := hg0
  simp only [World.cell?, hg0]
  have hg1 : cs = _ := hg1
  subst hg1
  rfl
 obtain ⟨o, ho, hat⟩ := hs.obj j b hb
 rw [hh] at ho; cases ho
 obtain ⟨arr, el, fz2, a1, a2, a3, a4⟩ := hat
 have a1 : w.heap[b]? = some (.cells arr el fz2) := a1
 have a3 : 1 ≤ arr.size := a3
 have ht : w.cell? ⟨b, 0, none⟩ = some arr[0] := by
  simp only [World.cell?, a1]
  simp [show 0 < arr.size by omega]
 have hf : w.frozen? ⟨b, 0, none⟩ = false := by
  simp only [World.frozen?, a1]
  have := a2 0 (by omega)
  simpa using this
 refine Calls.mono (zv9 p po ⟨b, 0, none⟩ k arr[0] w hp hg ht hf) ?_
 rintro en w' ⟨rfl, rfl⟩
 have x := zkv ⟨b, 0, none⟩ k w
 have hs1 := hs.wext x
 obtain ⟨w2, hrun, hs2, k2⟩ := zdD (xs := [.int .i64 k]) hs1 hb (off := 0) (vs := [.int .i64 k]) (by simp [VList, VRel]) rfl hh (by simp)
 obtain ⟨o3, ho3, hat3⟩ := hs1.obj j b hb
 rw [hh] at ho3; cases ho3
 obtain ⟨arr3, el3, fz3, c1, c2, c3, c4⟩ := hat3
 have hrun2 := zam (P := TE.P) (w := zku ⟨b, 0, none⟩ k w) (o := 0) (vs := [.int .i64 k]) c1 c2 (by simpa using c3) (by intro v hv; simp at hv; subst hv; rfl)
 rw [hrun2] at hrun
 cases hrun
 exact ⟨_, pl, _, .ret (.bool true), hs2, (x.keeps hs).trans k2, by simp only [zgA, VRel], hr⟩
theorem zny (n e a : Int) : Ev TE 185 [vi n, vi e, vi a, .nili] (.tup [vi n, vi e, vi 0]) := by
 refine zl Tryz.func185 rfl (by simp [nts]) (vm ?_)
 simp only [wq.down, seval, Tryz.results185]
 refine ⟨nofun, zuJ _ _ _ ?_⟩
 simp only [wq.down, seval]
 exact zw.dat rfl
theorem zdJ (n e a k : Int) : Ev TE 185 [vi n, vi e, vi a, zsw k] (.tup [vi 0, vi a, vi k]) := by
 refine zl Tryz.func185 rfl (by simp [nts]) (vm ?_)
 simp only [wq.down, seval, Tryz.results185, zsw]
 refine ⟨nofun, zuK k 0 _ _ rfl _ ?_⟩
 simp only [wq.down, seval]
 exact ⟨by decide +kernel, zw.dat rfl⟩
def znz (n : Int) : Bool := decide (0 ≤ n) && decide (n ≤ 2147483647)
theorem zuL (n : Int) : Ev TE 155 [vi n] (.bool (znz n)) := by
 refine zl Tryz.func155 rfl (by simp [nts]) (vm ?_)
 simp only [wq.down, seval, Tryz.results155]
 exact zH rfl rfl
def zV (c : UInt8) : Bool := decide (48 ≤ c.toNat) && decide (c.toNat ≤ 57)
theorem zsx (c : UInt8) : Ev TE 215 [.int .u8 c.toNat] (.bool (zV c)) := by
 refine zl Tryz.func215 rfl (by simp [nts]) (vm ?_)
 simp only [wq.down, seval, Tryz.results215]
 refine zH rfl (congrArg V.bool ?_)
 have := c.toNat_lt
 unfold zV
 rw [IntKind.wrap_u8, Bool.eq_iff_iff]
 simp only [decide_eq_true_eq, Bool.and_eq_true]
 omega
theorem zsy (w : World) (k : Nat) (os : Array Obj) : WExt w (Sort.grow (w.drewN k) os) := by
 refine ⟨rfl, rfl, rfl, ?_, fun b hb => ?_⟩
 ·show w.heap.size ≤ (w.heap ++ os).size
  simp
 ·show (w.heap ++ os)[b]? = w.heap[b]?
  rw [Array.getElem?_append_left hb]
theorem zwb {w : World} {name : String} {g : Nat} {cs : Array Value} {ty : TypeId} {fz : Nat × Nat} (hn : Tryz.prog.globalNamed name = some g) (hg : w.heap[g]? = some (.cells cs ty fz)) : w.var? Tryz.prog name = some cs := by
 unfold World.var?
 rw [hn]
 simp [hg]
theorem zfK : ∀ (k u : Nat), u < 10 ^ (k + 1) → Lib.nDigits u ≤ k + 1
 | 0, u, h => by rw [Lib.nDigits_small (by simpa using h)]; exact Nat.le_refl _
 | k + 1, u, h => by
  by_cases hu : u < 10
  ·rw [Lib.nDigits_small hu]; omega
  ·rw [Lib.nDigits_big hu]
   have := zfK k (u / 10) (by rw [Nat.pow_succ] at h; omega)
   omega
theorem zdh (n : Int) (h0 : 0 ≤ n) (h1 : n ≤ 2147483647) : (Lib.itoa n).length ≤ 10 := by
 obtain ⟨m, rfl⟩ : ∃ m : Nat, n = m := ⟨n.toNat, by omega⟩
 unfold Lib.itoa
 rw [if_neg (by omega), Int.toNat_natCast, Lib.decDigits_length]
 exact zfK 9 m (by omega)
theorem zhD (n : Int) (h0 : 0 ≤ n) (h1 : n ≤ 2147483647) : Ev TE 65 [vi n] (.str (Lib.itoa n)) := by
 intro ok w vs hs hl
 simp only [VList, VRel] at hl
 obtain ⟨y, ys, rfl, rfl, rfl⟩ := hl
 obtain ⟨_, cs, ty, fz, hg0, hg1⟩ := hs.exa 2 _ rfl
 have hg1 : cs = _ := hg1
 subst hg1
 refine Calls.mono (zuH n (by omega) (by omega) w (zwb (by kernel_rfl) hg0)) ?_
 rintro en w' ⟨rfl, k, os, rfl⟩
 refine ⟨_, rfl, zsy w k os, ?_⟩
 simp only [VRel]
 exact ⟨_, rfl, by simp, by have := zdh n h0 h1; simp only [maxLen]; omega⟩
def zuM (n : Int) : List UInt8 × Int := if znz n = true then (Lib.itoa n, 0) else ([], 3)
theorem ztK (n : Int) : Ev TE 114 [vi n] (.tup [.str (zuM n).1, vi (zuM n).2]) := by
 refine zl Tryz.func114 rfl (by simp [nts]) (vm ?_)
 simp only [wq.down, seval, Tryz.results114]
 refine zb.ev (zuL n) rfl ?_
 unfold zuM
 cases hf : znz n with
 | false =>
  simp only [wq.down, seval]
  exact zw.dat rfl
 | true =>
  have hf : 0 ≤ n ∧ n ≤ 2147483647 := by simpa [znz] using hf
  simp only [wq.down, seval]
  refine zb.ev (zhD n hf.1 hf.2) rfl ?_
  simp only [wq.down, seval]
  exact zw.dat rfl
abbrev By := List UInt8
def zcQ (a : Nat) (ds : By) : Nat := ds.foldl (fun a c => 10 * a + (c.toNat - 48)) a
theorem zsz (a : Nat) (x y : By) : zcQ a (x ++ y) = zcQ (zcQ a x) y := by unfold zcQ; rw [List.foldl_append]
theorem zuN (ds : By) : ∀ a, a ≤ zcQ a ds := by
 induction ds with
 | nil => intro a; exact Nat.le_refl _
 | cons c ds ih =>
  intro a
  have := ih (10 * a + (c.toNat - 48))
  show a ≤ zcQ (10 * a + (c.toNat - 48)) ds
  omega
theorem zpc {c : UInt8} (h : zV c = true) : 48 ≤ c.toNat ∧ c.toNat ≤ 57 := by
 simpa [zV] using h
theorem ziT (ds : By) : ∀ (a : Nat), (∀ c ∈ ds, zV c = true) → a < 18446744073709551616 → Lib.parseUint10 a ds = if zcQ a ds < 18446744073709551616 then .ok (zcQ a ds) else .range := by
 induction ds with
 | nil =>
  intro a _ h
  show Lib.NumEnd.ok a = if a < _ then _ else _
  rw [if_pos h]
  rfl
 | cons c ds ih =>
  intro a hd h
  obtain ⟨h1, h2⟩ := zpc (hd c List.mem_cons_self)
  have hv : zcQ a (c :: ds) = zcQ (10 * a + (c.toNat - 48)) ds := rfl
  have hge := zuN ds (10 * a + (c.toNat - 48))
  unfold Lib.parseUint10
  rw [if_pos ⟨h1, h2⟩]
  split
  ·rw [if_neg (by omega)]
  ·split
   ·rw [if_neg (by omega)]
   ·rw [ih _ (fun c hc => hd c (List.mem_cons_of_mem _ hc)) (by omega), hv, Nat.mul_comm a 10]
theorem zkw {ds : By} (hd : ∀ c ∈ ds, zV c = true) (hne : ds ≠ []) : Lib.atoiAll ds = if (zcQ 0) ds < 9223372036854775808 then .ok ((zcQ 0) ds : Int) else .range := by
 cases ds with
 | nil => exact absurd rfl hne
 | cons c r =>
  obtain ⟨h1, h2⟩ := zpc (hd c List.mem_cons_self)
  unfold Lib.atoiAll
  have e1 : ¬ (c.toNat = 43 ∨ c.toNat = 45) := by omega
  have e2 : ¬ c.toNat = 45 := by omega
  simp only [if_neg e1]
  unfold Lib.parseMag
  rw [if_neg hne, ziT _ 0 hd (by omega)]
  by_cases h3 : zcQ 0 (c :: r) < 18446744073709551616
  ·rw [if_pos h3]
   simp only [e2, not_false_eq_true, true_and, false_and, if_false]
   by_cases h4 : zcQ 0 (c :: r) < 9223372036854775808
   ·rw [if_neg (by omega), if_pos h4]
   ·rw [if_pos (by omega), if_neg h4]
  ·rw [if_neg h3, if_neg (by omega)]
theorem zkx {u : Nat} (h : ¬ u < 10) : Lib.decDigits u = Lib.decDigits (u / 10) ++ [UInt8.ofNat (48 + u % 10)] := by rw [Lib.decDigits, dif_neg h]
theorem zwc (u : Nat) : Lib.decDigits u ≠ [] := by
 by_cases h : u < 10
 ·rw [Lib.decDigits_one h]; simp
 ·rw [zkx h]; simp
theorem zdK {d : Nat} (h : d < 10) : (UInt8.ofNat (48 + d)).toNat = 48 + d := by
 rw [UInt8.toNat_ofNat']
 omega
theorem zlf {d : Nat} (h : d < 10) : zV (UInt8.ofNat (48 + d)) = true := by
 unfold zV
 rw [zdK h]
 simp
 omega
theorem zuO (u : Nat) : ∀ c ∈ Lib.decDigits u, zV c = true := by
 induction u using Nat.strongRecOn with
 | _ u ih =>
  by_cases h : u < 10
  ·rw [Lib.decDigits_one h]
   intro c hc
   have : c = UInt8.ofNat (48 + u) := by simpa using hc
   rw [this]; exact zlf h
  ·rw [zkx h]
   intro c hc
   rcases List.mem_append.1 hc with hc | hc
   ·exact ih (u / 10) (by omega) c hc
   ·have : c = UInt8.ofNat (48 + u % 10) := by simpa using hc
    rw [this]; exact zlf (by omega)
theorem zpd (u : Nat) : (zcQ 0) (Lib.decDigits u) = u := by
 induction u using Nat.strongRecOn with
 | _ u ih =>
  by_cases h : u < 10
  ·rw [Lib.decDigits_one h]
   show 10 * 0 + ((UInt8.ofNat (48 + u)).toNat - 48) = u
   rw [zdK h]; omega
  ·rw [zkx h]
   show zcQ 0 _ = u
   rw [zsz, ih (u / 10) (by omega)]
   show 10 * (u / 10) + ((UInt8.ofNat (48 + u % 10)).toNat - 48) = u
   rw [zdK (by omega)]; omega
def ztL (ds : By) : Prop := (zcQ 0) ds ≤ 2147483647 ∧ Lib.decDigits ((zcQ 0) ds) = ds
instance (ds : By) : Decidable (ztL ds) := by unfold ztL; infer_instance
theorem zlg (n : Nat) : Lib.itoa n = Lib.decDigits n := by
 unfold Lib.itoa
 rw [if_neg (by omega), Int.toNat_natCast]
theorem ziU {w w' : World} (x : Below w.heap.size w w') : WExt w w' := ⟨x.os, x.tape, x.output, x.size, x.block⟩
theorem zuP (ds : By) (hd : ∀ c ∈ ds, zV c = true) (hne : ds ≠ []) (hl : ds.length ≤ 100000) :
 EvR TE 217 [.str ds] fun v => (v = .tup [vi (zcQ 0 ds : Nat), .nili] ∧ zcQ 0 ds < 9223372036854775808) ∨ (∃ n, v = .tup [vi n, .iface 323 .any] ∧ ¬ zcQ 0 ds < 9223372036854775808) := by
 intro ok w vs hs hl2
 simp only [VList, VRel] at hl2
 obtain ⟨y, ys, rfl, ⟨s, rfl, hsd, _⟩, rfl⟩ := hl2
 have hsz : s.size = ds.length := by rw [zaA, hsd]
 have ha := zkw hd hne
 rw [← hsd] at ha
 by_cases hv : zcQ 0 ds < 9223372036854775808
 ·rw [hsd, if_pos hv, ← hsd] at ha
  rw [hsd] at ha
  refine Calls.mono (zuI s (by omega) _ (by rw [hsd]; exact ha) w) ?_
  rintro en w' ⟨rfl, hw⟩
  refine ⟨_, _, .inl ⟨rfl, hv⟩, rfl, ?_, ?_⟩
  ·rcases hw with rfl | ⟨t, rfl⟩
   ·exact zab _
   ·exact ziU (Lib.bytesWorld_below _ _ _)
  ·simp only [VRel, VList]
   exact ⟨_, rfl, _, _, rfl, rfl, _, _, rfl, rfl, rfl⟩
 ·rw [hsd, if_neg hv] at ha
  obtain ⟨_, cs, ty, fz, hg0, hg1⟩ := hs.exa 5 _ rfl
  obtain ⟨te, pe, rfl⟩ := hg1
  refine Calls.mono (znx s (by omega) (by rw [hsd]; exact ha) (.iface te pe) w (by
   have hg0 : w.heap[5]? = some (.cells #[.iface te pe] ty fz) := hg0
   simp [World.cell?, hg0]) (.inr ⟨te, pe, rfl⟩)) ?_
  rintro en w' ⟨N, rfl, _, _, hb⟩
  refine ⟨_, _, .inr ⟨Lib.atoiSat s.data.toList, rfl, hv⟩, rfl, ziU hb, ?_⟩
  simp only [VRel, VList]
  exact ⟨_, rfl, _, _, rfl, rfl, _, _, rfl, ⟨_, rfl, trivial⟩, rfl⟩
def zpe (ds : By) : Int × V := if ztL ds then ((zcQ 0 ds : Nat), .nili) else (0, zsw 3)
theorem zc4 (k : Int) : zw TE [.cells [.iface 31 (.int .i64 k)]] (.iface 233 (.lp 0 0)) (zsw k) :=
 zw.iface (zw.lp rfl (zu.dat rfl) rfl rfl Nat.zero_lt_one rfl)
theorem zwd (ds : By) (hd : ∀ c ∈ ds, zV c = true) (hne : ds ≠ []) (hl : ds.length ≤ 100000) : Ev TE 186 [.str ds] (.tup [vi (zpe ds).1, (zpe ds).2]) := by
 refine zl Tryz.func186 rfl (by simp [nts]) (vm ?_)
 simp only [wq.down, seval, Tryz.results186]
 refine zni (zuP ds hd hne hl) rfl ?_
 rintro r (⟨rfl, hv⟩ | ⟨n, rfl, hv⟩)
 ·simp only [wq.down, seval]
  refine zb.ev (ztK _) rfl ?_
  by_cases hm : zcQ 0 ds ≤ 2147483647
  ·have hp : zuM (zcQ 0 ds : Nat) = (Lib.decDigits (zcQ 0 ds), 0) := by
    unfold zuM
    rw [if_pos (by simp [znz]; omega), zlg]
   rw [hp]
   by_cases hc : Lib.decDigits (zcQ 0 ds) = ds
   ·have hg : zpe ds = (((zcQ 0 ds : Nat) : Int), V.nili) := by unfold zpe; rw [if_pos ⟨hm, hc⟩]
    have hb : (Lib.decDigits (zcQ 0 ds) == ds) = true := by simp [hc]
    rw [hg]
    simp only [wq.down, seval, zn, hb]
    exact zw.dat rfl
   ·have hg : zpe ds = (0, zsw 3) := by unfold zpe; rw [if_neg (fun h => hc h.2)]
    have hb : (Lib.decDigits (zcQ 0 ds) == ds) = false := by simp [hc]
    rw [hg]
    simp only [wq.down, seval, zn, hb]
    exact ⟨nofun, nofun, zw.tup (zu.cons (zw.dat rfl) (zu.cons (zc4 3) zu.nil))⟩
  ·have hp : zuM (zcQ 0 ds : Nat) = ([], 3) := by
    unfold zuM
    rw [if_neg (by simp [znz]; omega)]
   have hg : zpe ds = (0, zsw 3) := by unfold zpe; rw [if_neg (fun h => hm h.1)]
   rw [hp, hg]
   simp only [wq.down, seval, zn]
   exact ⟨nofun, nofun, zw.tup (zu.cons (zw.dat rfl) (zu.cons (zc4 3) zu.nil))⟩
 ·have hg : zpe ds = (0, zsw 3) := by
   unfold zpe
   rw [if_neg]
   rintro ⟨h, _⟩
   omega
  rw [hg]
  simp only [wq.down, seval]
  refine zb.ev (ztK _) rfl ?_
  simp only [wq.down, seval, zn]
  exact ⟨nofun, nofun, zw.tup (zu.cons (zw.dat rfl) (zu.cons (zc4 3) zu.nil))⟩
def endR (s : By) (at_ : Int) : Int := if at_ < 0 ∨ (s.length : Int) < at_ then at_ else at_ + ((s.drop at_.toNat).takeWhile zV).length
theorem ztM {l : By} {i : Nat} (hi : i ≤ l.length) (h1 : (l.take i).all zV = true) (h2 : i < l.length → zV (l.getD i 0) = false) : (l.takeWhile zV).length = i := by
 have h3 : l.takeWhile zV = l.take i ++ (l.drop i).takeWhile zV := by
  conv => lhs; rw [← List.take_append_drop i l]
  exact List.takeWhile_append_of_pos (List.all_eq_true.1 h1)
 have h4 : (l.drop i).takeWhile zV = [] := by
  by_cases hl : i < l.length
  ·rw [List.drop_eq_getElem_cons hl]
   have := h2 hl
   rw [zA hl] at this
   rw [List.takeWhile_cons, this]; rfl
  ·rw [List.drop_eq_nil_of_le (by omega)]; rfl
 rw [h3, h4, List.append_nil, List.length_take]
 omega
theorem ziV {l : By} {p i : Nat} : (l.drop p).getD i 0 = l.getD (p + i) 0 := by
 rw [List.getD_eq_getElem?_getD, List.getD_eq_getElem?_getD, List.getElem?_drop]
theorem zwe (s : By) (a : Int) (hl : s.length ≤ 100000) : Ev TE 184 [.str s, vi a] (vi (endR s a)) := by
 have hM : maxLen = 9223372036854775807 := rfl
 refine zl Tryz.func184 rfl (by simp [nts]) (vm ?_)
 simp only [wq.down, seval, Tryz.results184]
 refine vcB.mk (fun hc => ?_) (fun hc => ?_)
 ·have h0 : endR s a = a := by
   unfold endR
   rw [if_pos (by simpa using hc)]
  rw [h0]
  simp only [wq.down, seval]
  exact zw.dat rfl
 ·simp only [Bool.or_eq_false_iff, decide_eq_false_iff_not] at hc
  obtain ⟨p, rfl⟩ : ∃ p : Nat, a = p := ⟨a.toNat, by omega⟩
  have hp : p ≤ s.length := by omega
  have h0 : endR s p = p + ((s.drop p).takeWhile zV).length := by
   unfold endR
   rw [if_neg (by omega), Int.toNat_natCast]
  have hsub : IntKind.i64.wrap ((s.length : Int) - p) = ((s.length - p : Nat) : Int) := by rw [z6 (by omega) (by omega)]; omega
  rw [h0]
  simp only [wq.down, seval, hsub]
  have hdl : (s.drop p).length = s.length - p := List.length_drop
  refine zt (fun m f h => ∃ i, m + i = s.length - p ∧ f.t 0 = .str s ∧ f.t 1 = vi p ∧ f.t 18 = vi ((s.length - p : Nat) : Int) ∧ f.t 19 = vi i ∧ f.d = [] ∧ h = [] ∧ ((s.drop p).take i).all zV = true) (s.length - p) ⟨0, by omega, rfl, rfl, rfl, rfl, rfl, rfl, by simp⟩ ?_
  rintro m f h ⟨i, hm, h0, h1, h18, h19, hd, rfl, hall⟩
  have hadd : IntKind.i64.wrap ((p : Int) + i) = ((p + i : Nat) : Int) := by rw [z6 (by omega) (by omega)]; omega
  refine vm ?_
  simp only [wq.down, seval, h18, h19]
  refine vcB.mk (fun hlt => ?_) (fun hlt => ?_)
  ·simp only [decide_eq_true_eq, Int.ofNat_lt] at hlt
   simp only [wq.down, seval, h0, h1, h19, hadd]
   refine ⟨⟨by omega, by omega⟩, zb.ev (zsx (s.getD (p + i) 0)) rfl ?_⟩
   cases hD : zV (s.getD (p + i) 0) with
   | false =>
    have hlen := ztM (l := s.drop p) (i := i) (by omega) hall (fun _ => by rw [ziV]; exact hD)
    simp only [wq.down, seval, h1, hd, hadd]
    exact zH rfl (by rw [hlen]; rfl)
   | true =>
    simp only [wq.down, seval, h19, zi (show i < maxLen by omega)]
    refine .inl ⟨m - 1, by omega, i + 1, by omega, h0, h1, h18, rfl, hd, rfl, ?_⟩
    have hli : i < (s.drop p).length := by omega
    have hD2 : zV ((s.drop p)[i]) = true := by rw [← zA (d := 0) hli, ziV]; exact hD
    rw [List.take_add_one, List.all_append, hall, List.getElem?_eq_getElem hli, Option.toList_some, List.all_cons, hD2]
    rfl
  ·simp only [decide_eq_false_iff_not, Int.ofNat_lt] at hlt
   have hlen := ztM (l := s.drop p) (i := i) (by omega) hall (fun h => by omega)
   simp only [wq.down, seval, h0, hd]
   exact zH rfl (by rw [hlen]; congr 1; omega)
def zh4 (s : By) (a : Int) : Int × Int × Int :=
 if a < 0 ∨ (s.length : Int) < a then (0, a, 3)
 else if (s.drop a.toNat).takeWhile zV ≠ [] ∧ ztL ((s.drop a.toNat).takeWhile zV) then ((zcQ 0 ((s.drop a.toNat).takeWhile zV) : Nat), a + ((s.drop a.toNat).takeWhile zV).length, 0)
 else (0, a, 3)
theorem zwf (s : By) (a : Int) (hl : s.length ≤ 100000) : Ev TE 120 [.str s, vi a] (.tup [vi (zh4 s a).1, vi (zh4 s a).2.1, vi (zh4 s a).2.2]) := by
 have hM : maxLen = 9223372036854775807 := rfl
 refine zl Tryz.func120 rfl (by simp [nts]) (vm ?_)
 simp only [wq.down, seval, Tryz.results120]
 refine zb.ev (zwe s a hl) rfl ?_
 by_cases hc : a < 0 ∨ (s.length : Int) < a
 ·have h0 : endR s a = a := by unfold endR; rw [if_pos hc]
  have h1 : zh4 s a = (0, a, 3) := by unfold zh4; rw [if_pos hc]
  rw [h0, h1]
  simp only [wq.down, seval]
  refine ⟨nofun, nofun, zb.lend (zdJ 0 a a 3) (zu.cons (zw.dat rfl) (zu.cons (zw.dat rfl) (zu.cons (zw.dat rfl) (zu.cons (zc4 3) zu.nil)))) rfl ?_⟩
  simp only [wq.down, ↓reduceIte, Nat.reduceEqDiff, Nat.reduceLT, Nat.reduceLeDiff, Nat.reduceAdd, Nat.reduceSub, Int.reduceToNat, Nat.reduceDiv, Int.reduceLT, Int.reduceLE, Int.reduceNeg, Int.reduceBEq, Int.reduceBNe, Int.reduceAdd, Int.reduceSub, Nat.reduceBEq, reduceCtorEq, Nat.reduceMul, zn, Tryz.results120]
  exact zw.dat rfl
 ·obtain ⟨p, rfl⟩ : ∃ p : Nat, a = p := ⟨a.toNat, by omega⟩
  have hp : p ≤ s.length := by omega
  have h0 : endR s p = p + ((s.drop p).takeWhile zV).length := by
   unfold endR
   rw [if_neg hc, Int.toNat_natCast]
  have h1 : zh4 s p = if (s.drop p).takeWhile zV ≠ [] ∧ ztL ((s.drop p).takeWhile zV) then (((zcQ 0 ((s.drop p).takeWhile zV) : Nat) : Int), (p : Int) + ((s.drop p).takeWhile zV).length, (0 : Int)) else (0, (p : Int), 3) := by
   unfold zh4
   rw [if_neg hc, Int.toNat_natCast]
  have hpre : (s.drop p).take ((s.drop p).takeWhile zV).length = (s.drop p).takeWhile zV := (List.prefix_iff_eq_take.1 (List.takeWhile_prefix zV)).symm
  have hdg : ∀ c ∈ (s.drop p).takeWhile zV, zV c = true := fun c hc => List.all_eq_true.1 List.all_takeWhile c hc
  have hlen : ((s.drop p).takeWhile zV).length ≤ s.length - p := by
   have := (List.takeWhile_prefix (l := s.drop p) zV).length_le
   rwa [List.length_drop] at this
  rw [h0, h1]
  generalize (s.drop p).takeWhile zV = ds at hpre hdg hlen
  by_cases hne : ds = []
  ·subst hne
   rw [if_neg (fun h => h.1 rfl)]
   have hb : ((p : Int) + ((0 : Nat) : Int) == (p : Int)) = true := by simp
   simp only [wq.down, ↓reduceIte, Nat.reduceEqDiff, Nat.reduceLT, Nat.reduceLeDiff, Nat.reduceAdd, Nat.reduceSub, Int.reduceToNat, Nat.reduceDiv, Int.reduceLT, Int.reduceLE, Int.reduceNeg, Int.reduceBEq, Int.reduceBNe, Int.reduceAdd, Int.reduceSub, Nat.reduceBEq, reduceCtorEq, Nat.reduceMul, zn, Tryz.results120, hb]
   refine ⟨nofun, nofun, zb.lend (zdJ 0 p p 3) (zu.cons (zw.dat rfl) (zu.cons (zw.dat rfl) (zu.cons (zw.dat rfl) (zu.cons (zc4 3) zu.nil)))) rfl ?_⟩
   simp only [wq.down, ↓reduceIte, Nat.reduceEqDiff, Nat.reduceLT, Nat.reduceAdd]
   exact zw.dat rfl
  ·have hpos : 0 < ds.length := List.length_pos_iff.2 hne
   have hb : ((p : Int) + (ds.length : Nat) == (p : Int)) = false := by
    rw [beq_eq_false_iff_ne]; omega
   have hsl : List.take (((p : Int) + (ds.length : Nat)).toNat - p) (List.drop p s) = ds := by
    rw [show ((p : Int) + (ds.length : Nat)).toNat - p = ds.length by omega, hpre]
   simp only [wq.down, seval, hb, hsl]
   refine ⟨⟨by omega, by omega, by omega⟩, zb.ev (zwd ds hdg hne (by omega)) rfl ?_⟩
   unfold zpe
   by_cases hg : ztL ds
   ·rw [if_pos hg, if_pos ⟨hne, hg⟩]
    simp only [wq.down, seval]
    refine zb.ev (zny _ _ _) rfl ?_
    simp only [wq.down, seval]
    exact zw.dat rfl
   ·rw [if_neg hg, if_neg (fun h => hg h.2)]
    simp only [wq.down, seval]
    refine ⟨trivial, zb.ev (zdJ _ _ _ 3) rfl ?_⟩
    simp only [wq.down, seval]
    exact zw.dat rfl
abbrev rd (s : S) (a : Nat) : O := .cells [.str s, vi a]
def zfL (s : S) (a : Nat) (c : UInt8) : Bool := s[a]? == some c
theorem zw6 (x c : UInt8) : ((x.toNat : Int) == (c.toNat : Int)) = (x == c) := by
 rw [Bool.eq_iff_iff]
 simp only [beq_iff_eq, Int.natCast_inj, UInt8.toNat_inj]
def ziW : Go.Shelf.Ren := ⟨fun | 137 => 187 | 217 => 218 | 266 => 240 | n => n, fun | 9 => 9 | 5 => 5 | 3 => 3 | n => n, fun | n => n⟩
theorem zgI : Go.Proofs.Lays.n137 Tryz.prog ziW where
 mixed := by kernel_rfl
 f137 := Tryz.func187.trans (congrArg some (by kernel_rfl))
 f217 := Tryz.func218.trans (congrArg some (by kernel_rfl))
 f266 := Tryz.func240.trans (congrArg some (by kernel_rfl))
 t3 := Tryz.underlying3
 a3 := Tryz.isAgg3
 z3 := Tryz.sizeOf3
 v3 := Tryz.zeroValue3
 t5 := Tryz.underlying5
 a5 := Tryz.isAgg5
 z5 := Tryz.sizeOf5
 v5 := Tryz.zeroValue5
 t9 := Tryz.underlying9
 a9 := Tryz.isAgg9
 z9 := Tryz.sizeOf9
 v9 := Tryz.zeroValue9
def zsA : Go.Shelf.Ren := ⟨fun | 138 => 229 | 195 => 250 | 218 => 251 | 143 => 252 | 219 => 241 | 217 => 218 | 225 => 273 | 224 => 274 | 267 => 275 | 266 => 240 | 314 => 289 | n => n, fun | 9 => 9 | 3 => 3 | 4 => 4 | 5 => 5 | 0 => 0 | 46 => 192 | 146 => 327 | 51 => 294 | n => n, fun | 1 => 3 | n => n⟩
theorem zwg : Go.Proofs.Lays.n138 Tryz.prog zsA where
 mixed := by kernel_rfl
 f138 := Tryz.func229.trans (congrArg some (by kernel_rfl))
 f143 := Tryz.func252.trans (congrArg some (by kernel_rfl))
 f195 := Tryz.func250.trans (congrArg some (by kernel_rfl))
 f217 := Tryz.func218.trans (congrArg some (by kernel_rfl))
 f218 := Tryz.func251.trans (congrArg some (by kernel_rfl))
 f219 := Tryz.func241.trans (congrArg some (by kernel_rfl))
 f224 := Tryz.func274.trans (congrArg some (by kernel_rfl))
 f225 := Tryz.func273.trans (congrArg some (by kernel_rfl))
 f266 := Tryz.func240.trans (congrArg some (by kernel_rfl))
 f267 := Tryz.func275.trans (congrArg some (by kernel_rfl))
 f314 := Tryz.func289.trans (congrArg some (by kernel_rfl))
 t0 := Tryz.underlying0
 a0 := Tryz.isAgg0
 z0 := Tryz.sizeOf0
 v0 := Tryz.zeroValue0
 t3 := Tryz.underlying3
 a3 := Tryz.isAgg3
 z3 := Tryz.sizeOf3
 v3 := Tryz.zeroValue3
 t4 := Tryz.underlying4
 a4 := Tryz.isAgg4
 z4 := Tryz.sizeOf4
 v4 := Tryz.zeroValue4
 t5 := Tryz.underlying5
 a5 := Tryz.isAgg5
 z5 := Tryz.sizeOf5
 v5 := Tryz.zeroValue5
 t9 := Tryz.underlying9
 a9 := Tryz.isAgg9
 z9 := Tryz.sizeOf9
 v9 := Tryz.zeroValue9
 t46 := Tryz.underlying192
 a46 := Tryz.isAgg192
 z46 := Tryz.sizeOf192
 v46 := Tryz.zeroValue192
 t51 := Tryz.underlying294
 a51 := Tryz.isAgg294
 z51 := Tryz.sizeOf294
 v51 := Tryz.zeroValue294
 t146 := Tryz.underlying327
 a146 := Tryz.isAgg327
 z146 := Tryz.sizeOf327
 v146 := Tryz.zeroValue327
 g1 := by kernel_rfl
def ziX : Go.Shelf.Ren := ⟨fun | 148 => 230 | 222 => 253 | 223 => 254 | 269 => 279 | n => n, fun | 9 => 9 | 3 => 3 | 4 => 4 | 5 => 5 | 146 => 327 | 51 => 294 | 46 => 192 | n => n, fun | n => n⟩
theorem znA : Go.Proofs.Lays.n148 Tryz.prog ziX where
 mixed := by kernel_rfl
 f148 := Tryz.func230.trans (congrArg some (by kernel_rfl))
 f222 := Tryz.func253.trans (congrArg some (by kernel_rfl))
 f223 := Tryz.func254.trans (congrArg some (by kernel_rfl))
 f269 := Tryz.func279.trans (congrArg some (by kernel_rfl))
 t3 := Tryz.underlying3
 a3 := Tryz.isAgg3
 z3 := Tryz.sizeOf3
 v3 := Tryz.zeroValue3
 t4 := Tryz.underlying4
 a4 := Tryz.isAgg4
 z4 := Tryz.sizeOf4
 v4 := Tryz.zeroValue4
 t5 := Tryz.underlying5
 a5 := Tryz.isAgg5
 z5 := Tryz.sizeOf5
 v5 := Tryz.zeroValue5
 t9 := Tryz.underlying9
 a9 := Tryz.isAgg9
 z9 := Tryz.sizeOf9
 v9 := Tryz.zeroValue9
 t46 := Tryz.underlying192
 a46 := Tryz.isAgg192
 z46 := Tryz.sizeOf192
 v46 := Tryz.zeroValue192
 t51 := Tryz.underlying294
 a51 := Tryz.isAgg294
 z51 := Tryz.sizeOf294
 v51 := Tryz.zeroValue294
 t146 := Tryz.underlying327
 a146 := Tryz.isAgg327
 z146 := Tryz.sizeOf327
 v146 := Tryz.zeroValue327
theorem zlh {c : C} {l : S} {x : Value} (h : VRel c (.str l) x) : x = .string ⟨l.toArray⟩ := by
 simp only [VRel] at h
 obtain ⟨s, rfl, h, _⟩ := h
 congr 1
 rw [← h]
theorem zwh (s : S) (n : Nat) (hn : n < 256) : Ev TE 187 [.str s, .int .u8 n] (vi (Lib.indexByte s (UInt8.ofNat n))) := by
 intro ok w vs hs hl
 simp only [VList, VRel] at hl
 obtain ⟨y, ys, rfl, ⟨b, rfl, hb, _⟩, y2, ys2, rfl, rfl, rfl⟩ := hl
 refine Calls.mono (Any.strings_IndexByte zgI b n w) ?_
 rintro en w' ⟨rfl, rfl⟩
 refine ⟨_, rfl, zab _, ?_⟩
 simp only [VRel]
 rw [hb]
 rfl
theorem zpf (s : S) (c : UInt8) : Ev TE 229 [.str s, .str [c]] (vi (s.count c : Nat)) := by
 intro ok w vs hs hl
 simp only [VList] at hl
 obtain ⟨y, ys, rfl, h1, y2, ys2, rfl, h2, rfl⟩ := hl
 have := zlh h1; subst this
 have := zlh h2; subst this
 refine Calls.mono (Any.strings_Count_one zwg ⟨s.toArray⟩ c w) ?_
 rintro en w' ⟨rfl, rfl⟩
 exact ⟨_, rfl, zab _, by simp only [VRel]; rfl⟩
theorem zsB (s : S) (c : UInt8) (hs0 : s.length ≤ 1000000000) : Ev TE 230 [.str s, .str [c]] (vi (Lib.lastIndexByte ⟨s.toArray⟩ c.toNat)) := by
 intro ok w vs hs hl
 simp only [VList] at hl
 obtain ⟨y, ys, rfl, h1, y2, ys2, rfl, h2, rfl⟩ := hl
 have := zlh h1; subst this
 have := zlh h2; subst this
 refine Calls.mono (Any.strings_LastIndex_one znA ⟨s.toArray⟩ ⟨#[c]⟩ rfl (by show s.toArray.size < _; simp; omega) w) ?_
 rintro en w' ⟨rfl, rfl⟩
 exact ⟨_, rfl, zab _, by simp only [VRel]; rfl⟩
theorem zky (p s : S) : p.isPrefixOf s = (decide (p.length ≤ s.length) && (s.take p.length == p)) := by
 rw [Bool.eq_iff_iff, List.isPrefixOf_iff_prefix, List.prefix_iff_eq_take, Bool.and_eq_true, decide_eq_true_eq, beq_iff_eq]
 constructor
 ·intro h
  have := congrArg List.length h
  rw [List.length_take] at this
  exact ⟨by omega, h.symm⟩
 ·exact fun h => h.2.symm
theorem zpg (s p : S) : Ev TE 196 [.str s, .str p] (.bool (p.isPrefixOf s)) := by
 rw [zky]
 refine zl Tryz.func196 rfl (by simp [nts]) (vm ?_)
 by_cases hle : p.length ≤ s.length
 ·have e1 : decide ((p.length : Int) ≤ (s.length : Int)) = true := by simpa using hle
  have e2 : decide (p.length ≤ s.length) = true := by simpa using hle
  simp only [wq.down, seval, Tryz.results196, e1, e2]
  exact ⟨⟨by omega, by omega⟩, zw.dat rfl⟩
 ·have e1 : decide ((p.length : Int) ≤ (s.length : Int)) = false := by simpa using hle
  have e2 : decide (p.length ≤ s.length) = false := by simpa using hle
  simp only [wq.down, seval, Tryz.results196, e1, e2]
  exact zw.dat rfl
theorem zph (s p : S) : Ev TE 140 [.str s, .str p] (.bool (p.isPrefixOf s)) := by
 refine zl Tryz.func140 rfl (by simp [nts]) (vm ?_)
 simp only [wq.down, seval, Tryz.results140]
 refine zb.ev (zpg s p) rfl ?_
 simp only [wq.down, seval]
 exact zw.dat rfl
theorem zuQ (s : S) (c : UInt8) : Ev TE 218 [.str s, vb c] (vi (Lib.indexByte s c)) := by
 intro ok w vs hs hl
 simp only [VList, VRel] at hl
 obtain ⟨y, ys, rfl, ⟨b, rfl, hb, _⟩, y2, ys2, rfl, rfl, rfl⟩ := hl
 refine Calls.mono (Any.stringslite_IndexByte { zgI with } b c.toNat w) ?_
 rintro en w' ⟨rfl, rfl⟩
 refine ⟨_, rfl, zab _, ?_⟩
 simp only [VRel]
 rw [hb]
 simp
theorem zfM (c : UInt8) : ∀ s : S, (c ∉ s ∧ Lib.indexByte s c = -1 ∧ s.takeWhile (· != c) = s) ∨ (Lib.indexByte s c = ((s.takeWhile (· != c)).length : Int) ∧ (s.takeWhile (· != c)).length < s.length)
 | [] => .inl ⟨by simp, rfl, rfl⟩
 | b :: s => by
  unfold Lib.indexByte
  by_cases hb : b = c
  ·subst hb
   refine .inr ?_
   simp
  ·have h1 : (b == c) = false := by simpa using hb
   have h2 : (b != c) = true := by simpa using hb
   have h3 : Lib.indexByte s c ≥ -1 := Lib.indexByte_ge s c
   rw [h1, if_neg (by decide), List.takeWhile_cons, if_pos h2]
   rcases zfM c s with ⟨a1, a2, a3⟩ | ⟨a1, a2⟩
   ·refine .inl ⟨by simp [a1, Ne.symm hb], ?_, by rw [a3]⟩
    rw [a2]; rfl
   ·refine .inr ⟨?_, by simpa using a2⟩
    rw [a1, if_neg (by simp)]
    simp
theorem znB (s : S) (c : UInt8) (hs : s.length ≤ 1000000000) : Ev TE 241 [.str s, .str [c]] (vi (Lib.indexByte s c)) := by
 have hb := zuQ s c
 refine zl Tryz.func241 rfl (by simp [nts]) (vm ?_)
 by_cases he : ([c] == s) = true
 ·have : s = [c] := (eq_of_beq he).symm
  subst this
  have e0 : Lib.indexByte [c] c = 0 := by simp [Lib.indexByte]
  simp only [wq.down, ↓reduceIte, Nat.reduceEqDiff, Nat.reduceLT, Int.reduceNeg, reduceCtorEq, Tryz.results241, e0]
  exact zw.dat rfl
 ·have he : ([c] == s) = false := by simpa using he
  have e1 : (((1 : Nat) : Int) == 0) = false := by decide
  have e2 : (((1 : Nat) : Int) == 1) = true := by decide
  simp only [wq.down, ↓reduceIte, Nat.reduceEqDiff, Nat.reduceLT, Nat.reduceLeDiff, Nat.reduceAdd, Nat.reduceSub, Int.reduceToNat, Nat.reduceDiv, Int.reduceLT, Int.reduceLE, Int.reduceNeg, Int.reduceBEq, Int.reduceBNe, Int.reduceAdd, Int.reduceSub, Nat.reduceBEq, reduceCtorEq, Nat.reduceMul, zn, Tryz.results241, he, e1, e2]
  refine ⟨by decide, zb.ev hb rfl ?_⟩
  simp only [wq.down, ↓reduceIte, Nat.reduceLT, Int.reduceNeg]
  exact zw.dat rfl
def ztN (s : S) (c : UInt8) : V := if Lib.indexByte s c < 0 then .tup [.str s, .str [], .bool false] else .tup [.str (s.takeWhile (· != c)), .str (s.drop ((s.takeWhile (· != c)).length + 1)), .bool true]
theorem zsC (s : S) (c : UInt8) (hs : s.length ≤ 1000000000) : Ev TE 220 [.str s, .str [c]] (ztN s c) := by
 have hi := znB s c hs
 unfold ztN
 refine zl Tryz.func220 rfl (by simp [nts]) (vm ?_)
 simp only [wq.down, seval, Tryz.results220]
 refine zb.ev hi rfl ?_
 simp only [wq.down, seval]
 rcases zfM c s with ⟨a1, a2, a3⟩ | ⟨a1, a2⟩
 ·have e1 : decide ((0 : Int) ≤ Lib.indexByte s c) = false := by rw [a2]; decide
  rw [if_pos (by omega)]
  simp only [wq.down, ↓reduceIte, Nat.reduceEqDiff, Nat.reduceLT, Nat.reduceLeDiff, Nat.reduceAdd, Nat.reduceSub, Int.reduceToNat, Nat.reduceDiv, Int.reduceLT, Int.reduceLE, Int.reduceNeg, Int.reduceBEq, Int.reduceBNe, Int.reduceAdd, Int.reduceSub, Nat.reduceBEq, reduceCtorEq, Nat.reduceMul, zn, Tryz.results220, e1]
  exact zw.dat rfl
 ·have e1 : decide ((0 : Int) ≤ Lib.indexByte s c) = true := by rw [a1]; simp
  rw [a1] at e1
  rw [if_neg (by omega)]
  have w1 : IntKind.i64.wrap (((s.takeWhile (· != c)).length : Int) + ((1 : Nat) : Int)) = ((s.takeWhile (· != c)).length + 1 : Nat) := by rw [z6 (by omega) (by omega)]; omega
  simp only [wq.down, ↓reduceIte, Nat.reduceEqDiff, Nat.reduceLT, Nat.reduceLeDiff, Nat.reduceAdd, Nat.reduceSub, Int.reduceToNat, Nat.reduceDiv, Int.reduceLT, Int.reduceLE, Int.reduceNeg, Int.reduceBEq, Int.reduceBNe, Int.reduceAdd, Int.reduceSub, Nat.reduceBEq, reduceCtorEq, Nat.reduceMul, zn, Tryz.results220, e1, a1, w1]
  have e3 : s.take (s.takeWhile (· != c)).length = s.takeWhile (· != c) := (List.prefix_iff_eq_take.1 (List.takeWhile_prefix _)).symm
  refine ⟨by decide +kernel, ⟨by omega, by omega⟩, ⟨by omega, by omega⟩, ?_⟩
  rw [e3]
  exact zw.dat rfl
theorem zwi (s : S) (c : UInt8) (hs : s.length ≤ 1000000000) : Ev TE 189 [.str s, .str [c]] (ztN s c) := by
 have hc := zsC s c hs
 unfold ztN at hc ⊢
 by_cases hn : Lib.indexByte s c < 0
 ·rw [if_pos hn] at hc ⊢
  refine zl Tryz.func189 rfl (by simp [nts]) (vm ?_)
  simp only [wq.down, seval, Tryz.results189]
  refine zb.ev hc rfl ?_
  simp only [wq.down, seval]
  exact zw.dat rfl
 ·rw [if_neg hn] at hc ⊢
  refine zl Tryz.func189 rfl (by simp [nts]) (vm ?_)
  simp only [wq.down, seval, Tryz.results189]
  refine zb.ev hc rfl ?_
  simp only [wq.down, seval]
  exact zw.dat rfl
def zxz (c : UInt8) : Bool := c == 48 || c == 49 || c == 120
def sgv (c : UInt8) : Int := Lib.indexByte [48, 49, 120] c
inductive VQ (k : Nat) (h : H) (L : S) : Fr → H → Prop
 | mk (f : Fr) (X : O) (i : Nat) (h0 : f.t 0 = .lp k 0) (h3 : f.t 3 = .ls (h.length + 1) 1 0 i i) (hd : f.d = []) (hfk : ∀ j, j < h.length → f.k j = false) (hil : i ≤ L.length) (htw : L.takeWhile zxz = L.take i) : VQ k h L f (h ++ [X, .cells (((L.take i).map sgv).map vi)])
theorem zfN (s : ByteArray) (c : Int) : ∀ k : Nat, -1 ≤ Lib.lastIdx s c k ∧ Lib.lastIdx s c k < k
 | 0 => by simp [Lib.lastIdx]
 | k + 1 => by
  have := zfN s c k
  unfold Lib.lastIdx
  split <;> omega
def ziY (a b : Int) (s : S) : Int × Int := if s.count 10 = 0 then (a, b + s.length) else (a + (s.count 10 : Nat), s.length - Lib.lastIndexByte ⟨s.toArray⟩ 10)
def ztO : Plan := .take 0 <| .take 2 <| .take 4 <| .take 6 <| .alt 1 (.alt 3 (.alt 5 (.one 7 <| .one 8 <| .one 9 <| .one 10 <| .fin) (.one 7 (.one 5 <| .one 8 <| .one 9 <| .one 10 <| .fin))) (.alt 5 (.alt 3 (.one 7 <| .one 8 <| .one 9 <| .one 10 <| .fin) (.one 7 (.alt 3 (.one 8 <| .one 9 <| .one 10 <| .fin) (.one 8 (.one 3 <| .one 9 <| .one 10 <| .fin))))) (.one 7 (.alt 3 (.one 5 <| .one 8 <| .one 9 <| .one 10 <| .fin) (.one 5 (.alt 3 (.one 8 <| .one 9 <| .one 10 <| .fin) (.one 8 (.one 3 <| .one 9 <| .one 10 <| .fin)))))))) (.alt 5 (.alt 1 (.alt 3 (.one 7 <| .one 8 <| .one 9 <| .one 10 <| .fin) (.one 7 (.alt 3 (.one 8 <| .one 9 <| .one 10 <| .fin) (.one 8 (.one 3 <| .one 9 <| .one 10 <| .fin))))) (.one 7 (.alt 1 (.alt 3 (.one 8 <| .one 9 <| .one 10 <| .fin) (.one 8 (.one 3 <| .one 9 <| .one 10 <| .fin))) (.one 8 (.one 1 <| .one 3 <| .one 9 <| .one 10 <| .fin))))) (.one 7 (.alt 1 (.alt 3 (.one 5 <| .one 8 <| .one 9 <| .one 10 <| .fin) (.one 5 (.alt 3 (.one 8 <| .one 9 <| .one 10 <| .fin) (.one 8 (.one 3 <| .one 9 <| .one 10 <| .fin))))) (.one 5 (.alt 1 (.alt 3 (.one 8 <| .one 9 <| .one 10 <| .fin) (.one 8 (.one 3 <| .one 9 <| .one 10 <| .fin))) (.one 8 (.one 1 <| .one 3 <| .one 9 <| .one 10 <| .fin)))))))
theorem zsD (a b : Int) (s : S) (ha : 0 ≤ a ∧ a ≤ 1000000000) (hb : 0 ≤ b ∧ b ≤ 1000000000) (hs : s.length ≤ 1000000000) : Ev TE 208 [.agg [vi a, vi b], .str s] (.agg [vi (ziY a b s).1, vi (ziY a b s).2]) := by
 have hc : s.count 10 ≤ s.length := List.count_le_length
 have hl := zfN ⟨s.toArray⟩ 10 s.length
 have hl' : Lib.lastIndexByte ⟨s.toArray⟩ 10 = Lib.lastIdx ⟨s.toArray⟩ 10 s.length := rfl
 refine zl Tryz.func208 rfl (by simp [nts]) ?_
 refine za (vm ?_)
 simp only [wq.down, Nat.reduceLT, Tryz.results208]
 refine za (vm ?_)
 simp only [wq.down, seval]
 refine zb.ev (zpf s 10) rfl ?_
 simp only [wq.down, seval]
 refine za (vm ?_)
 simp only [wq.down, ↓reduceIte, Nat.reduceLT]
 refine vcB.mk (fun h0 => ?_) (fun h0 => ?_)
 ·have h0 : s.count 10 = 0 := by simpa using h0
  have w1 : IntKind.i64.wrap (b + (s.length : Int)) = b + s.length := z6 (by omega) (by omega)
  simp only [wq.down, ↓reduceIte, Nat.reduceEqDiff, Nat.reduceLT, Nat.reduceLeDiff, Nat.reduceAdd, Int.reduceToNat, Int.reduceLE, reduceCtorEq, Nat.reduceMul, w1]
  unfold ziY
  rw [if_pos h0]
  exact ⟨by decide, by decide, zw.dat rfl⟩
 ·have h0 : s.count 10 ≠ 0 := by simpa using h0
  have w1 : IntKind.i64.wrap (a + ((s.count 10 : Nat) : Int)) = a + (s.count 10 : Nat) := z6 (by omega) (by omega)
  have w2 : IntKind.i64.wrap ((s.length : Int) - Lib.lastIndexByte ⟨s.toArray⟩ 10) = s.length - Lib.lastIndexByte ⟨s.toArray⟩ 10 := z6 (by omega) (by omega)
  simp only [wq.down]
  refine za ?_
  refine zN mixed ztO (fun f' h' => f'.t 4 = .lp 1 0 ∧ f'.d = [] ∧ h' = [.cells [vi a, vi b], .cells [vi (a + (s.count 10 : Nat)), vi (s.length - Lib.lastIndexByte ⟨s.toArray⟩ 10)]]) (by decide +kernel) (by decide +kernel) ?_ ?_
  ·have hten : ((10 : UInt8).toNat : Int) = 10 := rfl
   simp only [wq.down, seval, ztO]
   repeat' apply And.intro
   all_goals try (first | decide | rfl)
   all_goals (refine zb.ev (zsB s 10 hs) rfl ?_)
   all_goals (simp only [wq.down, seval, w1, w2, hten])
   all_goals trace_state
  ·rintro f h ⟨h4, hd, rfl⟩
   simp only [wq.down]
   refine vm ?_
   simp only [wq.down, seval, h4, hd]
   unfold ziY
   rw [if_neg h0]
   exact zw.dat rfl
theorem mx (a b : Int) : zn4 [vi a, vi b] = (True, vi (max a b)) := by
 simp only [zn4, Int.max_def]
 split <;> split <;> first | rfl | (congr 2; omega)
theorem mn (a b : Int) : zn3 [vi a, vi b] = (True, vi (min a b)) := by
 simp only [zn3, Int.min_def]
 split <;> split <;> first | rfl | (congr 2; omega)
def zaw (s : S) (a : Int) : Int × Int := ziY 1 1 (s.take (min (max a 0) (s.length : Int)).toNat)
def zpi : Plan := .take 0 <| .take 2 <| .alt 1 (.take 4 <| .one 3 <| .take 5 <| .fin) (.one 3 (.one 1 <| .take 4 <| .take 5 <| .fin))
def ztP : Plan := .take 1 <| .take 2 <| .take 4 <| .alt 0 (.alt 3 (.alt 5 (.alt 6 (.take 7 <| .alt 8 (.one 9 <| .one 10 <| .fin) (.one 9 (.one 8 <| .one 10 <| .fin))) (.one 9 (.one 6 <| .take 7 <| .one 8 <| .one 10 <| .fin))) (.one 9 (.one 5 <| .one 6 <| .take 7 <| .one 8 <| .one 10 <| .fin))) (.alt 5 (.alt 3 (.alt 6 (.take 7 <| .alt 8 (.one 9 <| .one 10 <| .fin) (.one 9 (.one 8 <| .one 10 <| .fin))) (.one 9 (.one 6 <| .take 7 <| .one 8 <| .one 10 <| .fin))) (.one 9 (.one 3 <| .one 6 <| .take 7 <| .one 8 <| .one 10 <| .fin))) (.one 9 (.alt 3 (.one 5 <| .one 6 <| .take 7 <| .one 8 <| .one 10 <| .fin) (.one 5 (.one 3 <| .one 6 <| .take 7 <| .one 8 <| .one 10 <| .fin)))))) (.alt 3 (.alt 0 (.alt 5 (.alt 6 (.take 7 <| .alt 8 (.one 9 <| .one 10 <| .fin) (.one 9 (.one 8 <| .one 10 <| .fin))) (.one 9 (.one 6 <| .take 7 <| .one 8 <| .one 10 <| .fin))) (.one 9 (.one 5 <| .one 6 <| .take 7 <| .one 8 <| .one 10 <| .fin))) (.alt 5 (.alt 0 (.alt 6 (.take 7 <| .alt 8 (.one 9 <| .one 10 <| .fin) (.one 9 (.one 8 <| .one 10 <| .fin))) (.one 9 (.one 6 <| .take 7 <| .one 8 <| .one 10 <| .fin))) (.alt 6 (.take 7 <| .alt 0 (.alt 8 (.one 9 <| .one 10 <| .fin) (.one 9 (.one 8 <| .one 10 <| .fin))) (.one 9 (.one 0 <| .one 8 <| .one 10 <| .fin))) (.one 9 (.alt 0 (.one 6 <| .take 7 <| .one 8 <| .one 10 <| .fin) (.one 6 (.take 7 <| .one 0 <| .one 8 <| .one 10 <| .fin)))))) (.one 9 (.alt 0 (.one 5 <| .one 6 <| .take 7 <| .one 8 <| .one 10 <| .fin) (.one 5 (.alt 0 (.one 6 <| .take 7 <| .one 8 <| .one 10 <| .fin) (.one 6 (.take 7 <| .one 0 <| .one 8 <| .one 10 <| .fin)))))))) (.alt 5 (.alt 0 (.alt 3 (.alt 6 (.take 7 <| .alt 8 (.one 9 <| .one 10 <| .fin) (.one 9 (.one 8 <| .one 10 <| .fin))) (.one 9 (.one 6 <| .take 7 <| .one 8 <| .one 10 <| .fin))) (.one 9 (.one 3 <| .one 6 <| .take 7 <| .one 8 <| .one 10 <| .fin))) (.alt 3 (.alt 0 (.alt 6 (.take 7 <| .alt 8 (.one 9 <| .one 10 <| .fin) (.one 9 (.one 8 <| .one 10 <| .fin))) (.one 9 (.one 6 <| .take 7 <| .one 8 <| .one 10 <| .fin))) (.alt 6 (.take 7 <| .alt 0 (.alt 8 (.one 9 <| .one 10 <| .fin) (.one 9 (.one 8 <| .one 10 <| .fin))) (.one 9 (.one 0 <| .one 8 <| .one 10 <| .fin))) (.one 9 (.alt 0 (.one 6 <| .take 7 <| .one 8 <| .one 10 <| .fin) (.one 6 (.take 7 <| .one 0 <| .one 8 <| .one 10 <| .fin)))))) (.one 9 (.alt 0 (.one 3 <| .one 6 <| .take 7 <| .one 8 <| .one 10 <| .fin) (.one 3 (.alt 0 (.one 6 <| .take 7 <| .one 8 <| .one 10 <| .fin) (.one 6 (.take 7 <| .one 0 <| .one 8 <| .one 10 <| .fin)))))))) (.one 9 (.alt 0 (.alt 3 (.one 5 <| .one 6 <| .take 7 <| .one 8 <| .one 10 <| .fin) (.one 5 (.one 3 <| .one 6 <| .take 7 <| .one 8 <| .one 10 <| .fin))) (.alt 3 (.alt 0 (.one 5 <| .one 6 <| .take 7 <| .one 8 <| .one 10 <| .fin) (.one 5 (.alt 0 (.one 6 <| .take 7 <| .one 8 <| .one 10 <| .fin) (.one 6 (.take 7 <| .one 0 <| .one 8 <| .one 10 <| .fin))))) (.one 5 (.alt 0 (.one 3 <| .one 6 <| .take 7 <| .one 8 <| .one 10 <| .fin) (.one 3 (.alt 0 (.one 6 <| .take 7 <| .one 8 <| .one 10 <| .fin) (.one 6 (.take 7 <| .one 0 <| .one 8 <| .one 10 <| .fin)))))))))))
set_option maxHeartbeats 8000000 in
theorem zpj (s : S) (a : Int) (hs : s.length ≤ 1000000000) : Ev TE 170 [.str s, vi a] (.tup [vi (zaw s a).1, vi (zaw s a).2]) := by
 refine zl Tryz.func170 rfl (by simp [nts]) ?_
 refine za (vm ?_)
 simp only [wq.down, Nat.reduceLT, Tryz.results170]
 refine za (vm ?_)
 refine zN mixed ztP (fun f' h' => f'.t 6 = .lp 0 0 ∧ f'.d = [] ∧ h' = [.cells [vi (zaw s a).1, vi (zaw s a).2]]) (by decide +kernel) (by decide +kernel) ?_ ?_
 ·have hm : 0 ≤ min (max a 0) (s.length : Int) ∧ min (max a 0) (s.length : Int) ≤ s.length := by omega
  have hov := zsD 1 1 (s.take (min (max a 0) (s.length : Int)).toNat) (by decide) (by decide) (by rw [List.length_take]; omega)
  simp only [wq.down, seval, ztP, gl0, zoE, mx, mn]
  repeat' apply And.intro
  all_goals try omega
  all_goals (refine zb.ev hov rfl ?_)
  all_goals (simp only [wq.down, ↓reduceIte, Nat.reduceEqDiff, Nat.reduceLT, Nat.reduceAdd])
  all_goals rfl
 ·rintro f h ⟨h6, hd, rfl⟩
  refine za ?_
  refine zN mixed zpi (fun f' h' => f'.t 4 = vi (zaw s a).1 ∧ f'.t 5 = vi (zaw s a).2 ∧ f'.d = []) (by decide +kernel) (by decide +kernel) ?_ ?_
  ·simp only [wq.down, ↓reduceIte, Nat.reduceEqDiff, Nat.reduceLT, Nat.reduceLeDiff, Nat.reduceAdd, Int.reduceToNat, Int.reduceLE, Nat.reduceMul, zpi, h6, hd]
   exact ⟨by decide, by decide⟩
  ·rintro f h ⟨h4, h5, hd⟩
   simp only [wq.down]
   refine vm ?_
   simp only [wq.down, h4, h5, hd]
   exact zw.dat rfl
def zW (s : S) (a e : Int) : V := if e = 0 then .agg [vi 0, vi 0, vi 0] else .agg [vi e, vi (zaw s a).1, vi (zaw s a).2]
theorem zsE (s : S) (a e : Int) (hs : s.length ≤ 1000000000) : Ev TE 97 [.str s, vi a, vi e] (zW s a e) := by
 unfold zW
 refine zl Tryz.func97 rfl (by simp [nts]) (vm ?_)
 simp only [wq.down, seval, Tryz.results97]
 refine vcB.mk (fun hc => ?_) (fun hc => ?_)
 ·have hc : e = 0 := by simpa using hc
  simp only [wq.down, seval]
  rw [if_pos hc]
  exact zw.dat rfl
 ·have hc : e ≠ 0 := by simpa using hc
  simp only [wq.down, seval]
  refine zb.ev (zpj s a hs) rfl ?_
  simp only [wq.down, seval]
  rw [if_neg hc]
  exact zw.dat rfl
theorem zb6 : zic P 38 [.i64, .i64, .i64] := by
 refine ⟨by kernel_rfl, fun w xs ys hx hy => ?_⟩
 match xs, hx with
 | [a, b, c], _ =>
 match ys, hy with
 | [a', b', c'], _ =>
 have p0 : ∀ (x y z : Value), (part 31 #[x, y, z] 0).run P w = .ok x w := fun x y z => zZ Tryz.underlying31 (by simp)
 have p1 : ∀ (x y z : Value), (part 3 #[x, y, z] 1).run P w = .ok y w := fun x y z => zZ Tryz.underlying3 (by simp)
 have p2 : ∀ (x y z : Value), (part 3 #[x, y, z] 2).run P w = .ok z w := fun x y z => zZ Tryz.underlying3 (by simp)
 have hso : P.stoodInHeld 38 = false := by kernel_rfl
 show (Op.equalIn 10000 38 (.agg #[.int .i64 a, .int .i64 b, .int .i64 c]) (.agg #[.int .i64 a', .int .i64 b', .int .i64 c'])).run P w = .ok ([a, b, c] == [a', b', c']) w
 rw [Op.equalIn]
 have e31 := zcb (P := P) (w := w) Tryz.underlying31 9998
 have e3 := zcb (P := P) (w := w) Tryz.underlying3 9998
 simp only [Sem.run_bind, run_underlying Tryz.underlying38, Result.andThen]
 by_cases ha : a = a'
 ·subst ha
  by_cases hb : b = b'
  ·subst hb
   by_cases hc : c = c'
   ·subst hc
    simp [hso, p0, p1, p2, e31, e3, Sem.run_bind, Result.andThen]
   ·have hc' : (c == c') = false := by simpa using hc
    simp [hso, p0, p1, p2, e31, e3, Sem.run_bind, Result.andThen, hc', hc]
  ·have hb' : (b == b') = false := by simpa using hb
   simp [hso, p0, p1, p2, e31, e3, Sem.run_bind, Result.andThen, hb', hb]
 ·have ha' : (a == a') = false := by simpa using ha
  simp [hso, p0, p1, p2, e31, e3, Sem.run_bind, Result.andThen, ha', ha]
theorem zhE {s : S} {a : Nat} {c : UInt8} (h : zfL s a c = true) : a < s.length := by
 unfold zfL at h
 simp only [beq_iff_eq] at h
 exact (List.getElem?_eq_some_iff.1 h).1
end Go.Proofs.YtboolnpmlmgpkaaGreatDoor
