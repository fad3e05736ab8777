/- Texts of the proof of the law PrinterDiffers, part 0: plain words, and walks through the program's functions. -/
import Derived.Shelf.Strings.Builder1
import Derived.Shelf.Strings.BuilderF
import Derived.Shelf.Strings.BuilderK
import Derived.Shelf.Strings.BuilderRune
import Derived.Shelf.Strconv.Atoi
import Derived.Shelf.Strconv.Itoa0
import Derived.Shelf.Strconv.Itoa1
import Derived.Shelf.LaysM
import Derived.Shelf.Strconv.Itoa2
import Derived.Shelf.Strconv.Itoa3
import Derived.Shelf.Strconv.AtoiErrFast
import Derived.Shelf.Strconv.ParseIntEmpty
import Derived.Shelf.Strconv.AtoiFail
import Derived.Shelf.Strconv.Clone
import Derived.Shelf.Strconv.SyntaxError
import Derived.Shelf.LaysC
import Derived.Shelf.Strconv.ToError
import Derived.Shelf.Strconv.Lower
import Derived.Shelf.Strconv.ParseUint10
import Derived.Shelf.Strconv.ParseUint10Empty
import Derived.Shelf.Strconv.ParseUint10Any
import Derived.Shelf.Strconv.ParseInt10
import Derived.Shelf.Strconv.AtoiLong
import Derived.Shelf.Strconv.AtoiInnerAll
import Derived.Shelf.Strconv.RangeError
import Derived.Shelf.Strconv.ToErrorRange
import Derived.Shelf.Strconv.AtoiAll
import Derived.Shelf.Strconv.ParseUintEmpty
import Derived.Shelf.Strconv.ParseUint10b64
import Derived.Shelf.Strconv.ParseUint10b32
import Derived.Shelf.Strconv.ParseUint10b16
import Derived.Shelf.Strconv.ParseUint10b8
import Derived.Shelf.Strconv.AppendUint10
import Derived.Shelf.Strconv.AppendInt10
import Derived.Shelf.Strconv.AppendIntPublic10
import Derived.Test.YtdedlchpjboceaaDoorProg
import Derived.RangeFuncNested
import Derived.RangeFuncBound
import Derived.RangeFuncBox
import Derived.RangeFuncCalls
import Derived.RangeFuncLeaves
import Derived.Shelf.Abstract
import Derived.Shelf.RegionOpen
import Derived.WalkKit
import Derived.OwnWalkIn
import Derived.TacticsInMore
import Derived.LoopNIn
import Derived.LoopIn
import Derived.LoopTactic
import Derived.BigGuardPart
import Derived.Maps.AppendAt
import Derived.Lib.Hide
import Derived.Below
import Derived.Deep.Draws
import Derived.Deep.AppendLies
import Derived.OwnWalk
import Derived.Laws.BytesArg
import Derived.Laws.MakeOwn
import Derived.Laws.OwnMore
import Derived.Deep.OwnRows
import Derived.Tactics
import Derived.Lib.ConvBytes
import Derived.Laws.Slices
import Derived.KernelRfl
import Derived.RowKit3
import Derived.Deep.LoopGhost
import Derived.Deep.QuietTactic
import Derived.BigQuiet
import Derived.WideLaws
import Derived.Deep.DeepCutAuto
import Derived.Deep.CutBlock
import Derived.Deep.RegionHeld3
import Derived.Laws.Rows
import Derived.Lib.AppendStr
import Derived.ArgAppend
import Derived.Laws.IdiomCopy
import Derived.OrdersHeld
import Derived.Laws.BitsLemmas
import Derived.RowKit
import Derived.Test.YtdedlchpjboceaaDoorWWords
import Derived.Test.YtdedlchpjboceaaDoorWLast
import Derived.Test.YtdedlchpjboceaaDoorWTab
import Derived.Test.YtdedlchpjboceaaDoorWFour
import Derived.Test.YtdedlchpjboceaaDoorWQPut
import Derived.Test.YtdedlchpjboceaaDoorWApart
import Derived.Test.YtdedlchpjboceaaDoorWArr
import Derived.Test.YtdedlchpjboceaaDoorWZeros
import Derived.Test.YtdedlchpjboceaaDoorWFoot
import Derived.Test.YtdedlchpjboceaaDoorWKept
import Derived.Test.YtdedlchpjboceaaDoorWShare
import Derived.Test.YtdedlchpjboceaaDoorWN
import Derived.Test.YtdedlchpjboceaaDoorWFootNe
import Derived.Test.YtdedlchpjboceaaDoorWAt
import Derived.Test.YtdedlchpjboceaaDoorWEqStruct
import Derived.Test.YtdedlchpjboceaaDoorWRepsOne
import Derived.Test.YtdedlchpjboceaaDoorWInv
import Derived.Test.YtdedlchpjboceaaDoorWInvWords
import Derived.Test.YtdedlchpjboceaaDoorWGuard
import Derived.Test.YtdedlchpjboceaaDoorWNEv
import Derived.Test.YtdedlchpjboceaaDoorWMore
import Derived.Lib.AtoiErrMem
import Derived.WalkLawsBesides
import Derived.MapKept
import Derived.Maps.Own
import Derived.Defers
import Derived.Recover

section
/-
  DERIVED: THE SHELF's CONTRACTS AT THIS DUMP, IN PLAIN WORDS (tools/lay-plain.mjs out of 'TrydShelf.lean', which tools/lay-shelf.mjs wrote): THE SAME DECLARATIONS UNDER THE SAME NAMES: 'import', 'namespace', 'open', 'def', 'theorem' AND NOTHING ELSE: no command of the shelf's: FOR A HAND-IN. Each laying: the table of numbers ('.._ren') and one theorem, a field a fact of the dump's own or the kernel's comparison; each contract: ONE APPLICATION.
-/
namespace Go.Proofs
open Go.Shelf
def Tryd.lays169_ren : Go.Shelf.Ren := ⟨fun | 169 => 50 | n => n, fun | 70 => 77 | 9 => 9 | 0 => 0 | 72 => 79 | 37 => 58 | 127 => 115 | 3 => 3 | 5 => 5 | n => n, fun | n => n⟩
theorem Tryd.lays169 : Go.Proofs.Lays.n169 Tryd.prog Tryd.lays169_ren := {
  mixed := by kernel_rfl
  f169 := Tryd.func50.trans (congrArg some (by kernel_rfl))
  t0 := Tryd.underlying0
  a0 := Tryd.isAgg0
  z0 := Tryd.sizeOf0
  v0 := Tryd.zeroValue0
  t3 := Tryd.underlying3
  a3 := Tryd.isAgg3
  z3 := Tryd.sizeOf3
  v3 := Tryd.zeroValue3
  t9 := Tryd.underlying9
  a9 := Tryd.isAgg9
  z9 := Tryd.sizeOf9
  v9 := Tryd.zeroValue9
  t37 := Tryd.underlying58
  a37 := Tryd.isAgg58
  z37 := Tryd.sizeOf58
  v37 := Tryd.zeroValue58
  t70 := Tryd.underlying77
  a70 := Tryd.isAgg77
  z70 := Tryd.sizeOf77
  v70 := Tryd.zeroValue77
  t72 := Tryd.underlying79
  a72 := Tryd.isAgg79
  z72 := Tryd.sizeOf79
  v72 := Tryd.zeroValue79
  t127 := Tryd.underlying115
  a127 := Tryd.isAgg115
  z127 := Tryd.sizeOf115
  v127 := Tryd.zeroValue115 }
theorem Tryd.Builder_Extra_169 : Builder.Extra Tryd.prog Tryd.lays169_ren := {
  sizeBuilder := by kernel_rfl
  liesBuilder := by kernel_rfl
  t5 := Tryd.underlying5
  a5 := Tryd.isAgg5
  z5 := Tryd.sizeOf5
  v5 := Tryd.zeroValue5
  infoByte := by kernel_rfl
  cellsByte := by kernel_rfl
  sizeByte := by kernel_rfl
  neB5 := by decide }
open Go.RowKit in
/-- (*strings.Builder).String: "String returns the accumulated string.": WHATEVER THE BUILDER HOLDS; THE FORM '_k': OVER 'Lib.IsBuilderF' (a builder that 'String()' may have read), AND WITH THE FRAME THAT REACHES ABOVE THE BUILDER: 'Lib.OthersKept': every block that is not b and is no row of uint8's stands as it stood: the iterator of a range among them. (LAID: no walk: one application.) -/
theorem Tryd.Builder_String_any_k (B b : Nat) (l : List UInt8) (w : World) (h : Lib.IsBuilderF 79 5 B b (Lib.byteCells l) w) (hBw : B ≤ w.heap.size) :
    Calls Tryd.prog 50 #[.pointer (some ⟨b, 0, none⟩)] w fun e w' => e = .returned (.string ⟨l.toArray⟩) ∧ (Lib.IsBuilderF 79 5 B b (Lib.byteCells l) w' ∧ Below B w w' ∧ Lib.OthersKept 5 (some b) w w') := Any.Builder_String_any_k Tryd.lays169 Tryd.Builder_Extra_169 B b l w h hBw
def Tryd.laysM171_ren : Go.Shelf.Ren := ⟨fun | 171 => 40 | 243 => 63 | 246 => 92 | 283 => 113 | 284 => 114 | 285 => 115 | 286 => 116 | 129 => 125 | 317 => 124 | 318 => 126 | 319 => 127 | 320 => 128 | 337 => 132 | 338 => 133 | n => n, fun | 3 => 3 | 9 => 9 | 2 => 2 | 4 => 4 | 171 => 128 | 0 => 0 | 53 => 120 | 37 => 58 | 5 => 5 | 173 => 131 | 212 => 144 | 51 => 141 | 20 => 20 | 213 => 145 | 46 => 147 | 232 => 159 | 233 => 160 | n => n, fun | 17 => 1 | 18 => 4 | 19 => 5 | n => n⟩
theorem Tryd.laysM171 : Go.Proofs.LaysM.n171 Tryd.prog Tryd.laysM171_ren := {
  mixed := by kernel_rfl
  f129 := Tryd.func125.trans (congrArg some (by kernel_rfl))
  f171 := Tryd.func40.trans (congrArg some (by kernel_rfl))
  f243 := Tryd.func63.trans (congrArg some (by kernel_rfl))
  f246 := Tryd.func92.trans (congrArg some (by kernel_rfl))
  f283 := Tryd.func113.trans (congrArg some (by kernel_rfl))
  f284 := Tryd.func114.trans (congrArg some (by kernel_rfl))
  f285 := Tryd.func115.trans (congrArg some (by kernel_rfl))
  f286 := Tryd.func116.trans (congrArg some (by kernel_rfl))
  f317 := Tryd.func124.trans (congrArg some (by kernel_rfl))
  f318 := Tryd.func126.trans (congrArg some (by kernel_rfl))
  f319 := Tryd.func127.trans (congrArg some (by kernel_rfl))
  f320 := Tryd.func128.trans (congrArg some (by kernel_rfl))
  f337 := Tryd.func132.trans (congrArg some (by kernel_rfl))
  f338 := Tryd.func133.trans (congrArg some (by kernel_rfl))
  t0 := Tryd.underlying0
  a0 := Tryd.isAgg0
  z0 := Tryd.sizeOf0
  v0 := Tryd.zeroValue0
  t2 := Tryd.underlying2
  a2 := Tryd.isAgg2
  z2 := Tryd.sizeOf2
  v2 := Tryd.zeroValue2
  t3 := Tryd.underlying3
  a3 := Tryd.isAgg3
  z3 := Tryd.sizeOf3
  v3 := Tryd.zeroValue3
  t4 := Tryd.underlying4
  a4 := Tryd.isAgg4
  z4 := Tryd.sizeOf4
  v4 := Tryd.zeroValue4
  t5 := Tryd.underlying5
  a5 := Tryd.isAgg5
  z5 := Tryd.sizeOf5
  v5 := Tryd.zeroValue5
  t9 := Tryd.underlying9
  a9 := Tryd.isAgg9
  z9 := Tryd.sizeOf9
  v9 := Tryd.zeroValue9
  t20 := Tryd.underlying20
  a20 := Tryd.isAgg20
  z20 := Tryd.sizeOf20
  v20 := Tryd.zeroValue20
  t37 := Tryd.underlying58
  a37 := Tryd.isAgg58
  z37 := Tryd.sizeOf58
  v37 := Tryd.zeroValue58
  t46 := Tryd.underlying147
  a46 := Tryd.isAgg147
  z46 := Tryd.sizeOf147
  v46 := Tryd.zeroValue147
  t51 := Tryd.underlying141
  a51 := Tryd.isAgg141
  z51 := Tryd.sizeOf141
  v51 := Tryd.zeroValue141
  t53 := Tryd.underlying120
  a53 := Tryd.isAgg120
  z53 := Tryd.sizeOf120
  v53 := Tryd.zeroValue120
  t171 := Tryd.underlying128
  a171 := Tryd.isAgg128
  z171 := Tryd.sizeOf128
  v171 := Tryd.zeroValue128
  t173 := Tryd.underlying131
  a173 := Tryd.isAgg131
  z173 := Tryd.sizeOf131
  v173 := Tryd.zeroValue131
  t212 := Tryd.underlying144
  a212 := Tryd.isAgg144
  z212 := Tryd.sizeOf144
  v212 := Tryd.zeroValue144
  t213 := Tryd.underlying145
  a213 := Tryd.isAgg145
  z213 := Tryd.sizeOf145
  t232 := Tryd.underlying159
  a232 := Tryd.isAgg159
  z232 := Tryd.sizeOf159
  v232 := Tryd.zeroValue159
  t233 := Tryd.underlying160
  a233 := Tryd.isAgg160
  z233 := Tryd.sizeOf160
  v233 := Tryd.zeroValue160
  g17 := by kernel_rfl
  g18 := by kernel_rfl
  g19 := by kernel_rfl
  i0 := by kernel_rfl
  i2 := by kernel_rfl
  i3 := by kernel_rfl
  i4 := by kernel_rfl
  i5 := by kernel_rfl
  i9 := by kernel_rfl
  i20 := by kernel_rfl
  i37 := by kernel_rfl
  i46 := by kernel_rfl
  i51 := by kernel_rfl
  i53 := by kernel_rfl
  i171 := by kernel_rfl
  i173 := by kernel_rfl
  i212 := by kernel_rfl
  i232 := by kernel_rfl
  i233 := by kernel_rfl
  m17 := by kernel_rfl
  m18 := by kernel_rfl
  m19 := by kernel_rfl }
open Go.RowKit Go.Sort Go.Lib in
/-- strconv.Itoa: "Itoa is equivalent to FormatInt(int64(i), 10).": i's DECIMAL NUMERAL ('Lib.itoa': a '-' where i is negative, then the digits), FOR EVERY int. The world behind the call: the world before it, new blocks behind the heap (the library's 'var a [24]byte'), draws. (LAID: no walk: one application.) -/
theorem Tryd.strconv_Itoa (n : Int) (h0 : -9223372036854775808 ≤ n) (h1 : n ≤ 9223372036854775807) (w : World) (htab : Lib.TabIs Tryd.prog w "internal/strconv.uint64pow10" .u64 Lib.pow10Tab) :
    Calls Tryd.prog 40 #[.int .i64 n] w fun e w' => e = .returned (.string ⟨(Lib.itoa n).toArray⟩) ∧ ∃ k os, w' = grow (w.drewN k) os := Any.strconv_Itoa Tryd.laysM171 n h0 h1 w htab
def Tryd.laysC172_ren : Go.Shelf.Ren := ⟨fun | 172 => 79 | 244 => 106 | 245 => 107 | 247 => 117 | 279 => 118 | 280 => 119 | 281 => 120 | 282 => 121 | 287 => 129 | 316 => 130 | 171 => 40 | 205 => 131 | 321 => 134 | 322 => 135 | 243 => 63 | 246 => 92 | 283 => 113 | 284 => 114 | 285 => 115 | 286 => 116 | 129 => 125 | 317 => 124 | 318 => 126 | 319 => 127 | 320 => 128 | 337 => 132 | 338 => 133 | n => n, fun | 9 => 9 | 3 => 3 | 75 => 109 | 76 => 110 | 4 => 4 | 5 => 5 | 167 => 133 | 37 => 58 | 0 => 0 | 85 => 134 | 2 => 2 | 168 => 136 | 53 => 120 | 175 => 149 | 46 => 147 | 210 => 152 | 127 => 115 | 145 => 158 | 143 => 156 | 21 => 21 | 171 => 128 | 173 => 131 | 212 => 144 | 51 => 141 | 20 => 20 | 213 => 145 | 232 => 159 | 233 => 160 | 80 => 83 | n => n, fun | 15 => 2 | 16 => 3 | 17 => 1 | 18 => 4 | 19 => 5 | n => n⟩
theorem Tryd.laysC172 : Go.Proofs.LaysC.n172 Tryd.prog Tryd.laysC172_ren := {
  mixed := by kernel_rfl
  f129 := Tryd.func125.trans (congrArg some (by kernel_rfl))
  f171 := Tryd.func40.trans (congrArg some (by kernel_rfl))
  f172 := Tryd.func79.trans (congrArg some (by kernel_rfl))
  f205 := Tryd.func131.trans (congrArg some (by kernel_rfl))
  f243 := Tryd.func63.trans (congrArg some (by kernel_rfl))
  f244 := Tryd.func106.trans (congrArg some (by kernel_rfl))
  f245 := Tryd.func107.trans (congrArg some (by kernel_rfl))
  f246 := Tryd.func92.trans (congrArg some (by kernel_rfl))
  f247 := Tryd.func117.trans (congrArg some (by kernel_rfl))
  f279 := Tryd.func118.trans (congrArg some (by kernel_rfl))
  f280 := Tryd.func119.trans (congrArg some (by kernel_rfl))
  f281 := Tryd.func120.trans (congrArg some (by kernel_rfl))
  f282 := Tryd.func121.trans (congrArg some (by kernel_rfl))
  f283 := Tryd.func113.trans (congrArg some (by kernel_rfl))
  f284 := Tryd.func114.trans (congrArg some (by kernel_rfl))
  f285 := Tryd.func115.trans (congrArg some (by kernel_rfl))
  f286 := Tryd.func116.trans (congrArg some (by kernel_rfl))
  f287 := Tryd.func129.trans (congrArg some (by kernel_rfl))
  f316 := Tryd.func130.trans (congrArg some (by kernel_rfl))
  f317 := Tryd.func124.trans (congrArg some (by kernel_rfl))
  f318 := Tryd.func126.trans (congrArg some (by kernel_rfl))
  f319 := Tryd.func127.trans (congrArg some (by kernel_rfl))
  f320 := Tryd.func128.trans (congrArg some (by kernel_rfl))
  f321 := Tryd.func134.trans (congrArg some (by kernel_rfl))
  f322 := Tryd.func135.trans (congrArg some (by kernel_rfl))
  f337 := Tryd.func132.trans (congrArg some (by kernel_rfl))
  f338 := Tryd.func133.trans (congrArg some (by kernel_rfl))
  t0 := Tryd.underlying0
  a0 := Tryd.isAgg0
  z0 := Tryd.sizeOf0
  v0 := Tryd.zeroValue0
  t2 := Tryd.underlying2
  a2 := Tryd.isAgg2
  z2 := Tryd.sizeOf2
  v2 := Tryd.zeroValue2
  t3 := Tryd.underlying3
  a3 := Tryd.isAgg3
  z3 := Tryd.sizeOf3
  v3 := Tryd.zeroValue3
  t4 := Tryd.underlying4
  a4 := Tryd.isAgg4
  z4 := Tryd.sizeOf4
  v4 := Tryd.zeroValue4
  t5 := Tryd.underlying5
  a5 := Tryd.isAgg5
  z5 := Tryd.sizeOf5
  v5 := Tryd.zeroValue5
  t9 := Tryd.underlying9
  a9 := Tryd.isAgg9
  z9 := Tryd.sizeOf9
  v9 := Tryd.zeroValue9
  t20 := Tryd.underlying20
  a20 := Tryd.isAgg20
  z20 := Tryd.sizeOf20
  v20 := Tryd.zeroValue20
  t21 := Tryd.underlying21
  a21 := Tryd.isAgg21
  z21 := Tryd.sizeOf21
  v21 := Tryd.zeroValue21
  t37 := Tryd.underlying58
  a37 := Tryd.isAgg58
  z37 := Tryd.sizeOf58
  v37 := Tryd.zeroValue58
  t46 := Tryd.underlying147
  a46 := Tryd.isAgg147
  z46 := Tryd.sizeOf147
  v46 := Tryd.zeroValue147
  t51 := Tryd.underlying141
  a51 := Tryd.isAgg141
  z51 := Tryd.sizeOf141
  v51 := Tryd.zeroValue141
  t53 := Tryd.underlying120
  a53 := Tryd.isAgg120
  z53 := Tryd.sizeOf120
  v53 := Tryd.zeroValue120
  t75 := Tryd.underlying109
  a75 := Tryd.isAgg109
  z75 := Tryd.sizeOf109
  v75 := Tryd.zeroValue109
  t76 := Tryd.underlying110
  a76 := Tryd.isAgg110
  z76 := Tryd.sizeOf110
  v76 := Tryd.zeroValue110
  t85 := Tryd.underlying134
  a85 := Tryd.isAgg134
  z85 := Tryd.sizeOf134
  v85 := Tryd.zeroValue134
  t127 := Tryd.underlying115
  a127 := Tryd.isAgg115
  z127 := Tryd.sizeOf115
  v127 := Tryd.zeroValue115
  t143 := Tryd.underlying156
  a143 := Tryd.isAgg156
  z143 := Tryd.sizeOf156
  v143 := Tryd.zeroValue156
  t145 := Tryd.underlying158
  a145 := Tryd.isAgg158
  z145 := Tryd.sizeOf158
  v145 := Tryd.zeroValue158
  t167 := Tryd.underlying133
  a167 := Tryd.isAgg133
  z167 := Tryd.sizeOf133
  v167 := Tryd.zeroValue133
  t168 := Tryd.underlying136
  a168 := Tryd.isAgg136
  z168 := Tryd.sizeOf136
  v168 := Tryd.zeroValue136
  t171 := Tryd.underlying128
  a171 := Tryd.isAgg128
  z171 := Tryd.sizeOf128
  v171 := Tryd.zeroValue128
  t173 := Tryd.underlying131
  a173 := Tryd.isAgg131
  z173 := Tryd.sizeOf131
  v173 := Tryd.zeroValue131
  t175 := Tryd.underlying149
  a175 := Tryd.isAgg149
  z175 := Tryd.sizeOf149
  v175 := Tryd.zeroValue149
  t210 := Tryd.underlying152
  a210 := Tryd.isAgg152
  z210 := Tryd.sizeOf152
  v210 := Tryd.zeroValue152
  t212 := Tryd.underlying144
  a212 := Tryd.isAgg144
  z212 := Tryd.sizeOf144
  v212 := Tryd.zeroValue144
  t213 := Tryd.underlying145
  a213 := Tryd.isAgg145
  z213 := Tryd.sizeOf145
  t232 := Tryd.underlying159
  a232 := Tryd.isAgg159
  z232 := Tryd.sizeOf159
  v232 := Tryd.zeroValue159
  t233 := Tryd.underlying160
  a233 := Tryd.isAgg160
  z233 := Tryd.sizeOf160
  v233 := Tryd.zeroValue160
  g15 := by kernel_rfl
  g16 := by kernel_rfl
  g17 := by kernel_rfl
  g18 := by kernel_rfl
  g19 := by kernel_rfl
  t80 := Tryd.underlying83
  a80 := Tryd.isAgg83
  z80 := Tryd.sizeOf83
  v80 := Tryd.zeroValue83
  i0 := by kernel_rfl
  i2 := by kernel_rfl
  i3 := by kernel_rfl
  i4 := by kernel_rfl
  i5 := by kernel_rfl
  i9 := by kernel_rfl
  i20 := by kernel_rfl
  i21 := by kernel_rfl
  i37 := by kernel_rfl
  i46 := by kernel_rfl
  i51 := by kernel_rfl
  i53 := by kernel_rfl
  i75 := by kernel_rfl
  i76 := by kernel_rfl
  i80 := by kernel_rfl
  i85 := by kernel_rfl
  i127 := by kernel_rfl
  i143 := by kernel_rfl
  i145 := by kernel_rfl
  i167 := by kernel_rfl
  i168 := by kernel_rfl
  i171 := by kernel_rfl
  i173 := by kernel_rfl
  i175 := by kernel_rfl
  i210 := by kernel_rfl
  i212 := by kernel_rfl
  i232 := by kernel_rfl
  i233 := by kernel_rfl
  m15 := by kernel_rfl
  m16 := by kernel_rfl
  m17 := by kernel_rfl
  m18 := by kernel_rfl
  m19 := by kernel_rfl
  c0 := by kernel_rfl
  c2 := by kernel_rfl
  c3 := by kernel_rfl
  c4 := by kernel_rfl
  c5 := by kernel_rfl
  c9 := by kernel_rfl
  c20 := by kernel_rfl
  c21 := by kernel_rfl
  c37 := by kernel_rfl
  c46 := by kernel_rfl
  c51 := by kernel_rfl
  c53 := by kernel_rfl
  c75 := by kernel_rfl
  c76 := by kernel_rfl
  c80 := by kernel_rfl
  c85 := by kernel_rfl
  c127 := by kernel_rfl
  c143 := by kernel_rfl
  c145 := by kernel_rfl
  c167 := by kernel_rfl
  c168 := by kernel_rfl
  c171 := by kernel_rfl
  c173 := by kernel_rfl
  c175 := by kernel_rfl
  c210 := by kernel_rfl
  c212 := by kernel_rfl
  c213 := by kernel_rfl
  c232 := by kernel_rfl
  c233 := by kernel_rfl }
open Go.RowKit in
/-- strconv.Atoi, AT EVERY STRING THAT SPELLS AN int ('Lib.atoiAll .. = .ok v'; of whatever length: leading zeros count): v, AND NO ERROR. The world: as it was, or with the one new row that '[]byte(..)' lays. (LAID: no walk: one application.) -/
theorem Tryd.strconv_Atoi_ok (s : ByteArray) (hmax : s.size ≤ 9223372036854775806) (v : Int) (h : Lib.atoiAll s.data.toList = .ok v) (w : World) :
    Calls Tryd.prog 79 #[.string s] w fun e w' => e = .returned (.tuple #[.int .i64 v, .nilIface]) ∧ (w' = w ∨ ∃ t, w' = Lib.bytesWorld w 5 t) := Any.strconv_Atoi_ok Tryd.laysC172 s hmax v h w
open Go.RowKit in
/-- strconv.Atoi, AT EVERY NUMERAL THAT NO int HOLDS ('.range'): THE GREATEST OR THE LEAST int, BY THE SIGN ('Lib.atoiSat'), AND AN ERROR THAT IS NOT nil: a *NumError in a new block N: {Func: "Atoi", Num: s's bytes, Err: what the variable ErrRange holds}. Of what was there nothing has turned. (LAID: no walk: one application.) -/
theorem Tryd.strconv_Atoi_range (s : ByteArray) (hlim : s.size ≤ 281474976710656) (h : Lib.atoiAll s.data.toList = .range) (ev : Value) (w : World) (hv : w.cell? ⟨3, 0, none⟩ = some ev) (hev : ev = .nilIface ∨ ∃ te pe, ev = .iface te pe) :
    Calls Tryd.prog 79 #[.string s] w fun e w' => ∃ N, e = .returned (.tuple #[.int .i64 (Lib.atoiSat s.data.toList), .iface 136 (.pointer (some ⟨N, 0, none⟩))]) ∧ w.heap.size ≤ N ∧ w'.heap[N]? = some (.cells #[.string ⟨#[65, 116, 111, 105]⟩, .string s, ev] 152 (0, 0)) ∧ Below w.heap.size w w' := Any.strconv_Atoi_range Tryd.laysC172 s hlim h ev w hv hev
def Tryd.laysM176_ren : Go.Shelf.Ren := ⟨fun | 176 => 41 | 249 => 64 | 288 => 93 | 283 => 113 | 284 => 114 | 285 => 115 | 286 => 116 | 129 => 125 | 317 => 124 | 318 => 126 | 319 => 127 | 320 => 128 | 337 => 132 | 338 => 133 | n => n, fun | 37 => 58 | 2 => 2 | 3 => 3 | 53 => 120 | 4 => 4 | 9 => 9 | 171 => 128 | 0 => 0 | 173 => 131 | 212 => 144 | 51 => 141 | 5 => 5 | 20 => 20 | 213 => 145 | 46 => 147 | 232 => 159 | 233 => 160 | n => n, fun | 17 => 1 | 18 => 4 | 19 => 5 | n => n⟩
theorem Tryd.laysM176 : Go.Proofs.LaysM.n176 Tryd.prog Tryd.laysM176_ren := {
  mixed := by kernel_rfl
  f129 := Tryd.func125.trans (congrArg some (by kernel_rfl))
  f176 := Tryd.func41.trans (congrArg some (by kernel_rfl))
  f249 := Tryd.func64.trans (congrArg some (by kernel_rfl))
  f283 := Tryd.func113.trans (congrArg some (by kernel_rfl))
  f284 := Tryd.func114.trans (congrArg some (by kernel_rfl))
  f285 := Tryd.func115.trans (congrArg some (by kernel_rfl))
  f286 := Tryd.func116.trans (congrArg some (by kernel_rfl))
  f288 := Tryd.func93.trans (congrArg some (by kernel_rfl))
  f317 := Tryd.func124.trans (congrArg some (by kernel_rfl))
  f318 := Tryd.func126.trans (congrArg some (by kernel_rfl))
  f319 := Tryd.func127.trans (congrArg some (by kernel_rfl))
  f320 := Tryd.func128.trans (congrArg some (by kernel_rfl))
  f337 := Tryd.func132.trans (congrArg some (by kernel_rfl))
  f338 := Tryd.func133.trans (congrArg some (by kernel_rfl))
  t0 := Tryd.underlying0
  a0 := Tryd.isAgg0
  z0 := Tryd.sizeOf0
  v0 := Tryd.zeroValue0
  t2 := Tryd.underlying2
  a2 := Tryd.isAgg2
  z2 := Tryd.sizeOf2
  v2 := Tryd.zeroValue2
  t3 := Tryd.underlying3
  a3 := Tryd.isAgg3
  z3 := Tryd.sizeOf3
  v3 := Tryd.zeroValue3
  t4 := Tryd.underlying4
  a4 := Tryd.isAgg4
  z4 := Tryd.sizeOf4
  v4 := Tryd.zeroValue4
  t5 := Tryd.underlying5
  a5 := Tryd.isAgg5
  z5 := Tryd.sizeOf5
  v5 := Tryd.zeroValue5
  t9 := Tryd.underlying9
  a9 := Tryd.isAgg9
  z9 := Tryd.sizeOf9
  v9 := Tryd.zeroValue9
  t20 := Tryd.underlying20
  a20 := Tryd.isAgg20
  z20 := Tryd.sizeOf20
  v20 := Tryd.zeroValue20
  t37 := Tryd.underlying58
  a37 := Tryd.isAgg58
  z37 := Tryd.sizeOf58
  v37 := Tryd.zeroValue58
  t46 := Tryd.underlying147
  a46 := Tryd.isAgg147
  z46 := Tryd.sizeOf147
  v46 := Tryd.zeroValue147
  t51 := Tryd.underlying141
  a51 := Tryd.isAgg141
  z51 := Tryd.sizeOf141
  v51 := Tryd.zeroValue141
  t53 := Tryd.underlying120
  a53 := Tryd.isAgg120
  z53 := Tryd.sizeOf120
  v53 := Tryd.zeroValue120
  t171 := Tryd.underlying128
  a171 := Tryd.isAgg128
  z171 := Tryd.sizeOf128
  v171 := Tryd.zeroValue128
  t173 := Tryd.underlying131
  a173 := Tryd.isAgg131
  z173 := Tryd.sizeOf131
  v173 := Tryd.zeroValue131
  t212 := Tryd.underlying144
  a212 := Tryd.isAgg144
  z212 := Tryd.sizeOf144
  v212 := Tryd.zeroValue144
  t213 := Tryd.underlying145
  a213 := Tryd.isAgg145
  z213 := Tryd.sizeOf145
  t232 := Tryd.underlying159
  a232 := Tryd.isAgg159
  z232 := Tryd.sizeOf159
  v232 := Tryd.zeroValue159
  t233 := Tryd.underlying160
  a233 := Tryd.isAgg160
  z233 := Tryd.sizeOf160
  v233 := Tryd.zeroValue160
  g17 := by kernel_rfl
  g18 := by kernel_rfl
  g19 := by kernel_rfl
  i0 := by kernel_rfl
  i2 := by kernel_rfl
  i3 := by kernel_rfl
  i4 := by kernel_rfl
  i5 := by kernel_rfl
  i9 := by kernel_rfl
  i20 := by kernel_rfl
  i37 := by kernel_rfl
  i46 := by kernel_rfl
  i51 := by kernel_rfl
  i53 := by kernel_rfl
  i171 := by kernel_rfl
  i173 := by kernel_rfl
  i212 := by kernel_rfl
  i232 := by kernel_rfl
  i233 := by kernel_rfl
  m17 := by kernel_rfl
  m18 := by kernel_rfl
  m19 := by kernel_rfl }
open Go.RowKit Go.Sort Go.Lib in
/-- strconv.AppendInt: "AppendInt appends the string form of the integer i, as generated by FormatInt, to dst and returns the extended buffer.": AT BASE 10: WHAT COMES BACK OWNS dst's CELLS AND, BEHIND THEM, i's DECIMAL NUMERAL ('Lib.itoa i': at most 20 bytes), for every int64. Below the call's own blocks nothing has turned. (LAID: no walk: one application.) -/
theorem Tryd.strconv_AppendInt_10 (B n : Nat) (i : Int) (h0 : -9223372036854775808 ≤ i) (h1 : i ≤ 9223372036854775807) (sv : Value) (xs : List Value) (w : World) (hown : w.ownsRow B 5 1 sv n xs) (hBw : B ≤ w.heap.size) (hlim : n + 21 ≤ 140737488355328) (htab : Lib.TabBelow Tryd.prog B w "internal/strconv.uint64pow10" .u64 Lib.pow10Tab) :
    Calls Tryd.prog 41 #[sv, .int .i64 i, .int .i64 10] w fun e w' => ∃ v', e = .returned v' ∧ w'.ownsRow B 5 1 v' (n + (Lib.itoa i).length) (xs ++ Lib.byteCells (Lib.itoa i)) ∧ Below B w w' ∧ Lib.OthersKept 5 none w w' := Any.strconv_AppendInt_10 Tryd.laysM176 B n i h0 h1 sv xs w hown hBw hlim htab
end Go.Proofs
end

section
/-
  The shelf's contracts of strings.Builder's WriteString and WriteRune at this translation, laid by hand.
-/
namespace Go.Proofs
open Go.Shelf
def Tryd.lays166_ren : Go.Shelf.Ren := ⟨fun | 166 => 80 | 240 => 108 | 276 => 122 | n => n, fun | 0 => 0 | 3 => 3 | 4 => 4 | 5 => 5 | 9 => 9 | 20 => 20 | 37 => 58 | 70 => 77 | 72 => 79 | 75 => 109 | 80 => 83 | 164 => 139 | n => n, fun | n => n⟩
theorem Tryd.lays166 : Go.Proofs.Lays.n166 Tryd.prog Tryd.lays166_ren := {
  mixed := by kernel_rfl
  f166 := Tryd.func80.trans (congrArg some (by kernel_rfl))
  f240 := Tryd.func108.trans (congrArg some (by kernel_rfl))
  f276 := Tryd.func122.trans (congrArg some (by kernel_rfl))
  t0 := Tryd.underlying0
  a0 := Tryd.isAgg0
  z0 := Tryd.sizeOf0
  v0 := Tryd.zeroValue0
  t3 := Tryd.underlying3
  a3 := Tryd.isAgg3
  z3 := Tryd.sizeOf3
  v3 := Tryd.zeroValue3
  t4 := Tryd.underlying4
  a4 := Tryd.isAgg4
  z4 := Tryd.sizeOf4
  v4 := Tryd.zeroValue4
  t9 := Tryd.underlying9
  a9 := Tryd.isAgg9
  z9 := Tryd.sizeOf9
  v9 := Tryd.zeroValue9
  t20 := Tryd.underlying20
  a20 := Tryd.isAgg20
  z20 := Tryd.sizeOf20
  v20 := Tryd.zeroValue20
  t37 := Tryd.underlying58
  a37 := Tryd.isAgg58
  z37 := Tryd.sizeOf58
  v37 := Tryd.zeroValue58
  t70 := Tryd.underlying77
  a70 := Tryd.isAgg77
  z70 := Tryd.sizeOf77
  v70 := Tryd.zeroValue77
  t72 := Tryd.underlying79
  a72 := Tryd.isAgg79
  z72 := Tryd.sizeOf79
  v72 := Tryd.zeroValue79
  t75 := Tryd.underlying109
  a75 := Tryd.isAgg109
  z75 := Tryd.sizeOf109
  v75 := Tryd.zeroValue109
  t164 := Tryd.underlying139
  a164 := Tryd.isAgg139
  z164 := Tryd.sizeOf139
  v164 := Tryd.zeroValue139
}
theorem Tryd.Builder_Extra_166 : Builder.Extra Tryd.prog Tryd.lays166_ren := {
  sizeBuilder := by kernel_rfl
  liesBuilder := by kernel_rfl
  t5 := Tryd.underlying5
  a5 := Tryd.isAgg5
  z5 := Tryd.sizeOf5
  v5 := Tryd.zeroValue5
  infoByte := by kernel_rfl
  cellsByte := by kernel_rfl
  sizeByte := by kernel_rfl
  neB5 := by decide }
def Tryd.lays168_ren : Go.Shelf.Ren := ⟨fun | 168 => 81 | 240 => 108 | 242 => 109 | 276 => 122 | 278 => 123 | n => n, fun | 0 => 0 | 3 => 3 | 4 => 4 | 5 => 5 | 9 => 9 | 20 => 20 | 21 => 21 | 37 => 58 | 46 => 147 | 51 => 141 | 70 => 77 | 72 => 79 | 75 => 109 | 80 => 83 | 164 => 139 | n => n, fun | n => n⟩
theorem Tryd.lays168 : Go.Proofs.Lays.n168 Tryd.prog Tryd.lays168_ren := {
  mixed := by kernel_rfl
  f168 := Tryd.func81.trans (congrArg some (by kernel_rfl))
  f240 := Tryd.func108.trans (congrArg some (by kernel_rfl))
  f242 := Tryd.func109.trans (congrArg some (by kernel_rfl))
  f276 := Tryd.func122.trans (congrArg some (by kernel_rfl))
  f278 := Tryd.func123.trans (congrArg some (by kernel_rfl))
  t0 := Tryd.underlying0
  a0 := Tryd.isAgg0
  z0 := Tryd.sizeOf0
  v0 := Tryd.zeroValue0
  t3 := Tryd.underlying3
  a3 := Tryd.isAgg3
  z3 := Tryd.sizeOf3
  v3 := Tryd.zeroValue3
  t4 := Tryd.underlying4
  a4 := Tryd.isAgg4
  z4 := Tryd.sizeOf4
  v4 := Tryd.zeroValue4
  t5 := Tryd.underlying5
  a5 := Tryd.isAgg5
  z5 := Tryd.sizeOf5
  v5 := Tryd.zeroValue5
  t9 := Tryd.underlying9
  a9 := Tryd.isAgg9
  z9 := Tryd.sizeOf9
  v9 := Tryd.zeroValue9
  t20 := Tryd.underlying20
  a20 := Tryd.isAgg20
  z20 := Tryd.sizeOf20
  v20 := Tryd.zeroValue20
  t21 := Tryd.underlying21
  a21 := Tryd.isAgg21
  z21 := Tryd.sizeOf21
  v21 := Tryd.zeroValue21
  t37 := Tryd.underlying58
  a37 := Tryd.isAgg58
  z37 := Tryd.sizeOf58
  v37 := Tryd.zeroValue58
  t46 := Tryd.underlying147
  a46 := Tryd.isAgg147
  z46 := Tryd.sizeOf147
  v46 := Tryd.zeroValue147
  t51 := Tryd.underlying141
  a51 := Tryd.isAgg141
  z51 := Tryd.sizeOf141
  v51 := Tryd.zeroValue141
  t70 := Tryd.underlying77
  a70 := Tryd.isAgg77
  z70 := Tryd.sizeOf77
  v70 := Tryd.zeroValue77
  t72 := Tryd.underlying79
  a72 := Tryd.isAgg79
  z72 := Tryd.sizeOf79
  v72 := Tryd.zeroValue79
  t75 := Tryd.underlying109
  a75 := Tryd.isAgg109
  z75 := Tryd.sizeOf109
  v75 := Tryd.zeroValue109
  t164 := Tryd.underlying139
  a164 := Tryd.isAgg139
  z164 := Tryd.sizeOf139
  v164 := Tryd.zeroValue139
}
theorem Tryd.Builder_Extra_168 : Builder.Extra Tryd.prog Tryd.lays168_ren := {
  sizeBuilder := by kernel_rfl
  liesBuilder := by kernel_rfl
  t5 := Tryd.underlying5
  a5 := Tryd.isAgg5
  z5 := Tryd.sizeOf5
  v5 := Tryd.zeroValue5
  infoByte := by kernel_rfl
  cellsByte := by kernel_rfl
  sizeByte := by kernel_rfl
  neB5 := by decide }
open Go.RowKit in
/-- WriteString puts a string behind what the builder holds. -/
theorem Tryd.Builder_WriteString_k (B b : Nat) (bs : List Value) (s : ByteArray) (w : World) (h : Lib.IsBuilderF 79 5 B b bs w) (hlen : bs.length + s.size ≤ 140737488355328) (hBw : B ≤ w.heap.size) :
    Calls Tryd.prog 80 #[.pointer (some ⟨b, 0, none⟩), .string s] w fun e w' => e = .returned (.tuple #[.int .i64 s.size, .nilIface]) ∧ (Lib.BuilderAtF 79 5 B b (.pointer (some ⟨b, 0, none⟩)) (bs ++ Lib.strCells s) w' ∧ Below B w w' ∧ Lib.OthersKept 5 (some b) w w') := Any.Builder_WriteString_k Tryd.lays166 Tryd.Builder_Extra_166 B b bs s w h hlen hBw
open Go.RowKit in
/-- WriteRune puts a rune behind what the builder holds. -/
theorem Tryd.Builder_WriteRune_k (B b : Nat) (bs : List Value) (r : Int) (hr0 : -2147483648 ≤ r) (hr1 : r ≤ 2147483647) (w : World) (h : Lib.IsBuilderF 79 5 B b bs w) (hlen : bs.length + 4 ≤ 140737488355328) (hBw : B ≤ w.heap.size) :
    Calls Tryd.prog 81 #[.pointer (some ⟨b, 0, none⟩), .int .i32 r] w fun e w' => e = .returned (.tuple #[.int .i64 (Lib.runeCells r).length, .nilIface]) ∧ (Lib.BuilderAtF 79 5 B b (.pointer (some ⟨b, 0, none⟩)) (bs ++ Lib.runeCells r) w' ∧ Below B w w' ∧ Lib.OthersKept 5 (some b) w w') := Any.Builder_WriteRune_k Tryd.lays168 Tryd.Builder_Extra_168 B b bs r hr0 hr1 w h hlen hBw
end Go.Proofs
end

section
/-
  Plain words on bytes, spans and tokens of a script: what the lexer's text computes, with no program in sight.
-/
namespace Go.Proofs.YtdedlchpjboceaaDoor.Lx

/-- The class of a byte, by its number: 1 blank, 2 hash, 3 letter, 4 digit, 5 semicolon, 0 other. -/
def clsI (c : Int) : Int :=
  if c = 32 ∨ c = 9 ∨ c = 10 then 1 else if c = 35 then 2 else if 97 ≤ c ∧ c ≤ 122 then 3
  else if 48 ≤ c ∧ c ≤ 57 then 4 else if c = 59 then 5 else 0
def pHash (x : Int) : Bool := decide (x ≠ 10)
def pName (x : Int) : Bool := decide (clsI x = 3 ∨ clsI x = 4 ∨ x = 95)
def pDigit (x : Int) : Bool := decide (clsI x = 4)
def cls (c : UInt8) : Int := clsI c.toNat
/-- Does a byte go on with a span of class k? -/
def cont (k : Int) (c : UInt8) : Bool :=
  if k = 2 then pHash c.toNat else if k = 3 then pName c.toNat else if k = 4 then pDigit c.toNat else false

theorem clsI_range (c : Int) : 0 ≤ clsI c ∧ clsI c ≤ 5 := by unfold clsI; repeat' split <;> omega
theorem cls_range (c : UInt8) : 0 ≤ cls c ∧ cls c ≤ 5 := clsI_range _
theorem cls_cases (c : UInt8) : cls c = 0 ∨ cls c = 1 ∨ cls c = 2 ∨ cls c = 3 ∨ cls c = 4 ∨ cls c = 5 := by
  have := cls_range c; omega
theorem cont_other {k : Int} (h2 : k ≠ 2) (h3 : k ≠ 3) (h4 : k ≠ 4) (c : UInt8) : cont k c = false := by
  simp [cont, h2, h3, h4]
theorem cont_two (c : UInt8) : cont 2 c = pHash c.toNat := by simp [cont]
theorem cont_three (c : UInt8) : cont 3 c = pName c.toNat := by simp [cont]
theorem cont_four (c : UInt8) : cont 4 c = pDigit c.toNat := by simp [cont]
/-- A span's own first byte goes on with it. -/
theorem cont_self (c : UInt8) (h : cls c = 2 ∨ cls c = 3 ∨ cls c = 4) : cont (cls c) c = true := by
  rcases h with h | h | h
  · rw [h, cont_two]; unfold pHash; unfold cls at h; simp only [decide_eq_true_eq]; intro e; rw [e] at h; simp [clsI] at h
  · rw [h, cont_three]; unfold pName; unfold cls at h; simp [h]
  · rw [h, cont_four]; unfold pDigit; unfold cls at h; simp [h]

/-- A span: its offset, its class, its bytes. -/
structure Sp where
  o : Nat
  k : Int
  t : List UInt8
deriving DecidableEq

theorem tw_dw (p : UInt8 → Bool) (l : List UInt8) : (l.takeWhile p).length + (l.dropWhile p).length = l.length := by
  rw [← List.length_append, List.takeWhile_append_dropWhile]
theorem dw_le (p : UInt8 → Bool) (l : List UInt8) : (l.dropWhile p).length ≤ l.length := by have := tw_dw p l; omega
theorem tw_le (p : UInt8 → Bool) (l : List UInt8) : (l.takeWhile p).length ≤ l.length := by have := tw_dw p l; omega
theorem drop_of {a b l : List UInt8} (h : a ++ b = l) : b = l.drop a.length := by subst h; simp
theorem take_of {a b l : List UInt8} (h : a ++ b = l) : a = l.take a.length := by subst h; simp
theorem dw_drop (p : UInt8 → Bool) (l : List UInt8) : l.dropWhile p = l.drop (l.takeWhile p).length := drop_of List.takeWhile_append_dropWhile
theorem tw_take (p : UInt8 → Bool) (l : List UInt8) : l.takeWhile p = l.take (l.takeWhile p).length := take_of List.takeWhile_append_dropWhile

/-- The spans of bytes, the first of them at offset o. -/
def spans : List UInt8 → Nat → List Sp
  | [], _ => []
  | c :: t, o => ⟨o, cls c, c :: t.takeWhile (cont (cls c))⟩ :: spans (t.dropWhile (cont (cls c))) (o + 1 + (t.takeWhile (cont (cls c))).length)
termination_by l => l.length
decreasing_by simp only [List.length_cons]; have := dw_le (cont (cls c)) t; omega

theorem spans_nil (o : Nat) : spans [] o = [] := by rw [spans]
theorem spans_cons (c : UInt8) (t : List UInt8) (o : Nat) : spans (c :: t) o = ⟨o, cls c, c :: t.takeWhile (cont (cls c))⟩ :: spans (t.dropWhile (cont (cls c))) (o + 1 + (t.takeWhile (cont (cls c))).length) := by
  rw [spans]

/-- A span's length, in the bytes from its head on. -/
def slen : List UInt8 → Nat
  | [] => 0
  | c :: t => 1 + (t.takeWhile (cont (cls c))).length
theorem slen_le (l : List UInt8) : slen l ≤ l.length := by
  cases l with
  | nil => simp [slen]
  | cons c t => simp only [slen, List.length_cons]; have := tw_le (cont (cls c)) t; omega
theorem slen_pos {l : List UInt8} (h : l ≠ []) : 1 ≤ slen l := by
  cases l with
  | nil => exact absurd rfl h
  | cons c t => simp only [slen]; omega
theorem spans_step (c : UInt8) (t : List UInt8) (o : Nat) :
    spans (c :: t) o = ⟨o, cls c, (c :: t).take (slen (c :: t))⟩ :: spans ((c :: t).drop (slen (c :: t))) (o + slen (c :: t)) := by
  rw [spans_cons]
  have e1 : (c :: t).take (slen (c :: t)) = c :: t.takeWhile (cont (cls c)) := by
    simp only [slen]; rw [Nat.add_comm, List.take_succ_cons, ← tw_take]
  have e2 : (c :: t).drop (slen (c :: t)) = t.dropWhile (cont (cls c)) := by
    simp only [slen]; rw [Nat.add_comm, List.drop_succ_cons, ← dw_drop]
  rw [e1, e2]; simp only [slen]; rw [Nat.add_assoc]

theorem spans_length (l : List UInt8) (o : Nat) : (spans l o).length ≤ l.length := by
  induction hn : l.length using Nat.strongRecOn generalizing l o with
  | _ n ih =>
    cases l with
    | nil => simp [spans_nil]
    | cons c t =>
      rw [spans_cons]
      have h1 := dw_le (cont (cls c)) t
      have h2 := ih _ (by rw [← hn]; simp only [List.length_cons]; omega) (t.dropWhile (cont (cls c))) (o + 1 + (t.takeWhile (cont (cls c))).length) rfl
      simp only [List.length_cons] at hn ⊢; omega

/-- The value of digits. -/
def val (l : List UInt8) : Nat := l.foldl (fun a c => 10 * a + (c.toNat - 48)) 0

/-- A token: kind, text, number, offset. -/
structure Tk where
  kind : Int
  t : List UInt8
  n : Int
  o : Nat
deriving DecidableEq

/-- The token of a span, or its error. -/
def tokOf (k : Int) (t : List UInt8) (o : Nat) : Except Int Tk :=
  if k = 3 then (if 12 < t.length then .error 3 else .ok ⟨1, t, 0, o⟩)
  else if k = 4 then (if 1 < t.length ∧ t.head? = some 48 then .error 7 else if 1000000000 < val t then .error 3 else .ok ⟨2, [], val t, o⟩)
  else .ok ⟨3, t, 0, o⟩

/-- One span more. -/
def pstep (st : Except (Int × Nat) (List Tk)) (x : Sp) : Except (Int × Nat) (List Tk) :=
  match st with
  | .error e => .error e
  | .ok ts =>
    if x.k = 1 ∨ x.k = 2 then .ok ts
    else if x.k = 0 then .error (7, x.o)
    else if ts.length = 2000 then .error (2, x.o)
    else match tokOf x.k x.t x.o with
      | .error e => .error (e, x.o)
      | .ok t => .ok (ts ++ [t])
def procF (xs : List Sp) : Except (Int × Nat) (List Tk) := xs.foldl pstep (.ok [])
/-- What the lexer answers. -/
def lex (s : List UInt8) : Except (Int × Nat) (List Tk) := if 8000 < s.length then .error (2, 0) else procF (spans s 0)

theorem foldl_error (xs : List Sp) (e : Int × Nat) : xs.foldl pstep (.error e) = .error e := by
  induction xs with
  | nil => rfl
  | cons x xs ih => simp only [List.foldl_cons, pstep]; exact ih
theorem procF_snoc (pre : List Sp) (x : Sp) : procF (pre ++ [x]) = pstep (procF pre) x := by simp [procF]
theorem procF_prefix {pre xs : List Sp} (h : pre <+: xs) {e : Int × Nat} (he : procF pre = .error e) : procF xs = .error e := by
  obtain ⟨r, rfl⟩ := h
  unfold procF at *
  rw [List.foldl_append, he, foldl_error]

theorem snoc_cases (xs : List Sp) : xs = [] ∨ ∃ pre x, xs = pre ++ [x] := by
  rcases List.eq_nil_or_concat xs with h | ⟨pre, x, h⟩
  · exact .inl h
  · exact .inr ⟨pre, x, by rw [h]; simp⟩
theorem toks_length (xs : List Sp) : ∀ ts, procF xs = .ok ts → ts.length ≤ xs.length ∧ ts.length ≤ 2000 := by
  induction hn : xs.length generalizing xs with
  | zero =>
    obtain rfl := List.eq_nil_of_length_eq_zero hn
    intro ts h; simp [procF] at h; subst h; simp
  | succ n ih =>
    rcases snoc_cases xs with rfl | ⟨pre, x, rfl⟩
    · simp at hn
    · intro ts h
      rw [procF_snoc] at h
      simp at hn
      cases hp : procF pre with
      | error e => rw [hp] at h; simp [pstep] at h
      | ok ps =>
        have := ih pre hn ps hp
        rw [hp] at h; simp only [pstep] at h
        split at h
        · injection h with h; subst h; omega
        · split at h
          · cases h
          · split at h
            · cases h
            · split at h
              · cases h
              · injection h with h; subst h; simp only [List.length_append, List.length_cons, List.length_nil]; omega

end Go.Proofs.YtdedlchpjboceaaDoor.Lx
end

section
/-
  The lexer's small functions and its iterator, walked once: the class of a byte, the ends of spans, the spans in their order.
-/
namespace Go.Proofs.YtdedlchpjboceaaDoor.Lx
open Go.RowKit Go.Shelf
attribute [local go_sem] Oper.semAt_some

theorem ret_int {k : IntKind} {a b : Int} (h : a = b) : Ending.returned (.int k a) = .returned (.int k b) := by rw [h]
theorem ret_bool {a b : Bool} (h : a = b) : Ending.returned (.bool a) = .returned (.bool b) := by rw [h]

set_option maxHeartbeats 1000000 in
theorem of_any (c : Int) (w : World) : Calls Tryd.prog 74 #[.int .i32 c] w fun e w' => e = .returned (.int .i64 (clsI c)) ∧ w = w' := by
  rcases (by omega : c = 32 ∨ c = 9 ∨ c = 10 ∨ c = 35 ∨ c = 59 ∨ (97 ≤ c ∧ c ≤ 122) ∨ (48 ≤ c ∧ c ≤ 57) ∨ (c < 48 ∧ ¬ c = 32 ∧ ¬ c = 9 ∧ ¬ c = 10 ∧ ¬ c = 35) ∨ (57 < c ∧ c < 97 ∧ ¬ c = 59) ∨ 122 < c)
    with rfl | rfl | rfl | rfl | rfl | ⟨h1, h2⟩ | ⟨h1, h2⟩ | ⟨h1, h2, h3, h4, h5⟩ | ⟨h1, h2, h3⟩ | h1
  all_goals
    go_enter Tryd.func74, Tryd.ntmps74
    go_wp2
    all_goals first
      | (exfalso; omega)
      | (go_ret; exact ⟨ret_int (by unfold clsI; (repeat' split) <;> omega), rfl⟩)

theorem of_at {c k : Int} (h : clsI c = k) (w : World) : Calls Tryd.prog 74 #[.int .i32 c] w fun e w' => e = .returned (.int .i64 k) ∧ w = w' := by
  subst h; exact of_any c w

set_option maxHeartbeats 1000000 in
theorem inName_any (c : Int) (w : World) : Calls Tryd.prog 77 #[.int .i32 c] w fun e w' => e = .returned (.bool (pName c)) ∧ w = w' := by
  by_cases h3 : clsI c = 3
  · have H := Lib.hid (show pName c = true by simp [pName, h3])
    have H3 := Lib.hid h3
    clear h3
    go_enter Tryd.func77, Tryd.ntmps77
    go_wp2_with (go_at_call 74; refine (of_at H3.out _).mono ?_; rintro e w' ⟨rfl, rfl⟩)
    go_ret
    exact ⟨ret_bool H.out.symm, rfl⟩
  · by_cases h4 : clsI c = 4
    · have H := Lib.hid (show pName c = true by simp [pName, h4])
      have H3 := Lib.hid h4
      clear h3 h4
      go_enter Tryd.func77, Tryd.ntmps77
      go_wp2_with (go_at_call 74; refine (of_at H3.out _).mono ?_; rintro e w' ⟨rfl, rfl⟩)
      go_ret
      exact ⟨ret_bool H.out.symm, rfl⟩
    · obtain ⟨k, hk⟩ : ∃ k, clsI c = k := ⟨_, rfl⟩
      by_cases h5 : c = 95
      · subst h5
        have H := Lib.hid (show pName 95 = true by simp [pName])
        have H3 := Lib.hid hk
        rw [hk] at h3 h4
        clear hk
        go_enter Tryd.func77, Tryd.ntmps77
        go_wp2_with (go_at_call 74; refine (of_at H3.out _).mono ?_; rintro e w' ⟨rfl, rfl⟩)
        go_ret
        exact ⟨ret_bool H.out.symm, rfl⟩
      · have H := Lib.hid (show pName c = false by simp [pName, h3, h4, h5])
        have H3 := Lib.hid hk
        rw [hk] at h3 h4
        clear hk
        go_enter Tryd.func77, Tryd.ntmps77
        go_wp2_with (go_at_call 74; refine (of_at H3.out _).mono ?_; rintro e w' ⟨rfl, rfl⟩)
        go_ret
        exact ⟨ret_bool (by rw [H.out]; simpa using h5), rfl⟩

set_option maxHeartbeats 1000000 in
theorem notEnd_any (c : Int) (w : World) : Calls Tryd.prog 76 #[.int .i32 c] w fun e w' => e = .returned (.bool (pHash c)) ∧ w = w' := by
  go_enter Tryd.func76, Tryd.ntmps76
  go_wp2
  go_ret
  exact ⟨ret_bool (by rw [Bool.eq_iff_iff]; simp [pHash]), rfl⟩

set_option maxHeartbeats 1000000 in
theorem inNumber_any (c : Int) (w : World) : Calls Tryd.prog 78 #[.int .i32 c] w fun e w' => e = .returned (.bool (pDigit c)) ∧ w = w' := by
  obtain ⟨k, hk⟩ : ∃ k, clsI c = k := ⟨_, rfl⟩
  have H3 := Lib.hid hk
  clear hk
  go_enter Tryd.func78, Tryd.ntmps78
  go_wp2_with (go_at_call 74; refine (of_at H3.out _).mono ?_; rintro e w' ⟨rfl, rfl⟩)
  go_ret
  exact ⟨ret_bool (by rw [Bool.eq_iff_iff]; simp [pDigit, H3.out]), rfl⟩

theorem list_size (s : ByteArray) : s.data.toList.length = s.size := rfl
/-- How many bytes from k on go on. -/
def scan (p : Int → Bool) (s : ByteArray) (k : Nat) : Nat := ((s.data.toList.drop k).takeWhile fun c => p c.toNat).length
theorem drop_at (s : ByteArray) (k : Nat) (h : k < s.size) : s.data.toList.drop k = s[k] :: s.data.toList.drop (k + 1) := by
  rw [List.drop_eq_getElem_cons (by simpa using h)]; rfl
theorem scan_yes {p : Int → Bool} {s : ByteArray} {k : Nat} (h : k < s.size) (hp : p (s[k].toNat : Int) = true) : scan p s k = 1 + scan p s (k + 1) := by
  unfold scan; rw [drop_at s k h]; simp only [List.takeWhile, hp, List.length_cons]; omega
theorem scan_no {p : Int → Bool} {s : ByteArray} {k : Nat} (h : k < s.size) (hp : p (s[k].toNat : Int) = false) : scan p s k = 0 := by
  unfold scan; rw [drop_at s k h]; simp only [List.takeWhile, hp, List.length_nil]
theorem scan_end {p : Int → Bool} {s : ByteArray} {k : Nat} (h : s.size ≤ k) : scan p s k = 0 := by
  unfold scan; rw [List.drop_eq_nil_of_le (by rw [list_size]; exact h)]; rfl
theorem scan_le (p : Int → Bool) (s : ByteArray) (k : Nat) (h : k ≤ s.size) : k + scan p s k ≤ s.size := by
  unfold scan
  have h1 := tw_le (fun c => p c.toNat) (s.data.toList.drop k)
  rw [List.length_drop, list_size] at h1
  omega

end Go.Proofs.YtdedlchpjboceaaDoor.Lx
end

section
/-
  The lexer's 'end' at each of its three conditions; 'spans'; its iterator's contract.
-/
namespace Go.Proofs.YtdedlchpjboceaaDoor.Lx
open Go.RowKit Go.Shelf
attribute [local go_sem] Oper.semAt_some

set_option maxHeartbeats 2000000 in
theorem end_pHash (s : ByteArray) (a : Nat) (ha : a ≤ s.size) (hs : s.size ≤ 9223372036854775806) (w : World) :
    Calls Tryd.prog 75 #[.string s, .int .i64 a, .func (.func 76) #[] #[]] w fun e w' => e = .returned (.int .i64 ((a + scan pHash s a : Nat) : Int)) ∧ w = w' := by
  have eg : ∀ args w, (callFunc 76 args).run Tryd.prog w = .ok (.enter 76 args) w := enters_of Tryd.func76 (by kernel_rfl) rfl
  go_enter Tryd.func75, Tryd.ntmps75
  go_wp2
  go_loop [1] (fun i => ∃ k : Nat, k ≤ s.size ∧ i = .int .i64 k ∧ Hid (k + scan pHash s k = a + scan pHash s a)) (fun i => s.size - (intOf i).toNat)
  case atStart => exact ⟨a, ha, rfl, Lib.hid rfl⟩
  case round =>
    obtain ⟨k, hk, rfl, hH⟩ := hrel
    by_cases hlt : k < s.size
    · have hb := s[k].toNat_lt
      cases hp : pHash (s[k].toNat : Int) with
      | true =>
        have H2 := Lib.hid (scan_yes hlt hp)
        go_wp2_with (go_at_call 76; refine (notEnd_any _ _).mono ?_; rintro e w' ⟨rfl, rfl⟩)
        go_round
        case rel => exact ⟨k + 1, by omega, by go_num, Lib.hid (by have := H2.out; have := hH.out; omega)⟩
        case measure => simp [intOf]; omega
      | false =>
        have H2 := Lib.hid (scan_no hlt hp)
        go_wp2_with (go_at_call 76; refine (notEnd_any _ _).mono ?_; rintro e w' ⟨rfl, rfl⟩)
        go_ret
        exact ⟨ret_int (by have := H2.out; have := hH.out; omega), rfl⟩
    · have H2 := Lib.hid (scan_end (p := pHash) (s := s) (k := k) (by omega))
      go_wp2
      go_ret
      exact ⟨ret_int (by have := H2.out; have := hH.out; omega), rfl⟩
set_option maxHeartbeats 2000000 in
theorem end_pName (s : ByteArray) (a : Nat) (ha : a ≤ s.size) (hs : s.size ≤ 9223372036854775806) (w : World) :
    Calls Tryd.prog 75 #[.string s, .int .i64 a, .func (.func 77) #[] #[]] w fun e w' => e = .returned (.int .i64 ((a + scan pName s a : Nat) : Int)) ∧ w = w' := by
  have eg : ∀ args w, (callFunc 77 args).run Tryd.prog w = .ok (.enter 77 args) w := enters_of Tryd.func77 (by kernel_rfl) rfl
  go_enter Tryd.func75, Tryd.ntmps75
  go_wp2
  go_loop [1] (fun i => ∃ k : Nat, k ≤ s.size ∧ i = .int .i64 k ∧ Hid (k + scan pName s k = a + scan pName s a)) (fun i => s.size - (intOf i).toNat)
  case atStart => exact ⟨a, ha, rfl, Lib.hid rfl⟩
  case round =>
    obtain ⟨k, hk, rfl, hH⟩ := hrel
    by_cases hlt : k < s.size
    · have hb := s[k].toNat_lt
      cases hp : pName (s[k].toNat : Int) with
      | true =>
        have H2 := Lib.hid (scan_yes hlt hp)
        go_wp2_with (go_at_call 77; refine (inName_any _ _).mono ?_; rintro e w' ⟨rfl, rfl⟩)
        go_round
        case rel => exact ⟨k + 1, by omega, by go_num, Lib.hid (by have := H2.out; have := hH.out; omega)⟩
        case measure => simp [intOf]; omega
      | false =>
        have H2 := Lib.hid (scan_no hlt hp)
        go_wp2_with (go_at_call 77; refine (inName_any _ _).mono ?_; rintro e w' ⟨rfl, rfl⟩)
        go_ret
        exact ⟨ret_int (by have := H2.out; have := hH.out; omega), rfl⟩
    · have H2 := Lib.hid (scan_end (p := pName) (s := s) (k := k) (by omega))
      go_wp2
      go_ret
      exact ⟨ret_int (by have := H2.out; have := hH.out; omega), rfl⟩
set_option maxHeartbeats 2000000 in
theorem end_pDigit (s : ByteArray) (a : Nat) (ha : a ≤ s.size) (hs : s.size ≤ 9223372036854775806) (w : World) :
    Calls Tryd.prog 75 #[.string s, .int .i64 a, .func (.func 78) #[] #[]] w fun e w' => e = .returned (.int .i64 ((a + scan pDigit s a : Nat) : Int)) ∧ w = w' := by
  have eg : ∀ args w, (callFunc 78 args).run Tryd.prog w = .ok (.enter 78 args) w := enters_of Tryd.func78 (by kernel_rfl) rfl
  go_enter Tryd.func75, Tryd.ntmps75
  go_wp2
  go_loop [1] (fun i => ∃ k : Nat, k ≤ s.size ∧ i = .int .i64 k ∧ Hid (k + scan pDigit s k = a + scan pDigit s a)) (fun i => s.size - (intOf i).toNat)
  case atStart => exact ⟨a, ha, rfl, Lib.hid rfl⟩
  case round =>
    obtain ⟨k, hk, rfl, hH⟩ := hrel
    by_cases hlt : k < s.size
    · have hb := s[k].toNat_lt
      cases hp : pDigit (s[k].toNat : Int) with
      | true =>
        have H2 := Lib.hid (scan_yes hlt hp)
        go_wp2_with (go_at_call 78; refine (inNumber_any _ _).mono ?_; rintro e w' ⟨rfl, rfl⟩)
        go_round
        case rel => exact ⟨k + 1, by omega, by go_num, Lib.hid (by have := H2.out; have := hH.out; omega)⟩
        case measure => simp [intOf]; omega
      | false =>
        have H2 := Lib.hid (scan_no hlt hp)
        go_wp2_with (go_at_call 78; refine (inNumber_any _ _).mono ?_; rintro e w' ⟨rfl, rfl⟩)
        go_ret
        exact ⟨ret_int (by have := H2.out; have := hH.out; omega), rfl⟩
    · have H2 := Lib.hid (scan_end (p := pDigit) (s := s) (k := k) (by omega))
      go_wp2
      go_ret
      exact ⟨ret_int (by have := H2.out; have := hH.out; omega), rfl⟩

end Go.Proofs.YtdedlchpjboceaaDoor.Lx
end

section
-- Written by a program of this session's, out of the translation; Lean checks it.
namespace Go.Proofs.YtdedlchpjboceaaDoor.PB
open Go.RowKit Go.Proofs.YtdedlchpjboceaaDoorW.PrintWords Go.Proofs.YtdedlchpjboceaaDoorW.PrintLast Go.Proofs.YtdedlchpjboceaaDoorW.PrintMore
attribute [local go_sem] max2_int min2_int max_two min_two max_three min_three max_four min_four   -- for this text's walks alone



def errW : Option Int → Value
  | none => .nilIface
  | some c => .iface 0 (.int .i64 c)
theorem errW_none : errW none = .nilIface := rfl
theorem errW_some (c : Int) : errW (some c) = .iface 0 (.int .i64 c) := rfl

-- the values' own types

end Go.Proofs.YtdedlchpjboceaaDoor.PB
end

section
-- Written by a program of this session's, out of the translation; Lean checks it.
namespace Go.Proofs.YtdedlchpjboceaaDoor.PB
open Go.RowKit Go.Proofs.YtdedlchpjboceaaDoorW.PrintWords Go.Proofs.YtdedlchpjboceaaDoorW.PrintLast Go.Proofs.YtdedlchpjboceaaDoorW.PrintMore
attribute [local go_sem] max2_int min2_int max_two min_two max_three min_three max_four min_four   -- for this text's walks alone

/-! ### parser_shape: function 90 -/
mutual
def parser_shape.j0 : Nat → Int → Bool → Option (Bool × Int)
  | 0, _, _ => none
  | k + 1, x4, x7 => if x7 = true then (some (true, 2)) else (if x4 = 3 then (some (true, 4)) else (if x4 = 4 then (some (true, 3)) else (if x4 = 5 then (parser_shape.j1 k x4 (x4 == 5)) else (parser_shape.j1 k x4 (x4 == 6)))))
def parser_shape.j1 : Nat → Int → Bool → Option (Bool × Int)
  | 0, _, _ => none
  | k + 1, x4, x14 => if x14 = true then (some (true, 1)) else (if x4 = 8 then (some (false, 6)) else (if x4 = 9 then (some (false, 4)) else (if x4 = 10 then (some (false, 3)) else (if x4 = 11 then (some (false, 1)) else (some (false, (-1)))))))
end
def parser_shape.f (k : Nat) (a0 : Int) : Option (Bool × Int) := if a0 = 1 then (some (false, 2)) else (if a0 = 2 then (parser_shape.j0 k a0 (a0 == 2)) else (parser_shape.j0 k a0 (a0 == 7)))
theorem parser_shape.mono_l : ∀ k, (∀ y0 y1, LeO (parser_shape.j0 k y0 y1) (parser_shape.j0 (k + 1) y0 y1)) ∧ (∀ y0 y1, LeO (parser_shape.j1 k y0 y1) (parser_shape.j1 (k + 1) y0 y1))
  | 0 => ⟨fun _ _ r h => by simp [parser_shape.j0] at h, fun _ _ r h => by simp [parser_shape.j1] at h⟩
  | k + 1 => by
    obtain ⟨ih0, ih1⟩ := parser_shape.mono_l k
    refine ⟨?_, ?_⟩
    · intro y0 y1
      unfold parser_shape.j0
      repeat' first
      | (with_reducible exact ih0 _ _)
      | (with_reducible exact ih1 _ _)
      | (with_reducible exact LeO.refl _)
      | (with_reducible exact LeO.none _)
      | (with_reducible refine LeO.ite ?_ ?_)
      | (with_reducible refine LeO.bind ?_ (fun _ => ?_))
      | exact ih0 _ _
      | exact ih1 _ _
      | exact LeO.none _
      | refine LeO.ite ?_ ?_
      | refine LeO.bind ?_ (fun _ => ?_)
    · intro y0 y1
      unfold parser_shape.j1
      repeat' first
      | (with_reducible exact ih0 _ _)
      | (with_reducible exact ih1 _ _)
      | (with_reducible exact LeO.refl _)
      | (with_reducible exact LeO.none _)
      | (with_reducible refine LeO.ite ?_ ?_)
      | (with_reducible refine LeO.bind ?_ (fun _ => ?_))
      | exact ih0 _ _
      | exact ih1 _ _
      | exact LeO.none _
      | refine LeO.ite ?_ ?_
      | refine LeO.bind ?_ (fun _ => ?_)
theorem parser_shape.mono : ∀ a0 k, LeO (parser_shape.f k a0) (parser_shape.f (k + 1) a0) := by
  intro a0 k
  obtain ⟨ih0, ih1⟩ := parser_shape.mono_l k
  unfold parser_shape.f
  repeat' first
      | (with_reducible exact ih0 _ _)
      | (with_reducible exact ih1 _ _)
      | (with_reducible exact LeO.refl _)
      | (with_reducible exact LeO.none _)
      | (with_reducible refine LeO.ite ?_ ?_)
      | (with_reducible refine LeO.bind ?_ (fun _ => ?_))
      | exact ih0 _ _
      | exact ih1 _ _
      | exact LeO.none _
      | refine LeO.ite ?_ ?_
      | refine LeO.bind ?_ (fun _ => ?_)
set_option maxHeartbeats 8000000 in
set_option maxRecDepth 100000 in
theorem parser_shape.calls (k : Nat) (a0 : Int) (r1 : Bool) (r2 : Int) (w : World) (h : parser_shape.f k a0 = some (r1, r2)) :
    Calls Tryd.prog 90 #[.int .i64 a0] w fun e w' => e = .returned (.tuple #[.bool r1, .int .i64 r2]) ∧ Drawn0 w w' := by
  have H : (if a0 = 1 then (some (false, 2)) else (if a0 = 2 then (parser_shape.j0 k a0 (a0 == 2)) else (parser_shape.j0 k a0 (a0 == 7)))) = some (r1, r2) := h
  clear h
  by_cases c2 : a0 = 1
  · rw [if_pos c2] at H
    have c2b0 : (a0 == 1) = true := beq_iff_eq.mpr c2
    have c2b1 : (a0 != 1) = false := bne_eq_false_iff_eq.mpr c2
    clear c2
    simp only [Option.some.injEq, Prod.mk.injEq] at H
    obtain ⟨rfl, rfl⟩ := H
    go_enter Tryd.func90, Tryd.ntmps90
    go_wp2
    go_ret2
    exact ⟨by first | rfl | (simp; done) | (simp [*]; done), by repeat (first | exact Drawn0.refl _ | apply Drawn0.step)⟩
  · rw [if_neg c2] at H
    have c2b0 : (a0 == 1) = false := beq_eq_false_iff_ne.mpr c2
    have c2b1 : (a0 != 1) = true := bne_iff_ne.mpr c2
    have HC3 := Aside0.mk H
    clear H
    go_enter Tryd.func90, Tryd.ntmps90
    go_upto_if 7 with (fail)
    go_cut [7] (fun v7 wc => ∃ (kq : Nat) (x7_2 : Bool), v7 = .bool x7_2 ∧ Aside0 (parser_shape.j0 kq a0 x7_2 = some (r1, r2)) ∧ Aside0 (kq ≤ k) ∧ Drawn0 w wc)
    case first =>
      have H := HC3.out
      clear HC3
      by_cases c4 : a0 = 2
      · rw [if_pos c4] at H
        have c4b0 : (a0 == 2) = true := beq_iff_eq.mpr c4
        have c4b1 : (a0 != 2) = false := bne_eq_false_iff_eq.mpr c4
        clear c4
        (first | rw [c4b0] | (simp only [i64_w, i32_w]; rw [c4b0]) | skip)
        have H' := Aside0.mk H
        clear H
        go_wp2
        go_meet
        case rel => exact ⟨_, ((a0 == 2)), (by first | rfl | (simp; done) | (simp [*]; done)), H', ⟨by first | omega | exact Nat.le_refl _⟩, by repeat (first | exact Drawn0.refl _ | apply Drawn0.step)⟩
      · rw [if_neg c4] at H
        have c4b0 : (a0 == 2) = false := beq_eq_false_iff_ne.mpr c4
        have c4b1 : (a0 != 2) = true := bne_iff_ne.mpr c4
        (first | rw [c4b0] | (simp only [i64_w, i32_w]; rw [c4b0]) | skip)
        have H' := Aside0.mk H
        clear H
        go_wp2
        go_meet
        case rel => exact ⟨_, ((a0 == 7)), (by first | rfl | (simp; done) | (simp [*]; done)), H', ⟨by first | omega | exact Nat.le_refl _⟩, by repeat (first | exact Drawn0.refl _ | apply Drawn0.step)⟩
    case rest =>
      clear HC3
      try clear c2
      try clear c2b0
      try clear c2b1
      try clear p2
      try clear c4
      try clear c4b0
      try clear c4b1
      obtain ⟨kq, x7_2, rfl, HA, HJ2, ⟨mc2, rfl⟩⟩ := hcut
      cases kq with
      | zero => exact absurd HA.out (by simp [parser_shape.j0])
      | succ kj2 =>
        have H := HA.out
        clear HA
        simp only [parser_shape.j0] at H
        by_cases c5 : x7_2 = true
        · subst c5
          have H1 : (some (true, 2)) = some (r1, r2) := by rw [if_pos rfl] at H; exact H
          clear H
          have H := H1
          clear H1
          simp only [Option.some.injEq, Prod.mk.injEq] at H
          obtain ⟨rfl, rfl⟩ := H
          go_wp2
          go_ret2
          exact ⟨by first | rfl | (simp; done) | (simp [*]; done), by repeat (first | exact Drawn0.refl _ | apply Drawn0.step)⟩
        · replace c5 := Bool.eq_false_iff.mpr c5
          subst c5
          have H1 : (if a0 = 3 then (some (true, 4)) else (if a0 = 4 then (some (true, 3)) else (if a0 = 5 then (parser_shape.j1 kj2 a0 (a0 == 5)) else (parser_shape.j1 kj2 a0 (a0 == 6))))) = some (r1, r2) := by rw [if_neg (show ¬ (false = true) by decide)] at H; exact H
          clear H
          have H := H1
          clear H1
          by_cases c6 : a0 = 3
          · rw [if_pos c6] at H
            have c6b0 : (a0 == 3) = true := beq_iff_eq.mpr c6
            have c6b1 : (a0 != 3) = false := bne_eq_false_iff_eq.mpr c6
            clear c6
            simp only [Option.some.injEq, Prod.mk.injEq] at H
            obtain ⟨rfl, rfl⟩ := H
            go_wp2
            go_ret2
            exact ⟨by first | rfl | (simp; done) | (simp [*]; done), by repeat (first | exact Drawn0.refl _ | apply Drawn0.step)⟩
          · rw [if_neg c6] at H
            have c6b0 : (a0 == 3) = false := beq_eq_false_iff_ne.mpr c6
            have c6b1 : (a0 != 3) = true := bne_iff_ne.mpr c6
            by_cases c7 : a0 = 4
            · rw [if_pos c7] at H
              have c7b0 : (a0 == 4) = true := beq_iff_eq.mpr c7
              have c7b1 : (a0 != 4) = false := bne_eq_false_iff_eq.mpr c7
              clear c7
              simp only [Option.some.injEq, Prod.mk.injEq] at H
              obtain ⟨rfl, rfl⟩ := H
              go_wp2
              go_ret2
              exact ⟨by first | rfl | (simp; done) | (simp [*]; done), by repeat (first | exact Drawn0.refl _ | apply Drawn0.step)⟩
            · rw [if_neg c7] at H
              have c7b0 : (a0 == 4) = false := beq_eq_false_iff_ne.mpr c7
              have c7b1 : (a0 != 4) = true := bne_iff_ne.mpr c7
              have HC8 := Aside0.mk H
              clear H
              go_upto_if 14 with (fail)
              go_cut [14] (fun v14 wc => ∃ (kq : Nat) (x14_7 : Bool), v14 = .bool x14_7 ∧ Aside0 (parser_shape.j1 kq a0 x14_7 = some (r1, r2)) ∧ Aside0 (kq ≤ kj2) ∧ Drawn0 w wc)
              case first =>
                have H := HC8.out
                clear HC8
                by_cases c9 : a0 = 5
                · rw [if_pos c9] at H
                  have c9b0 : (a0 == 5) = true := beq_iff_eq.mpr c9
                  have c9b1 : (a0 != 5) = false := bne_eq_false_iff_eq.mpr c9
                  clear c9
                  (first | rw [c9b0] | (simp only [i64_w, i32_w]; rw [c9b0]) | skip)
                  have H' := Aside0.mk H
                  clear H
                  go_wp2
                  go_meet
                  case rel => exact ⟨_, ((a0 == 5)), (by first | rfl | (simp; done) | (simp [*]; done)), H', ⟨by have := HJ2.out; first | omega | exact Nat.le_refl _⟩, by repeat (first | exact Drawn0.refl _ | apply Drawn0.step)⟩
                · rw [if_neg c9] at H
                  have c9b0 : (a0 == 5) = false := beq_eq_false_iff_ne.mpr c9
                  have c9b1 : (a0 != 5) = true := bne_iff_ne.mpr c9
                  (first | rw [c9b0] | (simp only [i64_w, i32_w]; rw [c9b0]) | skip)
                  have H' := Aside0.mk H
                  clear H
                  go_wp2
                  go_meet
                  case rel => exact ⟨_, ((a0 == 6)), (by first | rfl | (simp; done) | (simp [*]; done)), H', ⟨by have := HJ2.out; first | omega | exact Nat.le_refl _⟩, by repeat (first | exact Drawn0.refl _ | apply Drawn0.step)⟩
              case rest =>
                clear HC8
                try clear c2
                try clear c2b0
                try clear c2b1
                try clear p2
                try clear c4
                try clear c4b0
                try clear c4b1
                try clear c5
                try clear c6
                try clear c6b0
                try clear c6b1
                try clear c7
                try clear c7b0
                try clear c7b1
                try clear c9
                try clear c9b0
                try clear c9b1
                try clear p2
                obtain ⟨kq, x14_7, rfl, HA, HJ7, ⟨mc7, rfl⟩⟩ := hcut
                cases kq with
                | zero => exact absurd HA.out (by simp [parser_shape.j1])
                | succ kj7 =>
                  have H := HA.out
                  clear HA
                  simp only [parser_shape.j1] at H
                  by_cases c10 : x14_7 = true
                  · subst c10
                    have H1 : (some (true, 1)) = some (r1, r2) := by rw [if_pos rfl] at H; exact H
                    clear H
                    have H := H1
                    clear H1
                    simp only [Option.some.injEq, Prod.mk.injEq] at H
                    obtain ⟨rfl, rfl⟩ := H
                    go_wp2
                    go_ret2
                    exact ⟨by first | rfl | (simp; done) | (simp [*]; done), by repeat (first | exact Drawn0.refl _ | apply Drawn0.step)⟩
                  · replace c10 := Bool.eq_false_iff.mpr c10
                    subst c10
                    have H1 : (if a0 = 8 then (some (false, 6)) else (if a0 = 9 then (some (false, 4)) else (if a0 = 10 then (some (false, 3)) else (if a0 = 11 then (some (false, 1)) else (some (false, (-1))))))) = some (r1, r2) := by rw [if_neg (show ¬ (false = true) by decide)] at H; exact H
                    clear H
                    have H := H1
                    clear H1
                    by_cases c11 : a0 = 8
                    · rw [if_pos c11] at H
                      have c11b0 : (a0 == 8) = true := beq_iff_eq.mpr c11
                      have c11b1 : (a0 != 8) = false := bne_eq_false_iff_eq.mpr c11
                      clear c11
                      simp only [Option.some.injEq, Prod.mk.injEq] at H
                      obtain ⟨rfl, rfl⟩ := H
                      go_wp2
                      go_ret2
                      exact ⟨by first | rfl | (simp; done) | (simp [*]; done), by repeat (first | exact Drawn0.refl _ | apply Drawn0.step)⟩
                    · rw [if_neg c11] at H
                      have c11b0 : (a0 == 8) = false := beq_eq_false_iff_ne.mpr c11
                      have c11b1 : (a0 != 8) = true := bne_iff_ne.mpr c11
                      by_cases c12 : a0 = 9
                      · rw [if_pos c12] at H
                        have c12b0 : (a0 == 9) = true := beq_iff_eq.mpr c12
                        have c12b1 : (a0 != 9) = false := bne_eq_false_iff_eq.mpr c12
                        clear c12
                        simp only [Option.some.injEq, Prod.mk.injEq] at H
                        obtain ⟨rfl, rfl⟩ := H
                        go_wp2
                        go_ret2
                        exact ⟨by first | rfl | (simp; done) | (simp [*]; done), by repeat (first | exact Drawn0.refl _ | apply Drawn0.step)⟩
                      · rw [if_neg c12] at H
                        have c12b0 : (a0 == 9) = false := beq_eq_false_iff_ne.mpr c12
                        have c12b1 : (a0 != 9) = true := bne_iff_ne.mpr c12
                        by_cases c13 : a0 = 10
                        · rw [if_pos c13] at H
                          have c13b0 : (a0 == 10) = true := beq_iff_eq.mpr c13
                          have c13b1 : (a0 != 10) = false := bne_eq_false_iff_eq.mpr c13
                          clear c13
                          simp only [Option.some.injEq, Prod.mk.injEq] at H
                          obtain ⟨rfl, rfl⟩ := H
                          go_wp2
                          go_ret2
                          exact ⟨by first | rfl | (simp; done) | (simp [*]; done), by repeat (first | exact Drawn0.refl _ | apply Drawn0.step)⟩
                        · rw [if_neg c13] at H
                          have c13b0 : (a0 == 10) = false := beq_eq_false_iff_ne.mpr c13
                          have c13b1 : (a0 != 10) = true := bne_iff_ne.mpr c13
                          by_cases c14 : a0 = 11
                          · rw [if_pos c14] at H
                            have c14b0 : (a0 == 11) = true := beq_iff_eq.mpr c14
                            have c14b1 : (a0 != 11) = false := bne_eq_false_iff_eq.mpr c14
                            clear c14
                            simp only [Option.some.injEq, Prod.mk.injEq] at H
                            obtain ⟨rfl, rfl⟩ := H
                            go_wp2
                            go_ret2
                            exact ⟨by first | rfl | (simp; done) | (simp [*]; done), by repeat (first | exact Drawn0.refl _ | apply Drawn0.step)⟩
                          · rw [if_neg c14] at H
                            have c14b0 : (a0 == 11) = false := beq_eq_false_iff_ne.mpr c14
                            have c14b1 : (a0 != 11) = true := bne_iff_ne.mpr c14
                            simp only [Option.some.injEq, Prod.mk.injEq] at H
                            obtain ⟨rfl, rfl⟩ := H
                            go_wp2
                            go_ret2
                            exact ⟨by first | rfl | (simp; done) | (simp [*]; done), by repeat (first | exact Drawn0.refl _ | apply Drawn0.step)⟩

/-! ### parser_isWord: function 112 -/
def parser_isWord.f (a0 : ByteArray) : Option (Bool) := if a0.toList = ([109, 101, 115, 104] : List UInt8) then (some true) else (if a0.toList = ([100, 97, 116, 97] : List UInt8) then (some true) else (if a0.toList = ([114, 97, 110, 103, 101] : List UInt8) then (some true) else (if a0.toList = ([114, 111, 111, 116] : List UInt8) then (some true) else (if a0.toList = ([97, 116] : List UInt8) then (some true) else (if a0.toList = ([110, 111, 100, 101] : List UInt8) then (some true) else (if a0.toList = ([102, 97, 115, 116] : List UInt8) then (some true) else (if a0.toList = ([115, 108, 111, 119] : List UInt8) then (some true) else (if a0.toList = ([98, 97, 116, 116, 101, 114, 121] : List UInt8) then (some true) else (if a0.toList = ([109, 111, 118, 101] : List UInt8) then (some true) else (if a0.toList = ([102, 97, 105, 108] : List UInt8) then (some true) else (if a0.toList = ([115, 116, 97, 114, 116] : List UInt8) then (some true) else (if a0.toList = ([114, 101, 97, 100] : List UInt8) then (some true) else (if a0.toList = ([106, 97, 109] : List UInt8) then (some true) else (if a0.toList = ([114, 97, 100, 105, 117, 115] : List UInt8) then (some true) else (if a0.toList = ([99, 104, 97, 110, 110, 101, 108] : List UInt8) then (some true) else (if a0.toList = ([102, 111, 114] : List UInt8) then (some true) else (if a0.toList = ([114, 101, 112, 108, 97, 121] : List UInt8) then (some true) else (if a0.toList = ([112, 114, 111, 103, 114, 97, 109] : List UInt8) then (some true) else (if a0.toList = ([115, 105, 122, 101] : List UInt8) then (some true) else (if a0.toList = ([114, 117, 110] : List UInt8) then (some true) else (some false)))))))))))))))))))))
set_option maxHeartbeats 8000000 in
set_option maxRecDepth 100000 in
theorem parser_isWord.calls (a0 : ByteArray) (r : Bool) (w : World) (h : parser_isWord.f a0 = some r) :
    Calls Tryd.prog 112 #[.string a0] w fun e w' => e = .returned (.bool r) ∧ Drawn0 w w' := by
  have H : (if a0.toList = ([109, 101, 115, 104] : List UInt8) then (some true) else (if a0.toList = ([100, 97, 116, 97] : List UInt8) then (some true) else (if a0.toList = ([114, 97, 110, 103, 101] : List UInt8) then (some true) else (if a0.toList = ([114, 111, 111, 116] : List UInt8) then (some true) else (if a0.toList = ([97, 116] : List UInt8) then (some true) else (if a0.toList = ([110, 111, 100, 101] : List UInt8) then (some true) else (if a0.toList = ([102, 97, 115, 116] : List UInt8) then (some true) else (if a0.toList = ([115, 108, 111, 119] : List UInt8) then (some true) else (if a0.toList = ([98, 97, 116, 116, 101, 114, 121] : List UInt8) then (some true) else (if a0.toList = ([109, 111, 118, 101] : List UInt8) then (some true) else (if a0.toList = ([102, 97, 105, 108] : List UInt8) then (some true) else (if a0.toList = ([115, 116, 97, 114, 116] : List UInt8) then (some true) else (if a0.toList = ([114, 101, 97, 100] : List UInt8) then (some true) else (if a0.toList = ([106, 97, 109] : List UInt8) then (some true) else (if a0.toList = ([114, 97, 100, 105, 117, 115] : List UInt8) then (some true) else (if a0.toList = ([99, 104, 97, 110, 110, 101, 108] : List UInt8) then (some true) else (if a0.toList = ([102, 111, 114] : List UInt8) then (some true) else (if a0.toList = ([114, 101, 112, 108, 97, 121] : List UInt8) then (some true) else (if a0.toList = ([112, 114, 111, 103, 114, 97, 109] : List UInt8) then (some true) else (if a0.toList = ([115, 105, 122, 101] : List UInt8) then (some true) else (if a0.toList = ([114, 117, 110] : List UInt8) then (some true) else (some false)))))))))))))))))))))) = some r := h
  clear h
  by_cases c2 : a0.toList = ([109, 101, 115, 104] : List UInt8)
  · rw [if_pos c2] at H
    have c2b0 : (a0.toList == ([109, 101, 115, 104] : List UInt8)) = true := beq_iff_eq.mpr c2
    have c2b1 : (a0.toList != ([109, 101, 115, 104] : List UInt8)) = false := bne_eq_false_iff_eq.mpr c2
    clear c2
    obtain rfl := Option.some.inj H
    go_enter Tryd.func112, Tryd.ntmps112
    go_wp2
    go_ret
    exact ⟨by first | rfl | (simp; done) | (simp [*]; done), by repeat (first | exact Drawn0.refl _ | apply Drawn0.step)⟩
  · rw [if_neg c2] at H
    have c2b0 : (a0.toList == ([109, 101, 115, 104] : List UInt8)) = false := beq_eq_false_iff_ne.mpr c2
    have c2b1 : (a0.toList != ([109, 101, 115, 104] : List UInt8)) = true := bne_iff_ne.mpr c2
    by_cases c3 : a0.toList = ([100, 97, 116, 97] : List UInt8)
    · rw [if_pos c3] at H
      have c3b0 : (a0.toList == ([100, 97, 116, 97] : List UInt8)) = true := beq_iff_eq.mpr c3
      have c3b1 : (a0.toList != ([100, 97, 116, 97] : List UInt8)) = false := bne_eq_false_iff_eq.mpr c3
      clear c3
      obtain rfl := Option.some.inj H
      go_enter Tryd.func112, Tryd.ntmps112
      go_wp2
      go_ret
      exact ⟨by first | rfl | (simp; done) | (simp [*]; done), by repeat (first | exact Drawn0.refl _ | apply Drawn0.step)⟩
    · rw [if_neg c3] at H
      have c3b0 : (a0.toList == ([100, 97, 116, 97] : List UInt8)) = false := beq_eq_false_iff_ne.mpr c3
      have c3b1 : (a0.toList != ([100, 97, 116, 97] : List UInt8)) = true := bne_iff_ne.mpr c3
      by_cases c4 : a0.toList = ([114, 97, 110, 103, 101] : List UInt8)
      · rw [if_pos c4] at H
        have c4b0 : (a0.toList == ([114, 97, 110, 103, 101] : List UInt8)) = true := beq_iff_eq.mpr c4
        have c4b1 : (a0.toList != ([114, 97, 110, 103, 101] : List UInt8)) = false := bne_eq_false_iff_eq.mpr c4
        clear c4
        obtain rfl := Option.some.inj H
        go_enter Tryd.func112, Tryd.ntmps112
        go_wp2
        go_ret
        exact ⟨by first | rfl | (simp; done) | (simp [*]; done), by repeat (first | exact Drawn0.refl _ | apply Drawn0.step)⟩
      · rw [if_neg c4] at H
        have c4b0 : (a0.toList == ([114, 97, 110, 103, 101] : List UInt8)) = false := beq_eq_false_iff_ne.mpr c4
        have c4b1 : (a0.toList != ([114, 97, 110, 103, 101] : List UInt8)) = true := bne_iff_ne.mpr c4
        by_cases c5 : a0.toList = ([114, 111, 111, 116] : List UInt8)
        · rw [if_pos c5] at H
          have c5b0 : (a0.toList == ([114, 111, 111, 116] : List UInt8)) = true := beq_iff_eq.mpr c5
          have c5b1 : (a0.toList != ([114, 111, 111, 116] : List UInt8)) = false := bne_eq_false_iff_eq.mpr c5
          clear c5
          obtain rfl := Option.some.inj H
          go_enter Tryd.func112, Tryd.ntmps112
          go_wp2
          go_ret
          exact ⟨by first | rfl | (simp; done) | (simp [*]; done), by repeat (first | exact Drawn0.refl _ | apply Drawn0.step)⟩
        · rw [if_neg c5] at H
          have c5b0 : (a0.toList == ([114, 111, 111, 116] : List UInt8)) = false := beq_eq_false_iff_ne.mpr c5
          have c5b1 : (a0.toList != ([114, 111, 111, 116] : List UInt8)) = true := bne_iff_ne.mpr c5
          by_cases c6 : a0.toList = ([97, 116] : List UInt8)
          · rw [if_pos c6] at H
            have c6b0 : (a0.toList == ([97, 116] : List UInt8)) = true := beq_iff_eq.mpr c6
            have c6b1 : (a0.toList != ([97, 116] : List UInt8)) = false := bne_eq_false_iff_eq.mpr c6
            clear c6
            obtain rfl := Option.some.inj H
            go_enter Tryd.func112, Tryd.ntmps112
            go_wp2
            go_ret
            exact ⟨by first | rfl | (simp; done) | (simp [*]; done), by repeat (first | exact Drawn0.refl _ | apply Drawn0.step)⟩
          · rw [if_neg c6] at H
            have c6b0 : (a0.toList == ([97, 116] : List UInt8)) = false := beq_eq_false_iff_ne.mpr c6
            have c6b1 : (a0.toList != ([97, 116] : List UInt8)) = true := bne_iff_ne.mpr c6
            by_cases c7 : a0.toList = ([110, 111, 100, 101] : List UInt8)
            · rw [if_pos c7] at H
              have c7b0 : (a0.toList == ([110, 111, 100, 101] : List UInt8)) = true := beq_iff_eq.mpr c7
              have c7b1 : (a0.toList != ([110, 111, 100, 101] : List UInt8)) = false := bne_eq_false_iff_eq.mpr c7
              clear c7
              obtain rfl := Option.some.inj H
              go_enter Tryd.func112, Tryd.ntmps112
              go_wp2
              go_ret
              exact ⟨by first | rfl | (simp; done) | (simp [*]; done), by repeat (first | exact Drawn0.refl _ | apply Drawn0.step)⟩
            · rw [if_neg c7] at H
              have c7b0 : (a0.toList == ([110, 111, 100, 101] : List UInt8)) = false := beq_eq_false_iff_ne.mpr c7
              have c7b1 : (a0.toList != ([110, 111, 100, 101] : List UInt8)) = true := bne_iff_ne.mpr c7
              by_cases c8 : a0.toList = ([102, 97, 115, 116] : List UInt8)
              · rw [if_pos c8] at H
                have c8b0 : (a0.toList == ([102, 97, 115, 116] : List UInt8)) = true := beq_iff_eq.mpr c8
                have c8b1 : (a0.toList != ([102, 97, 115, 116] : List UInt8)) = false := bne_eq_false_iff_eq.mpr c8
                clear c8
                obtain rfl := Option.some.inj H
                go_enter Tryd.func112, Tryd.ntmps112
                go_wp2
                go_ret
                exact ⟨by first | rfl | (simp; done) | (simp [*]; done), by repeat (first | exact Drawn0.refl _ | apply Drawn0.step)⟩
              · rw [if_neg c8] at H
                have c8b0 : (a0.toList == ([102, 97, 115, 116] : List UInt8)) = false := beq_eq_false_iff_ne.mpr c8
                have c8b1 : (a0.toList != ([102, 97, 115, 116] : List UInt8)) = true := bne_iff_ne.mpr c8
                by_cases c9 : a0.toList = ([115, 108, 111, 119] : List UInt8)
                · rw [if_pos c9] at H
                  have c9b0 : (a0.toList == ([115, 108, 111, 119] : List UInt8)) = true := beq_iff_eq.mpr c9
                  have c9b1 : (a0.toList != ([115, 108, 111, 119] : List UInt8)) = false := bne_eq_false_iff_eq.mpr c9
                  clear c9
                  obtain rfl := Option.some.inj H
                  go_enter Tryd.func112, Tryd.ntmps112
                  go_wp2
                  go_ret
                  exact ⟨by first | rfl | (simp; done) | (simp [*]; done), by repeat (first | exact Drawn0.refl _ | apply Drawn0.step)⟩
                · rw [if_neg c9] at H
                  have c9b0 : (a0.toList == ([115, 108, 111, 119] : List UInt8)) = false := beq_eq_false_iff_ne.mpr c9
                  have c9b1 : (a0.toList != ([115, 108, 111, 119] : List UInt8)) = true := bne_iff_ne.mpr c9
                  by_cases c10 : a0.toList = ([98, 97, 116, 116, 101, 114, 121] : List UInt8)
                  · rw [if_pos c10] at H
                    have c10b0 : (a0.toList == ([98, 97, 116, 116, 101, 114, 121] : List UInt8)) = true := beq_iff_eq.mpr c10
                    have c10b1 : (a0.toList != ([98, 97, 116, 116, 101, 114, 121] : List UInt8)) = false := bne_eq_false_iff_eq.mpr c10
                    clear c10
                    obtain rfl := Option.some.inj H
                    go_enter Tryd.func112, Tryd.ntmps112
                    go_wp2
                    go_ret
                    exact ⟨by first | rfl | (simp; done) | (simp [*]; done), by repeat (first | exact Drawn0.refl _ | apply Drawn0.step)⟩
                  · rw [if_neg c10] at H
                    have c10b0 : (a0.toList == ([98, 97, 116, 116, 101, 114, 121] : List UInt8)) = false := beq_eq_false_iff_ne.mpr c10
                    have c10b1 : (a0.toList != ([98, 97, 116, 116, 101, 114, 121] : List UInt8)) = true := bne_iff_ne.mpr c10
                    by_cases c11 : a0.toList = ([109, 111, 118, 101] : List UInt8)
                    · rw [if_pos c11] at H
                      have c11b0 : (a0.toList == ([109, 111, 118, 101] : List UInt8)) = true := beq_iff_eq.mpr c11
                      have c11b1 : (a0.toList != ([109, 111, 118, 101] : List UInt8)) = false := bne_eq_false_iff_eq.mpr c11
                      clear c11
                      obtain rfl := Option.some.inj H
                      go_enter Tryd.func112, Tryd.ntmps112
                      go_wp2
                      go_ret
                      exact ⟨by first | rfl | (simp; done) | (simp [*]; done), by repeat (first | exact Drawn0.refl _ | apply Drawn0.step)⟩
                    · rw [if_neg c11] at H
                      have c11b0 : (a0.toList == ([109, 111, 118, 101] : List UInt8)) = false := beq_eq_false_iff_ne.mpr c11
                      have c11b1 : (a0.toList != ([109, 111, 118, 101] : List UInt8)) = true := bne_iff_ne.mpr c11
                      by_cases c12 : a0.toList = ([102, 97, 105, 108] : List UInt8)
                      · rw [if_pos c12] at H
                        have c12b0 : (a0.toList == ([102, 97, 105, 108] : List UInt8)) = true := beq_iff_eq.mpr c12
                        have c12b1 : (a0.toList != ([102, 97, 105, 108] : List UInt8)) = false := bne_eq_false_iff_eq.mpr c12
                        clear c12
                        obtain rfl := Option.some.inj H
                        go_enter Tryd.func112, Tryd.ntmps112
                        go_wp2
                        go_ret
                        exact ⟨by first | rfl | (simp; done) | (simp [*]; done), by repeat (first | exact Drawn0.refl _ | apply Drawn0.step)⟩
                      · rw [if_neg c12] at H
                        have c12b0 : (a0.toList == ([102, 97, 105, 108] : List UInt8)) = false := beq_eq_false_iff_ne.mpr c12
                        have c12b1 : (a0.toList != ([102, 97, 105, 108] : List UInt8)) = true := bne_iff_ne.mpr c12
                        by_cases c13 : a0.toList = ([115, 116, 97, 114, 116] : List UInt8)
                        · rw [if_pos c13] at H
                          have c13b0 : (a0.toList == ([115, 116, 97, 114, 116] : List UInt8)) = true := beq_iff_eq.mpr c13
                          have c13b1 : (a0.toList != ([115, 116, 97, 114, 116] : List UInt8)) = false := bne_eq_false_iff_eq.mpr c13
                          clear c13
                          obtain rfl := Option.some.inj H
                          go_enter Tryd.func112, Tryd.ntmps112
                          go_wp2
                          go_ret
                          exact ⟨by first | rfl | (simp; done) | (simp [*]; done), by repeat (first | exact Drawn0.refl _ | apply Drawn0.step)⟩
                        · rw [if_neg c13] at H
                          have c13b0 : (a0.toList == ([115, 116, 97, 114, 116] : List UInt8)) = false := beq_eq_false_iff_ne.mpr c13
                          have c13b1 : (a0.toList != ([115, 116, 97, 114, 116] : List UInt8)) = true := bne_iff_ne.mpr c13
                          by_cases c14 : a0.toList = ([114, 101, 97, 100] : List UInt8)
                          · rw [if_pos c14] at H
                            have c14b0 : (a0.toList == ([114, 101, 97, 100] : List UInt8)) = true := beq_iff_eq.mpr c14
                            have c14b1 : (a0.toList != ([114, 101, 97, 100] : List UInt8)) = false := bne_eq_false_iff_eq.mpr c14
                            clear c14
                            obtain rfl := Option.some.inj H
                            go_enter Tryd.func112, Tryd.ntmps112
                            go_wp2
                            go_ret
                            exact ⟨by first | rfl | (simp; done) | (simp [*]; done), by repeat (first | exact Drawn0.refl _ | apply Drawn0.step)⟩
                          · rw [if_neg c14] at H
                            have c14b0 : (a0.toList == ([114, 101, 97, 100] : List UInt8)) = false := beq_eq_false_iff_ne.mpr c14
                            have c14b1 : (a0.toList != ([114, 101, 97, 100] : List UInt8)) = true := bne_iff_ne.mpr c14
                            by_cases c15 : a0.toList = ([106, 97, 109] : List UInt8)
                            · rw [if_pos c15] at H
                              have c15b0 : (a0.toList == ([106, 97, 109] : List UInt8)) = true := beq_iff_eq.mpr c15
                              have c15b1 : (a0.toList != ([106, 97, 109] : List UInt8)) = false := bne_eq_false_iff_eq.mpr c15
                              clear c15
                              obtain rfl := Option.some.inj H
                              go_enter Tryd.func112, Tryd.ntmps112
                              go_wp2
                              go_ret
                              exact ⟨by first | rfl | (simp; done) | (simp [*]; done), by repeat (first | exact Drawn0.refl _ | apply Drawn0.step)⟩
                            · rw [if_neg c15] at H
                              have c15b0 : (a0.toList == ([106, 97, 109] : List UInt8)) = false := beq_eq_false_iff_ne.mpr c15
                              have c15b1 : (a0.toList != ([106, 97, 109] : List UInt8)) = true := bne_iff_ne.mpr c15
                              by_cases c16 : a0.toList = ([114, 97, 100, 105, 117, 115] : List UInt8)
                              · rw [if_pos c16] at H
                                have c16b0 : (a0.toList == ([114, 97, 100, 105, 117, 115] : List UInt8)) = true := beq_iff_eq.mpr c16
                                have c16b1 : (a0.toList != ([114, 97, 100, 105, 117, 115] : List UInt8)) = false := bne_eq_false_iff_eq.mpr c16
                                clear c16
                                obtain rfl := Option.some.inj H
                                go_enter Tryd.func112, Tryd.ntmps112
                                go_wp2
                                go_ret
                                exact ⟨by first | rfl | (simp; done) | (simp [*]; done), by repeat (first | exact Drawn0.refl _ | apply Drawn0.step)⟩
                              · rw [if_neg c16] at H
                                have c16b0 : (a0.toList == ([114, 97, 100, 105, 117, 115] : List UInt8)) = false := beq_eq_false_iff_ne.mpr c16
                                have c16b1 : (a0.toList != ([114, 97, 100, 105, 117, 115] : List UInt8)) = true := bne_iff_ne.mpr c16
                                by_cases c17 : a0.toList = ([99, 104, 97, 110, 110, 101, 108] : List UInt8)
                                · rw [if_pos c17] at H
                                  have c17b0 : (a0.toList == ([99, 104, 97, 110, 110, 101, 108] : List UInt8)) = true := beq_iff_eq.mpr c17
                                  have c17b1 : (a0.toList != ([99, 104, 97, 110, 110, 101, 108] : List UInt8)) = false := bne_eq_false_iff_eq.mpr c17
                                  clear c17
                                  obtain rfl := Option.some.inj H
                                  go_enter Tryd.func112, Tryd.ntmps112
                                  go_wp2
                                  go_ret
                                  exact ⟨by first | rfl | (simp; done) | (simp [*]; done), by repeat (first | exact Drawn0.refl _ | apply Drawn0.step)⟩
                                · rw [if_neg c17] at H
                                  have c17b0 : (a0.toList == ([99, 104, 97, 110, 110, 101, 108] : List UInt8)) = false := beq_eq_false_iff_ne.mpr c17
                                  have c17b1 : (a0.toList != ([99, 104, 97, 110, 110, 101, 108] : List UInt8)) = true := bne_iff_ne.mpr c17
                                  by_cases c18 : a0.toList = ([102, 111, 114] : List UInt8)
                                  · rw [if_pos c18] at H
                                    have c18b0 : (a0.toList == ([102, 111, 114] : List UInt8)) = true := beq_iff_eq.mpr c18
                                    have c18b1 : (a0.toList != ([102, 111, 114] : List UInt8)) = false := bne_eq_false_iff_eq.mpr c18
                                    clear c18
                                    obtain rfl := Option.some.inj H
                                    go_enter Tryd.func112, Tryd.ntmps112
                                    go_wp2
                                    go_ret
                                    exact ⟨by first | rfl | (simp; done) | (simp [*]; done), by repeat (first | exact Drawn0.refl _ | apply Drawn0.step)⟩
                                  · rw [if_neg c18] at H
                                    have c18b0 : (a0.toList == ([102, 111, 114] : List UInt8)) = false := beq_eq_false_iff_ne.mpr c18
                                    have c18b1 : (a0.toList != ([102, 111, 114] : List UInt8)) = true := bne_iff_ne.mpr c18
                                    by_cases c19 : a0.toList = ([114, 101, 112, 108, 97, 121] : List UInt8)
                                    · rw [if_pos c19] at H
                                      have c19b0 : (a0.toList == ([114, 101, 112, 108, 97, 121] : List UInt8)) = true := beq_iff_eq.mpr c19
                                      have c19b1 : (a0.toList != ([114, 101, 112, 108, 97, 121] : List UInt8)) = false := bne_eq_false_iff_eq.mpr c19
                                      clear c19
                                      obtain rfl := Option.some.inj H
                                      go_enter Tryd.func112, Tryd.ntmps112
                                      go_wp2
                                      go_ret
                                      exact ⟨by first | rfl | (simp; done) | (simp [*]; done), by repeat (first | exact Drawn0.refl _ | apply Drawn0.step)⟩
                                    · rw [if_neg c19] at H
                                      have c19b0 : (a0.toList == ([114, 101, 112, 108, 97, 121] : List UInt8)) = false := beq_eq_false_iff_ne.mpr c19
                                      have c19b1 : (a0.toList != ([114, 101, 112, 108, 97, 121] : List UInt8)) = true := bne_iff_ne.mpr c19
                                      by_cases c20 : a0.toList = ([112, 114, 111, 103, 114, 97, 109] : List UInt8)
                                      · rw [if_pos c20] at H
                                        have c20b0 : (a0.toList == ([112, 114, 111, 103, 114, 97, 109] : List UInt8)) = true := beq_iff_eq.mpr c20
                                        have c20b1 : (a0.toList != ([112, 114, 111, 103, 114, 97, 109] : List UInt8)) = false := bne_eq_false_iff_eq.mpr c20
                                        clear c20
                                        obtain rfl := Option.some.inj H
                                        go_enter Tryd.func112, Tryd.ntmps112
                                        go_wp2
                                        go_ret
                                        exact ⟨by first | rfl | (simp; done) | (simp [*]; done), by repeat (first | exact Drawn0.refl _ | apply Drawn0.step)⟩
                                      · rw [if_neg c20] at H
                                        have c20b0 : (a0.toList == ([112, 114, 111, 103, 114, 97, 109] : List UInt8)) = false := beq_eq_false_iff_ne.mpr c20
                                        have c20b1 : (a0.toList != ([112, 114, 111, 103, 114, 97, 109] : List UInt8)) = true := bne_iff_ne.mpr c20
                                        by_cases c21 : a0.toList = ([115, 105, 122, 101] : List UInt8)
                                        · rw [if_pos c21] at H
                                          have c21b0 : (a0.toList == ([115, 105, 122, 101] : List UInt8)) = true := beq_iff_eq.mpr c21
                                          have c21b1 : (a0.toList != ([115, 105, 122, 101] : List UInt8)) = false := bne_eq_false_iff_eq.mpr c21
                                          clear c21
                                          obtain rfl := Option.some.inj H
                                          go_enter Tryd.func112, Tryd.ntmps112
                                          go_wp2
                                          go_ret
                                          exact ⟨by first | rfl | (simp; done) | (simp [*]; done), by repeat (first | exact Drawn0.refl _ | apply Drawn0.step)⟩
                                        · rw [if_neg c21] at H
                                          have c21b0 : (a0.toList == ([115, 105, 122, 101] : List UInt8)) = false := beq_eq_false_iff_ne.mpr c21
                                          have c21b1 : (a0.toList != ([115, 105, 122, 101] : List UInt8)) = true := bne_iff_ne.mpr c21
                                          by_cases c22 : a0.toList = ([114, 117, 110] : List UInt8)
                                          · rw [if_pos c22] at H
                                            have c22b0 : (a0.toList == ([114, 117, 110] : List UInt8)) = true := beq_iff_eq.mpr c22
                                            have c22b1 : (a0.toList != ([114, 117, 110] : List UInt8)) = false := bne_eq_false_iff_eq.mpr c22
                                            clear c22
                                            obtain rfl := Option.some.inj H
                                            go_enter Tryd.func112, Tryd.ntmps112
                                            go_wp2
                                            go_ret
                                            exact ⟨by first | rfl | (simp; done) | (simp [*]; done), by repeat (first | exact Drawn0.refl _ | apply Drawn0.step)⟩
                                          · rw [if_neg c22] at H
                                            have c22b0 : (a0.toList == ([114, 117, 110] : List UInt8)) = false := beq_eq_false_iff_ne.mpr c22
                                            have c22b1 : (a0.toList != ([114, 117, 110] : List UInt8)) = true := bne_iff_ne.mpr c22
                                            obtain rfl := Option.some.inj H
                                            go_enter Tryd.func112, Tryd.ntmps112
                                            go_wp2
                                            go_ret
                                            exact ⟨by first | rfl | (simp; done) | (simp [*]; done), by repeat (first | exact Drawn0.refl _ | apply Drawn0.step)⟩

end Go.Proofs.YtdedlchpjboceaaDoor.PB
end

section
/-
  The parser's words and names: walked.
-/
namespace Go.Proofs.YtdedlchpjboceaaDoor.Px
open Go.RowKit Go.Shelf Go.Proofs.YtdedlchpjboceaaDoor.Lx Go.Proofs.YtdedlchpjboceaaDoorW.PrintWords
attribute [local go_sem] Oper.semAt_some

/-- The key words. -/
def words : List (List UInt8) := [[109, 101, 115, 104], [100, 97, 116, 97], [114, 97, 110, 103, 101], [114, 111, 111, 116], [97, 116], [110, 111, 100, 101], [102, 97, 115, 116], [115, 108, 111, 119], [98, 97, 116, 116, 101, 114, 121], [109, 111, 118, 101], [102, 97, 105, 108], [115, 116, 97, 114, 116], [114, 101, 97, 100], [106, 97, 109], [114, 97, 100, 105, 117, 115], [99, 104, 97, 110, 110, 101, 108], [102, 111, 114], [114, 101, 112, 108, 97, 121], [112, 114, 111, 103, 114, 97, 109], [115, 105, 122, 101], [114, 117, 110]]
def wordB (l : List UInt8) : Bool := words.contains l
theorem ite_contains {l w : List UInt8} {ws : List (List UInt8)} {r : Option Bool} (h : r = some (ws.contains l)) : (if l = w then some true else r) = some ((w :: ws).contains l) := by
  by_cases e : l = w
  · rw [if_pos e, e, List.contains_cons]; simp
  · rw [if_neg e, h, List.contains_cons, beq_eq_false_iff_ne.2 e, Bool.false_or]
theorem isWord_f (s : ByteArray) : PB.parser_isWord.f s = some (wordB s.data.toList) := by
  unfold PB.parser_isWord.f wordB words
  rw [ByteArray.toList_eq]
  generalize s.data.toList = l
  iterate 21 refine ite_contains ?_
  rfl
/-- May a byte stand in a name, at its beginning (first) or behind it? -/
def nameC (first : Bool) (c : Int) : Bool := decide (97 ≤ c ∧ c ≤ 122) || (!first && decide (c = 95 ∨ (48 ≤ c ∧ c ≤ 57)))
def chk : Bool → List UInt8 → Bool
  | _, [] => true
  | f, c :: t => nameC f c.toNat && chk false t
def nameB (l : List UInt8) : Bool := decide (0 < l.length ∧ l.length ≤ 12) && !wordB l && chk true l

theorem size_ne {s : ByteArray} (h : 0 < s.size) : (s.toList == ([] : List UInt8)) = false :=
  beq_eq_false_iff_ne.mpr (by rw [ByteArray.toList_eq]; intro e; rw [← list_size, e] at h; simp at h)
theorem name_empty (w : World) : Calls Tryd.prog 91 #[.string ⟨#[]⟩] w fun e w' => e = .returned (.bool false) ∧ Below w.heap.size w w' := by
  go_enter Tryd.func91, Tryd.ntmps91
  go_wp2
  go_ret
  exact ⟨rfl, Below.refl _ _⟩
theorem name_long (s : ByteArray) (h : 12 < s.size) (w : World) : Calls Tryd.prog 91 #[.string s] w fun e w' => e = .returned (.bool false) ∧ Below w.heap.size w w' := by
  have h0 := size_ne (s := s) (by omega)
  go_enter Tryd.func91, Tryd.ntmps91
  go_wp2
  go_ret
  exact ⟨rfl, Below.refl _ _⟩
theorem name_word (s : ByteArray) (h1 : 0 < s.size) (h : s.size ≤ 12) (hw : wordB s.data.toList = true) (w : World) : Calls Tryd.prog 91 #[.string s] w fun e w' => e = .returned (.bool false) ∧ Below w.heap.size w w' := by
  have h0 := size_ne (s := s) (by omega)
  have hc := fun W => PB.parser_isWord.calls s true W (by rw [isWord_f, hw])
  clear hw
  go_enter Tryd.func91, Tryd.ntmps91
  go_wp2_with (go_at_call 112; refine (hc _).mono ?_; rintro e w' ⟨rfl, hd⟩)
  go_ret
  exact ⟨rfl, hd.below⟩

theorem nameC_iff (k : Nat) (c : Int) : nameC (decide (k = 0)) c = true ↔ ((97 ≤ c ∧ c ≤ 122) ∨ (k ≠ 0 ∧ (c = 95 ∨ (48 ≤ c ∧ c ≤ 57)))) := by
  unfold nameC; simp
theorem chk_drop {s : ByteArray} {k : Nat} (h : k < s.size) (f : Bool) : chk f (s.data.toList.drop k) = (nameC f (s[k].toNat : Int) && chk false (s.data.toList.drop (k + 1))) := by
  rw [drop_at s k h]; rfl
set_option maxHeartbeats 4000000 in
set_option maxRecDepth 100000 in
theorem name_loop (s : ByteArray) (h1 : 0 < s.size) (h : s.size ≤ 12) (hw : wordB s.data.toList = false) (w : World) : Calls Tryd.prog 91 #[.string s] w fun e w' => e = .returned (.bool (chk true s.data.toList)) ∧ Below w.heap.size w w' := by
  have h0 := size_ne (s := s) (by omega)
  have hc := fun W => PB.parser_isWord.calls s false W (by rw [isWord_f, hw])
  have hconv := fun W => Lib.run_convert_string_bytes (P := Tryd.prog) W 9 58 5 s Tryd.underlying9 Tryd.underlying58 Tryd.underlying5
  clear hw
  go_enter Tryd.func91, Tryd.ntmps91
  go_wp2_with (go_at_call 112; refine (hc _).mono ?_; rintro e w' ⟨rfl, hd⟩)
  · exfalso; omega
  · have hB : Below w.heap.size w (Lib.bytesWorld w' 5 s) := below_then hd.below hd.below.size (Lib.bytesWorld_below _ _ _)
    have hcell : ∀ k : Nat, (hk : k < s.size) → (Lib.bytesWorld w' 5 s).cell? ⟨w'.heap.size, k, none⟩ = some (.int .u8 (s[k].toNat : Int)) := by
      intro k hk
      rw [Lib.bytesWorld_cell _ _ _ _ hk, List.getD_eq_getElem?_getD, List.getElem?_eq_getElem (by rw [list_size]; exact hk)]; rfl
    generalize Lib.bytesWorld w' 5 s = W2 at *
    go_loop [20] (fun i => ∃ k : Nat, k ≤ s.size ∧ i = .int .i64 k ∧ Hid (chk (decide (k = 0)) (s.data.toList.drop k) = chk true s.data.toList)) (fun i => s.size - (intOf i).toNat)
    case atStart => exact ⟨0, by omega, rfl, Lib.hid (by simp)⟩
    case round =>
      obtain ⟨k, hk, rfl, hH⟩ := hrel
      by_cases hlt : k < s.size
      · have hb := s[k].toNat_lt
        have hce := hcell k hlt
        have hst := chk_drop hlt (decide (k = 0))
        obtain ⟨c, hcd⟩ : ∃ c : Int, (s[k].toNat : Int) = c := ⟨_, rfl⟩
        have hb0 : 0 ≤ c ∧ c ≤ 255 := by omega
        rw [hcd] at hce hst
        cases hn : nameC (decide (k = 0)) c with
        | true =>
          rw [hn, Bool.true_and] at hst
          have H2 := Lib.hid hst
          have hp := (nameC_iff k c).1 hn
          clear hst hn hcd hb hcell
          rcases hp with ⟨p1, p2⟩ | ⟨p0, p1 | ⟨p1, p2⟩⟩
          all_goals
            go_wp2
            all_goals first
              | (exfalso; omega)
              | (go_round
                 case rel => exact ⟨k + 1, by omega, by go_num, Lib.hid (by rw [← hH.out, H2.out]; rfl)⟩
                 case measure => simp [intOf]; omega)
        | false =>
          rw [hn, Bool.false_and] at hst
          have H2 : Hid (false = chk true s.data.toList) := Lib.hid (by rw [← hH.out, hst])
          have hp := (not_congr (nameC_iff k c)).1 (by rw [hn]; decide)
          clear hst hn hcd hb hcell hH
          rcases (by omega : (k = 0 ∧ (c < 97 ∨ 122 < c)) ∨ (k ≠ 0 ∧ c < 48) ∨ (k ≠ 0 ∧ 57 < c ∧ c < 95) ∨ (k ≠ 0 ∧ c = 96) ∨ (k ≠ 0 ∧ 122 < c)) with ⟨rfl, q1 | q1⟩ | ⟨q0, q1⟩ | ⟨q0, q1, q2⟩ | ⟨q0, q1⟩ | ⟨q0, q1⟩
          all_goals
            clear hp
            go_wp2
            all_goals first
              | (exfalso; omega)
              | (go_ret
                 exact ⟨ret_bool H2.out, hB⟩)
      · have hkk : k = s.size := by omega
        have H2 : Hid (true = chk true s.data.toList) := Lib.hid (by rw [← hH.out, List.drop_of_length_le (by rw [list_size]; omega)]; rfl)
        clear hH hcell
        go_wp2
        all_goals first
          | (exfalso; omega)
          | (go_ret
             exact ⟨ret_bool H2.out, hB⟩)
/-- 'isName', whatever the text. -/
theorem isName_any (s : ByteArray) (w : World) : Calls Tryd.prog 91 #[.string s] w fun e w' => e = .returned (.bool (nameB s.data.toList)) ∧ Below w.heap.size w w' := by
  have hz : s.data.toList.length = s.size := rfl
  by_cases h1 : 0 < s.size
  · by_cases h2 : s.size ≤ 12
    · cases hw : wordB s.data.toList with
      | true =>
        have : nameB s.data.toList = false := by unfold nameB; rw [hw]; simp
        rw [this]; exact name_word s h1 h2 hw w
      | false =>
        have : nameB s.data.toList = chk true s.data.toList := by unfold nameB; rw [hw, hz, decide_eq_true ⟨h1, h2⟩]; rfl
        rw [this]; exact name_loop s h1 h2 hw w
    · have : nameB s.data.toList = false := by unfold nameB; rw [hz, decide_eq_false (by omega)]; rfl
      rw [this]; exact name_long s (by omega) w
  · have h0 : s = ⟨#[]⟩ := by
      have : s.data.toList = [] := List.eq_nil_of_length_eq_zero (by omega)
      obtain ⟨⟨l⟩⟩ := s
      simp at this; subst this; rfl
    have : nameB s.data.toList = false := by unfold nameB; rw [hz, decide_eq_false (by omega)]; rfl
    rw [this]; subst h0; exact name_empty w

end Go.Proofs.YtdedlchpjboceaaDoor.Px
end

section
/-
  The parser's 'isCommand', walked.
-/
namespace Go.Proofs.YtdedlchpjboceaaDoor.Px
open Go.RowKit Go.Shelf Go.Proofs.YtdedlchpjboceaaDoor.Lx Go.Proofs.YtdedlchpjboceaaDoorW.PrintWords
attribute [local go_sem] Oper.semAt_some

/-- Whether commands of a kind have a name, and how many numbers. -/
def shp (kd : Int) : Bool × Int :=
  if kd = 1 then (false, 2) else if kd = 2 ∨ kd = 7 then (true, 2) else if kd = 3 then (true, 4) else if kd = 4 then (true, 3) else if kd = 5 ∨ kd = 6 then (true, 1)
  else if kd = 8 then (false, 6) else if kd = 9 then (false, 4) else if kd = 10 then (false, 3) else if kd = 11 then (false, 1) else (false, -1)
theorem shape_f (kd : Int) : PB.parser_shape.f 3 kd = some (shp kd) := by
  by_cases h : 1 ≤ kd ∧ kd ≤ 11
  · rcases (by omega : kd = 1 ∨ kd = 2 ∨ kd = 3 ∨ kd = 4 ∨ kd = 5 ∨ kd = 6 ∨ kd = 7 ∨ kd = 8 ∨ kd = 9 ∨ kd = 10 ∨ kd = 11) with rfl | rfl | rfl | rfl | rfl | rfl | rfl | rfl | rfl | rfl | rfl <;> rfl
  · have h1 : ¬ kd = 1 := by omega
    have h2 : ¬ kd = 2 := by omega
    have h3 : ¬ kd = 3 := by omega
    have h4 : ¬ kd = 4 := by omega
    have h5 : ¬ kd = 5 := by omega
    have h6 : ¬ kd = 6 := by omega
    have h7 : ¬ kd = 7 := by omega
    have h8 : ¬ kd = 8 := by omega
    have h9 : ¬ kd = 9 := by omega
    have h10 : ¬ kd = 10 := by omega
    have h11 : ¬ kd = 11 := by omega
    simp [PB.parser_shape.f, PB.parser_shape.j0, PB.parser_shape.j1, shp, h1, h2, h3, h4, h5, h6, h7, h8, h9, h10, h11]
def numB (kd : Int) (i : Nat) (n : Int) : Bool := decide (n ≤ 1000000000 ∧ (0 ≤ n ∨ (kd = 3 ∧ i = 2 ∧ -1000000000 ≤ n)))
def numsB (kd : Int) : Nat → List Int → Bool
  | _, [] => true
  | i, n :: l => numB kd i n && numsB kd (i + 1) l
/-- Is a command valid? -/
def cmdB (kd : Int) (nm : List UInt8) (ns : List Int) : Bool :=
  decide ((ns.length : Int) = (shp kd).2) && ((shp kd).1 == decide (nm ≠ [])) && (!(shp kd).1 || nameB nm) && numsB kd 0 ns
/-- What a row of numbers reads. -/
def Row (w : World) (A : Option Addr) (ns : List Int) : Prop := ns.length = 0 ∨ ∃ ad, A = some ad ∧ ∀ j, (h : j < ns.length) → w.cell? (ad.add j) = some (.int .i64 ns[j])
theorem Row.below {w w' : World} {A : Option Addr} {ns : List Int} (h : Row w A ns) (hb : Below w.heap.size w w') : Row w' A ns := by
  rcases h with h | ⟨ad, e, h⟩
  · exact .inl h
  · exact .inr ⟨ad, e, fun j hj => (hb.cell (World.block_lt_of_cell? w _ (h j hj))).trans (h j hj)⟩
theorem nums_drop {kd : Int} {ns : List Int} {k : Nat} (h : k < ns.length) : numsB kd k (ns.drop k) = (numB kd k ns[k] && numsB kd (k + 1) (ns.drop (k + 1))) := by
  rw [List.drop_eq_getElem_cons h]; rfl

set_option maxHeartbeats 4000000 in
set_option maxRecDepth 100000 in
theorem cmd_many (kd : Int) (nm : ByteArray) (A : Option Addr) (c : Nat) (ns : List Int) (at_ : Int) (w : World) (nd : Bool) (mn : Int) (hs : shp kd = (nd, mn)) (hm : ¬ (ns.length : Int) = mn) :
    Calls Tryd.prog 61 #[.agg #[.int .i64 kd, .string nm, .slice A ns.length c, .int .i64 at_]] w fun e w' => e = .returned (.bool false) ∧ Below w.heap.size w w' := by
  have hc := fun W => PB.parser_shape.calls 3 kd nd mn W (by rw [shape_f, hs])
  clear hs
  have hm' : (((ns.length : Int)) == mn) = false := beq_eq_false_iff_ne.2 hm
  go_enter Tryd.func61, Tryd.ntmps61
  go_wp2_with (go_at_call 90; refine (hc _).mono ?_; rintro e w' ⟨rfl, ⟨q, rfl⟩⟩)
  go_ret
  exact ⟨rfl, pw_below_drewN (below_alloc (Below.refl _ _) _) _⟩

set_option maxHeartbeats 4000000 in
set_option maxRecDepth 100000 in
theorem cmd_named (kd : Int) (nm : ByteArray) (A : Option Addr) (c : Nat) (ns : List Int) (at_ : Int) (w : World) (nd : Bool) (hs : shp kd = (nd, (ns.length : Int))) (hn : (nd == !(nm.toList == ([] : List UInt8))) = false) :
    Calls Tryd.prog 61 #[.agg #[.int .i64 kd, .string nm, .slice A ns.length c, .int .i64 at_]] w fun e w' => e = .returned (.bool false) ∧ Below w.heap.size w w' := by
  have hc := fun W => PB.parser_shape.calls 3 kd nd ns.length W (by rw [shape_f, hs])
  clear hs
  have hb : (nm.toList == ([] : List UInt8)) = nd := by cases nd <;> cases h : (nm.toList == ([] : List UInt8)) <;> simp_all
  clear hn
  cases nd with
  | true =>
    go_enter Tryd.func61, Tryd.ntmps61
    go_wp2_with (go_at_call 90; refine (hc _).mono ?_; rintro e w' ⟨rfl, ⟨q, rfl⟩⟩)
    go_ret
    exact ⟨rfl, pw_below_drewN (below_alloc (Below.refl _ _) _) _⟩
  | false =>
    go_enter Tryd.func61, Tryd.ntmps61
    go_wp2_with (go_at_call 90; refine (hc _).mono ?_; rintro e w' ⟨rfl, ⟨q, rfl⟩⟩)
    go_ret
    exact ⟨rfl, pw_below_drewN (below_alloc (Below.refl _ _) _) _⟩

set_option maxHeartbeats 4000000 in
set_option maxRecDepth 100000 in
theorem cmd_bad (kd : Int) (nm : ByteArray) (A : Option Addr) (c : Nat) (ns : List Int) (at_ : Int) (w : World) (hs : shp kd = (true, (ns.length : Int))) (h0 : (nm.toList == ([] : List UInt8)) = false) (hn : nameB nm.data.toList = false) :
    Calls Tryd.prog 61 #[.agg #[.int .i64 kd, .string nm, .slice A ns.length c, .int .i64 at_]] w fun e w' => e = .returned (.bool false) ∧ Below w.heap.size w w' := by
  have hc := fun W => PB.parser_shape.calls 3 kd true ns.length W (by rw [shape_f, hs])
  have hi := fun W => isName_any nm W
  rw [hn] at hi
  clear hs hn
  go_enter Tryd.func61, Tryd.ntmps61
  go_wp2_with (first | (go_at_call 90; refine (hc _).mono ?_; rintro e w' ⟨rfl, ⟨q, rfl⟩⟩) | (go_at_call 91; refine (hi _).mono ?_; rintro e w' ⟨rfl, hb⟩))
  go_ret
  exact ⟨rfl, below_then (pw_below_drewN (below_alloc (Below.refl _ _) _) _) (by simp) hb⟩
theorem box_cell (w : World) (cs : Array Value) (t : TypeId) (q j : Nat) : ((w.alloc (.cells cs t)).drewN q).cell? ⟨w.heap.size, j, none⟩ = cs[j]? := by
  show (w.alloc (.cells cs t)).cell? _ = _
  exact World.cell?_alloc_mark w cs t _ j
theorem add_two (a : Addr) : a.add 2 = ⟨a.block, a.off + 2, none⟩ := rfl
theorem numB_iff (kd : Int) (k : Nat) (n : Int) : numB kd k n = true ↔ (n ≤ 1000000000 ∧ (0 ≤ n ∨ (kd = 3 ∧ k = 2 ∧ -1000000000 ≤ n))) := by
  unfold numB; simp
theorem box_kept {w w' : World} {cs : Array Value} {t : TypeId} {q : Nat} (hb : Below ((w.alloc (.cells cs t)).drewN q).heap.size ((w.alloc (.cells cs t)).drewN q) w') (j : Nat) : w'.cell? ⟨w.heap.size, j, none⟩ = cs[j]? :=
  (hb.cell (p := ⟨w.heap.size, j, none⟩) (by show w.heap.size < (w.heap.push _).size; simp)).trans (box_cell w cs t q j)
set_option maxHeartbeats 8000000 in
set_option maxRecDepth 100000 in
theorem cmd_loop_true (kd : Int) (nm : ByteArray) (A : Option Addr) (c : Nat) (ns : List Int) (at_ : Int) (w : World) (hs : shp kd = (true, (ns.length : Int))) (h0 : (nm.toList == ([] : List UInt8)) = !true) (hn : true = true → nameB nm.data.toList = true) (hR : Row w A ns) (hl : ns.length ≤ 1000000) :
    Calls Tryd.prog 61 #[.agg #[.int .i64 kd, .string nm, .slice A ns.length c, .int .i64 at_]] w fun e w' => e = .returned (.bool (numsB kd 0 ns)) ∧ Below w.heap.size w w' := by
  have hc := fun W => PB.parser_shape.calls 3 kd true ns.length W (by rw [shape_f, hs])
  have hi : ∀ W, Calls Tryd.prog 91 #[.string nm] W fun e w' => e = .returned (.bool true) ∧ Below W.heap.size W w' := fun W => by have := isName_any nm W; rw [hn rfl] at this; exact this
  simp only [Bool.not_true] at h0
  clear hs hn
  go_enter Tryd.func61, Tryd.ntmps61
  go_wp2_with (go_at_call 90; refine (hc _).mono ?_; rintro e w' ⟨rfl, ⟨q, rfl⟩⟩)
  have hB1 : ∀ n, Below w.heap.size w ((w.alloc (.cells #[.int .i64 kd, .string nm, .slice A ns.length c, .int .i64 at_] 40)).drewN n) := fun n => pw_below_drewN (below_alloc (Below.refl _ _) _) _
  refine (hi _).mono ?_
  rintro e w' ⟨rfl, hb⟩
  have hK0 : w'.cell? ⟨w.heap.size, 0, none⟩ = some (.int .i64 kd) := box_kept hb 0
  have hK2 : w'.cell? ⟨w.heap.size, 2, none⟩ = some (.slice A ns.length c) := box_kept hb 2
  have hB : Below w.heap.size w w' := below_then (hB1 _) (hB1 _).size hb
  have hR2 : Row w' A ns := hR.below hB
  clear hb hB1 hi hc hR
  go_wp2
  go_loop [37] (fun i => ∃ k : Nat, k ≤ ns.length ∧ i = .int .i64 k ∧ Hid (numsB kd k (ns.drop k) = numsB kd 0 ns)) (fun i => ns.length - (intOf i).toNat)
  case atStart => exact ⟨0, by omega, rfl, Lib.hid rfl⟩
  case round =>
    obtain ⟨k, hk, rfl, hH⟩ := hrel
    by_cases hlt : k < ns.length
    · rcases hR2 with h | ⟨ad, rfl, hr⟩
      · exfalso; omega
      · have hce := hr k hlt
        have hst := nums_drop (kd := kd) hlt
        obtain ⟨n, hn⟩ : ∃ n, ns[k] = n := ⟨_, rfl⟩
        rw [hn] at hce hst
        cases hb : numB kd k n with
        | true =>
          rw [hb, Bool.true_and] at hst
          have H2 : Hid (numsB kd (k + 1) (ns.drop (k + 1)) = numsB kd 0 ns) := Lib.hid (by rw [← hst]; exact hH.out)
          have hp := (numB_iff kd k n).1 hb
          clear hst hn hb hr hH
          rcases (by omega : (n ≤ 1000000000 ∧ 0 ≤ n) ∨ (n < 0 ∧ kd = 3 ∧ k = 2 ∧ -1000000000 ≤ n)) with ⟨p1, p2⟩ | ⟨p1, rfl, rfl, p2⟩
          all_goals
            clear hp
            (try simp only [add_two] at hce)
            go_wp2
            all_goals first
              | (exfalso; omega)
              | (go_round
                 case rel => exact ⟨_, by omega, by go_num, H2⟩
                 case measure => simp [intOf]; omega)
        | false =>
          rw [hb, Bool.false_and] at hst
          have H2 : Hid (false = numsB kd 0 ns) := Lib.hid (by rw [← hst]; exact hH.out)
          have hp := (not_congr (numB_iff kd k n)).1 (by rw [hb]; decide)
          clear hst hn hb hr hH
          rcases (by omega : 1000000000 < n ∨ (n < 0 ∧ kd ≠ 3) ∨ (n < 0 ∧ kd = 3 ∧ k ≠ 2) ∨ (n < -1000000000 ∧ kd = 3 ∧ k = 2)) with p1 | ⟨p1, p2⟩ | ⟨p1, rfl, p2⟩ | ⟨p1, rfl, rfl⟩
          all_goals
            clear hp
            (try simp only [add_two] at hce)
            go_wp2
            all_goals first
              | (exfalso; omega)
              | (go_ret
                 exact ⟨ret_bool H2.out, hB⟩)
    · have H2 : Hid (true = numsB kd 0 ns) := Lib.hid (by rw [← hH.out, List.drop_of_length_le (by omega)]; rfl)
      clear hH hR2
      go_wp2
      all_goals first
        | (exfalso; omega)
        | (go_ret
           exact ⟨ret_bool H2.out, hB⟩)
set_option maxHeartbeats 8000000 in
set_option maxRecDepth 100000 in
theorem cmd_loop_false (kd : Int) (nm : ByteArray) (A : Option Addr) (c : Nat) (ns : List Int) (at_ : Int) (w : World) (hs : shp kd = (false, (ns.length : Int))) (h0 : (nm.toList == ([] : List UInt8)) = !false) (_ : false = true → nameB nm.data.toList = true) (hR : Row w A ns) (hl : ns.length ≤ 1000000) :
    Calls Tryd.prog 61 #[.agg #[.int .i64 kd, .string nm, .slice A ns.length c, .int .i64 at_]] w fun e w' => e = .returned (.bool (numsB kd 0 ns)) ∧ Below w.heap.size w w' := by
  have hc := fun W => PB.parser_shape.calls 3 kd false ns.length W (by rw [shape_f, hs])
  simp only [Bool.not_false] at h0
  clear hs
  go_enter Tryd.func61, Tryd.ntmps61
  go_wp2_with (go_at_call 90; refine (hc _).mono ?_; rintro e w' ⟨rfl, ⟨q, rfl⟩⟩)
  have hB1 : ∀ n, Below w.heap.size w ((w.alloc (.cells #[.int .i64 kd, .string nm, .slice A ns.length c, .int .i64 at_] 40)).drewN n) := fun n => pw_below_drewN (below_alloc (Below.refl _ _) _) _
  have hB := hB1 q
  have hK0 : ((w.alloc (.cells #[.int .i64 kd, .string nm, .slice A ns.length c, .int .i64 at_] 40)).drewN q).cell? ⟨w.heap.size, 0, none⟩ = some (.int .i64 kd) := box_cell _ _ _ _ _
  have hR2 := hR.below hB
  clear hB1 hc hR
  generalize ((w.alloc (.cells #[.int .i64 kd, .string nm, .slice A ns.length c, .int .i64 at_] 40)).drewN q) = W2 at *
  go_loop [37] (fun i => ∃ k : Nat, k ≤ ns.length ∧ i = .int .i64 k ∧ Hid (numsB kd k (ns.drop k) = numsB kd 0 ns)) (fun i => ns.length - (intOf i).toNat)
  case atStart => exact ⟨0, by omega, rfl, Lib.hid rfl⟩
  case round =>
    obtain ⟨k, hk, rfl, hH⟩ := hrel
    by_cases hlt : k < ns.length
    · rcases hR2 with h | ⟨ad, rfl, hr⟩
      · exfalso; omega
      · have hce := hr k hlt
        have hst := nums_drop (kd := kd) hlt
        obtain ⟨n, hn⟩ : ∃ n, ns[k] = n := ⟨_, rfl⟩
        rw [hn] at hce hst
        cases hb : numB kd k n with
        | true =>
          rw [hb, Bool.true_and] at hst
          have H2 : Hid (numsB kd (k + 1) (ns.drop (k + 1)) = numsB kd 0 ns) := Lib.hid (by rw [← hst]; exact hH.out)
          have hp := (numB_iff kd k n).1 hb
          clear hst hn hb hr hH
          rcases (by omega : (n ≤ 1000000000 ∧ 0 ≤ n) ∨ (n < 0 ∧ kd = 3 ∧ k = 2 ∧ -1000000000 ≤ n)) with ⟨p1, p2⟩ | ⟨p1, rfl, rfl, p2⟩
          all_goals
            clear hp
            (try simp only [add_two] at hce)
            go_wp2
            all_goals first
              | (exfalso; omega)
              | (go_round
                 case rel => exact ⟨_, by omega, by go_num, H2⟩
                 case measure => simp [intOf]; omega)
        | false =>
          rw [hb, Bool.false_and] at hst
          have H2 : Hid (false = numsB kd 0 ns) := Lib.hid (by rw [← hst]; exact hH.out)
          have hp := (not_congr (numB_iff kd k n)).1 (by rw [hb]; decide)
          clear hst hn hb hr hH
          rcases (by omega : 1000000000 < n ∨ (n < 0 ∧ kd ≠ 3) ∨ (n < 0 ∧ kd = 3 ∧ k ≠ 2) ∨ (n < -1000000000 ∧ kd = 3 ∧ k = 2)) with p1 | ⟨p1, p2⟩ | ⟨p1, rfl, p2⟩ | ⟨p1, rfl, rfl⟩
          all_goals
            clear hp
            (try simp only [add_two] at hce)
            go_wp2
            all_goals first
              | (exfalso; omega)
              | (go_ret
                 exact ⟨ret_bool H2.out, hB⟩)
    · have H2 : Hid (true = numsB kd 0 ns) := Lib.hid (by rw [← hH.out, List.drop_of_length_le (by omega)]; rfl)
      clear hH hR2
      go_wp2
      all_goals first
        | (exfalso; omega)
        | (go_ret
           exact ⟨ret_bool H2.out, hB⟩)

theorem empty_iff (nm : ByteArray) : (nm.toList == ([] : List UInt8)) = !decide (nm.data.toList ≠ []) := by
  rw [ByteArray.toList_eq]
  cases h : nm.data.toList with
  | nil => rfl
  | cons a l => rfl
/-- 'isCommand', whatever the command. -/
theorem isCommand_any (kd : Int) (nm : ByteArray) (A : Option Addr) (c : Nat) (ns : List Int) (at_ : Int) (w : World) (hR : Row w A ns) :
    Calls Tryd.prog 61 #[.agg #[.int .i64 kd, .string nm, .slice A ns.length c, .int .i64 at_]] w fun e w' => e = .returned (.bool (cmdB kd nm.data.toList ns)) ∧ Below w.heap.size w w' := by
  obtain ⟨nd, mn, hs⟩ : ∃ nd mn, shp kd = (nd, mn) := ⟨_, _, rfl⟩
  have hmn : mn ≤ 6 := by
    have : (shp kd).2 ≤ 6 := by unfold shp; (repeat' split) <;> decide
    rw [hs] at this; exact this
  unfold cmdB
  rw [hs]
  dsimp only
  by_cases hm : (ns.length : Int) = mn
  · subst hm
    rw [decide_eq_true rfl, Bool.true_and]
    have he := empty_iff nm
    cases nd with
    | true =>
      cases hd : decide (nm.data.toList ≠ []) with
      | false => exact cmd_named kd nm A c ns at_ w true hs (by rw [he, hd]; rfl)
      | true =>
        rw [hd] at he
        cases hn : nameB nm.data.toList with
        | false => exact cmd_bad kd nm A c ns at_ w hs he hn
        | true => exact cmd_loop_true kd nm A c ns at_ w hs he (fun _ => hn) hR (by omega)
    | false =>
      cases hd : decide (nm.data.toList ≠ []) with
      | true => exact cmd_named kd nm A c ns at_ w false hs (by rw [he, hd]; rfl)
      | false =>
        rw [hd] at he
        exact cmd_loop_false kd nm A c ns at_ w hs he (fun h => by cases h) hR (by omega)
  · rw [decide_eq_false hm]
    exact cmd_many kd nm A c ns at_ w nd mn hs hm

set_option maxHeartbeats 4000000 in
set_option maxRecDepth 100000 in
/-- The closure that 'Valid' hands to the library. -/
theorem valid1_any (kd : Int) (nm : ByteArray) (A : Option Addr) (c : Nat) (ns : List Int) (at_ : Int) (w : World) (hR : Row w A ns) :
    Calls Tryd.prog 60 #[.agg #[.int .i64 kd, .string nm, .slice A ns.length c, .int .i64 at_]] w fun e w' => e = .returned (.bool (!cmdB kd nm.data.toList ns)) ∧ Below w.heap.size w w' := by
  obtain ⟨b, hb⟩ : ∃ b, cmdB kd nm.data.toList ns = b := ⟨_, rfl⟩
  have hi : ∀ W, Below w.heap.size w W → Calls Tryd.prog 61 #[.agg #[.int .i64 kd, .string nm, .slice A ns.length c, .int .i64 at_]] W fun e w' => e = .returned (.bool b) ∧ Below W.heap.size W w' := fun W hW => by
    have := isCommand_any kd nm A c ns at_ W (hR.below hW); rw [hb] at this; exact this
  rw [hb]
  clear hb hR
  go_enter Tryd.func60, Tryd.ntmps60
  go_wp2_with (go_at_call 61; refine (hi _ (below_alloc (Below.refl _ _) _)).mono ?_; rintro e w' ⟨rfl, hb⟩)
  go_ret
  exact ⟨rfl, below_then (below_alloc (Below.refl _ _) _) (by simp) hb⟩

end Go.Proofs.YtdedlchpjboceaaDoor.Px
end

section
/-
  Commands in memory: what the printer writes for the struct, under a name of its own.
-/
namespace Go.Proofs.YtdedlchpjboceaaDoor.Px
open Go.RowKit Go.Proofs.YtdedlchpjboceaaDoorW.PrintWords Go.Proofs.YtdedlchpjboceaaDoorW.PrintLast Go.Proofs.YtdedlchpjboceaaDoorW.PrintMore

/-- A command. -/
structure Cmd where
  f0 : Int
  f1 : ByteArray
  f2 : (List Int)
  f3 : Int
def zC : Cmd := ⟨(0 : Int), (⟨#[]⟩ : ByteArray), ([] : List Int), (0 : Int)⟩
def kC : Kd Cmd := Kd.iso (Kd.pair (Kd.int .i64) (Kd.pair Kd.string (Kd.pair (Kd.slice 3 (Kd.int .i64)) (Kd.int .i64)))) (fun x : Cmd => (x.f0, x.f1, x.f2, x.f3))
theorem kC_open {w : World} {x : Cmd} {cs : List Value} (h : kC.K w x cs) : ∃ A2 c2, cs = [.int .i64 x.f0, .string x.f1, .slice A2 x.f2.length c2, .int .i64 x.f3] ∧ x.f2.length ≤ c2 ∧ (Kd.int .i64).C w A2 x.f2.length x.f2 := by
  obtain ⟨_, _, rfl, rfl, ⟨_, _, rfl, rfl, ⟨_, _, rfl, ⟨A2, c2, rfl, l2, g2⟩, rfl⟩⟩⟩ := h
  exact ⟨A2, c2, rfl, l2, g2⟩
theorem kC_openM {w : World} {base : Nat} {ok : Nat → Prop} {x : Cmd} {cs : List Value} (h : kC.M w base ok x cs) : ∃ v2, cs = [.int .i64 x.f0, .string x.f1, v2, .int .i64 x.f3] ∧ (Kd.int .i64).R 3 w base ok v2 x.f2 := by
  obtain ⟨_, _, rfl, rfl, ⟨_, _, rfl, rfl, ⟨_, _, rfl, ⟨v2, rfl, g2⟩, rfl⟩⟩⟩ := h
  exact ⟨v2, rfl, g2⟩
theorem kC_mk (w : World) (x : Cmd) {A2 : Option Addr} {c2 : Nat} (l2 : x.f2.length ≤ c2) (g2 : (Kd.int .i64).C w A2 x.f2.length x.f2) : kC.K w x [.int .i64 x.f0, .string x.f1, .slice A2 x.f2.length c2, .int .i64 x.f3] := ⟨[.int .i64 x.f0], [.string x.f1, .slice A2 x.f2.length c2, .int .i64 x.f3], rfl, rfl, ⟨[.string x.f1], [.slice A2 x.f2.length c2, .int .i64 x.f3], rfl, rfl, ⟨[.slice A2 x.f2.length c2], [.int .i64 x.f3], rfl, ⟨A2, c2, rfl, l2, g2⟩, rfl⟩⟩⟩
theorem kC_mkM (w : World) (base : Nat) (ok : Nat → Prop) (x : Cmd) {v2 : Value} (g2 : (Kd.int .i64).R 3 w base ok v2 x.f2) : kC.M w base ok x [.int .i64 x.f0, .string x.f1, v2, .int .i64 x.f3] := ⟨[.int .i64 x.f0], [.string x.f1, v2, .int .i64 x.f3], rfl, rfl, ⟨[.string x.f1], [v2, .int .i64 x.f3], rfl, rfl, ⟨[v2], [.int .i64 x.f3], rfl, ⟨v2, rfl, g2⟩, rfl⟩⟩⟩
theorem kC_openF {W : World} {ok : Nat → Prop} {x : Cmd} {cs : List Value} (h : Kd.FK kC W ok x cs) : ∃ A2 c2, cs = [.int .i64 x.f0, .string x.f1, .slice A2 x.f2.length c2, .int .i64 x.f3] ∧ x.f2.length ≤ c2 ∧ Kd.F (Kd.int .i64) W ok A2 x.f2.length x.f2 := by
  obtain ⟨A2, c2, rfl, l2, _⟩ := kC_open (Kd.FK_now h)
  exact ⟨A2, c2, rfl, l2, (fun W' hW => by obtain ⟨A2_, c2_, he, l2_, g2_⟩ := kC_open (h W' hW); injection (Option.some.inj (show some (Value.slice A2 x.f2.length c2) = some (Value.slice A2_ x.f2.length c2_) from congrArg (fun l => l[2]?) he)) with ha_ _ _; rw [ha_]; exact g2_)⟩
theorem kC_mkF (W : World) (ok : Nat → Prop) (x : Cmd) {A2 : Option Addr} {c2 : Nat} (l2 : x.f2.length ≤ c2) (g2 : Kd.F (Kd.int .i64) W ok A2 x.f2.length x.f2) : Kd.FK kC W ok x [.int .i64 x.f0, .string x.f1, .slice A2 x.f2.length c2, .int .i64 x.f3] := fun W2 hW => kC_mk W2 x l2 (g2 W2 hW)
def rd_C (xs : List Cmd) (i : Int) : Cmd := xs.getD i.toNat zC
theorem at_C {w : World} {A : Option Addr} {n : Nat} {xs : List Cmd} (h : Kd.C kC w A n xs) (i : Int) (h0 : 0 ≤ i) (h1 : i < n) : ∃ ad A2 c2, A = some ad ∧ w.cell? (ad.add (i.toNat * 4)) = some (.int .i64 (rd_C xs i).f0) ∧ w.cell? ⟨(ad.add (i.toNat * 4)).block, (ad.add (i.toNat * 4)).off + 1, none⟩ = some (.string (rd_C xs i).f1) ∧ w.cell? ⟨(ad.add (i.toNat * 4)).block, (ad.add (i.toNat * 4)).off + 2, none⟩ = some (.slice A2 (rd_C xs i).f2.length c2) ∧ w.cell? ⟨(ad.add (i.toNat * 4)).block, (ad.add (i.toNat * 4)).off + 3, none⟩ = some (.int .i64 (rd_C xs i).f3) ∧ (rd_C xs i).f2.length ≤ c2 ∧ (Kd.int .i64).C w A2 (rd_C xs i).f2.length (rd_C xs i).f2 := by
  obtain ⟨ad, c, e, _, hK, hc0⟩ := Kd.C_get h zC i h0 h1
  have hc : ∀ j u, c[j]? = some u → w.cell? (ad.add (i.toNat * 4 + j)) = some u := hc0
  obtain ⟨A2, c2, rfl, l2, g2⟩ := kC_open hK
  exact ⟨ad, A2, c2, e, hc 0 _ rfl, by rw [← add_field _ _ 1 (by omega)]; exact hc 1 _ rfl, by rw [← add_field _ _ 2 (by omega)]; exact hc 2 _ rfl, by rw [← add_field _ _ 3 (by omega)]; exact hc 3 _ rfl, l2, g2⟩


end Go.Proofs.YtdedlchpjboceaaDoor.Px
end

section
/-
  The library's search over commands; the parser's 'Valid', walked.
-/
namespace Go.Proofs.YtdedlchpjboceaaDoor.Px
open Go.RowKit Go.Shelf Go.Proofs.YtdedlchpjboceaaDoor.Lx Go.Proofs.YtdedlchpjboceaaDoorW.PrintWords Go.Proofs.YtdedlchpjboceaaDoorW.PrintLast Go.Proofs.YtdedlchpjboceaaDoorW.PrintMore
attribute [local go_sem] Oper.semAt_some

theorem row_of {w : World} {A : Option Addr} {ns : List Int} (h : (Kd.int .i64).C w A ns.length ns) : Row w A ns := by
  have hr : ReadsInt w .i64 A ns.length ns := Kd.reads_of_C (enc := Value.int .i64) (d := (0 : Int)) (h1 := fun _ => rfl) h
  by_cases h0 : ns.length = 0
  · exact .inl h0
  · obtain ⟨ad, e, hc⟩ := hr.2.2 (by omega)
    refine .inr ⟨ad, e, fun j hj => ?_⟩
    rw [hc j hj, List.getD_eq_getElem?_getD, List.getElem?_eq_getElem hj]; rfl
def cB (x : Cmd) : Bool := cmdB x.f0 x.f1.data.toList x.f2
/-- Where the first command stands that is not valid; -1 where none is. -/
def idxF : Nat → List Cmd → Int
  | _, [] => -1
  | k, x :: l => if cB x = true then idxF (k + 1) l else k
theorem idxF_drop {l : List Cmd} {k : Nat} (h : k < l.length) : idxF k (l.drop k) = if cB (rd_C l (k : Int)) = true then idxF (k + 1) (l.drop (k + 1)) else (k : Int) := by
  rw [List.drop_eq_getElem_cons h]
  have : rd_C l (k : Int) = l[k] := by unfold rd_C; rw [Int.toNat_natCast, List.getD_eq_getElem?_getD, List.getElem?_eq_getElem h]; rfl
  rw [this]; rfl
set_option maxHeartbeats 8000000 in
set_option maxRecDepth 100000 in
theorem indexFunc_any (A : Option Addr) (c : Nat) (l : List Cmd) (w : World) (hC : Kd.C kC w A l.length l) (hl : l.length ≤ 140737488355328) :
    Calls Tryd.prog 89 #[.slice A l.length c, .func (.func 60) #[] #[]] w fun e w' => e = .returned (.int .i64 (idxF 0 l)) ∧ Below w.heap.size w w' := by
  have eg : ∀ args w, (callFunc 60 args).run Tryd.prog w = .ok (.enter 60 args) w := enters_of Tryd.func60 (by kernel_rfl) rfl
  have hu40 := Tryd.underlying40
  have HC := Aside0.mk hC
  clear hC
  go_enter Tryd.func89, Tryd.ntmps89
  go_wp2
  go_loopg [8] l.length (fun g v w' => ∃ k : Nat, k + g = l.length ∧ v = .int .i64 k ∧ Hid (idxF k (l.drop k) = idxF 0 l) ∧ Aside0 (Below w.heap.size w w'))
  case atStart => exact ⟨0, by omega, rfl, Lib.hid rfl, ⟨Below.refl _ _⟩⟩
  case round =>
    obtain ⟨k, hk, rfl, hH, HB⟩ := hrel
    by_cases hlt : k < l.length
    · obtain ⟨ad, A2, c2, e, h0, h1, h2, h3, hl2, hi2⟩ := at_C HC.out (k : Int) (by omega) (by omega)
      cases e
      have hst := idxF_drop hlt
      have hR := (row_of hi2).below HB.out
      replace h0 := (HB.out.cell (World.block_lt_of_cell? w _ h0)).trans h0
      replace h1 := (HB.out.cell (World.block_lt_of_cell? w _ h1)).trans h1
      replace h2 := (HB.out.cell (World.block_lt_of_cell? w _ h2)).trans h2
      replace h3 := (HB.out.cell (World.block_lt_of_cell? w _ h3)).trans h3
      rw [Int.toNat_natCast] at h0 h1 h2 h3
      clear hi2 hl2
      cases hb : cB (rd_C l (k : Int)) with
      | true =>
        rw [if_pos hb] at hst
        have H2 : Hid (idxF (k + 1) (l.drop (k + 1)) = idxF 0 l) := Lib.hid (by rw [← hst]; exact hH.out)
        have hv := valid1_any (rd_C l (k : Int)).f0 (rd_C l (k : Int)).f1 A2 c2 (rd_C l (k : Int)).f2 (rd_C l (k : Int)).f3
        have hb' : cmdB (rd_C l (k : Int)).f0 (rd_C l (k : Int)).f1.data.toList (rd_C l (k : Int)).f2 = true := hb
        rw [hb'] at hv
        clear hst hb hb' hH
        have HR := Aside0.mk hR
        clear hR
        go_wp2_with (go_at_call 60; refine (hv _ HR.out).mono ?_; rintro e w' ⟨rfl, hw⟩)
        go_roundg (l.length - (k + 1))
        case measure => omega
        case rel => exact ⟨k + 1, by omega, by go_num, H2, ⟨below_step HB.out hw⟩⟩
      | false =>
        rw [if_neg (by rw [hb]; decide)] at hst
        have H2 : Hid ((k : Int) = idxF 0 l) := Lib.hid (by rw [← hst]; exact hH.out)
        have hv := valid1_any (rd_C l (k : Int)).f0 (rd_C l (k : Int)).f1 A2 c2 (rd_C l (k : Int)).f2 (rd_C l (k : Int)).f3
        have hb' : cmdB (rd_C l (k : Int)).f0 (rd_C l (k : Int)).f1.data.toList (rd_C l (k : Int)).f2 = false := hb
        rw [hb'] at hv
        clear hst hb hb' hH
        have HR := Aside0.mk hR
        clear hR
        go_wp2_with (go_at_call 60; refine (hv _ HR.out).mono ?_; rintro e w' ⟨rfl, hw⟩)
        go_ret
        exact ⟨ret_int H2.out, below_step HB.out hw⟩
    · have H2 : Hid ((-1 : Int) = idxF 0 l) := Lib.hid (by rw [← hH.out, List.drop_of_length_le (by omega)]; rfl)
      clear hH
      go_wp2
      all_goals first
        | (exfalso; omega)
        | (go_ret
           exact ⟨ret_int H2.out, HB.out⟩)

theorem idxF_all (l : List Cmd) : ∀ k : Nat, decide (idxF k l ≥ 0) = !l.all cB := by
  induction l with
  | nil => intro k; rfl
  | cons x l ih =>
    intro k
    rw [List.all_cons]
    by_cases h : cB x = true
    · have e : idxF k (x :: l) = idxF (k + 1) l := if_pos h
      rw [e, h, Bool.true_and]; exact ih (k + 1)
    · have e : idxF k (x :: l) = (k : Int) := if_neg h
      rw [e, Bool.eq_false_iff.2 h, Bool.false_and]; exact decide_eq_true (Int.natCast_nonneg k)
set_option maxHeartbeats 4000000 in
theorem containsFunc_any (A : Option Addr) (c : Nat) (l : List Cmd) (w : World) (hC : Kd.C kC w A l.length l) (hl : l.length ≤ 140737488355328) :
    Calls Tryd.prog 59 #[.slice A l.length c, .func (.func 60) #[] #[]] w fun e w' => e = .returned (.bool (!l.all cB)) ∧ Below w.heap.size w w' := by
  have hi := indexFunc_any A c l w hC hl
  have hx := Lib.hid (idxF_all l 0)
  obtain ⟨i, hI⟩ : ∃ i, idxF 0 l = i := ⟨_, rfl⟩
  rw [hI] at hi hx
  clear hC hI
  go_enter Tryd.func59, Tryd.ntmps59
  go_wp2_with (go_at_call 89; refine hi.mono ?_; rintro e w' ⟨rfl, hw⟩)
  go_ret
  exact ⟨ret_bool hx.out, hw⟩
/-- Valid: at most 300 commands, each valid. -/
def validB (l : List Cmd) : Bool := decide ((l.length : Int) ≤ 300) && l.all cB
set_option maxHeartbeats 4000000 in
theorem valid_any (A : Option Addr) (c : Nat) (l : List Cmd) (w : World) (hC : Kd.C kC w A l.length l) :
    Calls Tryd.prog 35 #[.slice A l.length c] w fun e w' => e = .returned (.bool (validB l)) ∧ Below w.heap.size w w' := by
  unfold validB
  by_cases h : (l.length : Int) ≤ 300
  · rw [decide_eq_true h, Bool.true_and]
    have hi := containsFunc_any A c l w hC (by omega)
    obtain ⟨b, hb⟩ : ∃ b, l.all cB = b := ⟨_, rfl⟩
    rw [hb] at hi ⊢
    clear hC hb
    go_enter Tryd.func35, Tryd.ntmps35
    go_wp2_with (go_at_call 59; refine hi.mono ?_; rintro e w' ⟨rfl, hw⟩)
    all_goals first
      | (exfalso; omega)
      | (go_ret
         exact ⟨ret_bool (by cases b <;> rfl), hw⟩)
  · rw [decide_eq_false h, Bool.false_and]
    clear hC
    go_enter Tryd.func35, Tryd.ntmps35
    go_wp2
    all_goals first
      | (exfalso; omega)
      | (go_ret
         exact ⟨rfl, Below.refl _ _⟩)

end Go.Proofs.YtdedlchpjboceaaDoor.Px
end

section
/-
  The parser's reader, walked: the next token.
-/
namespace Go.Proofs.YtdedlchpjboceaaDoor.Px
open Go.RowKit Go.Shelf Go.Proofs.YtdedlchpjboceaaDoor.Lx Go.Proofs.YtdedlchpjboceaaDoorW.PrintWords Go.Proofs.YtdedlchpjboceaaDoorW.PrintLast Go.Proofs.YtdedlchpjboceaaDoorW.PrintMore
attribute [local go_sem] Oper.semAt_some

/-- A token. -/
structure Tok where
  f0 : Int
  f1 : ByteArray
  f2 : Int
  f3 : Int
def zT : Tok := ⟨(0 : Int), (⟨#[]⟩ : ByteArray), (0 : Int), (0 : Int)⟩
def kT : Kd Tok := Kd.iso (Kd.pair (Kd.int .i64) (Kd.pair Kd.string (Kd.pair (Kd.int .i64) (Kd.int .i64)))) (fun x : Tok => (x.f0, x.f1, x.f2, x.f3))
theorem kT_open {w : World} {x : Tok} {cs : List Value} (h : kT.K w x cs) : cs = [.int .i64 x.f0, .string x.f1, .int .i64 x.f2, .int .i64 x.f3] := by
  obtain ⟨_, _, rfl, rfl, ⟨_, _, rfl, rfl, ⟨_, _, rfl, rfl, rfl⟩⟩⟩ := h
  exact rfl
theorem kT_openM {w : World} {base : Nat} {ok : Nat → Prop} {x : Tok} {cs : List Value} (h : kT.M w base ok x cs) : cs = [.int .i64 x.f0, .string x.f1, .int .i64 x.f2, .int .i64 x.f3] := by
  obtain ⟨_, _, rfl, rfl, ⟨_, _, rfl, rfl, ⟨_, _, rfl, rfl, rfl⟩⟩⟩ := h
  exact rfl
theorem kT_mk (w : World) (x : Tok)  : kT.K w x [.int .i64 x.f0, .string x.f1, .int .i64 x.f2, .int .i64 x.f3] := ⟨[.int .i64 x.f0], [.string x.f1, .int .i64 x.f2, .int .i64 x.f3], rfl, rfl, ⟨[.string x.f1], [.int .i64 x.f2, .int .i64 x.f3], rfl, rfl, ⟨[.int .i64 x.f2], [.int .i64 x.f3], rfl, rfl, rfl⟩⟩⟩
theorem kT_mkM (w : World) (base : Nat) (ok : Nat → Prop) (x : Tok)  : kT.M w base ok x [.int .i64 x.f0, .string x.f1, .int .i64 x.f2, .int .i64 x.f3] := ⟨[.int .i64 x.f0], [.string x.f1, .int .i64 x.f2, .int .i64 x.f3], rfl, rfl, ⟨[.string x.f1], [.int .i64 x.f2, .int .i64 x.f3], rfl, rfl, ⟨[.int .i64 x.f2], [.int .i64 x.f3], rfl, rfl, rfl⟩⟩⟩
theorem kT_mkF (W : World) (ok : Nat → Prop) (x : Tok) : Kd.FK kT W ok x [.int .i64 x.f0, .string x.f1, .int .i64 x.f2, .int .i64 x.f3] := fun W2 _ => kT_mk W2 x
def rd_K (xs : List Tok) (i : Int) : Tok := xs.getD i.toNat zT
theorem at_K {w : World} {A : Option Addr} {n : Nat} {xs : List Tok} (h : Kd.C kT w A n xs) (i : Int) (h0 : 0 ≤ i) (h1 : i < n) : ∃ ad , A = some ad ∧ w.cell? (ad.add (i.toNat * 4)) = some (.int .i64 (rd_K xs i).f0) ∧ w.cell? ⟨(ad.add (i.toNat * 4)).block, (ad.add (i.toNat * 4)).off + 1, none⟩ = some (.string (rd_K xs i).f1) ∧ w.cell? ⟨(ad.add (i.toNat * 4)).block, (ad.add (i.toNat * 4)).off + 2, none⟩ = some (.int .i64 (rd_K xs i).f2) ∧ w.cell? ⟨(ad.add (i.toNat * 4)).block, (ad.add (i.toNat * 4)).off + 3, none⟩ = some (.int .i64 (rd_K xs i).f3) := by
  obtain ⟨ad, c, e, _, hK, hc0⟩ := Kd.C_get h zT i h0 h1
  have hc : ∀ j u, c[j]? = some u → w.cell? (ad.add (i.toNat * 4 + j)) = some u := hc0
  obtain rfl := kT_open hK
  exact ⟨ad, e, hc 0 _ rfl, by rw [← add_field _ _ 1 (by omega)]; exact hc 1 _ rfl, by rw [← add_field _ _ 2 (by omega)]; exact hc 2 _ rfl, by rw [← add_field _ _ 3 (by omega)]; exact hc 3 _ rfl⟩


/-- A token as a value. -/
def tokV (t : Tok) : Value := .agg #[.int .i64 t.f0, .string t.f1, .int .i64 t.f2, .int .i64 t.f3]
/-- The token that is next; at the end, one of the kind 0. -/
def nextT (l : List Tok) (e : Int) : Tok := match l with | [] => ⟨0, ⟨#[]⟩, 0, e⟩ | t :: _ => t
set_option maxHeartbeats 4000000 in
set_option maxRecDepth 100000 in
theorem next_any (R : Nat) (A : Option Addr) (c : Nat) (l : List Tok) (e : Int) (w : World) (h0 : w.cell? ⟨R, 0, none⟩ = some (.slice A l.length c)) (h1 : w.cell? ⟨R, 1, none⟩ = some (.int .i64 e)) (hC : Kd.C kT w A l.length l) :
    Calls Tryd.prog 67 #[.pointer (some ⟨R, 0, none⟩)] w fun x w' => x = .returned (tokV (nextT l e)) ∧ Below w.heap.size w w' := by
  have hu := Tryd.underlying45
  have b0 := World.block_lt_of_cell? w _ h0
  have b1 := World.block_lt_of_cell? w _ h1
  cases l with
  | nil =>
    clear hC
    go_enter Tryd.func67, Tryd.ntmps67
    go_wp2
    exact bodyPost_ret (v := tokV (nextT [] e)) (by simp [results, Tryd.results67, go_sem, tokV, nextT]) rfl ⟨rfl, below_alloc (Below.refl _ _) _⟩
  | cons t l =>
    obtain ⟨ad, ea, k0, k1, k2, k3⟩ := at_K hC 0 (by omega) (by simp only [List.length_cons]; omega)
    cases ea
    clear hC
    have ht : rd_K (t :: l) 0 = t := rfl
    rw [ht] at k0 k1 k2 k3
    have hadd : ad.add ((0 : Int).toNat * 4) = ad := rfl
    rw [hadd] at k0 k1 k2 k3
    have b2 := World.block_lt_of_cell? w _ k0
    go_enter Tryd.func67, Tryd.ntmps67
    go_wp2
    exact bodyPost_ret (v := tokV (nextT (t :: l) e)) (by simp [results, Tryd.results67, go_sem, tokV, nextT]) rfl ⟨rfl, below_alloc (Below.refl _ _) _⟩

end Go.Proofs.YtdedlchpjboceaaDoor.Px
end

section
/-
  The frame of 'need', in plain worlds.
-/
namespace Go.Proofs.YtdedlchpjboceaaDoor.Px
open Go.RowKit Go.Proofs.YtdedlchpjboceaaDoorW.PrintWords

theorem grown_set {w W : World} {R : Nat} (h : w.grownBy W (some R)) (a : Addr) (v : Value) (ha : a.block = R ∨ w.heap.size ≤ a.block) : w.grownBy (W.setCell a v) (some R) := by
  obtain ⟨h1, h2, h3, h4, h5⟩ := h
  refine ⟨h1, h2, h3, ?_, fun i hi hr => ?_⟩
  · show _ ≤ (W.heap.modify _ _).size
    rw [Array.size_modify]; exact h4
  · rw [Below.heap_setCell _ _ _ _ ?_]
    · exact h5 i hi hr
    · rcases ha with ha | ha
      · rw [ha]; exact fun e => hr (by rw [e])
      · exact Nat.ne_of_lt (Nat.lt_of_lt_of_le hi ha)
theorem grown_alloc {w W : World} {R : Nat} (h : w.grownBy W (some R)) (o : Obj) : w.grownBy (W.alloc o) (some R) := by
  obtain ⟨h1, h2, h3, h4, h5⟩ := h
  refine ⟨h1, h2, h3, ?_, fun i hi hr => ?_⟩
  · show _ ≤ (W.heap.push _).size
    rw [Array.size_push]; exact Nat.le_succ_of_le h4
  · rw [Below.heap_alloc _ _ _ (Nat.lt_of_lt_of_le hi h4)]; exact h5 i hi hr

end Go.Proofs.YtdedlchpjboceaaDoor.Px
end

section
/-
  The parser's reader, walked: 'need' where its condition holds.
-/
namespace Go.Proofs.YtdedlchpjboceaaDoor.Px
open Go.RowKit Go.Shelf Go.Proofs.YtdedlchpjboceaaDoor.Lx Go.Proofs.YtdedlchpjboceaaDoorW.PrintWords Go.Proofs.YtdedlchpjboceaaDoorW.PrintLast Go.Proofs.YtdedlchpjboceaaDoorW.PrintMore
attribute [local go_sem] Oper.semAt_some

theorem box_frozen (w : World) (cs : Array Value) (t : TypeId) (j : Nat) : (w.alloc (.cells cs t)).frozen? ⟨w.heap.size, j, none⟩ = false := by
  have : (w.alloc (.cells cs t)).heap[w.heap.size]? = some (.cells cs t) := by show (w.heap.push (.cells cs t))[w.heap.size]? = _; simp
  unfold World.frozen?
  rw [this]
  simp
theorem box_lt (w : World) (o : Obj) : w.heap.size < (w.alloc o).heap.size := by show w.heap.size < (w.heap.push _).size; simp
theorem four_cells (W : World) (b : Nat) (o : Obj) (v0 v1 v2 v3 u0 u1 u2 u3 : Value) (h0 : W.cell? ⟨b, 0, none⟩ = some u0) (h1 : W.cell? ⟨b, 1, none⟩ = some u1) (h2 : W.cell? ⟨b, 2, none⟩ = some u2) (h3 : W.cell? ⟨b, 3, none⟩ = some u3) (X : World)
    (hX : X = ((((W.setCell ⟨b, 0, none⟩ v0).setCell ⟨b, 1, none⟩ v1).setCell ⟨b, 2, none⟩ v2).setCell ⟨b, 3, none⟩ v3).alloc o) :
    X.cell? ⟨b, 0, none⟩ = some v0 ∧ X.cell? ⟨b, 1, none⟩ = some v1 ∧ X.cell? ⟨b, 2, none⟩ = some v2 ∧ X.cell? ⟨b, 3, none⟩ = some v3 := by
  have hb : b < W.heap.size := World.block_lt_of_cell? W _ h0
  have ne : ∀ i j : Nat, i ≠ j → (⟨b, i, none⟩ : Addr) ≠ ⟨b, j, none⟩ := fun i j h e => h (by injection e)
  subst hX
  have hal : ∀ j, (((((W.setCell ⟨b, 0, none⟩ v0).setCell ⟨b, 1, none⟩ v1).setCell ⟨b, 2, none⟩ v2).setCell ⟨b, 3, none⟩ v3).alloc o).cell? ⟨b, j, none⟩ = ((((W.setCell ⟨b, 0, none⟩ v0).setCell ⟨b, 1, none⟩ v1).setCell ⟨b, 2, none⟩ v2).setCell ⟨b, 3, none⟩ v3).cell? ⟨b, j, none⟩ :=
    fun j => World.cell?_alloc_lt _ _ _ (by simpa [World.setCell] using hb)
  refine ⟨?_, ?_, ?_, ?_⟩
  · rw [hal, World.cell?_setCell_other _ _ _ _ (ne 3 0 (by decide)), World.cell?_setCell_other _ _ _ _ (ne 2 0 (by decide)), World.cell?_setCell_other _ _ _ _ (ne 1 0 (by decide)), World.cell?_setCell_same _ _ _ h0]
  · rw [hal, World.cell?_setCell_other _ _ _ _ (ne 3 1 (by decide)), World.cell?_setCell_other _ _ _ _ (ne 2 1 (by decide)), World.cell?_setCell_same _ _ _ (u := u1) (by rw [World.cell?_setCell_other _ _ _ _ (ne 0 1 (by decide))]; exact h1)]
  · rw [hal, World.cell?_setCell_other _ _ _ _ (ne 3 2 (by decide)), World.cell?_setCell_same _ _ _ (u := u2) (by rw [World.cell?_setCell_other _ _ _ _ (ne 1 2 (by decide)), World.cell?_setCell_other _ _ _ _ (ne 0 2 (by decide))]; exact h2)]
  · rw [hal, World.cell?_setCell_same _ _ _ (u := u3) (by rw [World.cell?_setCell_other _ _ _ _ (ne 2 3 (by decide)), World.cell?_setCell_other _ _ _ _ (ne 1 3 (by decide)), World.cell?_setCell_other _ _ _ _ (ne 0 3 (by decide))]; exact h3)]
theorem kept_cells (W : World) (b : Nat) (o : Obj) (v0 v1 v2 v3 : Value) (a : Addr) (ha : a.block ≠ b) (hl : a.block < W.heap.size) (X : World)
    (hX : X = ((((W.setCell ⟨b, 0, none⟩ v0).setCell ⟨b, 1, none⟩ v1).setCell ⟨b, 2, none⟩ v2).setCell ⟨b, 3, none⟩ v3).alloc o) : X.cell? a = W.cell? a := by
  have ne : ∀ i : Nat, (⟨b, i, none⟩ : Addr) ≠ a := fun i e => ha (by rw [← e])
  subst hX
  rw [World.cell?_alloc_lt _ _ _ (by simpa [World.setCell] using hl), World.cell?_setCell_other _ _ _ _ (ne 3), World.cell?_setCell_other _ _ _ _ (ne 2), World.cell?_setCell_other _ _ _ _ (ne 1), World.cell?_setCell_other _ _ _ _ (ne 0)]
set_option maxHeartbeats 4000000 in
set_option maxRecDepth 100000 in
theorem need_ok (R : Nat) (A : Option Addr) (c : Nat) (t : Tok) (l : List Tok) (e : Int) (w : World) (h0 : w.cell? ⟨R, 0, none⟩ = some (.slice A (l.length + 1) c)) (h1 : w.cell? ⟨R, 1, none⟩ = some (.int .i64 e)) (hf : w.frozen? ⟨R, 0, none⟩ = false) (hc : l.length + 1 ≤ c)
    (hC : Kd.C kT w A (l.length + 1) (t :: l)) :
    Calls Tryd.prog 72 #[.pointer (some ⟨R, 0, none⟩), .bool true] w fun x w' => x = .returned (tokV t) ∧ w.grownBy w' (some R) := by
  have b0 := World.block_lt_of_cell? w _ h0
  have b1 := World.block_lt_of_cell? w _ h1
  have hn : ∀ W, Below w.heap.size w W → Calls Tryd.prog 67 #[.pointer (some ⟨R, 0, none⟩)] W fun x w' => x = .returned (.agg #[.int .i64 t.f0, .string t.f1, .int .i64 t.f2, .int .i64 t.f3]) ∧ Below W.heap.size W w' :=
    fun W hb => next_any R A c (t :: l) e W ((hb.cell b0).trans h0) ((hb.cell b1).trans h1) (Kd.C_below hC hb)
  clear hC
  go_enter Tryd.func72, Tryd.ntmps72
  go_wp2_with (go_at_call 67; refine (hn _ (by repeat (first | exact Below.refl _ _ | apply below_alloc | apply pw_below_drewN))).mono ?_; rintro x w' ⟨rfl, hw⟩; have hB : Below w.heap.size w w' := below_then (below_alloc (Below.refl _ _) _) (by simp) hw; have h0' := (hB.cell (p := ⟨R, 0, none⟩) b0).trans h0; have hf' := (hB.frozen (p := ⟨R, 0, none⟩) b0).trans hf; have hs := hB.size; have hRs : R < w'.heap.size := Nat.lt_of_lt_of_le b0 hs; have hc0 : w'.cell? ⟨w.heap.size, 0, none⟩ = some (.int .i64 0) := (hw.cell (p := ⟨w.heap.size, 0, none⟩) (box_lt _ _)).trans (World.cell?_alloc_mark _ _ _ _ _); have hz0 : w'.frozen? ⟨w.heap.size, 0, none⟩ = false := (hw.frozen (p := ⟨w.heap.size, 0, none⟩) (box_lt _ _)).trans (box_frozen _ _ _ _); have hc1 : w'.cell? ⟨w.heap.size, 1, none⟩ = some (.string ⟨#[]⟩) := (hw.cell (p := ⟨w.heap.size, 1, none⟩) (box_lt _ _)).trans (World.cell?_alloc_mark _ _ _ _ _); have hz1 : w'.frozen? ⟨w.heap.size, 1, none⟩ = false := (hw.frozen (p := ⟨w.heap.size, 1, none⟩) (box_lt _ _)).trans (box_frozen _ _ _ _); have hc2 : w'.cell? ⟨w.heap.size, 2, none⟩ = some (.int .i64 0) := (hw.cell (p := ⟨w.heap.size, 2, none⟩) (box_lt _ _)).trans (World.cell?_alloc_mark _ _ _ _ _); have hz2 : w'.frozen? ⟨w.heap.size, 2, none⟩ = false := (hw.frozen (p := ⟨w.heap.size, 2, none⟩) (box_lt _ _)).trans (box_frozen _ _ _ _); have hc3 : w'.cell? ⟨w.heap.size, 3, none⟩ = some (.int .i64 0) := (hw.cell (p := ⟨w.heap.size, 3, none⟩) (box_lt _ _)).trans (World.cell?_alloc_mark _ _ _ _ _); have hz3 : w'.frozen? ⟨w.heap.size, 3, none⟩ = false := (hw.frozen (p := ⟨w.heap.size, 3, none⟩) (box_lt _ _)).trans (box_frozen _ _ _ _); have hb5 : w.heap.size < w'.heap.size := Nat.lt_of_lt_of_le (by simp) hw.size)
  all_goals
    have hne : (⟨R, 0, none⟩ : Addr).block ≠ w.heap.size := Nat.ne_of_lt b0
    have nb : ∀ j, (⟨R, 0, none⟩ : Addr) ≠ ⟨w.heap.size, j, none⟩ := fun j e => hne (by injection e)
    generalize hX : World.alloc _ (Obj.cells #[.int .i64 t.f0, .string t.f1, .int .i64 t.f2, .int .i64 t.f3] 45) = X
    obtain ⟨r0, r1, r2, r3⟩ := four_cells _ w.heap.size _ _ _ _ _ (.int .i64 0) (.string ⟨#[]⟩) (.int .i64 0) (.int .i64 0) (by exact (World.cell?_setCell_other _ _ _ _ (nb 0)).trans hc0) (by exact (World.cell?_setCell_other _ _ _ _ (nb 1)).trans hc1) (by exact (World.cell?_setCell_other _ _ _ _ (nb 2)).trans hc2) (by exact (World.cell?_setCell_other _ _ _ _ (nb 3)).trans hc3) X hX.symm
    refine bodyPost_ret (v := tokV t) (by simp [results, Tryd.results72, go_sem, tokV, r0, r1, r2, r3]) rfl ⟨rfl, ?_⟩
    rw [← hX]
    exact grown_alloc (grown_set (grown_set (grown_set (grown_set (grown_set (grown_of_below hB (some R)) _ _ (.inl rfl)) _ _ (.inr (Nat.le_refl _))) _ _ (.inr (Nat.le_refl _))) _ _ (.inr (Nat.le_refl _))) _ _ (.inr (Nat.le_refl _))) _

end Go.Proofs.YtdedlchpjboceaaDoor.Px
end

section
/-
  The parser's reader: what lies in its block, what a step of it may change; 'next' and 'need' in these words.
-/
namespace Go.Proofs.YtdedlchpjboceaaDoor.Px
open Go.RowKit Go.Shelf Go.Proofs.YtdedlchpjboceaaDoor.Lx Go.Proofs.YtdedlchpjboceaaDoorW.PrintWords Go.Proofs.YtdedlchpjboceaaDoorW.PrintLast Go.Proofs.YtdedlchpjboceaaDoorW.PrintMore
attribute [local go_sem] Oper.semAt_some

theorem blk_set {W : World} {R : Nat} {cs : Array Value} {t : TypeId} {f : Nat × Nat} (h : W.heap[R]? = some (.cells cs t f)) (i : Nat) (v : Value) : (W.setCell ⟨R, i, none⟩ v).heap[R]? = some (.cells (cs.setIfInBounds i v) t f) := by
  obtain ⟨hlt, hk⟩ := Array.getElem?_eq_some_iff.1 h
  show (W.heap.modify R _)[R]? = _
  rw [Array.getElem?_eq_getElem (by rw [Array.size_modify]; exact hlt), Array.getElem_modify_self, hk]
  rfl
theorem blk_far {W : World} {R : Nat} {o : Obj} (h : W.heap[R]? = some o) (a : Addr) (v : Value) (hne : R ≠ a.block) : (W.setCell a v).heap[R]? = some o := (Below.heap_setCell W a v R hne).trans h
theorem blk_alloc {W : World} {R : Nat} {o : Obj} (h : W.heap[R]? = some o) (o' : Obj) : (W.alloc o').heap[R]? = some o := (Below.heap_alloc W o' R (blk_lt h)).trans h
theorem blk_frozen {W : World} {R : Nat} {cs : Array Value} {t : TypeId} (h : W.heap[R]? = some (.cells cs t (0, 0))) (i : Nat) : W.frozen? ⟨R, i, none⟩ = false := by
  unfold World.frozen?
  rw [show W.heap[(⟨R, i, none⟩ : Addr).block]? = _ from h]
  simp

/-- The reader's block: the list, the end, the command that is being built. -/
def Rd (W : World) (R : Nat) (vl : Value) (e k : Int) (nm : ByteArray) (vn : Value) (a : Int) : Prop :=
  W.heap[R]? = some (.cells #[vl, .int .i64 e, .int .i64 k, .string nm, vn, .int .i64 a] 64 (0, 0))
/-- What a step of the reader may change: its block; rows of numbers that lie from b on. -/
structure Fr (R b : Nat) (w w' : World) : Prop where
  os : w'.os = w.os
  tape : w'.tape = w.tape
  output : w'.output = w.output
  size : w.heap.size ≤ w'.heap.size
  block : ∀ k, k < w.heap.size → k ≠ R → (k < b ∨ ∀ cs f, w.heap[k]? ≠ some (.cells cs 3 f)) → w'.heap[k]? = w.heap[k]?
theorem Fr.refl (R b : Nat) (w : World) : Fr R b w w := ⟨rfl, rfl, rfl, Nat.le_refl _, fun _ _ _ _ => rfl⟩
theorem Fr.trans {R b : Nat} {w w1 w2 : World} (h : Fr R b w w1) (k : Fr R b w1 w2) : Fr R b w w2 :=
  ⟨k.os.trans h.os, k.tape.trans h.tape, k.output.trans h.output, Nat.le_trans h.size k.size, fun i hi hr hc => (k.block i (Nat.lt_of_lt_of_le hi h.size) hr (by rw [h.block i hi hr hc]; exact hc)).trans (h.block i hi hr hc)⟩
theorem Fr.of_below {R b : Nat} {w w1 : World} (h : Below w.heap.size w w1) : Fr R b w w1 := ⟨h.os, h.tape, h.output, h.size, fun k hk _ _ => h.block k hk⟩
theorem Fr.of_grown {R b : Nat} {w w1 : World} (h : w.grownBy w1 (some R)) : Fr R b w w1 := ⟨h.os, h.tape, h.output, h.size, fun k hk hr _ => h.block k hk (fun e => hr (by injection e))⟩
theorem Fr.alloc {R b : Nat} {w W : World} (h : Fr R b w W) (o : Obj) : Fr R b w (W.alloc o) := h.trans (.of_below ((Below.refl _ _).alloc (Nat.le_refl _) o))
theorem Fr.drew {R b : Nat} {w W : World} (h : Fr R b w W) : Fr R b w W.drew := ⟨h.os, h.tape, h.output, h.size, h.block⟩
theorem Fr.set {R b : Nat} {w W : World} (h : Fr R b w W) (i : Nat) (v : Value) : Fr R b w (W.setCell ⟨R, i, none⟩ v) := by
  refine h.trans ⟨rfl, rfl, rfl, ?_, fun k _ hr _ => Below.heap_setCell _ _ _ _ hr⟩
  show _ ≤ (W.heap.modify _ _).size
  rw [Array.size_modify]; exact Nat.le_refl _
theorem Fr.set_new {R b : Nat} {w W : World} (h : Fr R b w W) (a : Addr) (ha : w.heap.size ≤ a.block) (v : Value) : Fr R b w (W.setCell a v) := by
  refine ⟨h.os, h.tape, h.output, ?_, fun k hk hr hc => (Below.heap_setCell W a v k (by omega)).trans (h.block k hk hr hc)⟩
  show _ ≤ (W.heap.modify _ _).size
  rw [Array.size_modify]; exact h.size
/-- A block of the reader's own kind or of another type than int stays. -/
theorem Fr.kept {R b : Nat} {w W : World} (h : Fr R b w W) {k : Nat} {cs : Array Value} {t : TypeId} {f : Nat × Nat} (hk : w.heap[k]? = some (.cells cs t f)) (hr : k ≠ R) (ht : t ≠ 3 ∨ k < b) : W.heap[k]? = some (.cells cs t f) :=
  (h.block k (blk_lt hk) hr (ht.elim (fun ht => .inr (fun cs' f' e => by rw [hk] at e; injection e with e; injection e with _ e; exact ht e)) .inl)).trans hk
/-- A list of tokens reads the same where its own block is the same. -/
theorem C_same {w W : World} {A : Option Addr} {n : Nat} {l : List Tok} (h : Kd.C kT w A n l) (hs : ∀ ad, A = some ad → 0 < n → W.heap[ad.block]? = w.heap[ad.block]?) : Kd.C kT W A n l := by
  obtain ⟨h1, h2, h3⟩ := h
  refine ⟨h1, h2, fun hp => ?_⟩
  obtain ⟨ad, e, hc⟩ := h3 hp
  refine ⟨ad, e, fun j p hj => ?_⟩
  obtain ⟨cs, hl, hK, hcell⟩ := hc j p hj
  refine ⟨cs, hl, hK, fun i u hu => ?_⟩
  have hb : (ad.add (j * kT.sz + i)).block = ad.block := by unfold Addr.add; split <;> rfl
  exact (World.cell?_of_block (w := w) (by rw [hb]; exact hs ad e hp)).trans (hcell i u hu)

/-- The reader R: the tokens that are left, the end, the command; the command's numbers lie from b on. -/
structure RS (b : Nat) (W : World) (R : Nat) (l : List Tok) (e : Int) (c : Cmd) : Prop where
  lt : R < b
  le : b ≤ W.heap.size
  st : ∃ A cap vn, Rd W R (.slice A l.length cap) e c.f0 c.f1 vn c.f3 ∧ l.length ≤ cap ∧ Kd.C kT W A l.length l ∧ (∀ ad, A = some ad → ad.block < b ∧ ad.block ≠ R ∧ ad.block < R) ∧ (Kd.int .i64).R 3 W b (fun _ => True) vn c.f2
theorem RS.ne_row {b : Nat} {W : World} {R : Nat} {vn : Value} {ns : List Int} (hR : R < b) (h : (Kd.int .i64).R 3 W b (fun _ => True) vn ns) : some R ≠ vn.ownBlock := by
  intro e
  have := own_base h.2.choose_spec.1 R e.symm
  omega
/-- The same reader where what it reads is the same. -/
theorem RS.same {b : Nat} {w W : World} {R : Nat} {l : List Tok} {e : Int} {c : Cmd} (h : RS b w R l e c) (hs : w.heap.size ≤ W.heap.size) (hb : ∀ k, k < w.heap.size → W.heap[k]? = w.heap[k]?) : RS b W R l e c := by
  obtain ⟨h1, h2, A, cap, vn, h3, h4, h5, h6, h7⟩ := h
  refine ⟨h1, Nat.le_trans h2 hs, A, cap, vn, (hb R (blk_lt h3)).trans h3, h4, C_same h5 (fun ad e _ => hb _ (Nat.lt_of_lt_of_le (h6 ad e).1 h2)), h6, Kd.R_step h7 (fun k _ hk => hb k hk)⟩
theorem RS.below {b : Nat} {w W : World} {R : Nat} {l : List Tok} {e : Int} {c : Cmd} (h : RS b w R l e c) (hb : Below w.heap.size w W) : RS b W R l e c := h.same hb.size hb.block
theorem RS.alloc {b : Nat} {W : World} {R : Nat} {l : List Tok} {e : Int} {c : Cmd} (h : RS b W R l e c) (o : Obj) : RS b (W.alloc o) R l e c := h.below ((Below.refl _ _).alloc (Nat.le_refl _) o)
/-- A store into the reader's block that leaves the list and the numbers. -/
theorem RS.change {b : Nat} {w W : World} {R : Nat} {l : List Tok} {e : Int} {c c' : Cmd} (h : RS b w R l e c) (hn : c'.f2 = c.f2) (hs : w.heap.size ≤ W.heap.size) (hb : ∀ k, k < w.heap.size → k ≠ R → W.heap[k]? = w.heap[k]?) (hR : ∀ vl vn, Rd w R vl e c.f0 c.f1 vn c.f3 → Rd W R vl e c'.f0 c'.f1 vn c'.f3) : RS b W R l e c' := by
  obtain ⟨h1, h2, A, cap, vn, h3, h4, h5, h6, h7⟩ := h
  exact ⟨h1, Nat.le_trans h2 hs, A, cap, vn, hR _ _ h3, h4, C_same h5 (fun ad e _ => hb _ (Nat.lt_of_lt_of_le (h6 ad e).1 h2) (h6 ad e).2.1), h6, by rw [hn]; exact Kd.R_mono (Kd.R_step (Kd.R_bound h7) (fun k hk hlt => hb k hlt (fun e => by have := hk.2.1; omega))) (fun _ _ => trivial)⟩
theorem size_set (W : World) (a : Addr) (v : Value) : (W.setCell a v).heap.size = W.heap.size := by show (W.heap.modify _ _).size = _; rw [Array.size_modify]
theorem RS.set_kind {b : Nat} {w : World} {R : Nat} {l : List Tok} {e : Int} {c : Cmd} (h : RS b w R l e c) (k : Int) : RS b (w.setCell ⟨R, 2, none⟩ (.int .i64 k)) R l e { c with f0 := k } :=
  h.change rfl (by rw [size_set]; exact Nat.le_refl _) (fun j _ hj => Below.heap_setCell _ _ _ _ hj) (fun _ _ hR => (blk_set hR 2 _).trans rfl)
theorem RS.set_name {b : Nat} {w : World} {R : Nat} {l : List Tok} {e : Int} {c : Cmd} (h : RS b w R l e c) (s : ByteArray) : RS b (w.setCell ⟨R, 3, none⟩ (.string s)) R l e { c with f1 := s } :=
  h.change rfl (by rw [size_set]; exact Nat.le_refl _) (fun j _ hj => Below.heap_setCell _ _ _ _ hj) (fun _ _ hR => (blk_set hR 3 _).trans rfl)
/-- The reader's cells. -/
theorem RS.cells {b : Nat} {w : World} {R : Nat} {l : List Tok} {e : Int} {c : Cmd} (h : RS b w R l e c) : ∃ A cap vn, (w.cell? ⟨R, 0, none⟩ = some (.slice A l.length cap) ∧ w.cell? ⟨R, 1, none⟩ = some (.int .i64 e) ∧ w.cell? ⟨R, 2, none⟩ = some (.int .i64 c.f0) ∧ w.cell? ⟨R, 3, none⟩ = some (.string c.f1) ∧ w.cell? ⟨R, 4, none⟩ = some vn ∧ w.cell? ⟨R, 5, none⟩ = some (.int .i64 c.f3)) ∧ (∀ i, w.frozen? ⟨R, i, none⟩ = false) := by
  obtain ⟨_, _, A, cap, vn, h3, _⟩ := h
  exact ⟨A, cap, vn, ⟨by rw [blk_cell h3]; rfl, by rw [blk_cell h3]; rfl, by rw [blk_cell h3]; rfl, by rw [blk_cell h3]; rfl, by rw [blk_cell h3]; rfl, by rw [blk_cell h3]; rfl⟩, fun i => blk_frozen h3 i⟩
/-- A number more, appended and stored. -/
theorem RS.push {b : Nat} {w W : World} {R : Nat} {l : List Tok} {e : Int} {c : Cmd} (h : RS b w R l e c) {vn v1 : Value} (hv : w.cell? ⟨R, 4, none⟩ = some vn) (hg : w.grownBy W vn.ownBlock) :
    W.cell? ⟨R, 4, none⟩ = some vn ∧ W.frozen? ⟨R, 4, none⟩ = false ∧ R < W.heap.size ∧ Fr R b w (W.setCell ⟨R, 4, none⟩ v1) ∧ ((Kd.int .i64).R 3 w b (fun _ => True) vn c.f2) ∧
    ∀ ns, (Kd.int .i64).R 3 W b (fun _ => True) v1 ns → RS b (W.setCell ⟨R, 4, none⟩ v1) R l e { c with f2 := ns } := by
  obtain ⟨h1, h2, A, cap, vn', h3, h4, h5, h6, h7⟩ := h
  have he : vn' = vn := by rw [blk_cell h3] at hv; exact Option.some.inj hv
  subst he
  have hne := RS.ne_row h1 h7
  have h3' : Rd W R _ _ _ _ _ _ := (hg.block R (blk_lt h3) hne).trans h3
  have hrow : ∀ k, vn'.ownBlock = some k → b ≤ k ∧ ∃ cells, w.heap[k]? = some (.cells cells 3 (0, 0)) := fun k hk => ⟨own_base h7.2.choose_spec.1 k hk, own_typed h7.2.choose_spec.1 k hk⟩
  have hb : ∀ k, k < b → W.heap[k]? = w.heap[k]? := fun k hk => hg.block k (Nat.lt_of_lt_of_le hk h2) (fun e => by have := (hrow k e.symm).1; omega)
  have hs : w.heap.size ≤ W.heap.size := hg.size
  refine ⟨by rw [blk_cell h3']; rfl, blk_frozen h3' 4, blk_lt h3', ?_, h7, fun ns hns => ?_⟩
  · refine Fr.set ⟨hg.os, hg.tape, hg.output, hs, fun k hk hr hc => hg.block k hk (fun e => ?_)⟩ 4 _
    obtain ⟨hb1, cells, hcl⟩ := hrow k e.symm
    rcases hc with hc | hc
    · omega
    · exact hc _ _ hcl
  · refine ⟨h1, by rw [size_set]; exact Nat.le_trans h2 hs, A, cap, v1, (blk_set h3' 4 _).trans rfl, h4, C_same h5 (fun ad e _ => ?_), h6, ?_⟩
    · rw [Below.heap_setCell _ _ _ _ (h6 ad e).2.1]; exact hb _ (h6 ad e).1
    · exact Kd.R_mono (Kd.R_far (p := ⟨R, 4, none⟩) (Kd.R_bound hns) (fun k hk e => by have := hk.2.1; have : k = R := e; omega) v1) (fun _ _ => trivial)
/-- 'next', at a reader. -/
theorem next_rs {b : Nat} {w : World} {R : Nat} {l : List Tok} {e : Int} {c : Cmd} (h : RS b w R l e c) :
    Calls Tryd.prog 67 #[.pointer (some ⟨R, 0, none⟩)] w fun x w' => x = .returned (.agg #[.int .i64 (nextT l e).f0, .string (nextT l e).f1, .int .i64 (nextT l e).f2, .int .i64 (nextT l e).f3]) ∧ Below w.heap.size w w' := by
  obtain ⟨h1, h2, A, cap, vn, h3, h4, h5, h6, h7⟩ := h
  exact next_any R A cap l e w (by rw [blk_cell h3]; rfl) (by rw [blk_cell h3]; rfl) h5

/-- The reader behind a token. -/
theorem RS.tail {b : Nat} {w W : World} {R : Nat} {t : Tok} {l : List Tok} {e : Int} {c : Cmd} {A : Option Addr} {cap : Nat} {vn : Value} (h1 : R < b) (h2 : b ≤ w.heap.size) (h4 : l.length + 1 ≤ cap) (h5 : Kd.C kT w A (l.length + 1) (t :: l)) (h6 : ∀ ad, A = some ad → ad.block < b ∧ ad.block ≠ R ∧ ad.block < R) (h7 : (Kd.int .i64).R 3 w b (fun _ => True) vn c.f2)
    (hs : w.heap.size ≤ W.heap.size) (hb : ∀ k, k < w.heap.size → k ≠ R → W.heap[k]? = w.heap[k]?) {A' : Option Addr} (hA : A' = if cap = 1 then A else A.map (·.add 4)) (hR : Rd W R (.slice A' l.length (cap - 1)) e c.f0 c.f1 vn c.f3) : RS b W R l e c := by
  have h8 : ∀ ad, A' = some ad → ad.block < b ∧ ad.block ≠ R ∧ ad.block < R := by
    intro ad e
    rw [hA] at e
    split at e
    · exact h6 ad e
    · obtain ⟨ad0, e0, rfl⟩ := Option.map_eq_some_iff.1 e
      have hb : (ad0.add 4).block = ad0.block := rfl
      rw [hb]; exact h6 ad0 e0
  have h9 : Kd.C kT w A' l.length l := by
    have := Kd.C_drop (k := kT) (xs := t :: l) (m := 1) (c := cap) h5 (by simp) (by simpa using h4)
    rw [hA]; exact this
  refine ⟨h1, Nat.le_trans h2 hs, A', cap - 1, vn, hR, by omega, C_same h9 (fun ad e _ => hb _ (Nat.lt_of_lt_of_le (h8 ad e).1 h2) (h8 ad e).2.1), h8, Kd.R_mono (Kd.R_step (Kd.R_bound h7) (fun k hk hlt => hb k hlt (fun e => by have := hk.2.1; omega))) (fun _ _ => trivial)⟩
/-- A failure at an offset, as a panic's chain. -/
def failAt (a : Int) : List PanicEntry := [{ v := .iface 93 (.agg #[.int .i64 a]), recovered := false }]

set_option maxHeartbeats 4000000 in
set_option maxRecDepth 100000 in
theorem need_rs_ok4 {b : Nat} {w : World} {R : Nat} {t : Tok} {l : List Tok} {e : Int} {c : Cmd} (h : RS b w R (t :: l) e c) :
    Calls Tryd.prog 72 #[.pointer (some ⟨R, 0, none⟩), .bool true] w fun x w' => x = .returned (.agg #[.int .i64 t.f0, .string t.f1, .int .i64 t.f2, .int .i64 t.f3]) ∧ RS b w' R l e c ∧ (∀ d, Fr R d w w') ∧ w'.cell? ⟨R, 4, none⟩ = w.cell? ⟨R, 4, none⟩ := by
  have hn : ∀ W, Below w.heap.size w W → Calls Tryd.prog 67 #[.pointer (some ⟨R, 0, none⟩)] W fun x w' => x = .returned (.agg #[.int .i64 t.f0, .string t.f1, .int .i64 t.f2, .int .i64 t.f3]) ∧ Below W.heap.size W w' :=
    fun W hb => next_rs (h.below hb)
  obtain ⟨h1, h2, A, cap, vn, h3, h4, h5, h6, h7⟩ := h
  have H := Lib.hid (And.intro h1 (And.intro h2 (And.intro h3 (And.intro h4 (And.intro h5 (And.intro h6 h7))))))
  have c0 : w.cell? ⟨R, 0, none⟩ = some (.slice A (l.length + 1) cap) := by rw [blk_cell h3]; rfl
  have f0 := blk_frozen h3 0
  have b0 := World.block_lt_of_cell? w _ c0
  have hc : l.length + 1 ≤ cap := h4
  clear h1 h2 h3 h4 h5 h6 h7
  go_enter Tryd.func72, Tryd.ntmps72
  go_wp2_with (go_at_call 67; refine (hn _ (by repeat (first | exact Below.refl _ _ | apply below_alloc | apply pw_below_drewN))).mono ?_; rintro x w' ⟨rfl, hw⟩; have hB : Below w.heap.size w w' := below_then (below_alloc (Below.refl _ _) _) (by simp) hw; have h0' := (hB.cell (p := ⟨R, 0, none⟩) b0).trans c0; have hf' := (hB.frozen (p := ⟨R, 0, none⟩) b0).trans f0; have hs := hB.size; have hRs : R < w'.heap.size := Nat.lt_of_lt_of_le b0 hs; have hc0 : w'.cell? ⟨w.heap.size, 0, none⟩ = some (.int .i64 0) := (hw.cell (p := ⟨w.heap.size, 0, none⟩) (box_lt _ _)).trans (World.cell?_alloc_mark _ _ _ _ _); have hz0 : w'.frozen? ⟨w.heap.size, 0, none⟩ = false := (hw.frozen (p := ⟨w.heap.size, 0, none⟩) (box_lt _ _)).trans (box_frozen _ _ _ _); have hc1 : w'.cell? ⟨w.heap.size, 1, none⟩ = some (.string ⟨#[]⟩) := (hw.cell (p := ⟨w.heap.size, 1, none⟩) (box_lt _ _)).trans (World.cell?_alloc_mark _ _ _ _ _); have hz1 : w'.frozen? ⟨w.heap.size, 1, none⟩ = false := (hw.frozen (p := ⟨w.heap.size, 1, none⟩) (box_lt _ _)).trans (box_frozen _ _ _ _); have hc2 : w'.cell? ⟨w.heap.size, 2, none⟩ = some (.int .i64 0) := (hw.cell (p := ⟨w.heap.size, 2, none⟩) (box_lt _ _)).trans (World.cell?_alloc_mark _ _ _ _ _); have hz2 : w'.frozen? ⟨w.heap.size, 2, none⟩ = false := (hw.frozen (p := ⟨w.heap.size, 2, none⟩) (box_lt _ _)).trans (box_frozen _ _ _ _); have hc3 : w'.cell? ⟨w.heap.size, 3, none⟩ = some (.int .i64 0) := (hw.cell (p := ⟨w.heap.size, 3, none⟩) (box_lt _ _)).trans (World.cell?_alloc_mark _ _ _ _ _); have hz3 : w'.frozen? ⟨w.heap.size, 3, none⟩ = false := (hw.frozen (p := ⟨w.heap.size, 3, none⟩) (box_lt _ _)).trans (box_frozen _ _ _ _); have hb5 : w.heap.size < w'.heap.size := Nat.lt_of_lt_of_le (by simp) hw.size)
  all_goals
    obtain ⟨h1, h2, h3, h4, h5, h6, h7⟩ := H.out
    have hRw : R ≠ w.heap.size := Nat.ne_of_lt b0
    have nb : ∀ j, (⟨R, 0, none⟩ : Addr) ≠ ⟨w.heap.size, j, none⟩ := fun j e => hRw (by injection e)
    have hk : ∀ k (v : Value), k < w.heap.size → k ≠ R → (((((w'.setCell ⟨R, 0, none⟩ v).setCell ⟨w.heap.size, 0, none⟩ (.int .i64 t.f0)).setCell ⟨w.heap.size, 1, none⟩ (.string t.f1)).setCell ⟨w.heap.size, 2, none⟩ (.int .i64 t.f2)).setCell ⟨w.heap.size, 3, none⟩ (.int .i64 t.f3)).heap[k]? = w.heap[k]? := fun k v hk hr => by
      rw [Below.heap_setCell _ _ _ _ (Nat.ne_of_lt hk), Below.heap_setCell _ _ _ _ (Nat.ne_of_lt hk), Below.heap_setCell _ _ _ _ (Nat.ne_of_lt hk), Below.heap_setCell _ _ _ _ (Nat.ne_of_lt hk), Below.heap_setCell _ _ _ _ hr]
      exact hB.block k hk
    have hR1 := blk_below h3 hB
    generalize hX : World.alloc _ (Obj.cells #[.int .i64 t.f0, .string t.f1, .int .i64 t.f2, .int .i64 t.f3] 45) = X
    obtain ⟨r0, r1, r2, r3⟩ := four_cells _ w.heap.size _ _ _ _ _ (.int .i64 0) (.string ⟨#[]⟩) (.int .i64 0) (.int .i64 0) (by exact (World.cell?_setCell_other _ _ _ _ (nb 0)).trans hc0) (by exact (World.cell?_setCell_other _ _ _ _ (nb 1)).trans hc1) (by exact (World.cell?_setCell_other _ _ _ _ (nb 2)).trans hc2) (by exact (World.cell?_setCell_other _ _ _ _ (nb 3)).trans hc3) X hX.symm
    have hsz : w.heap.size ≤ X.heap.size := by rw [← hX]; simp [World.setCell]; omega
    have hRd : ∃ A', A' = (if cap = 1 then A else A.map (·.add 4)) ∧ Rd X R (.slice A' l.length (cap - 1)) e c.f0 c.f1 vn c.f3 := by
      refine Exists.intro ?_ (And.intro ?_ ?_)
      rotate_left 2
      focus
        rw [← hX]
        first | rw [show cap - 1 = 0 from by omega] | skip
        unfold Rd
        refine (blk_alloc (blk_far (blk_far (blk_far (blk_far (blk_set hR1 0 _) ⟨w.heap.size, 0, none⟩ _ hRw) ⟨w.heap.size, 1, none⟩ _ hRw) ⟨w.heap.size, 2, none⟩ _ hRw) ⟨w.heap.size, 3, none⟩ _ hRw) _).trans ?_
        rfl
      first | exact (if_pos (by assumption : cap = 1)).symm | exact (if_neg (by assumption : ¬cap = 1)).symm
    obtain ⟨A', hA', hRd⟩ := hRd
    have c4 : w.cell? ⟨R, 4, none⟩ = some vn := by rw [blk_cell h3]; rfl
    have c4' : X.cell? ⟨R, 4, none⟩ = some vn := by rw [blk_cell hRd]; rfl
    refine bodyPost_ret (v := .agg #[.int .i64 t.f0, .string t.f1, .int .i64 t.f2, .int .i64 t.f3]) (by simp [results, Tryd.results72, go_sem, r0, r1, r2, r3]) rfl ⟨rfl, ?_, ?_, c4'.trans c4.symm⟩
    · exact RS.tail h1 h2 h4 h5 h6 h7 hsz (fun k hk1 hk2 => by rw [← hX, Below.heap_alloc _ _ _ (by simp [World.setCell]; omega)]; exact hk k _ hk1 hk2) hA' hRd
    · rw [← hX]
      intro d
      exact Fr.of_grown (grown_alloc (grown_set (grown_set (grown_set (grown_set (grown_set (grown_of_below hB (some R)) _ _ (.inl rfl)) _ _ (.inr (Nat.le_refl _))) _ _ (.inr (Nat.le_refl _))) _ _ (.inr (Nat.le_refl _))) _ _ (.inr (Nat.le_refl _))) _)

/-- .. without the word on the numbers' cell. -/
theorem need_rs_ok {b : Nat} {w : World} {R : Nat} {t : Tok} {l : List Tok} {e : Int} {c : Cmd} (h : RS b w R (t :: l) e c) :
    Calls Tryd.prog 72 #[.pointer (some ⟨R, 0, none⟩), .bool true] w fun x w' => x = .returned (.agg #[.int .i64 t.f0, .string t.f1, .int .i64 t.f2, .int .i64 t.f3]) ∧ RS b w' R l e c ∧ (∀ d, Fr R d w w') :=
  (need_rs_ok4 h).mono (fun _ _ h => ⟨h.1, h.2.1, h.2.2.1⟩)
set_option maxHeartbeats 4000000 in
set_option maxRecDepth 100000 in
theorem need_rs_no {b : Nat} {w : World} {R : Nat} {l : List Tok} {e : Int} {c : Cmd} (h : RS b w R l e c) :
    Calls Tryd.prog 72 #[.pointer (some ⟨R, 0, none⟩), .bool false] w fun x w' => x = .panicked (failAt (nextT l e).f3) ∧ RS b w' R l e c ∧ (∀ d, Fr R d w w') := by
  obtain ⟨t, ht⟩ : ∃ t, nextT l e = t := ⟨_, rfl⟩
  have hn : ∀ W, Below w.heap.size w W → Calls Tryd.prog 67 #[.pointer (some ⟨R, 0, none⟩)] W fun x w' => x = .returned (.agg #[.int .i64 t.f0, .string t.f1, .int .i64 t.f2, .int .i64 t.f3]) ∧ Below W.heap.size W w' :=
    fun W hb => by have := next_rs (h.below hb); rwa [ht] at this
  have H := Lib.hid h
  rw [ht]
  clear h ht
  go_enter Tryd.func72, Tryd.ntmps72
  go_wp2_with (go_at_call 67; refine (hn _ (by repeat (first | exact Below.refl _ _ | apply below_alloc | apply pw_below_drewN))).mono ?_; rintro x w' ⟨rfl, hw⟩; have hB : Below w.heap.size w w' := below_then (below_alloc (Below.refl _ _) _) (by simp) hw)
  exact ⟨rfl, rfl, H.out.below (below_alloc hB _), fun d => Fr.of_below (below_alloc hB _)⟩

end Go.Proofs.YtdedlchpjboceaaDoor.Px
end

section
/-
  The parser's reader: what each of its steps does, said by items; 'word' and 'name', walked.
-/
namespace Go.Proofs.YtdedlchpjboceaaDoor.Px
open Go.RowKit Go.Shelf Go.Proofs.YtdedlchpjboceaaDoor.Lx Go.Proofs.YtdedlchpjboceaaDoorW.PrintWords Go.Proofs.YtdedlchpjboceaaDoorW.PrintLast Go.Proofs.YtdedlchpjboceaaDoorW.PrintMore
attribute [local go_sem] Oper.semAt_some

/-- What a step of the reader comes to: the tokens that are left and the command; or the offset of an error, and the tokens that are left. -/
abbrev Res := Except (Int × List Tok) (List Tok × Cmd)
inductive It where
  | W (s : ByteArray)
  | Nm
  | Num
  | Dr
def slowT : ByteArray := ⟨#[115, 108, 111, 119]⟩
def fastT : ByteArray := ⟨#[102, 97, 115, 116]⟩
def stepIt (e : Int) : It → List Tok → Cmd → Res
  | .W s, l, c => if (nextT l e).f1 = s then .ok (l.tail, c) else .error ((nextT l e).f3, l)
  | .Nm, l, c => if (nextT l e).f0 = 1 ∧ nameB (nextT l e).f1.data.toList = true then .ok (l.tail, { c with f1 := (nextT l e).f1 }) else .error ((nextT l e).f3, l)
  | .Num, l, c => if (nextT l e).f0 = 2 then .ok (l.tail, { c with f2 := c.f2 ++ [(nextT l e).f2] }) else .error ((nextT l e).f3, l)
  | .Dr, l, c => if (nextT l e).f1 = slowT ∨ (nextT l e).f1 = fastT then
      (if (nextT l.tail e).f0 = 2 then .ok (l.tail.tail, { c with f2 := c.f2 ++ [if (nextT l e).f1 = slowT then IntKind.i64.wrap (-(nextT l.tail e).f2) else (nextT l.tail e).f2] }) else .error ((nextT l.tail e).f3, l.tail))
    else .error ((nextT l e).f3, l)
def runIt (e : Int) : List It → List Tok → Cmd → Res
  | [], l, c => .ok (l, c)
  | i :: is, l, c => match stepIt e i l c with
    | .ok (l', c') => runIt e is l' c'
    | .error x => .error x
theorem runIt_append (e : Int) (a b : List It) (l : List Tok) (c : Cmd) : runIt e (a ++ b) l c = match runIt e a l c with | .ok (l', c') => runIt e b l' c' | .error x => .error x := by
  induction a generalizing l c with
  | nil => rfl
  | cons i is ih =>
    simp only [List.cons_append, runIt]
    cases stepIt e i l c with
    | error x => rfl
    | ok y => exact ih y.1 y.2
/-- What a call of the reader's answers. -/
def PostR (b R : Nat) (e : Int) (w : World) (r : Res) (x : Ending) (w' : World) : Prop :=
  Fr R b w w' ∧ match r with
    | .ok y => x = .returned (.tuple #[]) ∧ RS b w' R y.1 e y.2
    | .error y => x = .panicked (failAt y.1) ∧ ∃ c, RS b w' R y.2 e c
theorem fieldT0 (a c d : Int) (s : ByteArray) (W : World) : (Instr.field 45 (.agg #[.int .i64 a, .string s, .int .i64 c, .int .i64 d]) 0).run Tryd.prog W = .ok (.int .i64 a) W := by kernel_rfl
theorem fieldT1 (a c d : Int) (s : ByteArray) (W : World) : (Instr.field 45 (.agg #[.int .i64 a, .string s, .int .i64 c, .int .i64 d]) 1).run Tryd.prog W = .ok (.string s) W := by kernel_rfl
theorem fieldT2 (a c d : Int) (s : ByteArray) (W : World) : (Instr.field 45 (.agg #[.int .i64 a, .string s, .int .i64 c, .int .i64 d]) 2).run Tryd.prog W = .ok (.int .i64 c) W := by kernel_rfl
theorem fieldT3 (a c d : Int) (s : ByteArray) (W : World) : (Instr.field 45 (.agg #[.int .i64 a, .string s, .int .i64 c, .int .i64 d]) 3).run Tryd.prog W = .ok (.int .i64 d) W := by kernel_rfl
/-- .. where no row of numbers has changed. -/
def PostS (b R : Nat) (e : Int) (w : World) (r : Res) (x : Ending) (w' : World) : Prop :=
  (∀ d, Fr R d w w') ∧ match r with
    | .ok y => x = .returned (.tuple #[]) ∧ RS b w' R y.1 e y.2
    | .error y => x = .panicked (failAt y.1) ∧ ∃ c, RS b w' R y.2 e c
theorem PostS.post {b R : Nat} {e : Int} {w : World} {r : Res} {x : Ending} {w' : World} (h : PostS b R e w r x w') : PostR b R e w r x w' := ⟨h.1 b, h.2⟩
theorem nextT_cons {l : List Tok} {e : Int} (h : (nextT l e).f1 ≠ ⟨#[]⟩) : ∃ t l', l = t :: l' := by
  cases l with
  | nil => exact absurd rfl h
  | cons t l' => exact ⟨t, l', rfl⟩
theorem nextT_kind {l : List Tok} {e : Int} (h : (nextT l e).f0 ≠ 0) : ∃ t l', l = t :: l' := by
  cases l with
  | nil => exact absurd rfl h
  | cons t l' => exact ⟨t, l', rfl⟩
theorem eq_toList (a b : ByteArray) : (a.toList == b.toList) = decide (a = b) := by
  rw [ByteArray.toList_eq, ByteArray.toList_eq, Bool.eq_iff_iff, beq_iff_eq, decide_eq_true_eq]
  exact ⟨fun h => by cases a; cases b; simp at h; rw [h], fun h => by rw [h]⟩
set_option maxHeartbeats 4000000 in
set_option maxRecDepth 100000 in
theorem word_rsS {b : Nat} {w : World} {R : Nat} {l : List Tok} {e : Int} {c : Cmd} (s : ByteArray) (hs : s ≠ ⟨#[]⟩) (h : RS b w R l e c) :
    Calls Tryd.prog 69 #[.pointer (some ⟨R, 0, none⟩), .string s] w (PostS b R e w (stepIt e (.W s) l c)) := by
  have hn := next_rs h
  have hf1 := fieldT1
  obtain ⟨n, hN⟩ : ∃ n, nextT l e = n := ⟨_, rfl⟩
  rw [hN] at hn
  cases hb : (n.f1.toList == s.toList) with
  | true =>
    have hq : n.f1 = s := by rw [eq_toList, decide_eq_true_eq] at hb; exact hb
    have hr : stepIt e (.W s) l c = .ok (l.tail, c) := if_pos (by rw [hN]; exact hq)
    rw [hr]
    obtain ⟨t, l', rfl⟩ := nextT_cons (l := l) (e := e) (by rw [hN, hq]; exact hs)
    have hd := fun W (hb : Below w.heap.size w W) => need_rs_ok (h.below hb)
    clear hr hq hN h hs
    go_enter Tryd.func69, Tryd.ntmps69
    go_wp2_with fail
    refine hn.mono ?_
    rintro x w1 ⟨rfl, hw⟩
    go_wp2_with fail
    refine (hd _ hw).mono ?_
    rintro x w2 ⟨rfl, hS, hF⟩
    go_wp2
    exact bodyPost_ret (v := .tuple #[]) (by simp [results, Tryd.results69, go_sem]) rfl ⟨fun d => (Fr.of_below hw).trans (hF d), rfl, hS⟩
  | false =>
    have hq : ¬ n.f1 = s := by rw [eq_toList, decide_eq_false_iff_not] at hb; exact hb
    have hr : stepIt e (.W s) l c = .error (n.f3, l) := by rw [← hN]; exact if_neg (by rw [hN]; exact hq)
    rw [hr]
    have hd := fun W (hb : Below w.heap.size w W) => need_rs_no (h.below hb)
    rw [hN] at hd
    clear hr hq hN h hs
    go_enter Tryd.func69, Tryd.ntmps69
    go_wp2_with fail
    refine hn.mono ?_
    rintro x w1 ⟨rfl, hw⟩
    go_wp2_with fail
    refine (hd _ hw).mono ?_
    rintro x w2 ⟨rfl, hS, hF⟩
    exact ⟨rfl, fun d => (Fr.of_below hw).trans (hF d), rfl, _, hS⟩

set_option maxHeartbeats 4000000 in
set_option maxRecDepth 100000 in
theorem name_rsS {b : Nat} {w : World} {R : Nat} {l : List Tok} {e : Int} {c : Cmd} (h : RS b w R l e c) :
    Calls Tryd.prog 97 #[.pointer (some ⟨R, 0, none⟩)] w (PostS b R e w (stepIt e .Nm l c)) := by
  have hn := next_rs h
  have hf1 := fieldT1
  obtain ⟨n, hN⟩ : ∃ n, nextT l e = n := ⟨_, rfl⟩
  rw [hN] at hn
  have hq := fun W => isName_any n.f1 W
  have hfail : ¬ (n.f0 = 1 ∧ nameB n.f1.data.toList = true) → stepIt e .Nm l c = .error (n.f3, l) := fun hne => by rw [← hN]; exact if_neg (by rw [hN]; exact hne)
  have hdn := fun W (hb : Below w.heap.size w W) => need_rs_no (h.below hb)
  rw [hN] at hdn
  by_cases h1 : n.f0 = 1
  · cases h2 : nameB n.f1.data.toList with
    | true =>
      have hr : stepIt e .Nm l c = .ok (l.tail, { c with f1 := n.f1 }) := by rw [← hN]; exact if_pos (by rw [hN]; exact ⟨h1, h2⟩)
      rw [hr]
      rw [h2] at hq
      obtain ⟨t, l', rfl⟩ := nextT_kind (l := l) (e := e) (by rw [hN, h1]; decide)
      have htn : t = n := hN
      have hd := fun W (hb : Below w.heap.size w W) => need_rs_ok (h.below hb)
      rw [htn] at hd
      have hk : ((n.f0 : Int) == 1) = true := by rw [h1]; rfl
      clear hr hfail hdn htn hN h h1 h2
      go_enter Tryd.func97, Tryd.ntmps97
      go_wp2_with fail
      refine hn.mono ?_
      rintro x w1 ⟨rfl, hw⟩
      go_wp2_with fail
      refine (hq _).mono ?_
      rintro x w2 ⟨rfl, hw2⟩
      go_wp2_with fail
      have hB : Below w.heap.size w w2 := below_then (below_alloc hw _) (by have := hw.size; simp; omega) hw2
      refine (hd _ hB).mono ?_
      rintro x w3 ⟨rfl, hS, hF⟩
      obtain ⟨A, cap, vn, ⟨c0, c1, c2, c3, c4, c5⟩, hf⟩ := hS.cells
      have f3 := hf 3
      have HS := Lib.hid hS
      clear hS hf c0 c1 c2 c4 c5
      go_wp2
      exact bodyPost_ret (v := .tuple #[]) (by simp [results, Tryd.results97, go_sem]) rfl ⟨fun d => ((Fr.of_below hB).trans (hF d)).set _ _, rfl, HS.out.set_name _⟩
    | false =>
      rw [hfail (by rw [h2]; simp)]
      rw [h2] at hq
      have hk : ((n.f0 : Int) == 1) = true := by rw [h1]; rfl
      clear hfail hN h h1 h2
      go_enter Tryd.func97, Tryd.ntmps97
      go_wp2_with fail
      refine hn.mono ?_
      rintro x w1 ⟨rfl, hw⟩
      go_wp2_with fail
      refine (hq _).mono ?_
      rintro x w2 ⟨rfl, hw2⟩
      go_wp2_with fail
      have hB : Below w.heap.size w w2 := below_then (below_alloc hw _) (by have := hw.size; simp; omega) hw2
      refine (hdn _ hB).mono ?_
      rintro x w3 ⟨rfl, hS, hF⟩
      exact ⟨rfl, fun d => (Fr.of_below hB).trans (hF d), rfl, _, hS⟩
  · rw [hfail (fun hh => h1 hh.1)]
    have hk : ((n.f0 : Int) == 1) = false := by simpa using h1
    clear hfail hN h h1 hq
    go_enter Tryd.func97, Tryd.ntmps97
    go_wp2_with fail
    refine hn.mono ?_
    rintro x w1 ⟨rfl, hw⟩
    go_wp2_with fail
    refine (hdn _ (below_alloc hw _)).mono ?_
    rintro x w3 ⟨rfl, hS, hF⟩
    exact ⟨rfl, fun d => (Fr.of_below (below_alloc hw _)).trans (hF d), rfl, _, hS⟩

theorem word_rs {b : Nat} {w : World} {R : Nat} {l : List Tok} {e : Int} {c : Cmd} (s : ByteArray) (hs : s ≠ ⟨#[]⟩) (h : RS b w R l e c) :
    Calls Tryd.prog 69 #[.pointer (some ⟨R, 0, none⟩), .string s] w (PostR b R e w (stepIt e (.W s) l c)) := (word_rsS s hs h).mono (fun _ _ h => h.post)
theorem name_rs {b : Nat} {w : World} {R : Nat} {l : List Tok} {e : Int} {c : Cmd} (h : RS b w R l e c) :
    Calls Tryd.prog 97 #[.pointer (some ⟨R, 0, none⟩)] w (PostR b R e w (stepIt e .Nm l c)) := (name_rsS h).mono (fun _ _ h => h.post)

end Go.Proofs.YtdedlchpjboceaaDoor.Px
end

section
/-
  The parser's reader: 'numbers', walked.
-/
namespace Go.Proofs.YtdedlchpjboceaaDoor.Px
open Go.RowKit Go.Shelf Go.Proofs.YtdedlchpjboceaaDoor.Lx Go.Proofs.YtdedlchpjboceaaDoorW.PrintWords Go.Proofs.YtdedlchpjboceaaDoorW.PrintLast Go.Proofs.YtdedlchpjboceaaDoorW.PrintMore
attribute [local go_sem] Oper.semAt_some

section
variable {P : Program} {ops : Array Oper} {Q : Exit → Act → World → Prop}
/-- A call of a Go function in a region, by a contract that lets it panic. -/
theorem goesP_ {oi : Oper} {N : Option Tmp} {a : Act} {w : World} {K : Act → World → Prop} {f : FuncId} {fn : Func} {xs : Array Operand} {ts : Array TypeId} (hf : P.funcs[f]? = some fn) (hname : (fn.name == "runtime.NumGoroutine") = false) (hb : fn.body.isSome = true) (args : Array Value)
    (hw : Region.wanted oi (yielded ops a.tmps) = true) (hN : oi.dst = N) (hop : oi.op = .call { callee := .value (.func f), args := xs, argTypes := ts }) (hargs : xs.map a.eval = args)
    (h : Calls P f args w fun e w' => (∃ v, e = .returned v ∧ K (a.put N v) w') ∨ (∃ ch, e = .panicked ch ∧ Q (.panic ch) a w')) : if Region.wanted oi (yielded ops a.tmps) = true then Oper.wp P oi a w K Q else K (a.put N undef) w := by
  rw [if_pos hw]
  have he := enters_ hf hname hb args w
  have hrun : (execOp a.eval oi).run P w = .ok (.enter f args) w := by
    unfold execOp
    simp [hop, resolve, Deferred.ofValue, invoke, Act.eval, hargs, he]
  unfold Oper.wp
  rw [hrun, Oper.upon_enter]
  refine h.mono fun e w'' hh => ?_
  rcases hh with ⟨v, rfl, hk⟩ | ⟨ch, rfl, hk⟩
  · subst hN; exact hk
  · exact hk
end
theorem RS.drew {b : Nat} {w : World} {R : Nat} {l : List Tok} {e : Int} {c : Cmd} (h : RS b w R l e c) : RS b w.drew R l e c := h.same (Nat.le_refl _) (fun _ _ => rfl)
/-- Some numbers. -/
abbrev nums_ (k : Nat) : List It := List.replicate k It.Num

theorem infoInt : (Tryd.prog.info? 3).map (fun i => (i.zero, i.size, i.bytes)) = some (some (.int .i64 0), 1, 8) := by kernel_rfl
set_option maxHeartbeats 8000000 in
set_option maxRecDepth 100000 in
theorem numbers_rs {b : Nat} {w : World} {R : Nat} {l : List Tok} {e : Int} {c : Cmd} (m : Nat) (hm : c.f2.length + m ≤ 1000) (h : RS b w R l e c) :
    Calls Tryd.prog 70 #[.pointer (some ⟨R, 0, none⟩), .int .i64 (m : Nat)] w (PostR b R e w (runIt e (nums_ m) l c)) := by
  have H := Lib.hid h
  have hf0 := fieldT0
  have hf2 := fieldT2
  clear h
  go_enter Tryd.func70, Tryd.ntmps70
  go_wp2
  go_loopg [5] m (fun g v w' => ∃ (k : Nat) (l' : List Tok) (c' : Cmd), k + g = m ∧ v = .int .i64 k ∧ Hid (runIt e (nums_ g) l' c' = runIt e (nums_ m) l c) ∧ c'.f2.length + g ≤ 1000 ∧ Hid (RS b w' R l' e c') ∧ Hid (Fr R b w w'))
  case atStart => exact ⟨0, l, c, by omega, rfl, Lib.hid rfl, hm, H, Lib.hid (Fr.refl _ _ _)⟩
  case round =>
    obtain ⟨k, l', c', hk, rfl, hH, hn1, HS, HF⟩ := hrel
    by_cases hlt : k < m
    · obtain ⟨g, rfl⟩ : ∃ g, gk = g + 1 := ⟨gk - 1, by omega⟩
      have hS := HS.out
      obtain ⟨A, cap, vn, ⟨c0, c1, c2, c3, c4, c5⟩, hf⟩ := hS.cells
      clear HS c0 c1 c2 c3 c5 hf
      cases hk2 : ((nextT l' e).f0 == 2) with
      | true =>
        have hkk : (nextT l' e).f0 = 2 := by simpa using hk2
        obtain ⟨t, l'', rfl⟩ := nextT_kind (l := l') (e := e) (by rw [hkk]; decide)
        have hst : runIt e (nums_ m) l c = runIt e (nums_ g) l'' { c' with f2 := c'.f2 ++ [t.f2] } := by
          rw [← hH.out]
          show (match stepIt e .Num (t :: l'') c' with | .ok (l2, c2) => runIt e (nums_ g) l2 c2 | .error x => .error x) = _
          have : stepIt e .Num (t :: l'') c' = .ok (l'', { c' with f2 := c'.f2 ++ [t.f2] }) := if_pos hkk
          rw [this]
        have HST := Lib.hid hst
        clear hst hH hkk
        go_wp2
        refine start_ (n := 19) (S := fun W => W.cell? ⟨R, 4, none⟩ = some vn) (ds := [18]) #[false, false, false, false, false, false, false, false, false, false, false, false, false, false, false, false, false, false, false] (by kernel_rfl) rfl rfl (c4) (fun hHeld => ?_)
        have HD := Lib.hid hS.drew
        have HFd := Lib.hid HF.out.drew
        clear hS
        generalize wr.drew = wd at HD HFd hHeld ⊢
        refine pure_ (i := 0) (N := some 7) (v := ?_) (a' := ?_) #[true, false, false, false, false, false, false, false, false, false, false, false, false, false, false, false, false, false, false] rfl rfl (by kernel_rfl) (fun _ _ _ h => h) (Or.inl ⟨by rfl, ?_⟩) ?_ ?_
        rotate_left
        · intro w'
          go_simp
          with_reducible rfl
        rotate_left
        · simp only [Act.put, List.setIfInBounds_toArray, List.set_cons_zero, List.set_cons_succ]
          rfl
        refine pure_ (i := 1) (N := some 8) (v := ?_) (a' := ?_) #[true, true, false, false, false, false, false, false, false, false, false, false, false, false, false, false, false, false, false] rfl rfl (by kernel_rfl) (fun _ _ _ h => h) (Or.inl ⟨by rfl, ?_⟩) ?_ ?_
        rotate_left
        · intro w'
          go_simp
          with_reducible rfl
        rotate_left
        · simp only [Act.put, List.setIfInBounds_toArray, List.set_cons_zero, List.set_cons_succ]
          rfl
        refine pure_ (i := 2) (N := some 9) (v := ?_) (a' := ?_) #[true, true, true, false, false, false, false, false, false, false, false, false, false, false, false, false, false, false, false] rfl rfl (by kernel_rfl) (fun _ _ _ h => h) (Or.inl ⟨by rfl, ?_⟩) ?_ ?_
        rotate_left
        · intro w'
          go_simp
          with_reducible rfl
        rotate_left
        · simp only [Act.put, List.setIfInBounds_toArray, List.set_cons_zero, List.set_cons_succ]
          rfl
        refine pure_ (i := 3) (N := some 10) (v := ?_) (a' := ?_) #[true, true, true, true, false, false, false, false, false, false, false, false, false, false, false, false, false, false, false] rfl rfl (by kernel_rfl) (fun _ _ _ h => h) (Or.inl ⟨by rfl, ?_⟩) ?_ ?_
        rotate_left
        · intro w'
          go_simp
          with_reducible rfl
        rotate_left
        · simp only [Act.put, List.setIfInBounds_toArray, List.set_cons_zero, List.set_cons_succ]
          rfl
        refine pure_ (i := 4) (N := some 11) (v := ?_) (a' := ?_) #[true, true, true, true, true, false, false, false, false, false, false, false, false, false, false, false, false, false, false] rfl rfl (by kernel_rfl) (fun _ _ _ h => h) (Or.inl ⟨by rfl, ?_⟩) ?_ ?_
        rotate_left
        · intro w'
          go_simp
          with_reducible rfl
        rotate_left
        · simp only [Act.put, List.setIfInBounds_toArray, List.set_cons_zero, List.set_cons_succ]
          rfl
        refine take_ (i := 5) (N := some 12) (v := ?_) (a' := ?_) #[true, true, true, true, true, true, false, false, false, false, false, false, false, false, false, false, false, false, false] rfl rfl (by kernel_rfl) (fun _ _ _ h => h) (Or.inl ⟨by rfl, ?_⟩) hHeld ?_ ?_
        rotate_left
        · intro w' hSw
          (try dsimp only at hSw)
          go_simp
          with_reducible rfl
        rotate_left
        · simp only [Act.put, List.setIfInBounds_toArray, List.set_cons_zero, List.set_cons_succ]
          rfl
        refine pure_ (i := 6) (N := some 13) (v := ?_) (a' := ?_) #[true, true, true, true, true, true, true, false, false, false, false, false, false, false, false, false, false, false, false] rfl rfl (by kernel_rfl) (fun _ _ _ h => h) (Or.inl ⟨by rfl, ?_⟩) ?_ ?_
        rotate_left
        · intro w'
          go_simp
          with_reducible rfl
        rotate_left
        · simp only [Act.put, List.setIfInBounds_toArray, List.set_cons_zero, List.set_cons_succ]
          rfl
        refine pure_ (i := 7) (N := some 14) (v := ?_) (a' := ?_) #[true, true, true, true, true, true, true, true, false, false, false, false, false, false, false, false, false, false, false] rfl rfl (by kernel_rfl) (fun _ _ _ h => h) (Or.inl ⟨by rfl, ?_⟩) ?_ ?_
        rotate_left
        · intro w'
          go_simp
          with_reducible rfl
        rotate_left
        · simp only [Act.put, List.setIfInBounds_toArray, List.set_cons_zero, List.set_cons_succ]
          rfl
        refine one_ (i := 8) (N := some 15) #[true, true, true, true, true, true, true, true, true, false, false, false, false, false, false, false, false, false, false] rfl rfl (by kernel_rfl) (by decide) (fun K hK => ?_)
        refine goes_ Tryd.func67 (by kernel_rfl) rfl #[.pointer (some ⟨R, 0, none⟩)] (by rfl) rfl rfl (by (try simp only [List.map_toArray, List.map_cons, List.map_nil]); first | done | rfl) ?_
        refine (next_rs HD.out).mono ?_
        rintro x w1 ⟨rfl, hw⟩
        refine ⟨_, rfl, ?_⟩
        have HD1 := Lib.hid (HD.out.below hw)
        have HF1 := Lib.hid (HFd.out.trans (.of_below hw))
        have hH1 := (hw.cell (p := ⟨R, 4, none⟩) (World.block_lt_of_cell? _ _ hHeld)).trans hHeld
        refine hK.out _ _ hH1 (fun hHeld => ?_)
        clear hK K HD HFd hw hH1
        refine norm_ (a' := ?_) ?_ ?_
        rotate_left
        · show Act.put _ (some 15) _ = _
          simp only [Act.put, List.setIfInBounds_toArray, List.set_cons_zero, List.set_cons_succ]
          rfl
        refine pure_ (i := 9) (N := some 16) (v := ?_) (a' := ?_) #[true, true, true, true, true, true, true, true, true, true, false, false, false, false, false, false, false, false, false] rfl rfl (by kernel_rfl) (fun _ _ _ h => h) (Or.inl ⟨by rfl, ?_⟩) ?_ ?_
        rotate_left
        · intro w'
          go_simp
          with_reducible rfl
        rotate_left
        · simp only [Act.put, List.setIfInBounds_toArray, List.set_cons_zero, List.set_cons_succ]
          rfl
        refine pure_ (i := 10) (N := some 17) (v := ?_) (a' := ?_) #[true, true, true, true, true, true, true, true, true, true, true, false, false, false, false, false, false, false, false] rfl rfl (by kernel_rfl) (fun _ _ _ h => h) (Or.inl ⟨by rfl, ?_⟩) ?_ ?_
        rotate_left
        · intro w'
          go_simp
          with_reducible rfl
        rotate_left
        · simp only [Act.put, List.setIfInBounds_toArray, List.set_cons_zero, List.set_cons_succ]
          rfl
        refine one_ (i := 11) (N := some 18) #[true, true, true, true, true, true, true, true, true, true, true, true, false, false, false, false, false, false, false] rfl rfl (by kernel_rfl) (by decide) (fun K hK => ?_)
        refine goesP_ Tryd.func72 (by kernel_rfl) rfl #[.pointer (some ⟨R, 0, none⟩), .bool true] (by rfl) rfl rfl (by (try simp only [List.map_toArray, List.map_cons, List.map_nil]); first | done | rfl | (simp [Act.eval, hk2]; done)) ?_
        refine (need_rs_ok4 HD1.out).mono ?_
        rintro x w2 ⟨rfl, hS2, hF2, h4⟩
        refine .inl ⟨_, rfl, ?_⟩
        have HD2 := Lib.hid hS2
        have HF2 := Lib.hid (HF1.out.trans (hF2 _))
        have hH2 : w2.cell? ⟨R, 4, none⟩ = some vn := h4.trans hHeld
        refine hK.out _ _ hH2 (fun hHeld => ?_)
        clear hK K HD1 HF1 hS2 hF2 h4 hH2
        refine norm_ (a' := ?_) ?_ ?_
        rotate_left
        · show Act.put _ (some 18) _ = _
          simp only [Act.put, List.setIfInBounds_toArray, List.set_cons_zero, List.set_cons_succ]
          rfl
        refine pure_ (i := 12) (N := some 19) (v := ?_) (a' := ?_) #[true, true, true, true, true, true, true, true, true, true, true, true, true, false, false, false, false, false, false] rfl rfl (by kernel_rfl) (fun _ _ _ h => h) (Or.inl ⟨by rfl, ?_⟩) ?_ ?_
        rotate_left
        · intro w'
          go_simp
          with_reducible rfl
        rotate_left
        · simp only [Act.put, List.setIfInBounds_toArray, List.set_cons_zero, List.set_cons_succ]
          rfl
        refine one_ (i := 13) (N := some 20) #[true, true, true, true, true, true, true, true, true, true, true, true, true, true, false, false, false, false, false] rfl rfl (by kernel_rfl) (by decide) (fun K hK => ?_)
        refine value_ (w1 := ?_) (v := ?_) (by rfl) rfl ?_ ?_
        rotate_left 2
        · go_simp
          constructor
          · rfl
          · rfl
        refine hK.out _ _ ((World.cell?_alloc_lt _ _ _ (World.block_lt_of_cell? _ _ hHeld)).trans hHeld) (fun _ => ?_)
        clear hK K
        refine norm_ (a' := ?_) ?_ ?_
        rotate_left
        · show Act.put _ (some 20) _ = _
          simp only [Act.put, List.setIfInBounds_toArray, List.set_cons_zero, List.set_cons_succ]
          rfl
        refine one_ (i := 14) (N := some 21) #[true, true, true, true, true, true, true, true, true, true, true, true, true, true, true, false, false, false, false] rfl rfl (by kernel_rfl) (by decide) (fun K hK => ?_)
        refine Kd.R_append_step (Kd.int .i64) (w0 := w2) b (by rfl) (.tmp 12) (.tmp 20) 38 3 (.int .i64 0) 8 rfl Tryd.underlying38 infoInt rfl (by decide) (by decide) vn c'.f2 t.f2 [.int .i64 t.f2] (fun _ => True) (fun _ => False) rfl rfl rfl (fun _ h => h.elim) (fun _ _ => trivial) (HD2.out.push (v1 := vn) hHeld (grown_of_below (Below.refl _ _) _)).2.2.2.2.1 (Below.refl _ _) HD2.out.le (by have := hn1; omega) ?_
        intro v1 w3 HO3 _ hg3 _
        obtain ⟨A3, c3, hv1⟩ := Kd.R_slice HO3
        rw [show (c'.f2 ++ [t.f2]).length = c'.f2.length + 1 from by simp] at hv1
        subst hv1
        obtain ⟨p1, p2, p3, p4, _, p5⟩ := HD2.out.push (v1 := .slice A3 (c'.f2.length + 1) c3) hHeld hg3
        have p6 := p5 _ HO3
        have P4 := Lib.hid (HF2.out.trans p4)
        have P6 := Lib.hid p6
        refine hK.out _ _ p1 (fun _ => ?_)
        clear hK K HD2 HF2 p4 p5 p6 HO3 hg3 hHeld
        refine norm_ (a' := ?_) ?_ ?_
        rotate_left
        · show Act.put _ (some 21) _ = _
          simp only [Act.put, List.setIfInBounds_toArray, List.set_cons_zero, List.set_cons_succ]
          rfl
        refine pure_ (i := 15) (N := some 22) (v := ?_) (a' := ?_) #[true, true, true, true, true, true, true, true, true, true, true, true, true, true, true, true, false, false, false] rfl rfl (by kernel_rfl) (fun _ _ _ h => h) (Or.inl ⟨by rfl, ?_⟩) ?_ ?_
        rotate_left
        · intro w'
          go_simp
          with_reducible rfl
        rotate_left
        · simp only [Act.put, List.setIfInBounds_toArray, List.set_cons_zero, List.set_cons_succ]
          rfl
        refine pure_ (i := 16) (N := some 23) (v := ?_) (a' := ?_) #[true, true, true, true, true, true, true, true, true, true, true, true, true, true, true, true, true, false, false] rfl rfl (by kernel_rfl) (fun _ _ _ h => h) (Or.inl ⟨by rfl, ?_⟩) ?_ ?_
        rotate_left
        · intro w'
          go_simp
          with_reducible rfl
        rotate_left
        · simp only [Act.put, List.setIfInBounds_toArray, List.set_cons_zero, List.set_cons_succ]
          rfl
        refine pure_ (i := 17) (N := some 24) (v := ?_) (a' := ?_) #[true, true, true, true, true, true, true, true, true, true, true, true, true, true, true, true, true, true, false] rfl rfl (by kernel_rfl) (fun _ _ _ h => h) (Or.inl ⟨by rfl, ?_⟩) ?_ ?_
        rotate_left
        · intro w'
          go_simp
          with_reducible rfl
        rotate_left
        · simp only [Act.put, List.setIfInBounds_toArray, List.set_cons_zero, List.set_cons_succ]
          rfl
        refine last_ (i := 18) (N := none) #[true, true, true, true, true, true, true, true, true, true, true, true, true, true, true, true, true, true, true] rfl rfl (by kernel_rfl) (by decide) (fun K hK => ?_)
        refine skip_ (w1 := ?_) (by rfl) rfl ?_ ?_
        rotate_left
        · go_simp
          rfl
        refine hK.out _ _ ?_
        clear hK K
        refine done_ (by kernel_rfl) ?_
        clear p1 p2 p3
        go_wp2
        go_roundg g
        case measure => omega
        case rel => exact ⟨k + 1, l'', _, by omega, by go_num, Lib.hid HST.out.symm, by simp; omega, P6, P4⟩
      | false =>
        have hkk : ¬ (nextT l' e).f0 = 2 := by simpa using hk2
        have hst : runIt e (nums_ m) l c = .error ((nextT l' e).f3, l') := by
          rw [← hH.out]
          show (match stepIt e .Num l' c' with | .ok (l2, c2) => runIt e (nums_ g) l2 c2 | .error x => .error x) = _
          have : stepIt e .Num l' c' = .error ((nextT l' e).f3, l') := if_neg hkk
          rw [this]
        rw [hst]
        clear hst hH hkk
        go_wp2
        refine start_ (n := 19) (S := fun W => W.cell? ⟨R, 4, none⟩ = some vn) (ds := [18]) #[false, false, false, false, false, false, false, false, false, false, false, false, false, false, false, false, false, false, false] (by kernel_rfl) rfl rfl (c4) (fun hHeld => ?_)
        have HD := Lib.hid hS.drew
        have HFd := Lib.hid HF.out.drew
        clear hS
        generalize wr.drew = wd at HD HFd hHeld ⊢
        refine pure_ (i := 0) (N := some 7) (v := ?_) (a' := ?_) #[true, false, false, false, false, false, false, false, false, false, false, false, false, false, false, false, false, false, false] rfl rfl (by kernel_rfl) (fun _ _ _ h => h) (Or.inl ⟨by rfl, ?_⟩) ?_ ?_
        rotate_left
        · intro w'
          go_simp
          with_reducible rfl
        rotate_left
        · simp only [Act.put, List.setIfInBounds_toArray, List.set_cons_zero, List.set_cons_succ]
          rfl
        refine pure_ (i := 1) (N := some 8) (v := ?_) (a' := ?_) #[true, true, false, false, false, false, false, false, false, false, false, false, false, false, false, false, false, false, false] rfl rfl (by kernel_rfl) (fun _ _ _ h => h) (Or.inl ⟨by rfl, ?_⟩) ?_ ?_
        rotate_left
        · intro w'
          go_simp
          with_reducible rfl
        rotate_left
        · simp only [Act.put, List.setIfInBounds_toArray, List.set_cons_zero, List.set_cons_succ]
          rfl
        refine pure_ (i := 2) (N := some 9) (v := ?_) (a' := ?_) #[true, true, true, false, false, false, false, false, false, false, false, false, false, false, false, false, false, false, false] rfl rfl (by kernel_rfl) (fun _ _ _ h => h) (Or.inl ⟨by rfl, ?_⟩) ?_ ?_
        rotate_left
        · intro w'
          go_simp
          with_reducible rfl
        rotate_left
        · simp only [Act.put, List.setIfInBounds_toArray, List.set_cons_zero, List.set_cons_succ]
          rfl
        refine pure_ (i := 3) (N := some 10) (v := ?_) (a' := ?_) #[true, true, true, true, false, false, false, false, false, false, false, false, false, false, false, false, false, false, false] rfl rfl (by kernel_rfl) (fun _ _ _ h => h) (Or.inl ⟨by rfl, ?_⟩) ?_ ?_
        rotate_left
        · intro w'
          go_simp
          with_reducible rfl
        rotate_left
        · simp only [Act.put, List.setIfInBounds_toArray, List.set_cons_zero, List.set_cons_succ]
          rfl
        refine pure_ (i := 4) (N := some 11) (v := ?_) (a' := ?_) #[true, true, true, true, true, false, false, false, false, false, false, false, false, false, false, false, false, false, false] rfl rfl (by kernel_rfl) (fun _ _ _ h => h) (Or.inl ⟨by rfl, ?_⟩) ?_ ?_
        rotate_left
        · intro w'
          go_simp
          with_reducible rfl
        rotate_left
        · simp only [Act.put, List.setIfInBounds_toArray, List.set_cons_zero, List.set_cons_succ]
          rfl
        refine take_ (i := 5) (N := some 12) (v := ?_) (a' := ?_) #[true, true, true, true, true, true, false, false, false, false, false, false, false, false, false, false, false, false, false] rfl rfl (by kernel_rfl) (fun _ _ _ h => h) (Or.inl ⟨by rfl, ?_⟩) hHeld ?_ ?_
        rotate_left
        · intro w' hSw
          (try dsimp only at hSw)
          go_simp
          with_reducible rfl
        rotate_left
        · simp only [Act.put, List.setIfInBounds_toArray, List.set_cons_zero, List.set_cons_succ]
          rfl
        refine pure_ (i := 6) (N := some 13) (v := ?_) (a' := ?_) #[true, true, true, true, true, true, true, false, false, false, false, false, false, false, false, false, false, false, false] rfl rfl (by kernel_rfl) (fun _ _ _ h => h) (Or.inl ⟨by rfl, ?_⟩) ?_ ?_
        rotate_left
        · intro w'
          go_simp
          with_reducible rfl
        rotate_left
        · simp only [Act.put, List.setIfInBounds_toArray, List.set_cons_zero, List.set_cons_succ]
          rfl
        refine pure_ (i := 7) (N := some 14) (v := ?_) (a' := ?_) #[true, true, true, true, true, true, true, true, false, false, false, false, false, false, false, false, false, false, false] rfl rfl (by kernel_rfl) (fun _ _ _ h => h) (Or.inl ⟨by rfl, ?_⟩) ?_ ?_
        rotate_left
        · intro w'
          go_simp
          with_reducible rfl
        rotate_left
        · simp only [Act.put, List.setIfInBounds_toArray, List.set_cons_zero, List.set_cons_succ]
          rfl
        refine one_ (i := 8) (N := some 15) #[true, true, true, true, true, true, true, true, true, false, false, false, false, false, false, false, false, false, false] rfl rfl (by kernel_rfl) (by decide) (fun K hK => ?_)
        refine goes_ Tryd.func67 (by kernel_rfl) rfl #[.pointer (some ⟨R, 0, none⟩)] (by rfl) rfl rfl (by (try simp only [List.map_toArray, List.map_cons, List.map_nil]); first | done | rfl) ?_
        refine (next_rs HD.out).mono ?_
        rintro x w1 ⟨rfl, hw⟩
        refine ⟨_, rfl, ?_⟩
        have HD1 := Lib.hid (HD.out.below hw)
        have HF1 := Lib.hid (HFd.out.trans (.of_below hw))
        have hH1 := (hw.cell (p := ⟨R, 4, none⟩) (World.block_lt_of_cell? _ _ hHeld)).trans hHeld
        refine hK.out _ _ hH1 (fun hHeld => ?_)
        clear hK K HD HFd hw hH1
        refine norm_ (a' := ?_) ?_ ?_
        rotate_left
        · show Act.put _ (some 15) _ = _
          simp only [Act.put, List.setIfInBounds_toArray, List.set_cons_zero, List.set_cons_succ]
          rfl
        refine pure_ (i := 9) (N := some 16) (v := ?_) (a' := ?_) #[true, true, true, true, true, true, true, true, true, true, false, false, false, false, false, false, false, false, false] rfl rfl (by kernel_rfl) (fun _ _ _ h => h) (Or.inl ⟨by rfl, ?_⟩) ?_ ?_
        rotate_left
        · intro w'
          go_simp
          with_reducible rfl
        rotate_left
        · simp only [Act.put, List.setIfInBounds_toArray, List.set_cons_zero, List.set_cons_succ]
          rfl
        refine pure_ (i := 10) (N := some 17) (v := ?_) (a' := ?_) #[true, true, true, true, true, true, true, true, true, true, true, false, false, false, false, false, false, false, false] rfl rfl (by kernel_rfl) (fun _ _ _ h => h) (Or.inl ⟨by rfl, ?_⟩) ?_ ?_
        rotate_left
        · intro w'
          go_simp
          with_reducible rfl
        rotate_left
        · simp only [Act.put, List.setIfInBounds_toArray, List.set_cons_zero, List.set_cons_succ]
          rfl
        refine one_ (i := 11) (N := some 18) #[true, true, true, true, true, true, true, true, true, true, true, true, false, false, false, false, false, false, false] rfl rfl (by kernel_rfl) (by decide) (fun K hK => ?_)
        refine goesP_ Tryd.func72 (by kernel_rfl) rfl #[.pointer (some ⟨R, 0, none⟩), .bool false] (by rfl) rfl rfl (by (try simp only [List.map_toArray, List.map_cons, List.map_nil]); first | done | rfl | (simp [Act.eval, hk2]; done)) ?_
        refine (need_rs_no HD1.out).mono ?_
        rintro x w2 ⟨rfl, hS2, hF2⟩
        exact .inr ⟨_, rfl, rfl, HF1.out.trans (hF2 _), rfl, _, hS2⟩
    · have hg : gk = 0 := by omega
      subst hg
      have hst : runIt e (nums_ m) l c = .ok (l', c') := hH.out.symm
      rw [hst]
      clear hH hst
      go_wp2
      exact bodyPost_ret (v := .tuple #[]) (by simp [results, Tryd.results70, go_sem]) rfl ⟨HF.out, rfl, HS.out⟩

end Go.Proofs.YtdedlchpjboceaaDoor.Px
end

section
/-
  The parser's reader: 'drift', walked.
-/
namespace Go.Proofs.YtdedlchpjboceaaDoor.Px
open Go.RowKit Go.Shelf Go.Proofs.YtdedlchpjboceaaDoor.Lx Go.Proofs.YtdedlchpjboceaaDoorW.PrintWords Go.Proofs.YtdedlchpjboceaaDoorW.PrintLast Go.Proofs.YtdedlchpjboceaaDoorW.PrintMore
attribute [local go_sem] Oper.semAt_some

theorem PostR.ok_ {b R : Nat} {e : Int} {w : World} {r : Res} {x : Ending} {w' : World} {y : List Tok × Cmd} (h : PostR b R e w r x w') (hr : r = .ok y) : x = .returned (.tuple #[]) ∧ Fr R b w w' ∧ RS b w' R y.1 e y.2 := by subst hr; exact ⟨h.2.1, h.1, h.2.2⟩
theorem PostR.err_ {b R : Nat} {e : Int} {w : World} {r : Res} {x : Ending} {w' : World} {y : Int × List Tok} (h : PostR b R e w r x w') (hr : r = .error y) : x = .panicked (failAt y.1) ∧ Fr R b w w' ∧ ∃ c, RS b w' R y.2 e c := by subst hr; exact ⟨h.2.1, h.1, h.2.2⟩
theorem own_cap {w : World} {base : Nat} {e : TypeId} {size n : Nat} {a : Addr} {cap : Nat} {xs : List Value} (h : w.ownsRow base e size (.slice (some a) n cap) n xs) : n ≤ cap := by
  rcases h.2 with ⟨h, _⟩ | ⟨g, cap', cur, e, _, _, hle, _⟩
  · cases h
  · cases e; exact hle
theorem slow_list : slowT.toList = [115, 108, 111, 119] := by rw [ByteArray.toList_eq]; rfl
/-- The last of the numbers, and a store to it. -/
theorem RS.lastN {b : Nat} {w : World} {R : Nat} {l : List Tok} {e : Int} {c : Cmd} {ns : List Int} {n : Int} (h : RS b w R l e { c with f2 := ns ++ [n] }) :
    ∃ g cap, w.cell? ⟨R, 4, none⟩ = some (.slice (some ⟨g, 0, none⟩) (ns.length + 1) cap) ∧ ns.length + 1 ≤ cap ∧ w.frozen? ⟨R, 4, none⟩ = false ∧ w.cell? ⟨g, ns.length, none⟩ = some (.int .i64 n) ∧ w.frozen? ⟨g, ns.length, none⟩ = false ∧
      ∀ m, RS b (w.drew.setCell ⟨g, ns.length, none⟩ (.int .i64 m)) R l e { c with f2 := ns ++ [m] } ∧ Fr R b w (w.drew.setCell ⟨g, ns.length, none⟩ (.int .i64 m)) := by
  obtain ⟨h1, h2, A, cap, vn, h3, h4, h5, h6, h7⟩ := h
  have hl : (ns ++ [n]).length = ns.length + 1 := by simp
  have ho := Kd.own_of_R h7
  obtain ⟨g, cp, hv, hbg, hcap⟩ := ho.form (by show 0 < (ns ++ [n]).length; omega)
  have hv' : vn = .slice (some ⟨g, 0, none⟩) (ns ++ [n]).length cp := hv
  subst hv'
  have hg2 := own_typed ho g rfl
  obtain ⟨cells, hcells⟩ := hg2
  have hcell : w.cell? ((⟨g, 0, none⟩ : Addr).add ns.length) = some (.int .i64 n) := ho.cells (g := g) rfl ns.length (.int .i64 n) (by
    show (encs (Value.int .i64) (ns ++ [n]))[ns.length]? = _
    simp [encs])
  rw [add_plain] at hcell
  have hgR : g ≠ R := by omega
  refine ⟨g, cp, by rw [blk_cell h3, ← hl]; rfl, by rw [← hl]; exact own_cap ho, blk_frozen h3 4, hcell, blk_frozen hcells _, fun m => ⟨?_, ?_⟩⟩
  · have hd := Kd.R_drew h7
    have hp := (Kd.R_put hd (ns.length : Int) m).1
    have hset : (ns ++ [n]).set ((ns.length : Int).toNat) m = ns ++ [m] := by rw [Int.toNat_natCast]; simp
    rw [hset] at hp
    have hlm : (ns ++ [n]).length = (ns ++ [m]).length := by simp
    refine ⟨h1, by rw [size_set]; exact h2, A, cap, .slice (some ⟨g, 0, none⟩) (ns ++ [n]).length cp, blk_far h3 ⟨g, ns.length, none⟩ _ (Ne.symm hgR), h4, C_same h5 (fun ad e _ => ?_), h6, hp⟩
    exact Below.heap_setCell _ _ _ _ (fun e' => by have := (h6 ad e).1; have : ad.block = g := e'; omega)
  · refine ⟨rfl, rfl, rfl, by rw [size_set]; exact Nat.le_refl _, fun k hk hr hc => Below.heap_setCell _ _ _ _ (fun e' => ?_)⟩
    have e'' : k = g := e'
    subst e''
    rcases hc with hc | hc
    · omega
    · exact hc _ _ hcells
set_option maxHeartbeats 16000000 in
set_option maxRecDepth 100000 in
theorem drift_rs {b : Nat} {w : World} {R : Nat} {l : List Tok} {e : Int} {c : Cmd} (hm : c.f2.length + 1 ≤ 1000) (h : RS b w R l e c) :
    Calls Tryd.prog 99 #[.pointer (some ⟨R, 0, none⟩)] w (PostR b R e w (stepIt e .Dr l c)) := by
  have hn := next_rs h
  have hf1 := fieldT1
  obtain ⟨n, hN⟩ : ∃ n, nextT l e = n := ⟨_, rfl⟩
  have hD : stepIt e .Dr l c = if (nextT l e).f1 = slowT ∨ (nextT l e).f1 = fastT then
      (if (nextT l.tail e).f0 = 2 then .ok (l.tail.tail, { c with f2 := c.f2 ++ [if (nextT l e).f1 = slowT then IntKind.i64.wrap (-(nextT l.tail e).f2) else (nextT l.tail e).f2] }) else .error ((nextT l.tail e).f3, l.tail))
    else .error ((nextT l e).f3, l) := rfl
  have hM : runIt e (nums_ 1) l.tail c = if (nextT l.tail e).f0 = 2 then .ok (l.tail.tail, { c with f2 := c.f2 ++ [(nextT l.tail e).f2] }) else .error ((nextT l.tail e).f3, l.tail) := by
    show (match stepIt e .Num l.tail c with | .ok (l', c') => runIt e [] l' c' | .error x => .error x) = _
    by_cases hh : (nextT l.tail e).f0 = 2
    · have h0 : stepIt e .Num l.tail c = .ok (l.tail.tail, { c with f2 := c.f2 ++ [(nextT l.tail e).f2] }) := if_pos hh
      rw [h0, if_pos hh]; rfl
    · have h0 : stepIt e .Num l.tail c = .error ((nextT l.tail e).f3, l.tail) := if_neg hh
      rw [h0, if_neg hh]
  obtain ⟨q, hq⟩ : ∃ q, nextT l.tail e = q := ⟨_, rfl⟩
  generalize stepIt e .Dr l c = r at hD ⊢
  rw [hN, hq] at hD
  rw [hq] at hM
  rw [hN] at hn
  cases hs : (n.f1.toList == slowT.toList) with
  | true =>
    have hs' : n.f1 = slowT := by rw [eq_toList, decide_eq_true_eq] at hs; exact hs
    have hs2 : (n.f1.toList == [115, 108, 111, 119]) = true := by rw [← slow_list]; exact hs
    have hw' : stepIt e (.W slowT) l c = .ok (l.tail, c) := if_pos (by rw [hN]; exact hs')
    have hW := fun W (hb : Below w.heap.size w W) => word_rs slowT (by decide) (h.below hb)
    rw [if_pos (.inl hs'), if_pos hs'] at hD
    have HR := Lib.hid hD
    have HM := Lib.hid hM
    have HW := Lib.hid hw'
    clear hD hM hs hs' hw' h hN hq
    go_enter Tryd.func99, Tryd.ntmps99
    go_wp2_with fail
    refine hn.mono ?_
    rintro x w1 ⟨rfl, hw⟩
    go_wp2_with fail
    refine (hW _ hw).mono ?_
    intro x w2 hP
    obtain ⟨rfl, hF2, hS2⟩ := hP.ok_ HW.out
    have HF2 := Lib.hid ((Fr.of_below hw).trans hF2)
    have HS2 := Lib.hid hS2
    clear hP hF2 hS2 hW hn hw HW
    go_wp2_with fail
    refine (numbers_rs 1 hm HS2.out).mono ?_
    intro x w3 hP
    by_cases hk : q.f0 = 2
    · have hm1 := HM.out
      have hr1 := HR.out
      rw [if_pos hk] at hm1 hr1
      subst hr1
      obtain ⟨rfl, hF3, hS3⟩ := hP.ok_ hm1
      have HF3 := Lib.hid (HF2.out.trans hF3)
      obtain ⟨g, cap, q1, q2, q3, q4, q5, hQ6'⟩ := hS3.lastN
      clear hP HM HR hm1 hF3 hS3 hk HF2 HS2
      have hm' : c.f2.length ≤ 999 := by omega
      go_wp2
      · refine start_ (n := 17) (S := fun W => W.cell? ⟨R, 4, none⟩ = some (.slice (some ⟨g, 0, none⟩) (c.f2.length + 1) cap) ∧ W.cell? ⟨g, c.f2.length, none⟩ = some (.int .i64 q.f2)) (ds := [16]) #[false, false, false, false, false, false, false, false, false, false, false, false, false, false, false, false, false] (by kernel_rfl) rfl rfl (⟨q1, q4⟩) (fun hHeld => ?_)
        have Q6 := Lib.hid (hQ6' (IntKind.i64.wrap (-q.f2)))
        have q3' : w3.drew.frozen? ⟨g, c.f2.length, none⟩ = false := q5
        clear q5 hQ6'
        generalize w3.drew = wd at q3' Q6 hHeld ⊢
        obtain ⟨hHeld1, hHeld2⟩ := id hHeld
        have hlt : (c.f2.length : Int) < (c.f2.length : Int) + 1 := by omega
        refine pure_ (i := 0) (N := some 24) (v := ?_) (a' := ?_) #[true, false, false, false, false, false, false, false, false, false, false, false, false, false, false, false, false] rfl rfl (by kernel_rfl) (fun _ _ _ h => h) (Or.inl ⟨by rfl, ?_⟩) ?_ ?_
        rotate_left
        · intro w'
          go_simp
          with_reducible rfl
        rotate_left
        · simp only [Act.put, List.setIfInBounds_toArray, List.set_cons_zero, List.set_cons_succ]
          rfl
        refine pure_ (i := 1) (N := some 25) (v := ?_) (a' := ?_) #[true, true, false, false, false, false, false, false, false, false, false, false, false, false, false, false, false] rfl rfl (by kernel_rfl) (fun _ _ _ h => h) (Or.inl ⟨by rfl, ?_⟩) ?_ ?_
        rotate_left
        · intro w'
          go_simp
          with_reducible rfl
        rotate_left
        · simp only [Act.put, List.setIfInBounds_toArray, List.set_cons_zero, List.set_cons_succ]
          rfl
        refine pure_ (i := 2) (N := some 26) (v := ?_) (a' := ?_) #[true, true, true, false, false, false, false, false, false, false, false, false, false, false, false, false, false] rfl rfl (by kernel_rfl) (fun _ _ _ h => h) (Or.inl ⟨by rfl, ?_⟩) ?_ ?_
        rotate_left
        · intro w'
          go_simp
          with_reducible rfl
        rotate_left
        · simp only [Act.put, List.setIfInBounds_toArray, List.set_cons_zero, List.set_cons_succ]
          rfl
        refine pure_ (i := 3) (N := some 27) (v := ?_) (a' := ?_) #[true, true, true, true, false, false, false, false, false, false, false, false, false, false, false, false, false] rfl rfl (by kernel_rfl) (fun _ _ _ h => h) (Or.inl ⟨by rfl, ?_⟩) ?_ ?_
        rotate_left
        · intro w'
          go_simp
          with_reducible rfl
        rotate_left
        · simp only [Act.put, List.setIfInBounds_toArray, List.set_cons_zero, List.set_cons_succ]
          rfl
        refine take_ (i := 4) (N := some 28) (v := ?_) (a' := ?_) #[true, true, true, true, true, false, false, false, false, false, false, false, false, false, false, false, false] rfl rfl (by kernel_rfl) (fun _ _ _ h => h) (Or.inl ⟨by rfl, ?_⟩) hHeld ?_ ?_
        rotate_left
        · intro w' hSw
          (try dsimp only at hSw)
          go_simp
          with_reducible rfl
        rotate_left
        · simp only [Act.put, List.setIfInBounds_toArray, List.set_cons_zero, List.set_cons_succ]
          rfl
        refine pure_ (i := 5) (N := some 29) (v := ?_) (a' := ?_) #[true, true, true, true, true, true, false, false, false, false, false, false, false, false, false, false, false] rfl rfl (by kernel_rfl) (fun _ _ _ h => h) (Or.inl ⟨by rfl, ?_⟩) ?_ ?_
        rotate_left
        · intro w'
          go_simp
          with_reducible rfl
        rotate_left
        · simp only [Act.put, List.setIfInBounds_toArray, List.set_cons_zero, List.set_cons_succ]
          rfl
        refine pure_ (i := 6) (N := some 30) (v := ?_) (a' := ?_) #[true, true, true, true, true, true, true, false, false, false, false, false, false, false, false, false, false] rfl rfl (by kernel_rfl) (fun _ _ _ h => h) (Or.inl ⟨by rfl, ?_⟩) ?_ ?_
        rotate_left
        · intro w'
          go_simp
          with_reducible rfl
        rotate_left
        · simp only [Act.put, List.setIfInBounds_toArray, List.set_cons_zero, List.set_cons_succ]
          rfl
        refine pure_ (i := 7) (N := some 31) (v := ?_) (a' := ?_) #[true, true, true, true, true, true, true, true, false, false, false, false, false, false, false, false, false] rfl rfl (by kernel_rfl) (fun _ _ _ h => h) (Or.inl ⟨by rfl, ?_⟩) ?_ ?_
        rotate_left
        · intro w'
          go_simp
          with_reducible rfl
        rotate_left
        · simp only [Act.put, List.setIfInBounds_toArray, List.set_cons_zero, List.set_cons_succ]
          rfl
        refine pure_ (i := 8) (N := some 32) (v := ?_) (a' := ?_) #[true, true, true, true, true, true, true, true, true, false, false, false, false, false, false, false, false] rfl rfl (by kernel_rfl) (fun _ _ _ h => h) (Or.inl ⟨by rfl, ?_⟩) ?_ ?_
        rotate_left
        · intro w'
          go_simp
          with_reducible rfl
        rotate_left
        · simp only [Act.put, List.setIfInBounds_toArray, List.set_cons_zero, List.set_cons_succ]
          rfl
        refine pure_ (i := 9) (N := some 33) (v := ?_) (a' := ?_) #[true, true, true, true, true, true, true, true, true, true, false, false, false, false, false, false, false] rfl rfl (by kernel_rfl) (fun _ _ _ h => h) (Or.inl ⟨by rfl, ?_⟩) ?_ ?_
        rotate_left
        · intro w'
          go_simp
          with_reducible rfl
        rotate_left
        · simp only [Act.put, List.setIfInBounds_toArray, List.set_cons_zero, List.set_cons_succ]
          rfl
        refine take_ (i := 10) (N := some 34) (v := ?_) (a' := ?_) #[true, true, true, true, true, true, true, true, true, true, true, false, false, false, false, false, false] rfl rfl (by kernel_rfl) (fun _ _ _ h => h) (Or.inl ⟨by rfl, ?_⟩) hHeld ?_ ?_
        rotate_left
        · intro w' hSw
          (try dsimp only at hSw)
          go_simp
          with_reducible rfl
        rotate_left
        · simp only [Act.put, List.setIfInBounds_toArray, List.set_cons_zero, List.set_cons_succ]
          rfl
        refine pure_ (i := 11) (N := some 35) (v := ?_) (a' := ?_) #[true, true, true, true, true, true, true, true, true, true, true, true, false, false, false, false, false] rfl rfl (by kernel_rfl) (fun _ _ _ h => h) (Or.inl ⟨by rfl, ?_⟩) ?_ ?_
        rotate_left
        · intro w'
          go_simp
          with_reducible rfl
        rotate_left
        · simp only [Act.put, List.setIfInBounds_toArray, List.set_cons_zero, List.set_cons_succ]
          rfl
        refine pure_ (i := 12) (N := some 36) (v := ?_) (a' := ?_) #[true, true, true, true, true, true, true, true, true, true, true, true, true, false, false, false, false] rfl rfl (by kernel_rfl) (fun _ _ _ h => h) (Or.inl ⟨by rfl, ?_⟩) ?_ ?_
        rotate_left
        · intro w'
          go_simp
          with_reducible rfl
        rotate_left
        · simp only [Act.put, List.setIfInBounds_toArray, List.set_cons_zero, List.set_cons_succ]
          rfl
        refine take_ (i := 13) (N := some 37) (v := ?_) (a' := ?_) #[true, true, true, true, true, true, true, true, true, true, true, true, true, true, false, false, false] rfl rfl (by kernel_rfl) (fun _ _ _ h => h) (Or.inl ⟨by rfl, ?_⟩) hHeld ?_ ?_
        rotate_left
        · intro w' hSw
          (try dsimp only at hSw)
          go_simp
          with_reducible rfl
        rotate_left
        · simp only [Act.put, List.setIfInBounds_toArray, List.set_cons_zero, List.set_cons_succ]
          rfl
        refine pure_ (i := 14) (N := some 38) (v := ?_) (a' := ?_) #[true, true, true, true, true, true, true, true, true, true, true, true, true, true, true, false, false] rfl rfl (by kernel_rfl) (fun _ _ _ h => h) (Or.inl ⟨by rfl, ?_⟩) ?_ ?_
        rotate_left
        · intro w'
          go_simp
          with_reducible rfl
        rotate_left
        · simp only [Act.put, List.setIfInBounds_toArray, List.set_cons_zero, List.set_cons_succ]
          rfl
        refine pure_ (i := 15) (N := some 39) (v := ?_) (a' := ?_) #[true, true, true, true, true, true, true, true, true, true, true, true, true, true, true, true, false] rfl rfl (by kernel_rfl) (fun _ _ _ h => h) (Or.inl ⟨by rfl, ?_⟩) ?_ ?_
        rotate_left
        · intro w'
          go_simp
          with_reducible rfl
        rotate_left
        · simp only [Act.put, List.setIfInBounds_toArray, List.set_cons_zero, List.set_cons_succ]
          rfl
        refine last_ (i := 16) (N := none) #[true, true, true, true, true, true, true, true, true, true, true, true, true, true, true, true, true] rfl rfl (by kernel_rfl) (by decide) (fun K hK => ?_)
        refine skip_ (w1 := ?_) (by rfl) rfl ?_ ?_
        rotate_left
        · go_simp
          rfl
        refine hK.out _ _ ?_
        clear hK K
        refine done_ (by kernel_rfl) ?_
        clear hHeld hHeld1 hHeld2 q3'
        go_wp2
        exact bodyPost_ret (v := .tuple #[]) (by simp [results, Tryd.results99, go_sem]) rfl ⟨HF3.out.trans Q6.out.2, rfl, Q6.out.1⟩
    · have hm1 := HM.out
      have hr1 := HR.out
      rw [if_neg hk] at hm1 hr1
      subst hr1
      obtain ⟨rfl, hF3, hS3⟩ := hP.err_ hm1
      exact ⟨rfl, HF2.out.trans hF3, rfl, hS3⟩
  | false =>
    have hs' : ¬ n.f1 = slowT := by rw [eq_toList, decide_eq_false_iff_not] at hs; exact hs
    have hs2 : (n.f1.toList == [115, 108, 111, 119]) = false := by rw [← slow_list]; exact hs
    have hW := fun W (hb : Below w.heap.size w W) => word_rs fastT (by decide) (h.below hb)
    by_cases hf : n.f1 = fastT
    · have hw' : stepIt e (.W fastT) l c = .ok (l.tail, c) := if_pos (by rw [hN]; exact hf)
      rw [if_pos (.inr hf), if_neg hs'] at hD
      have HR := Lib.hid hD
      have HM := Lib.hid hM
      have HW := Lib.hid hw'
      clear hD hM hs hs' hw' h hN hq hf
      go_enter Tryd.func99, Tryd.ntmps99
      go_wp2_with fail
      refine hn.mono ?_
      rintro x w1 ⟨rfl, hw⟩
      go_wp2_with fail
      refine (hW _ hw).mono ?_
      intro x w2 hP
      obtain ⟨rfl, hF2, hS2⟩ := hP.ok_ HW.out
      have HF2 := Lib.hid ((Fr.of_below hw).trans hF2)
      have HS2 := Lib.hid hS2
      clear hP hF2 hS2 hW hn hw HW
      go_wp2_with fail
      refine (numbers_rs 1 hm HS2.out).mono ?_
      intro x w3 hP
      by_cases hk : q.f0 = 2
      · have hm1 := HM.out
        have hr1 := HR.out
        rw [if_pos hk] at hm1 hr1
        subst hr1
        obtain ⟨rfl, hF3, hS3⟩ := hP.ok_ hm1
        have HF3 := Lib.hid (HF2.out.trans hF3)
        have HS3 := Lib.hid hS3
        clear hP HM HR hm1 hF3 hS3 hk HF2 HS2
        go_wp2
        exact bodyPost_ret (v := .tuple #[]) (by simp [results, Tryd.results99, go_sem]) rfl ⟨HF3.out, rfl, HS3.out⟩
      · have hm1 := HM.out
        have hr1 := HR.out
        rw [if_neg hk] at hm1 hr1
        subst hr1
        obtain ⟨rfl, hF3, hS3⟩ := hP.err_ hm1
        exact ⟨rfl, HF2.out.trans hF3, rfl, hS3⟩
    · have hw' : stepIt e (.W fastT) l c = .error (n.f3, l) := by rw [← hN]; exact if_neg (by rw [hN]; exact hf)
      rw [if_neg (fun hh => hh.elim hs' hf)] at hD
      have HR := Lib.hid hD
      have HW := Lib.hid hw'
      clear hD hM hs hs' hw' h hN hq hf
      go_enter Tryd.func99, Tryd.ntmps99
      go_wp2_with fail
      refine hn.mono ?_
      rintro x w1 ⟨rfl, hw⟩
      go_wp2_with fail
      refine (hW _ hw).mono ?_
      intro x w2 hP
      obtain ⟨rfl, hF2, hS2⟩ := hP.err_ HW.out
      have hr1 := HR.out
      subst hr1
      exact ⟨rfl, (Fr.of_below hw).trans hF2, rfl, hS2⟩

end Go.Proofs.YtdedlchpjboceaaDoor.Px
end

section
/-
  The parser's reader: 'pairs', walked.
-/
namespace Go.Proofs.YtdedlchpjboceaaDoor.Px
open Go.RowKit Go.Shelf Go.Proofs.YtdedlchpjboceaaDoor.Lx Go.Proofs.YtdedlchpjboceaaDoorW.PrintWords Go.Proofs.YtdedlchpjboceaaDoorW.PrintLast Go.Proofs.YtdedlchpjboceaaDoorW.PrintMore
attribute [local go_sem] Oper.semAt_some

/-- Key words, a number behind each. -/
def prs (ts : List ByteArray) : List It := ts.flatMap (fun s => [.W s, .Num])
theorem prs_cons (s : ByteArray) (ts : List ByteArray) : prs (s :: ts) = .W s :: .Num :: prs ts := rfl
theorem runIt_cons_ok {e : Int} {i : It} {is : List It} {l l' : List Tok} {c c' : Cmd} (h : stepIt e i l c = .ok (l', c')) : runIt e (i :: is) l c = runIt e is l' c' := by
  show (match stepIt e i l c with | .ok (l', c') => runIt e is l' c' | .error x => .error x) = _
  rw [h]
theorem runIt_cons_err {e : Int} {i : It} {is : List It} {l : List Tok} {c : Cmd} {x : Int × List Tok} (h : stepIt e i l c = .error x) : runIt e (i :: is) l c = .error x := by
  show (match stepIt e i l c with | .ok (l', c') => runIt e is l' c' | .error x => .error x) = _
  rw [h]
theorem runIt_one (e : Int) (i : It) (l : List Tok) (c : Cmd) : runIt e [i] l c = stepIt e i l c := by
  show (match stepIt e i l c with | .ok (l', c') => runIt e [] l' c' | .error x => .error x) = _
  cases stepIt e i l c with
  | ok y => rfl
  | error x => rfl
/-- How many numbers an item adds. -/
def addN : It → Nat
  | .W _ => 0
  | .Nm => 0
  | .Num => 1
  | .Dr => 1
theorem stepIt_len {e : Int} {i : It} {l l' : List Tok} {c c' : Cmd} (h : stepIt e i l c = .ok (l', c')) : c'.f2.length = c.f2.length + addN i := by
  cases i with
  | W s => simp only [stepIt] at h; split at h <;> simp at h; obtain ⟨_, rfl⟩ := h; simp [addN]
  | Nm => simp only [stepIt] at h; split at h <;> simp at h; obtain ⟨_, rfl⟩ := h; simp [addN]
  | Num => simp only [stepIt] at h; split at h <;> simp at h; obtain ⟨_, rfl⟩ := h; simp [addN]
  | Dr =>
    simp only [stepIt] at h
    split at h
    · by_cases hk : (nextT l.tail e).f0 = 2
      · rw [if_pos hk] at h; simp at h; obtain ⟨_, rfl⟩ := h; simp [addN]
      · rw [if_neg hk] at h; simp at h
    · simp at h
theorem runIt_len {e : Int} {is : List It} : ∀ {l l' : List Tok} {c c' : Cmd}, runIt e is l c = .ok (l', c') → c'.f2.length = c.f2.length + (is.map addN).sum := by
  induction is with
  | nil => intro l l' c c' h; simp [runIt] at h; obtain ⟨_, rfl⟩ := h; simp
  | cons i is ih =>
    intro l l' c c' h
    cases hs : stepIt e i l c with
    | error x => rw [runIt_cons_err hs] at h; cases h
    | ok y =>
      obtain ⟨l1, c1⟩ := y
      rw [runIt_cons_ok hs] at h
      have := ih h
      have := stepIt_len hs
      simp only [List.map_cons, List.sum_cons]; omega
set_option maxHeartbeats 16000000 in
set_option maxRecDepth 100000 in
theorem pairs_rs {b : Nat} {w : World} {R : Nat} {l : List Tok} {e : Int} {c : Cmd} (ts : List ByteArray) (hne : ∀ s ∈ ts, s ≠ ⟨#[]⟩) (g : Nat) (hg : w.heap[g]? = some (.cells (ts.map Value.string).toArray 9 (0, 0))) (hgR : g ≠ R) (hm : c.f2.length + ts.length ≤ 1000) (h : RS b w R l e c) :
    Calls Tryd.prog 95 #[.pointer (some ⟨R, 0, none⟩), .slice (some ⟨g, 0, none⟩) ts.length ts.length] w (PostR b R e w (runIt e (prs ts) l c)) := by
  generalize hr : runIt e (prs ts) l c = r
  have HR := Lib.hid hr
  have H := Lib.hid h
  have HG := Lib.hid hg
  have HN := Lib.hid hne
  clear h hg hr hne
  go_enter Tryd.func95, Tryd.ntmps95
  go_wp2
  go_loopg [8] ts.length (fun gg v w' => ∃ (k : Nat) (l' : List Tok) (c' : Cmd), k + gg = ts.length ∧ v = .int .i64 k ∧ Hid (runIt e (prs (ts.drop k)) l' c' = r) ∧ c'.f2.length + gg ≤ 1000 ∧ Hid (RS b w' R l' e c') ∧ Hid (Fr R b w w'))
  case atStart => exact ⟨0, l, c, by omega, rfl, HR, hm, H, Lib.hid (Fr.refl _ _ _)⟩
  case round =>
    obtain ⟨k, l', c', hk, rfl, hH, hn1, HS, HF⟩ := hrel
    by_cases hlt : k < ts.length
    · obtain ⟨gg, rfl⟩ : ∃ gg, gk = gg + 1 := ⟨gk - 1, by omega⟩
      have hb := HF.out.kept HG.out hgR (.inl (by decide))
      obtain ⟨s, hs⟩ : ∃ s, ts[k] = s := ⟨_, rfl⟩
      have hc : wr.cell? ⟨g, k, none⟩ = some (.string s) := by rw [blk_cell hb]; simp [hlt, hs]
      have hd : ts.drop k = s :: ts.drop (k + 1) := by rw [List.drop_eq_getElem_cons hlt, hs]
      have hsn : s ≠ ⟨#[]⟩ := HN.out s (by rw [← hs]; exact List.getElem_mem hlt)
      have hrun := hH.out
      rw [hd, prs_cons] at hrun
      have HRUN := Lib.hid hrun
      have hW := word_rs s hsn HS.out
      clear hb hs hd hsn hrun hH
      go_wp2_with fail
      refine hW.mono ?_
      intro x w2 hP
      cases hst : stepIt e (.W s) l' c' with
      | error y =>
        obtain ⟨rfl, hF2, hS2⟩ := hP.err_ hst
        have hr1 := HRUN.out
        rw [runIt_cons_err hst] at hr1
        subst hr1
        exact ⟨rfl, HF.out.trans hF2, rfl, hS2⟩
      | ok y =>
        obtain ⟨l1, c1⟩ := y
        obtain ⟨rfl, hF2, hS2⟩ := hP.ok_ hst
        have hr1 := HRUN.out
        rw [runIt_cons_ok hst] at hr1
        have hl1 := stepIt_len hst
        have hl1' : c1.f2.length + (gg + 1) ≤ 1000 := by simp only [addN] at hl1; omega
        have HR1 := Lib.hid hr1
        have HF2 := Lib.hid (HF.out.trans hF2)
        have hM := numbers_rs 1 (by show c1.f2.length + 1 ≤ 1000; omega) hS2
        clear hP hst hr1 hl1 hF2 hS2 hW HS HF HRUN hc
        go_wp2_with fail
        refine hM.mono ?_
        intro x w3 hP
        cases hst : stepIt e .Num l1 c1 with
        | error y =>
          obtain ⟨rfl, hF3, hS3⟩ := hP.err_ ((runIt_one e .Num l1 c1).trans hst)
          have hr1 := HR1.out
          rw [runIt_cons_err hst] at hr1
          subst hr1
          exact ⟨rfl, HF2.out.trans hF3, rfl, hS3⟩
        | ok y =>
          obtain ⟨l2, c2⟩ := y
          obtain ⟨rfl, hF3, hS3⟩ := hP.ok_ ((runIt_one e .Num l1 c1).trans hst)
          have hr1 := HR1.out
          rw [runIt_cons_ok hst] at hr1
          have hl2 := stepIt_len hst
          have hl2' : c2.f2.length + gg ≤ 1000 := by simp only [addN] at hl2; omega
          have HR2 := Lib.hid hr1
          have HF3 := Lib.hid (HF2.out.trans hF3)
          have HS3 := Lib.hid hS3
          clear hP hst hr1 hl2 hF3 hS3 hM HF2 HR1
          go_wp2
          go_roundg gg
          case measure => omega
          case rel => exact ⟨k + 1, l2, c2, by omega, by go_num, HR2, hl2', HS3, HF3⟩
    · have hr1 := hH.out
      rw [List.drop_of_length_le (by omega)] at hr1
      have hr2 : r = .ok (l', c') := hr1.symm
      subst hr2
      clear hH hr1
      go_wp2
      exact bodyPost_ret (v := .tuple #[]) (by simp [results, Tryd.results95, go_sem]) rfl ⟨HF.out, rfl, HS.out⟩

end Go.Proofs.YtdedlchpjboceaaDoor.Px
end

section
/-
  The closures of the parser's forms, walked.
-/
namespace Go.Proofs.YtdedlchpjboceaaDoor.Px
open Go.RowKit Go.Shelf Go.Proofs.YtdedlchpjboceaaDoor.Lx Go.Proofs.YtdedlchpjboceaaDoorW.PrintWords Go.Proofs.YtdedlchpjboceaaDoorW.PrintLast Go.Proofs.YtdedlchpjboceaaDoorW.PrintMore
attribute [local go_sem] Oper.semAt_some

theorem runIt_app_ok {e : Int} {a b : List It} {l l' : List Tok} {c c' : Cmd} (h : runIt e a l c = .ok (l', c')) : runIt e (a ++ b) l c = runIt e b l' c' := by rw [runIt_append, h]
theorem runIt_app_err {e : Int} {a b : List It} {l : List Tok} {c : Cmd} {x : Int × List Tok} (h : runIt e a l c = .error x) : runIt e (a ++ b) l c = .error x := by rw [runIt_append, h]
def its_mesh : List It := prs [(⟨#[100, 97, 116, 97]⟩ : ByteArray), (⟨#[114, 97, 110, 103, 101]⟩ : ByteArray)] ++ []
set_option maxHeartbeats 16000000 in
set_option maxRecDepth 100000 in
theorem mesh_rs {b : Nat} {w : World} {R : Nat} {l : List Tok} {e : Int} {c : Cmd} (hm : c.f2.length + 2 ≤ 1000) (h : RS b w R l e c) :
    Calls Tryd.prog 94 #[.pointer (some ⟨R, 0, none⟩)] w (PostR b R e w (runIt e its_mesh l c)) := by
  generalize hr : runIt e its_mesh l c = r
  unfold its_mesh at hr
  have HR0 := Lib.hid hr
  have HS0 := Lib.hid h
  have HF0 := Lib.hid (Fr.refl R b w)
  have hn0 := hm
  clear hr h hm
  go_enter Tryd.func94, Tryd.ntmps94
  go_wp2_with fail
  refine (pairs_rs [(⟨#[100, 97, 116, 97]⟩ : ByteArray), (⟨#[114, 97, 110, 103, 101]⟩ : ByteArray)] (by decide) w.heap.size (blk_new _ _) (by have h1 := HS0.out.lt; have h2 := HS0.out.le; omega) (by show c.f2.length + 2 ≤ 1000; omega) (HS0.out.alloc _)).mono ?_
  intro x w1 hP
  cases hst : runIt e (prs [(⟨#[100, 97, 116, 97]⟩ : ByteArray), (⟨#[114, 97, 110, 103, 101]⟩ : ByteArray)]) l c with
  | error y =>
    obtain ⟨rfl, hF, hS⟩ := hP.err_ hst
    have hr1 := HR0.out
    rw [runIt_app_err hst] at hr1
    subst hr1
    exact ⟨rfl, (HF0.out.alloc _).trans hF, rfl, hS⟩
  | ok y =>
  obtain ⟨l1, c1⟩ := y
  obtain ⟨rfl, hF, hS⟩ := hP.ok_ hst
  have hr1 := HR0.out
  rw [runIt_app_ok hst] at hr1
  have hl1 := runIt_len hst
  have hn1 : c1.f2.length + 0 ≤ 1000 := by
    have h0 : ((prs [(⟨#[100, 97, 116, 97]⟩ : ByteArray), (⟨#[114, 97, 110, 103, 101]⟩ : ByteArray)]).map addN).sum = 2 := by decide
    rw [h0] at hl1; omega
  have HR1 := Lib.hid hr1
  have HF1 := Lib.hid ((HF0.out.alloc _).trans hF)
  have HS1 := Lib.hid hS
  clear hP hst hr1 hl1 hF hS HF0 HR0 HS0
  have hr1 : r = .ok (l1, c1) := HR1.out.symm
  subst hr1
  clear HR1
  go_wp2
  exact bodyPost_ret (v := .tuple #[]) (by simp [results, Tryd.results94, go_sem]) rfl ⟨HF1.out, rfl, HS1.out⟩
def its_root : List It := [It.Nm] ++ ([It.W ⟨#[97, 116]⟩] ++ (nums_ 2 ++ []))
set_option maxHeartbeats 16000000 in
set_option maxRecDepth 100000 in
theorem root_rs {b : Nat} {w : World} {R : Nat} {l : List Tok} {e : Int} {c : Cmd} (hm : c.f2.length + 2 ≤ 1000) (h : RS b w R l e c) :
    Calls Tryd.prog 96 #[.pointer (some ⟨R, 0, none⟩)] w (PostR b R e w (runIt e its_root l c)) := by
  generalize hr : runIt e its_root l c = r
  unfold its_root at hr
  have HR0 := Lib.hid hr
  have HS0 := Lib.hid h
  have HF0 := Lib.hid (Fr.refl R b w)
  have hn0 := hm
  clear hr h hm
  go_enter Tryd.func96, Tryd.ntmps96
  go_wp2_with fail
  refine (name_rs HS0.out).mono ?_
  intro x w1 hP
  cases hst : runIt e ([It.Nm]) l c with
  | error y =>
    obtain ⟨rfl, hF, hS⟩ := hP.err_ ((runIt_one e _ l c).symm.trans hst)
    have hr1 := HR0.out
    rw [runIt_app_err hst] at hr1
    subst hr1
    exact ⟨rfl, HF0.out.trans hF, rfl, hS⟩
  | ok y =>
  obtain ⟨l1, c1⟩ := y
  obtain ⟨rfl, hF, hS⟩ := hP.ok_ ((runIt_one e _ l c).symm.trans hst)
  have hr1 := HR0.out
  rw [runIt_app_ok hst] at hr1
  have hl1 := runIt_len hst
  have hn1 : c1.f2.length + 2 ≤ 1000 := by
    have h0 : (([It.Nm]).map addN).sum = 0 := by decide
    rw [h0] at hl1; omega
  have HR1 := Lib.hid hr1
  have HF1 := Lib.hid (HF0.out.trans hF)
  have HS1 := Lib.hid hS
  clear hP hst hr1 hl1 hF hS HF0 HR0 HS0
  go_wp2_with fail
  refine (word_rs ⟨#[97, 116]⟩ (by decide) HS1.out).mono ?_
  intro x w2 hP
  cases hst : runIt e ([It.W ⟨#[97, 116]⟩]) l1 c1 with
  | error y =>
    obtain ⟨rfl, hF, hS⟩ := hP.err_ ((runIt_one e _ l1 c1).symm.trans hst)
    have hr1 := HR1.out
    rw [runIt_app_err hst] at hr1
    subst hr1
    exact ⟨rfl, HF1.out.trans hF, rfl, hS⟩
  | ok y =>
  obtain ⟨l2, c2⟩ := y
  obtain ⟨rfl, hF, hS⟩ := hP.ok_ ((runIt_one e _ l1 c1).symm.trans hst)
  have hr1 := HR1.out
  rw [runIt_app_ok hst] at hr1
  have hl1 := runIt_len hst
  have hn2 : c2.f2.length + 2 ≤ 1000 := by
    have h0 : (([It.W ⟨#[97, 116]⟩]).map addN).sum = 0 := by decide
    rw [h0] at hl1; omega
  have HR2 := Lib.hid hr1
  have HF2 := Lib.hid (HF1.out.trans hF)
  have HS2 := Lib.hid hS
  clear hP hst hr1 hl1 hF hS HF1 HR1 HS1
  go_wp2_with fail
  refine (numbers_rs 2 (by omega) HS2.out).mono ?_
  intro x w3 hP
  cases hst : runIt e (nums_ 2) l2 c2 with
  | error y =>
    obtain ⟨rfl, hF, hS⟩ := hP.err_ hst
    have hr1 := HR2.out
    rw [runIt_app_err hst] at hr1
    subst hr1
    exact ⟨rfl, HF2.out.trans hF, rfl, hS⟩
  | ok y =>
  obtain ⟨l3, c3⟩ := y
  obtain ⟨rfl, hF, hS⟩ := hP.ok_ hst
  have hr1 := HR2.out
  rw [runIt_app_ok hst] at hr1
  have hl1 := runIt_len hst
  have hn3 : c3.f2.length + 0 ≤ 1000 := by
    have h0 : ((nums_ 2).map addN).sum = 2 := by decide
    rw [h0] at hl1; omega
  have HR3 := Lib.hid hr1
  have HF3 := Lib.hid (HF2.out.trans hF)
  have HS3 := Lib.hid hS
  clear hP hst hr1 hl1 hF hS HF2 HR2 HS2
  have hr1 : r = .ok (l3, c3) := HR3.out.symm
  subst hr1
  clear HR3
  go_wp2
  exact bodyPost_ret (v := .tuple #[]) (by simp [results, Tryd.results96, go_sem]) rfl ⟨HF3.out, rfl, HS3.out⟩
def its_node : List It := [It.Nm] ++ ([It.W ⟨#[97, 116]⟩] ++ (nums_ 2 ++ ([It.Dr] ++ (prs [(⟨#[98, 97, 116, 116, 101, 114, 121]⟩ : ByteArray)] ++ []))))
set_option maxHeartbeats 16000000 in
set_option maxRecDepth 100000 in
theorem node_rs {b : Nat} {w : World} {R : Nat} {l : List Tok} {e : Int} {c : Cmd} (hm : c.f2.length + 4 ≤ 1000) (h : RS b w R l e c) :
    Calls Tryd.prog 98 #[.pointer (some ⟨R, 0, none⟩)] w (PostR b R e w (runIt e its_node l c)) := by
  generalize hr : runIt e its_node l c = r
  unfold its_node at hr
  have HR0 := Lib.hid hr
  have HS0 := Lib.hid h
  have HF0 := Lib.hid (Fr.refl R b w)
  have hn0 := hm
  clear hr h hm
  go_enter Tryd.func98, Tryd.ntmps98
  go_wp2_with fail
  refine (name_rs HS0.out).mono ?_
  intro x w1 hP
  cases hst : runIt e ([It.Nm]) l c with
  | error y =>
    obtain ⟨rfl, hF, hS⟩ := hP.err_ ((runIt_one e _ l c).symm.trans hst)
    have hr1 := HR0.out
    rw [runIt_app_err hst] at hr1
    subst hr1
    exact ⟨rfl, HF0.out.trans hF, rfl, hS⟩
  | ok y =>
  obtain ⟨l1, c1⟩ := y
  obtain ⟨rfl, hF, hS⟩ := hP.ok_ ((runIt_one e _ l c).symm.trans hst)
  have hr1 := HR0.out
  rw [runIt_app_ok hst] at hr1
  have hl1 := runIt_len hst
  have hn1 : c1.f2.length + 4 ≤ 1000 := by
    have h0 : (([It.Nm]).map addN).sum = 0 := by decide
    rw [h0] at hl1; omega
  have HR1 := Lib.hid hr1
  have HF1 := Lib.hid (HF0.out.trans hF)
  have HS1 := Lib.hid hS
  clear hP hst hr1 hl1 hF hS HF0 HR0 HS0
  go_wp2_with fail
  refine (word_rs ⟨#[97, 116]⟩ (by decide) HS1.out).mono ?_
  intro x w2 hP
  cases hst : runIt e ([It.W ⟨#[97, 116]⟩]) l1 c1 with
  | error y =>
    obtain ⟨rfl, hF, hS⟩ := hP.err_ ((runIt_one e _ l1 c1).symm.trans hst)
    have hr1 := HR1.out
    rw [runIt_app_err hst] at hr1
    subst hr1
    exact ⟨rfl, HF1.out.trans hF, rfl, hS⟩
  | ok y =>
  obtain ⟨l2, c2⟩ := y
  obtain ⟨rfl, hF, hS⟩ := hP.ok_ ((runIt_one e _ l1 c1).symm.trans hst)
  have hr1 := HR1.out
  rw [runIt_app_ok hst] at hr1
  have hl1 := runIt_len hst
  have hn2 : c2.f2.length + 4 ≤ 1000 := by
    have h0 : (([It.W ⟨#[97, 116]⟩]).map addN).sum = 0 := by decide
    rw [h0] at hl1; omega
  have HR2 := Lib.hid hr1
  have HF2 := Lib.hid (HF1.out.trans hF)
  have HS2 := Lib.hid hS
  clear hP hst hr1 hl1 hF hS HF1 HR1 HS1
  go_wp2_with fail
  refine (numbers_rs 2 (by omega) HS2.out).mono ?_
  intro x w3 hP
  cases hst : runIt e (nums_ 2) l2 c2 with
  | error y =>
    obtain ⟨rfl, hF, hS⟩ := hP.err_ hst
    have hr1 := HR2.out
    rw [runIt_app_err hst] at hr1
    subst hr1
    exact ⟨rfl, HF2.out.trans hF, rfl, hS⟩
  | ok y =>
  obtain ⟨l3, c3⟩ := y
  obtain ⟨rfl, hF, hS⟩ := hP.ok_ hst
  have hr1 := HR2.out
  rw [runIt_app_ok hst] at hr1
  have hl1 := runIt_len hst
  have hn3 : c3.f2.length + 2 ≤ 1000 := by
    have h0 : ((nums_ 2).map addN).sum = 2 := by decide
    rw [h0] at hl1; omega
  have HR3 := Lib.hid hr1
  have HF3 := Lib.hid (HF2.out.trans hF)
  have HS3 := Lib.hid hS
  clear hP hst hr1 hl1 hF hS HF2 HR2 HS2
  go_wp2_with fail
  refine (drift_rs (by omega) HS3.out).mono ?_
  intro x w4 hP
  cases hst : runIt e ([It.Dr]) l3 c3 with
  | error y =>
    obtain ⟨rfl, hF, hS⟩ := hP.err_ ((runIt_one e _ l3 c3).symm.trans hst)
    have hr1 := HR3.out
    rw [runIt_app_err hst] at hr1
    subst hr1
    exact ⟨rfl, HF3.out.trans hF, rfl, hS⟩
  | ok y =>
  obtain ⟨l4, c4⟩ := y
  obtain ⟨rfl, hF, hS⟩ := hP.ok_ ((runIt_one e _ l3 c3).symm.trans hst)
  have hr1 := HR3.out
  rw [runIt_app_ok hst] at hr1
  have hl1 := runIt_len hst
  have hn4 : c4.f2.length + 1 ≤ 1000 := by
    have h0 : (([It.Dr]).map addN).sum = 1 := by decide
    rw [h0] at hl1; omega
  have HR4 := Lib.hid hr1
  have HF4 := Lib.hid (HF3.out.trans hF)
  have HS4 := Lib.hid hS
  clear hP hst hr1 hl1 hF hS HF3 HR3 HS3
  go_wp2_with fail
  refine (pairs_rs [(⟨#[98, 97, 116, 116, 101, 114, 121]⟩ : ByteArray)] (by decide) w4.heap.size (blk_new _ _) (by have h1 := HS4.out.lt; have h2 := HS4.out.le; omega) (by show c4.f2.length + 1 ≤ 1000; omega) (HS4.out.alloc _)).mono ?_
  intro x w5 hP
  cases hst : runIt e (prs [(⟨#[98, 97, 116, 116, 101, 114, 121]⟩ : ByteArray)]) l4 c4 with
  | error y =>
    obtain ⟨rfl, hF, hS⟩ := hP.err_ hst
    have hr1 := HR4.out
    rw [runIt_app_err hst] at hr1
    subst hr1
    exact ⟨rfl, (HF4.out.alloc _).trans hF, rfl, hS⟩
  | ok y =>
  obtain ⟨l5, c5⟩ := y
  obtain ⟨rfl, hF, hS⟩ := hP.ok_ hst
  have hr1 := HR4.out
  rw [runIt_app_ok hst] at hr1
  have hl1 := runIt_len hst
  have hn5 : c5.f2.length + 0 ≤ 1000 := by
    have h0 : ((prs [(⟨#[98, 97, 116, 116, 101, 114, 121]⟩ : ByteArray)]).map addN).sum = 1 := by decide
    rw [h0] at hl1; omega
  have HR5 := Lib.hid hr1
  have HF5 := Lib.hid ((HF4.out.alloc _).trans hF)
  have HS5 := Lib.hid hS
  clear hP hst hr1 hl1 hF hS HF4 HR4 HS4
  have hr1 : r = .ok (l5, c5) := HR5.out.symm
  subst hr1
  clear HR5
  go_wp2
  exact bodyPost_ret (v := .tuple #[]) (by simp [results, Tryd.results98, go_sem]) rfl ⟨HF5.out, rfl, HS5.out⟩
def its_run : List It := nums_ 1 ++ []
set_option maxHeartbeats 16000000 in
set_option maxRecDepth 100000 in
theorem run_rs {b : Nat} {w : World} {R : Nat} {l : List Tok} {e : Int} {c : Cmd} (hm : c.f2.length + 1 ≤ 1000) (h : RS b w R l e c) :
    Calls Tryd.prog 100 #[.pointer (some ⟨R, 0, none⟩)] w (PostR b R e w (runIt e its_run l c)) := by
  generalize hr : runIt e its_run l c = r
  unfold its_run at hr
  have HR0 := Lib.hid hr
  have HS0 := Lib.hid h
  have HF0 := Lib.hid (Fr.refl R b w)
  have hn0 := hm
  clear hr h hm
  go_enter Tryd.func100, Tryd.ntmps100
  go_wp2_with fail
  refine (numbers_rs 1 (by omega) HS0.out).mono ?_
  intro x w1 hP
  cases hst : runIt e (nums_ 1) l c with
  | error y =>
    obtain ⟨rfl, hF, hS⟩ := hP.err_ hst
    have hr1 := HR0.out
    rw [runIt_app_err hst] at hr1
    subst hr1
    exact ⟨rfl, HF0.out.trans hF, rfl, hS⟩
  | ok y =>
  obtain ⟨l1, c1⟩ := y
  obtain ⟨rfl, hF, hS⟩ := hP.ok_ hst
  have hr1 := HR0.out
  rw [runIt_app_ok hst] at hr1
  have hl1 := runIt_len hst
  have hn1 : c1.f2.length + 0 ≤ 1000 := by
    have h0 : ((nums_ 1).map addN).sum = 1 := by decide
    rw [h0] at hl1; omega
  have HR1 := Lib.hid hr1
  have HF1 := Lib.hid (HF0.out.trans hF)
  have HS1 := Lib.hid hS
  clear hP hst hr1 hl1 hF hS HF0 HR0 HS0
  have hr1 : r = .ok (l1, c1) := HR1.out.symm
  subst hr1
  clear HR1
  go_wp2
  exact bodyPost_ret (v := .tuple #[]) (by simp [results, Tryd.results100, go_sem]) rfl ⟨HF1.out, rfl, HS1.out⟩
def its_named (many : Nat) : List It := [It.Nm] ++ (nums_ many ++ [])
set_option maxHeartbeats 16000000 in
set_option maxRecDepth 100000 in
theorem named_rs {b : Nat} {w : World} {R : Nat} {l : List Tok} {e : Int} {c : Cmd} (many B : Nat) (hmany : many ≤ 2) (hB : w.heap[B]? = some (.cells #[.int .i64 (many : Nat)] 3 (0, 0))) (hBR : B ≠ R) (hm : c.f2.length + 2 ≤ 1000) (h : RS b w R l e c) :
    Calls Tryd.prog 102 #[.pointer (some ⟨R, 0, none⟩), .pointer (some ⟨B, 0, none⟩)] w (PostR b R e w (runIt e (its_named many) l c)) := by
  generalize hr : runIt e (its_named many) l c = r
  unfold its_named at hr
  have HR0 := Lib.hid hr
  have HS0 := Lib.hid h
  have HF0 := Lib.hid (Fr.refl R b w)
  have hn0 := hm
  have HB := Lib.hid hB
  clear hB
  clear hr h hm
  go_enter Tryd.func102, Tryd.ntmps102
  go_wp2_with fail
  refine (name_rsS HS0.out).mono ?_
  intro x w1 hPS
  have hP := hPS.post
  have HB1 := Lib.hid ((hPS.1 (B + 1)).kept HB.out hBR (.inr (Nat.lt_succ_self B)))
  clear hPS
  cases hst : runIt e ([It.Nm]) l c with
  | error y =>
    obtain ⟨rfl, hF, hS⟩ := hP.err_ ((runIt_one e _ l c).symm.trans hst)
    have hr1 := HR0.out
    rw [runIt_app_err hst] at hr1
    subst hr1
    exact ⟨rfl, HF0.out.trans hF, rfl, hS⟩
  | ok y =>
  obtain ⟨l1, c1⟩ := y
  obtain ⟨rfl, hF, hS⟩ := hP.ok_ ((runIt_one e _ l c).symm.trans hst)
  have hr1 := HR0.out
  rw [runIt_app_ok hst] at hr1
  have hl1 := runIt_len hst
  have hn1 : c1.f2.length + 2 ≤ 1000 := by
    have h0 : (([It.Nm]).map addN).sum = 0 := by decide
    rw [h0] at hl1; omega
  have HR1 := Lib.hid hr1
  have HF1 := Lib.hid (HF0.out.trans hF)
  have HS1 := Lib.hid hS
  clear hP hst hr1 hl1 hF hS HF0 HR0 HS0
  have hb1 : w1.cell? ⟨B, 0, none⟩ = some (.int .i64 (many : Nat)) := by rw [blk_cell HB1.out]; rfl
  go_wp2_with fail
  refine (numbers_rs many (by omega) HS1.out).mono ?_
  intro x w2 hP
  cases hst : runIt e (nums_ many) l1 c1 with
  | error y =>
    obtain ⟨rfl, hF, hS⟩ := hP.err_ hst
    have hr1 := HR1.out
    rw [runIt_app_err hst] at hr1
    subst hr1
    exact ⟨rfl, HF1.out.trans hF, rfl, hS⟩
  | ok y =>
  obtain ⟨l2, c2⟩ := y
  obtain ⟨rfl, hF, hS⟩ := hP.ok_ hst
  have hr1 := HR1.out
  rw [runIt_app_ok hst] at hr1
  have hl1 := runIt_len hst
  have HR2 := Lib.hid hr1
  have HF2 := Lib.hid (HF1.out.trans hF)
  have HS2 := Lib.hid hS
  clear hP hst hr1 hl1 hF hS HF1 HR1 HS1 hn1
  have hr1 : r = .ok (l2, c2) := HR2.out.symm
  subst hr1
  clear HR2
  go_wp2
  exact bodyPost_ret (v := .tuple #[]) (by simp [results, Tryd.results102, go_sem]) rfl ⟨HF2.out, rfl, HS2.out⟩
def its_jam : List It := nums_ 2 ++ (prs [(⟨#[114, 97, 100, 105, 117, 115]⟩ : ByteArray), (⟨#[99, 104, 97, 110, 110, 101, 108]⟩ : ByteArray), (⟨#[102, 111, 114]⟩ : ByteArray)] ++ [])
set_option maxHeartbeats 16000000 in
set_option maxRecDepth 100000 in
theorem jam_rs {b : Nat} {w : World} {R : Nat} {l : List Tok} {e : Int} {c : Cmd} (hm : c.f2.length + 5 ≤ 1000) (h : RS b w R l e c) :
    Calls Tryd.prog 103 #[.pointer (some ⟨R, 0, none⟩)] w (PostR b R e w (runIt e its_jam l c)) := by
  generalize hr : runIt e its_jam l c = r
  unfold its_jam at hr
  have HR0 := Lib.hid hr
  have HS0 := Lib.hid h
  have HF0 := Lib.hid (Fr.refl R b w)
  have hn0 := hm
  clear hr h hm
  go_enter Tryd.func103, Tryd.ntmps103
  go_wp2_with fail
  refine (numbers_rs 2 (by omega) HS0.out).mono ?_
  intro x w1 hP
  cases hst : runIt e (nums_ 2) l c with
  | error y =>
    obtain ⟨rfl, hF, hS⟩ := hP.err_ hst
    have hr1 := HR0.out
    rw [runIt_app_err hst] at hr1
    subst hr1
    exact ⟨rfl, HF0.out.trans hF, rfl, hS⟩
  | ok y =>
  obtain ⟨l1, c1⟩ := y
  obtain ⟨rfl, hF, hS⟩ := hP.ok_ hst
  have hr1 := HR0.out
  rw [runIt_app_ok hst] at hr1
  have hl1 := runIt_len hst
  have hn1 : c1.f2.length + 3 ≤ 1000 := by
    have h0 : ((nums_ 2).map addN).sum = 2 := by decide
    rw [h0] at hl1; omega
  have HR1 := Lib.hid hr1
  have HF1 := Lib.hid (HF0.out.trans hF)
  have HS1 := Lib.hid hS
  clear hP hst hr1 hl1 hF hS HF0 HR0 HS0
  go_wp2_with fail
  refine (pairs_rs [(⟨#[114, 97, 100, 105, 117, 115]⟩ : ByteArray), (⟨#[99, 104, 97, 110, 110, 101, 108]⟩ : ByteArray), (⟨#[102, 111, 114]⟩ : ByteArray)] (by decide) w1.heap.size (blk_new _ _) (by have h1 := HS1.out.lt; have h2 := HS1.out.le; omega) (by show c1.f2.length + 3 ≤ 1000; omega) (HS1.out.alloc _)).mono ?_
  intro x w2 hP
  cases hst : runIt e (prs [(⟨#[114, 97, 100, 105, 117, 115]⟩ : ByteArray), (⟨#[99, 104, 97, 110, 110, 101, 108]⟩ : ByteArray), (⟨#[102, 111, 114]⟩ : ByteArray)]) l1 c1 with
  | error y =>
    obtain ⟨rfl, hF, hS⟩ := hP.err_ hst
    have hr1 := HR1.out
    rw [runIt_app_err hst] at hr1
    subst hr1
    exact ⟨rfl, (HF1.out.alloc _).trans hF, rfl, hS⟩
  | ok y =>
  obtain ⟨l2, c2⟩ := y
  obtain ⟨rfl, hF, hS⟩ := hP.ok_ hst
  have hr1 := HR1.out
  rw [runIt_app_ok hst] at hr1
  have hl1 := runIt_len hst
  have hn2 : c2.f2.length + 0 ≤ 1000 := by
    have h0 : ((prs [(⟨#[114, 97, 100, 105, 117, 115]⟩ : ByteArray), (⟨#[99, 104, 97, 110, 110, 101, 108]⟩ : ByteArray), (⟨#[102, 111, 114]⟩ : ByteArray)]).map addN).sum = 3 := by decide
    rw [h0] at hl1; omega
  have HR2 := Lib.hid hr1
  have HF2 := Lib.hid ((HF1.out.alloc _).trans hF)
  have HS2 := Lib.hid hS
  clear hP hst hr1 hl1 hF hS HF1 HR1 HS1
  have hr1 : r = .ok (l2, c2) := HR2.out.symm
  subst hr1
  clear HR2
  go_wp2
  exact bodyPost_ret (v := .tuple #[]) (by simp [results, Tryd.results103, go_sem]) rfl ⟨HF2.out, rfl, HS2.out⟩
def its_replay : List It := nums_ 1 ++ ([It.W ⟨#[97, 116]⟩] ++ (nums_ 2 ++ []))
set_option maxHeartbeats 16000000 in
set_option maxRecDepth 100000 in
theorem replay_rs {b : Nat} {w : World} {R : Nat} {l : List Tok} {e : Int} {c : Cmd} (hm : c.f2.length + 3 ≤ 1000) (h : RS b w R l e c) :
    Calls Tryd.prog 104 #[.pointer (some ⟨R, 0, none⟩)] w (PostR b R e w (runIt e its_replay l c)) := by
  generalize hr : runIt e its_replay l c = r
  unfold its_replay at hr
  have HR0 := Lib.hid hr
  have HS0 := Lib.hid h
  have HF0 := Lib.hid (Fr.refl R b w)
  have hn0 := hm
  clear hr h hm
  go_enter Tryd.func104, Tryd.ntmps104
  go_wp2_with fail
  refine (numbers_rs 1 (by omega) HS0.out).mono ?_
  intro x w1 hP
  cases hst : runIt e (nums_ 1) l c with
  | error y =>
    obtain ⟨rfl, hF, hS⟩ := hP.err_ hst
    have hr1 := HR0.out
    rw [runIt_app_err hst] at hr1
    subst hr1
    exact ⟨rfl, HF0.out.trans hF, rfl, hS⟩
  | ok y =>
  obtain ⟨l1, c1⟩ := y
  obtain ⟨rfl, hF, hS⟩ := hP.ok_ hst
  have hr1 := HR0.out
  rw [runIt_app_ok hst] at hr1
  have hl1 := runIt_len hst
  have hn1 : c1.f2.length + 2 ≤ 1000 := by
    have h0 : ((nums_ 1).map addN).sum = 1 := by decide
    rw [h0] at hl1; omega
  have HR1 := Lib.hid hr1
  have HF1 := Lib.hid (HF0.out.trans hF)
  have HS1 := Lib.hid hS
  clear hP hst hr1 hl1 hF hS HF0 HR0 HS0
  go_wp2_with fail
  refine (word_rs ⟨#[97, 116]⟩ (by decide) HS1.out).mono ?_
  intro x w2 hP
  cases hst : runIt e ([It.W ⟨#[97, 116]⟩]) l1 c1 with
  | error y =>
    obtain ⟨rfl, hF, hS⟩ := hP.err_ ((runIt_one e _ l1 c1).symm.trans hst)
    have hr1 := HR1.out
    rw [runIt_app_err hst] at hr1
    subst hr1
    exact ⟨rfl, HF1.out.trans hF, rfl, hS⟩
  | ok y =>
  obtain ⟨l2, c2⟩ := y
  obtain ⟨rfl, hF, hS⟩ := hP.ok_ ((runIt_one e _ l1 c1).symm.trans hst)
  have hr1 := HR1.out
  rw [runIt_app_ok hst] at hr1
  have hl1 := runIt_len hst
  have hn2 : c2.f2.length + 2 ≤ 1000 := by
    have h0 : (([It.W ⟨#[97, 116]⟩]).map addN).sum = 0 := by decide
    rw [h0] at hl1; omega
  have HR2 := Lib.hid hr1
  have HF2 := Lib.hid (HF1.out.trans hF)
  have HS2 := Lib.hid hS
  clear hP hst hr1 hl1 hF hS HF1 HR1 HS1
  go_wp2_with fail
  refine (numbers_rs 2 (by omega) HS2.out).mono ?_
  intro x w3 hP
  cases hst : runIt e (nums_ 2) l2 c2 with
  | error y =>
    obtain ⟨rfl, hF, hS⟩ := hP.err_ hst
    have hr1 := HR2.out
    rw [runIt_app_err hst] at hr1
    subst hr1
    exact ⟨rfl, HF2.out.trans hF, rfl, hS⟩
  | ok y =>
  obtain ⟨l3, c3⟩ := y
  obtain ⟨rfl, hF, hS⟩ := hP.ok_ hst
  have hr1 := HR2.out
  rw [runIt_app_ok hst] at hr1
  have hl1 := runIt_len hst
  have hn3 : c3.f2.length + 0 ≤ 1000 := by
    have h0 : ((nums_ 2).map addN).sum = 2 := by decide
    rw [h0] at hl1; omega
  have HR3 := Lib.hid hr1
  have HF3 := Lib.hid (HF2.out.trans hF)
  have HS3 := Lib.hid hS
  clear hP hst hr1 hl1 hF hS HF2 HR2 HS2
  have hr1 : r = .ok (l3, c3) := HR3.out.symm
  subst hr1
  clear HR3
  go_wp2
  exact bodyPost_ret (v := .tuple #[]) (by simp [results, Tryd.results104, go_sem]) rfl ⟨HF3.out, rfl, HS3.out⟩
def its_program : List It := nums_ 1 ++ (prs [(⟨#[115, 105, 122, 101]⟩ : ByteArray)] ++ [])
set_option maxHeartbeats 16000000 in
set_option maxRecDepth 100000 in
theorem program_rs {b : Nat} {w : World} {R : Nat} {l : List Tok} {e : Int} {c : Cmd} (hm : c.f2.length + 2 ≤ 1000) (h : RS b w R l e c) :
    Calls Tryd.prog 105 #[.pointer (some ⟨R, 0, none⟩)] w (PostR b R e w (runIt e its_program l c)) := by
  generalize hr : runIt e its_program l c = r
  unfold its_program at hr
  have HR0 := Lib.hid hr
  have HS0 := Lib.hid h
  have HF0 := Lib.hid (Fr.refl R b w)
  have hn0 := hm
  clear hr h hm
  go_enter Tryd.func105, Tryd.ntmps105
  go_wp2_with fail
  refine (numbers_rs 1 (by omega) HS0.out).mono ?_
  intro x w1 hP
  cases hst : runIt e (nums_ 1) l c with
  | error y =>
    obtain ⟨rfl, hF, hS⟩ := hP.err_ hst
    have hr1 := HR0.out
    rw [runIt_app_err hst] at hr1
    subst hr1
    exact ⟨rfl, HF0.out.trans hF, rfl, hS⟩
  | ok y =>
  obtain ⟨l1, c1⟩ := y
  obtain ⟨rfl, hF, hS⟩ := hP.ok_ hst
  have hr1 := HR0.out
  rw [runIt_app_ok hst] at hr1
  have hl1 := runIt_len hst
  have hn1 : c1.f2.length + 1 ≤ 1000 := by
    have h0 : ((nums_ 1).map addN).sum = 1 := by decide
    rw [h0] at hl1; omega
  have HR1 := Lib.hid hr1
  have HF1 := Lib.hid (HF0.out.trans hF)
  have HS1 := Lib.hid hS
  clear hP hst hr1 hl1 hF hS HF0 HR0 HS0
  go_wp2_with fail
  refine (pairs_rs [(⟨#[115, 105, 122, 101]⟩ : ByteArray)] (by decide) w1.heap.size (blk_new _ _) (by have h1 := HS1.out.lt; have h2 := HS1.out.le; omega) (by show c1.f2.length + 1 ≤ 1000; omega) (HS1.out.alloc _)).mono ?_
  intro x w2 hP
  cases hst : runIt e (prs [(⟨#[115, 105, 122, 101]⟩ : ByteArray)]) l1 c1 with
  | error y =>
    obtain ⟨rfl, hF, hS⟩ := hP.err_ hst
    have hr1 := HR1.out
    rw [runIt_app_err hst] at hr1
    subst hr1
    exact ⟨rfl, (HF1.out.alloc _).trans hF, rfl, hS⟩
  | ok y =>
  obtain ⟨l2, c2⟩ := y
  obtain ⟨rfl, hF, hS⟩ := hP.ok_ hst
  have hr1 := HR1.out
  rw [runIt_app_ok hst] at hr1
  have hl1 := runIt_len hst
  have hn2 : c2.f2.length + 0 ≤ 1000 := by
    have h0 : ((prs [(⟨#[115, 105, 122, 101]⟩ : ByteArray)]).map addN).sum = 1 := by decide
    rw [h0] at hl1; omega
  have HR2 := Lib.hid hr1
  have HF2 := Lib.hid ((HF1.out.alloc _).trans hF)
  have HS2 := Lib.hid hS
  clear hP hst hr1 hl1 hF hS HF1 HR1 HS1
  have hr1 : r = .ok (l2, c2) := HR2.out.symm
  subst hr1
  clear HR2
  go_wp2
  exact bodyPost_ret (v := .tuple #[]) (by simp [results, Tryd.results105, go_sem]) rfl ⟨HF2.out, rfl, HS2.out⟩

end Go.Proofs.YtdedlchpjboceaaDoor.Px
end

section
/-
  Maps from strings that the call makes itself: entries put in by a literal, and looked up; the parser's maps of forms, walked.
-/
namespace Go.Proofs.YtdedlchpjboceaaDoor.Px
open Go.RowKit Go.Shelf Go.Proofs.YtdedlchpjboceaaDoor.Lx Go.Proofs.YtdedlchpjboceaaDoorW.PrintWords Go.Proofs.YtdedlchpjboceaaDoorW.PrintLast Go.Proofs.YtdedlchpjboceaaDoorW.PrintMore
attribute [local go_sem] Oper.semAt_some

/-- Block b is a map with these entries. -/
def Mp (W : World) (b : Nat) (kvs : List (ByteArray × Value)) : Prop :=
  ∃ es clock, W.heap[b]? = some (.map es clock) ∧ es.toList.map (fun e => (e.key, e.val)) = kvs.map (fun p => (Value.string p.1, p.2))
theorem Mp.lt {W : World} {b : Nat} {kvs : List (ByteArray × Value)} (h : Mp W b kvs) : b < W.heap.size := by obtain ⟨es, cl, hb, _⟩ := h; exact blk_lt hb
theorem Mp.new (W : World) : Mp (W.alloc (.map #[] 0)) W.heap.size [] := ⟨#[], 0, blk_new _ _, rfl⟩
theorem Mp.same {W W' : World} {b : Nat} {kvs : List (ByteArray × Value)} (h : Mp W b kvs) (hb : W'.heap[b]? = W.heap[b]?) : Mp W' b kvs := by
  obtain ⟨es, cl, h1, h2⟩ := h
  exact ⟨es, cl, hb.trans h1, h2⟩
theorem findNow_kvs (k : ByteArray) : ∀ (l : List MapEntry) (kvs : List (ByteArray × Value)) (i : Nat), l.map (fun e => (e.key, e.val)) = kvs.map (fun p => (Value.string p.1, p.2)) →
    (Instr.findNow .string (.string k) l i = some none ∧ kvs.find? (fun p => decide (p.1 = k)) = none) ∨ ∃ j v, Instr.findNow .string (.string k) l i = some (some (j, v)) ∧ ∃ p, kvs.find? (fun p => decide (p.1 = k)) = some p ∧ p.2 = v
  | [], [], i, _ => .inl ⟨rfl, rfl⟩
  | [], _ :: _, i, h => by simp at h
  | _ :: _, [], i, h => by simp at h
  | x :: l, p :: kvs, i, h => by
    simp only [List.map_cons, List.cons.injEq, Prod.mk.injEq] at h
    obtain ⟨⟨h1, h2⟩, h3⟩ := h
    have hs : Instr.sameNow .string (.string k) x.key = some (k == p.1) := by rw [h1]; rfl
    by_cases hk : p.1 = k
    · have hb : (k == p.1) = true := (MapKept.bytes_beq _ _).2 hk.symm
      rw [hb] at hs
      refine .inr ⟨i, x.val, ?_, p, ?_, h2.symm⟩
      · unfold Instr.findNow; rw [hs]
      · simp [hk]
    · have hb : (k == p.1) = false := by
        cases hq : (k == p.1) with
        | false => rfl
        | true => exact absurd ((MapKept.bytes_beq _ _).1 hq).symm hk
      rw [hb] at hs
      rcases findNow_kvs k l kvs (i + 1) h3 with ⟨h4, h5⟩ | ⟨j, v, h4, h5⟩
      · refine .inl ⟨?_, ?_⟩
        · unfold Instr.findNow; rw [hs]; exact h4
        · simp [hk, h5]
      · refine .inr ⟨j, v, ?_, ?_⟩
        · unfold Instr.findNow; rw [hs]; exact h4
        · simp [hk, h5]
theorem Mp.insert {P : Program} {w : World} {b : Nat} {kvs : List (ByteArray × Value)} {t kt et : TypeId} (h : Mp w b kvs) (hm : P.underlying t = some (.map kt et)) (hd : P.underlying kt = some .string) (k : ByteArray) (v : Value) (hk : kvs.find? (fun p => decide (p.1 = k)) = none) :
    ∃ w', (Instr.mapUpdate t (.map (some b)) (.string k) v).run P w = .ok () w' ∧ Mp w' b (kvs ++ [(k, v)]) ∧ w.grownBy w' (some b) := by
  obtain ⟨es, cl, hb, he⟩ := h
  have hf : Instr.findNow .string (.string k) es.toList 0 = some none := by
    rcases findNow_kvs k es.toList kvs 0 he with ⟨h4, _⟩ | ⟨j, v', h4, p, h5, _⟩
    · exact h4
    · rw [hk] at h5; cases h5
  refine ⟨{ w with heap := w.heap.setIfInBounds b (.map (es.push ⟨.string k, v, cl⟩) (cl + 1)) }, ?_, ⟨es.push ⟨.string k, v, cl⟩, cl + 1, (MapKept.heap_set hb).1, by simp [he]⟩, ⟨rfl, rfl, rfl, by simp, fun i _ hne => (MapKept.heap_set hb).2 i (fun e => hne (by rw [e]))⟩⟩
  simp [Instr.mapUpdate, run_underlying hm, MapKept.run_getObj_map hb, MapKept.run_checkKey hd (show MapKept.IsKey .string (.string k) from trivial), MapKept.run_findKey hd hf, MapKept.run_setObj_map _ hb, Result.andThen]
/-- What a look-up finds. -/
def lookV (kvs : List (ByteArray × Value)) (k : ByteArray) (z : Value) : Value × Bool := match kvs.find? (fun p => decide (p.1 = k)) with | some p => (p.2, true) | none => (z, false)
theorem Mp.look {P : Program} {w : World} {b : Nat} {kvs : List (ByteArray × Value)} {t kt et : TypeId} (h : Mp w b kvs) (hm : P.underlying t = some (.map kt et)) (hd : P.underlying kt = some .string) (z : Value) (hz : (zeroValue et).run P w = .ok z w) (k : ByteArray) :
    (Instr.lookup t (.map (some b)) (.string k) true).run P w = .ok (.tuple #[(lookV kvs k z).1, .bool (lookV kvs k z).2]) w := by
  obtain ⟨es, cl, hb, he⟩ := h
  unfold lookV
  rcases findNow_kvs k es.toList kvs 0 he with ⟨h4, h5⟩ | ⟨j, v, h4, p, h5, h6⟩
  · rw [h5]
    simp [Instr.lookup, run_underlying hm, MapKept.run_getObj_map hb, MapKept.run_checkKey hd (show MapKept.IsKey .string (.string k) from trivial), MapKept.run_findKey hd h4, hz, Result.andThen]
  · rw [h5]
    simp [Instr.lookup, run_underlying hm, MapKept.run_getObj_map hb, MapKept.run_checkKey hd (show MapKept.IsKey .string (.string k) from trivial), MapKept.run_findKey hd h4, h6, Result.andThen]
/-- A map literal's entry, at the operation. -/
theorem wpList_insert {P : Program} (w : World) {ops : Array Oper} {rest : List Oper} {o : Oper} {a : Act} {Q : Exit → Act → World → Prop}
    (hg : o.guard = none) (m x v : Operand) (t : TypeId) (hop : o.op = Op.insert t m x v) (kt et : TypeId) (hm : P.underlying t = some (.map kt et)) (hd : P.underlying kt = some .string) (b : Nat) (kvs : List (ByteArray × Value))
    (hmv : a.eval m = .map (some b)) (h : Mp w b kvs) (k : ByteArray) (val : Value) (hx : a.eval x = .string k) (hv : a.eval v = val) (hk : kvs.find? (fun p => decide (p.1 = k)) = none)
    (hK : ∀ w', Mp w' b (kvs ++ [(k, val)]) → w.grownBy w' (some b) → wpList P ops Q rest (a.put o.dst undef) w') : wpList P ops Q (o :: rest) a w := by
  refine wpList_plain hg fun K' hK' => ?_
  obtain ⟨w', hrun, r1, r2⟩ := h.insert (t := t) hm hd k val hk
  unfold Oper.wp
  simp [execOp, hop, hmv, hx, hv, hrun, Result.andThen]
  exact hK' _ _ (hK w' r1 r2)

theorem below_map {w W W1 : World} {b : Nat} (h : Below w.heap.size w W) (g : W.grownBy W1 (some b)) (hb : w.heap.size ≤ b) : Below w.heap.size w W1 := h.grown g h.size (fun k e => by injection e with e; omega)
def bs (l : List UInt8) : ByteArray := ⟨l.toArray⟩
/-- A form as a value. -/
def formV (k : Int) (f : Value) : Value := .agg #[.int .i64 k, f]
def cmdKvs : List (ByteArray × Value) :=
  [(⟨#[109, 101, 115, 104]⟩, formV 1 (.func (.func 94) #[] #[])), (⟨#[114, 111, 111, 116]⟩, formV 2 (.func (.func 96) #[] #[])), (⟨#[110, 111, 100, 101]⟩, formV 3 (.func (.func 98) #[] #[])), (⟨#[114, 117, 110]⟩, formV 11 (.func (.func 100) #[] #[]))]
set_option maxHeartbeats 8000000 in
set_option maxRecDepth 100000 in
theorem commands_any (w : World) : Calls Tryd.prog 68 #[] w fun x w' => (x = .returned (.map (some w.heap.size)) ∧ Mp w' w.heap.size cmdKvs) ∧ Below w.heap.size w w' := by
  have hmk : ∀ W : World, (Instr.makeMap 95 none).run Tryd.prog W = .ok (.map (some W.heap.size)) (W.alloc (.map #[] 0)) := fun W => rfl
  have m0 := Mp.new w
  have hB0 := (Below.refl w.heap.size w).alloc (Nat.le_refl _) (.map #[] 0)
  go_enter Tryd.func68, Tryd.ntmps68
  go_wp2_with (refine wpList_insert _ rfl (.tmp 1) _ _ 95 rfl 9 101 Tryd.underlying95 Tryd.underlying9 w.heap.size _ rfl (by assumption) _ _ rfl rfl rfl ?_; intro w1 m1 g1; have hB1 := below_map (by assumption) g1 (Nat.le_refl _))
  go_ret
  exact ⟨⟨rfl, m1⟩, hB1⟩

set_option maxHeartbeats 4000000 in
theorem named_any (m : Int) (w : World) : Calls Tryd.prog 101 #[.int .i64 m] w fun x w' => x = .returned (.func (.func 102) #[] #[.pointer (some ⟨w.heap.size, 0, none⟩)]) ∧ w.alloc (.cells #[.int .i64 m] 3) = w' := by
  have hmf : ∀ (fn : Fn) (first cap : Array Value) (w : World), (Instr.makeFunc fn first cap).run Tryd.prog w = .ok (.func fn first cap) w := fun _ _ _ _ => rfl
  go_enter Tryd.func101, Tryd.ntmps101
  go_wp2
  go_ret
  exact ⟨rfl, rfl⟩
def evKvs (b0 b1 b2 b3 : Nat) : List (ByteArray × Value) :=
  [(⟨#[109, 111, 118, 101]⟩, formV 4 (.func (.func 102) #[] #[.pointer (some ⟨b0, 0, none⟩)])), (⟨#[102, 97, 105, 108]⟩, formV 5 (.func (.func 102) #[] #[.pointer (some ⟨b1, 0, none⟩)])), (⟨#[115, 116, 97, 114, 116]⟩, formV 6 (.func (.func 102) #[] #[.pointer (some ⟨b2, 0, none⟩)])), (⟨#[114, 101, 97, 100]⟩, formV 7 (.func (.func 102) #[] #[.pointer (some ⟨b3, 0, none⟩)])),
   (⟨#[106, 97, 109]⟩, formV 8 (.func (.func 103) #[] #[])), (⟨#[114, 101, 112, 108, 97, 121]⟩, formV 9 (.func (.func 104) #[] #[])), (⟨#[112, 114, 111, 103, 114, 97, 109]⟩, formV 10 (.func (.func 105) #[] #[]))]
/-- The numbers' boxes of the four named events. -/
def EvBoxes (w : World) (n b0 b1 b2 b3 : Nat) : Prop :=
  (n ≤ b0 ∧ n ≤ b1 ∧ n ≤ b2 ∧ n ≤ b3) ∧ w.heap[b0]? = some (.cells #[.int .i64 2] 3 (0, 0)) ∧ w.heap[b1]? = some (.cells #[.int .i64 0] 3 (0, 0)) ∧ w.heap[b2]? = some (.cells #[.int .i64 0] 3 (0, 0)) ∧ w.heap[b3]? = some (.cells #[.int .i64 1] 3 (0, 0))
/-- While the map of the events is made. -/
structure EvI (w W : World) (b : Nat) (kvs : List (ByteArray × Value)) (bx : List (Nat × Int)) : Prop where
  below : Below w.heap.size w W
  mp : Mp W b kvs
  le : w.heap.size ≤ b
  box : ∀ p ∈ bx, w.heap.size ≤ p.1 ∧ W.heap[p.1]? = some (.cells #[.int .i64 p.2] 3 (0, 0))
theorem EvI.alloc {w W : World} {b : Nat} {kvs : List (ByteArray × Value)} {bx : List (Nat × Int)} (h : EvI w W b kvs bx) (m : Int) : EvI w (W.alloc (.cells #[.int .i64 m] 3)) b kvs (bx ++ [(W.heap.size, m)]) := by
  refine ⟨h.below.alloc h.below.size _, h.mp.same (Below.heap_alloc _ _ _ h.mp.lt), h.le, fun p hp => ?_⟩
  rcases List.mem_append.1 hp with hp | hp
  · exact ⟨(h.box p hp).1, blk_alloc (h.box p hp).2 _⟩
  · obtain rfl := List.mem_singleton.1 hp
    exact ⟨h.below.size, blk_new _ _⟩
theorem named_I {w W : World} {b : Nat} {kvs : List (ByteArray × Value)} {bx : List (Nat × Int)} (h : EvI w W b kvs bx) (m : Int) : Calls Tryd.prog 101 #[.int .i64 m] W fun x w' => x = .returned (.func (.func 102) #[] #[.pointer (some ⟨W.heap.size, 0, none⟩)]) ∧ EvI w w' b kvs (bx ++ [(W.heap.size, m)]) :=
  (named_any m W).mono (fun x w' hh => ⟨hh.1, by rw [← hh.2]; exact h.alloc m⟩)
theorem EvI.ins {w W W1 : World} {b : Nat} {kvs kvs' : List (ByteArray × Value)} {bx : List (Nat × Int)} (h : EvI w W b kvs bx) (g : W.grownBy W1 (some b)) (m : Mp W1 b kvs') : EvI w W1 b kvs' bx := by
  refine ⟨below_map h.below g h.le, m, h.le, fun p hp => ⟨(h.box p hp).1, (g.block p.1 (blk_lt (h.box p hp).2) (fun e => ?_)).trans (h.box p hp).2⟩⟩
  obtain ⟨es, cl, hb, _⟩ := h.mp
  have e' : p.1 = b := by injection e
  rw [← e', (h.box p hp).2] at hb
  cases hb
theorem EvI.fin {w W : World} {b : Nat} {kvs : List (ByteArray × Value)} {bx : List (Nat × Int)} (h : EvI w W b kvs bx) (b0 b1 b2 b3 : Nat) (hb : bx = [(b0, 2), (b1, 0), (b2, 0), (b3, 1)]) (hk : kvs = evKvs b0 b1 b2 b3) :
    ∃ b' b0 b1 b2 b3, (Ending.returned (.map (some b)) = .returned (.map (some b')) ∧ Mp W b' (evKvs b0 b1 b2 b3) ∧ EvBoxes W w.heap.size b0 b1 b2 b3) ∧ Below w.heap.size w W := by
  subst hb hk
  have h0 := h.box (b0, 2) (by simp)
  have h1 := h.box (b1, 0) (by simp)
  have h2 := h.box (b2, 0) (by simp)
  have h3 := h.box (b3, 1) (by simp)
  exact ⟨b, b0, b1, b2, b3, ⟨rfl, h.mp, ⟨h0.1, h1.1, h2.1, h3.1⟩, h0.2, h1.2, h2.2, h3.2⟩, h.below⟩
set_option maxHeartbeats 8000000 in
set_option maxRecDepth 100000 in
theorem events_any (w : World) : Calls Tryd.prog 71 #[] w fun x w' => ∃ b b0 b1 b2 b3, (x = .returned (.map (some b)) ∧ Mp w' b (evKvs b0 b1 b2 b3) ∧ EvBoxes w' w.heap.size b0 b1 b2 b3) ∧ Below w.heap.size w w' := by
  have hmk : ∀ W : World, (Instr.makeMap 95 none).run Tryd.prog W = .ok (.map (some W.heap.size)) (W.alloc (.map #[] 0)) := fun W => rfl
  have hI0 : EvI w (w.alloc (.map #[] 0)) w.heap.size [] [] := ⟨(Below.refl w.heap.size w).alloc (Nat.le_refl _) (.map #[] 0), Mp.new w, Nat.le_refl _, fun p hp => by cases hp⟩
  go_enter Tryd.func71, Tryd.ntmps71
  go_wp2_with (first
    | (go_at_call 101; refine (named_I (by assumption) _).mono ?_; rintro x w' ⟨rfl, hI⟩)
    | (refine wpList_insert _ rfl (.tmp 2) _ _ 95 rfl 9 101 Tryd.underlying95 Tryd.underlying9 w.heap.size _ rfl (EvI.mp (by assumption)) _ _ rfl rfl rfl ?_; intro w1 m1 g1; have hI := EvI.ins (by assumption) g1 m1; clear m1 g1))
  go_ret
  rw [World.size_alloc] at hI
  exact hI.fin _ _ _ _ rfl rfl

end Go.Proofs.YtdedlchpjboceaaDoor.Px
end

section
/-
  The parser's 'command', walked: a command's tokens are read, or the failure's offset is recovered.
-/
namespace Go.Proofs.YtdedlchpjboceaaDoor.Px
open Go.RowKit Go.Shelf Go.Proofs.YtdedlchpjboceaaDoor.Lx Go.Proofs.YtdedlchpjboceaaDoorW.PrintWords Go.Proofs.YtdedlchpjboceaaDoorW.PrintLast Go.Proofs.YtdedlchpjboceaaDoorW.PrintMore
attribute [local go_sem] Oper.semAt_some

def atT : ByteArray := ⟨#[97, 116]⟩
def semiT : ByteArray := ⟨#[59]⟩
/-- The reader before a command. -/
def PreR (W : World) (R : Nat) (l : List Tok) (e : Int) : Prop :=
  ∃ A cap k nm vn a, Rd W R (.slice A l.length cap) e k nm vn a ∧ l.length ≤ cap ∧ Kd.C kT W A l.length l ∧ ∀ ad, A = some ad → ad.block < W.heap.size ∧ ad.block ≠ R ∧ ad.block < R
theorem RS.pre {b : Nat} {W : World} {R : Nat} {l : List Tok} {e : Int} {c : Cmd} (h : RS b W R l e c) : PreR W R l e := by
  obtain ⟨h1, h2, A, cap, vn, h3, h4, h5, h6, h7⟩ := h
  exact ⟨A, cap, _, _, vn, _, h3, h4, h5, fun ad e => ⟨Nat.lt_of_lt_of_le (h6 ad e).1 h2, (h6 ad e).2⟩⟩
theorem PreR.below {W W' : World} {R : Nat} {l : List Tok} {e : Int} (h : PreR W R l e) (hb : Below W.heap.size W W') : PreR W' R l e := by
  obtain ⟨A, cap, k, nm, vn, a, h3, h4, h5, h6⟩ := h
  exact ⟨A, cap, k, nm, vn, a, blk_below h3 hb, h4, Kd.C_below h5 hb, fun ad e => ⟨Nat.lt_of_lt_of_le (h6 ad e).1 hb.size, (h6 ad e).2⟩⟩
theorem next_pre {w : World} {R : Nat} {l : List Tok} {e : Int} (h : PreR w R l e) :
    Calls Tryd.prog 67 #[.pointer (some ⟨R, 0, none⟩)] w fun x w' => x = .returned (.agg #[.int .i64 (nextT l e).f0, .string (nextT l e).f1, .int .i64 (nextT l e).f2, .int .i64 (nextT l e).f3]) ∧ Below w.heap.size w w' := by
  obtain ⟨A, cap, k, nm, vn, a, h3, h4, h5, h6⟩ := h
  exact next_any R A cap l e w (by rw [blk_cell h3]; rfl) (by rw [blk_cell h3]; rfl) h5
/-- An empty command at an offset. -/
def cmd0 (a : Int) : Cmd := ⟨0, ⟨#[]⟩, [], a⟩
/-- The forms behind their first words. -/
def formC (s : ByteArray) : Option (Int × List It) :=
  if s = ⟨#[109, 101, 115, 104]⟩ then some (1, its_mesh) else if s = ⟨#[114, 111, 111, 116]⟩ then some (2, its_root) else if s = ⟨#[110, 111, 100, 101]⟩ then some (3, its_node) else if s = ⟨#[114, 117, 110]⟩ then some (11, its_run) else none
def formE (s : ByteArray) : Option (Int × List It) :=
  if s = ⟨#[109, 111, 118, 101]⟩ then some (4, its_named 2) else if s = ⟨#[102, 97, 105, 108]⟩ then some (5, its_named 0) else if s = ⟨#[115, 116, 97, 114, 116]⟩ then some (6, its_named 0) else if s = ⟨#[114, 101, 97, 100]⟩ then some (7, its_named 1)
  else if s = ⟨#[106, 97, 109]⟩ then some (8, its_jam) else if s = ⟨#[114, 101, 112, 108, 97, 121]⟩ then some (9, its_replay) else if s = ⟨#[112, 114, 111, 103, 114, 97, 109]⟩ then some (10, its_program) else none
/-- Behind the forms' choice. -/
def tailR (e : Int) (fm : ByteArray → Option (Int × List It)) (l : List Tok) (c : Cmd) : Res :=
  match fm (nextT l e).f1 with
  | none => .error ((nextT l e).f3, l)
  | some (k, its) => runIt e (its ++ [.W semiT]) l.tail { c with f0 := k }
/-- A command. -/
def cmdR (e : Int) (l : List Tok) : Res :=
  if (nextT l e).f1 = atT then
    (match runIt e (.W atT :: nums_ 1) l (cmd0 (nextT l e).f3) with
    | .error x => .error x
    | .ok (l1, c1) => tailR e formE l1 c1)
  else tailR e formC l (cmd0 (nextT l e).f3)
/-- What 'command' answers. -/
def PostC (R : Nat) (e : Int) (w : World) (r : Res) (x : Ending) (w' : World) : Prop :=
  w.grownBy w' (some R) ∧ match r with
    | .ok y => x = .returned (.tuple #[.int .i64 0, .bool true]) ∧ RS (w.heap.size + 2) w' R y.1 e y.2
    | .error y => x = .returned (.tuple #[.int .i64 y.1, .bool false]) ∧ ∃ c, RS (w.heap.size + 2) w' R y.2 e c

set_option maxHeartbeats 8000000 in
set_option maxRecDepth 100000 in
/-- The deferred closure where the frame panics: the failure's offset is laid, and false. -/
theorem catch_panicking (a x : Int) (P Q : Nat) (y : Bool) (w : World) (hp : w.heap[P]? = some (.cells #[.int .i64 x] 3 (0, 0))) (hq : w.heap[Q]? = some (.cells #[.bool y] 4 (0, 0))) (hne : P ≠ Q) :
    CallsD Tryd.prog 66 #[.pointer (some ⟨P, 0, none⟩), .pointer (some ⟨Q, 0, none⟩)] (.panicking (failAt a)) w fun e u' w' =>
      e = .returned (.tuple #[]) ∧ u' = .panicking [{ v := .iface 93 (.agg #[.int .i64 a]), recovered := true }] ∧ w' = (w.setCell ⟨P, 0, none⟩ (.int .i64 a)).setCell ⟨Q, 0, none⟩ (.bool false) := by
  have c0 : w.cell? ⟨P, 0, none⟩ = some (.int .i64 x) := by rw [blk_cell hp]; rfl
  have f0 := blk_frozen hp 0
  have hq' := blk_far hq ⟨P, 0, none⟩ (.int .i64 a) (Ne.symm hne)
  have c1 : (w.setCell ⟨P, 0, none⟩ (.int .i64 a)).cell? ⟨Q, 0, none⟩ = some (.bool y) := by rw [blk_cell hq']; rfl
  have f1 := blk_frozen hq' 0
  have hnn : ∀ w, (binOp .neq 20 (.iface 93 (.agg #[.int .i64 a])) .nilIface).run Tryd.prog w = .ok (.bool true) w := fun w => by kernel_rfl
  have hta : ∀ w, (Instr.typeAssert (.iface 93 (.agg #[.int .i64 a])) 20 93 false).run Tryd.prog w = .ok (.agg #[.int .i64 a]) w := fun w => by kernel_rfl
  have hfd : ∀ w, (Instr.field 93 (.agg #[.int .i64 a]) 0).run Tryd.prog w = .ok (.int .i64 a) w := fun w => by kernel_rfl
  refine callsD_of_wpS Tryd.func66 rfl fun c₀ cs hu => ?_
  apply wpS_seq
  apply wpS_region
  simp [wpOpsS, go_sem, recoverD, hu, failAt, Tryd.ntmps66, Exit.thenS]
  apply wpS_seq
  apply wpS_region
  simp [wpOpsS, go_sem, hnn, Exit.thenS, Act.put, Array.replicate]
  refine wpS_cond (t := true) (by simp [Act.eval]) ?_
  simp only [if_true]
  apply wpS_region
  simp [wpOpsS, go_sem, hta, hfd, c0, f0, c1, f1, bodyPostS, results, Tryd.results66]
set_option maxHeartbeats 8000000 in
set_option maxRecDepth 100000 in
/-- .. where the frame returns: nothing. -/
theorem catch_idle (P Q : Nat) (w : World) :
    CallsD Tryd.prog 66 #[.pointer (some ⟨P, 0, none⟩), .pointer (some ⟨Q, 0, none⟩)] .returning w fun e u' w' => e = .returned (.tuple #[]) ∧ u' = .returning ∧ w' = w := by
  have hnn : ∀ w, (binOp .neq 20 .nilIface .nilIface).run Tryd.prog w = .ok (.bool false) w := fun w => by kernel_rfl
  refine callsD_of_wpS Tryd.func66 rfl fun c₀ cs hu => ?_
  apply wpS_seq
  apply wpS_region
  simp [wpOpsS, go_sem, recoverD, hu, Tryd.ntmps66, Exit.thenS]
  apply wpS_seq
  apply wpS_region
  simp [wpOpsS, go_sem, hnn, Exit.thenS, Act.put, Array.replicate]
  refine wpS_cond (t := false) (by simp [Act.eval]) ?_
  simp only [Bool.false_eq_true, if_false]
  refine wpS_of_wp (wp_skip ?_)
  cases c₀
  simp_all [bodyPostS, results, Tryd.results66, Exit.thenS]

/-- The frame's two result boxes, of the reader's step since they were made. -/
structure CI (w : World) (R : Nat) (W : World) : Prop where
  fr : Fr R (w.heap.size + 2) w W
  b0 : ∃ x, W.heap[w.heap.size]? = some (.cells #[.int .i64 x] 3 (0, 0))
  b1 : ∃ y, W.heap[w.heap.size + 1]? = some (.cells #[.bool y] 4 (0, 0))
  lt : R < w.heap.size
theorem CI.step {w W W' : World} {R : Nat} (h : CI w R W) (hf : Fr R (w.heap.size + 2) W W') : CI w R W' := by
  have hr := h.lt
  obtain ⟨x, hx⟩ := h.b0
  obtain ⟨y, hy⟩ := h.b1
  exact ⟨h.fr.trans hf, ⟨x, hf.kept hx (by omega) (.inr (by omega))⟩, ⟨y, hf.kept hy (by omega) (.inr (by omega))⟩, hr⟩
theorem CI.grown {w W : World} {R : Nat} (h : CI w R W) : w.grownBy W (some R) :=
  ⟨h.fr.os, h.fr.tape, h.fr.output, h.fr.size, fun k hk hne => h.fr.block k hk (fun e => hne (by rw [e])) (.inl (by omega))⟩
/-- Stores to the frame's two boxes. -/
theorem RS.boxes {w W : World} {R : Nat} {l : List Tok} {e : Int} {c : Cmd} (h : RS (w.heap.size + 2) W R l e c) (hlt : R < w.heap.size) (x : Int) (y : Bool) (hx : W.heap[w.heap.size]? = some (.cells #[.int .i64 x] 3 (0, 0))) (hy : W.heap[w.heap.size + 1]? = some (.cells #[.bool y] 4 (0, 0))) (u v : Value) :
    RS (w.heap.size + 2) ((W.setCell ⟨w.heap.size, 0, none⟩ u).setCell ⟨w.heap.size + 1, 0, none⟩ v) R l e c := by
  obtain ⟨h1, h2, A, cap, vn, h3, h4, h5, h6, h7⟩ := h
  have hb : ∀ k, k ≠ w.heap.size → k ≠ w.heap.size + 1 → ((W.setCell ⟨w.heap.size, 0, none⟩ u).setCell ⟨w.heap.size + 1, 0, none⟩ v).heap[k]? = W.heap[k]? := fun k k1 k2 => by
    rw [Below.heap_setCell _ _ _ _ k2, Below.heap_setCell _ _ _ _ k1]
  refine ⟨h1, by rw [size_set, size_set]; exact h2, A, cap, vn, (hb R (by omega) (by omega)).trans h3, h4, C_same h5 (fun ad e _ => hb _ (by have := (h6 ad e).2.2; omega) (by have := (h6 ad e).2.2; omega)), h6, ?_⟩
  exact Kd.R_mono (Kd.R_step (Kd.R_bound h7) (fun k hk hlt => hb k (by have := hk.2.1; omega) (by have := hk.2.1; omega))) (fun _ _ => trivial)
/-- The panicking end. -/
theorem fin_panic {w W : World} {R : Nat} {l : List Tok} {e a : Int} {tmps : Array Value} {r : Res} (hI : CI w R W) (hS : ∃ c, RS (w.heap.size + 2) W R l e c) (hr : r = .error (a, l))
    (h2 : tmps.getD 2 undef = .pointer (some ⟨w.heap.size, 0, none⟩)) (h3 : tmps.getD 3 undef = .pointer (some ⟨w.heap.size + 1, 0, none⟩)) :
    bodyPostD Tryd.prog Tryd.f43 (PostC R e w r) (.panic (failAt a)) { tmps := tmps, defers := [{ target := .fn (.func 66) #[.pointer (some ⟨w.heap.size, 0, none⟩), .pointer (some ⟨w.heap.size + 1, 0, none⟩)], args := #[] }] } W := by
  subst hr
  obtain ⟨x, hx⟩ := hI.b0
  obtain ⟨y, hy⟩ := hI.b1
  have hlt := hI.lt
  show Leaves _ _ _ _ _ _ _
  refine leaves_cons (f := 66) (args := #[.pointer (some ⟨w.heap.size, 0, none⟩), .pointer (some ⟨w.heap.size + 1, 0, none⟩)]) (by simp [failAt]) (by simp [go_sem]) ?_
  refine (catch_panicking a x w.heap.size (w.heap.size + 1) y W hx hy (by omega)).mono ?_
  rintro e' u' w'' ⟨rfl, rfl, rfl⟩
  have g0 : ((W.setCell ⟨w.heap.size, 0, none⟩ (.int .i64 a)).setCell ⟨w.heap.size + 1, 0, none⟩ (.bool false)).heap[w.heap.size]? = some (.cells #[.int .i64 a] 3 (0, 0)) := blk_far ((blk_set hx 0 _).trans rfl) ⟨w.heap.size + 1, 0, none⟩ _ (by show w.heap.size ≠ w.heap.size + 1; omega)
  have g1 : ((W.setCell ⟨w.heap.size, 0, none⟩ (.int .i64 a)).setCell ⟨w.heap.size + 1, 0, none⟩ (.bool false)).heap[w.heap.size + 1]? = some (.cells #[.bool false] 4 (0, 0)) := (blk_set (blk_far hy ⟨w.heap.size, 0, none⟩ _ (by show w.heap.size + 1 ≠ w.heap.size; omega)) 0 _).trans rfl
  have c0 := blk_cell g0 0
  have c1 := blk_cell g1 0
  simp at c0 c1
  show Leaves _ _ _ _ [] (settle _) _
  refine ⟨.tuple #[.int .i64 a, .bool false], ?_, ⟨?_, rfl, ?_⟩⟩
  · simp only [Array.getD_eq_getD_getElem?] at h2 h3
    simp [results, Tryd.results43, go_sem, h2, h3, c0, c1]
  · have hg := hI.grown
    refine ⟨hg.os, hg.tape, hg.output, by rw [size_set, size_set]; exact hg.size, fun k hk hne => ?_⟩
    rw [Below.heap_setCell _ _ _ _ (show k ≠ w.heap.size + 1 by omega), Below.heap_setCell _ _ _ _ (show k ≠ w.heap.size by omega)]
    exact hg.block k hk hne
  · obtain ⟨c, hS⟩ := hS
    exact ⟨c, hS.boxes hlt x y hx hy _ _⟩
/-- The returning end, behind the stores of the results. -/
theorem fin_ret {w W : World} {R : Nat} {l : List Tok} {e : Int} {c : Cmd} {tmps : Array Value} {r : Res} (hI : CI w R W) (hS : RS (w.heap.size + 2) W R l e c) (hr : r = .ok (l, c))
    (h2 : tmps.getD 2 undef = .pointer (some ⟨w.heap.size, 0, none⟩)) (h3 : tmps.getD 3 undef = .pointer (some ⟨w.heap.size + 1, 0, none⟩)) :
    bodyPostD Tryd.prog Tryd.f43 (PostC R e w r) .ret { tmps := tmps, defers := [{ target := .fn (.func 66) #[.pointer (some ⟨w.heap.size, 0, none⟩), .pointer (some ⟨w.heap.size + 1, 0, none⟩)], args := #[] }] } ((W.setCell ⟨w.heap.size, 0, none⟩ (.int .i64 0)).setCell ⟨w.heap.size + 1, 0, none⟩ (.bool true)) := by
  subst hr
  obtain ⟨x, hx⟩ := hI.b0
  obtain ⟨y, hy⟩ := hI.b1
  have hlt := hI.lt
  show Leaves _ _ _ _ _ _ _
  refine leaves_cons (f := 66) (args := #[.pointer (some ⟨w.heap.size, 0, none⟩), .pointer (some ⟨w.heap.size + 1, 0, none⟩)]) (by simp) (by simp [go_sem]) ?_
  refine (catch_idle w.heap.size (w.heap.size + 1) _).mono ?_
  rintro e' u' w'' ⟨rfl, rfl, rfl⟩
  have g0 : ((W.setCell ⟨w.heap.size, 0, none⟩ (.int .i64 0)).setCell ⟨w.heap.size + 1, 0, none⟩ (.bool true)).heap[w.heap.size]? = some (.cells #[.int .i64 0] 3 (0, 0)) := blk_far ((blk_set hx 0 _).trans rfl) ⟨w.heap.size + 1, 0, none⟩ _ (by show w.heap.size ≠ w.heap.size + 1; omega)
  have g1 : ((W.setCell ⟨w.heap.size, 0, none⟩ (.int .i64 0)).setCell ⟨w.heap.size + 1, 0, none⟩ (.bool true)).heap[w.heap.size + 1]? = some (.cells #[.bool true] 4 (0, 0)) := (blk_set (blk_far hy ⟨w.heap.size, 0, none⟩ _ (by show w.heap.size + 1 ≠ w.heap.size; omega)) 0 _).trans rfl
  have c0 := blk_cell g0 0
  have c1 := blk_cell g1 0
  simp at c0 c1
  show Leaves _ _ _ _ [] (settle _) _
  refine ⟨.tuple #[.int .i64 0, .bool true], ?_, ⟨?_, rfl, hS.boxes hlt x y hx hy _ _⟩⟩
  · simp only [Array.getD_eq_getD_getElem?] at h2 h3
    simp [results, Tryd.results43, go_sem, h2, h3, c0, c1]
  · have hg := hI.grown
    refine ⟨hg.os, hg.tape, hg.output, by rw [size_set, size_set]; exact hg.size, fun k hk hne => ?_⟩
    rw [Below.heap_setCell _ _ _ _ (show k ≠ w.heap.size + 1 by omega), Below.heap_setCell _ _ _ _ (show k ≠ w.heap.size by omega)]
    exact hg.block k hk hne

end Go.Proofs.YtdedlchpjboceaaDoor.Px
end
