/-
  DERIVED: THE SHELF's CONTRACTS AT THIS DUMP, IN PLAIN WORDS (tools/lay-plain.mjs out of 'TryzShelf.lean', which tools/lay-shelf.mjs wrote): THE SAME DECLARATIONS UNDER THE SAME NAMES: 'import', 'namespace', 'open', 'def', 'theorem' AND NOTHING ELSE: no command of the shelf's: FOR A HAND-IN. Each laying: the table of numbers ('.._ren') and one theorem, a field a fact of the dump's own or the kernel's comparison; each contract: ONE APPLICATION.
-/
import Derived.Shelf.Strconv.Itoa0
import Derived.Shelf.Strconv.Itoa1
import Derived.Shelf.LaysM
import Derived.Shelf.Strconv.Itoa2
import Derived.Shelf.Strconv.Itoa3
import Derived.Shelf.Strconv.Itoa4
import Derived.Shelf.Strconv.ParseIntEmpty
import Derived.Shelf.Strconv.Clone
import Derived.Shelf.Strconv.SyntaxError
import Derived.Shelf.LaysC
import Derived.Shelf.Strconv.ToError
import Derived.Shelf.Strconv.Lower
import Derived.Shelf.Strconv.ParseUint10
import Derived.Shelf.Strconv.ParseUint10Empty
import Derived.Shelf.Strconv.ParseUint10Any
import Derived.Shelf.Strconv.ParseInt10
import Derived.Shelf.Strconv.RangeError
import Derived.Shelf.Strconv.ToErrorRange
import Derived.Shelf.Strconv.ParseUintEmpty
import Derived.Shelf.Strconv.ParseUint10b64
import Derived.Shelf.Strconv.ParseUint10b32
import Derived.Shelf.Strconv.ParseUint10b16
import Derived.Shelf.Strconv.ParseUint10b8
import Derived.Shelf.Strconv.ParseUint10At
import Derived.Shelf.Strconv.ParseInt10At64
import Derived.Shelf.Strconv.ParseInt10At32
import Derived.Shelf.Strconv.ParseInt10At16
import Derived.Shelf.Strconv.ParseInt10At8
import Derived.Shelf.Strconv.ParseInt10All
import Derived.Shelf.Strconv.ParseIntPublic10
import Derived.Shelf.Strconv.ErrVarParseInt
import Derived.Shelf.Unicode.Decode
import Derived.Shelf.Unicode.DecodeSlow
import Derived.Shelf.Unicode.DecodeAny
import Derived.Shelf.Slices.Turned
import Derived.Test.YticndoihkfbpoaaGreatDoorProg
namespace Go.Proofs
open Go.Shelf
def Tryz.laysM171_ren : Go.Shelf.Ren := ⟨fun | 171 => 135 | 243 => 161 | 246 => 179 | 283 => 208 | 284 => 209 | 285 => 210 | 286 => 211 | 129 => 224 | 317 => 223 | 318 => 225 | 319 => 226 | 320 => 227 | 337 => 236 | 338 => 237 | n => n, fun | 3 => 3 | 9 => 9 | 2 => 2 | 4 => 4 | 171 => 231 | 0 => 0 | 53 => 197 | 37 => 69 | 5 => 5 | 173 => 234 | 212 => 248 | 51 => 249 | 20 => 20 | 213 => 250 | 46 => 70 | 232 => 260 | 233 => 261 | n => n, fun | 17 => 5 | 18 => 6 | 19 => 7 | n => n⟩
theorem Tryz.laysM171 : Go.Proofs.LaysM.n171 Tryz.prog Tryz.laysM171_ren := {
 mixed := by kernel_rfl
 f129 := Tryz.func224.trans (congrArg some (by kernel_rfl))
 f171 := Tryz.func135.trans (congrArg some (by kernel_rfl))
 f243 := Tryz.func161.trans (congrArg some (by kernel_rfl))
 f246 := Tryz.func179.trans (congrArg some (by kernel_rfl))
 f283 := Tryz.func208.trans (congrArg some (by kernel_rfl))
 f284 := Tryz.func209.trans (congrArg some (by kernel_rfl))
 f285 := Tryz.func210.trans (congrArg some (by kernel_rfl))
 f286 := Tryz.func211.trans (congrArg some (by kernel_rfl))
 f317 := Tryz.func223.trans (congrArg some (by kernel_rfl))
 f318 := Tryz.func225.trans (congrArg some (by kernel_rfl))
 f319 := Tryz.func226.trans (congrArg some (by kernel_rfl))
 f320 := Tryz.func227.trans (congrArg some (by kernel_rfl))
 f337 := Tryz.func236.trans (congrArg some (by kernel_rfl))
 f338 := Tryz.func237.trans (congrArg some (by kernel_rfl))
 t0 := Tryz.underlying0
 a0 := Tryz.isAgg0
 z0 := Tryz.sizeOf0
 v0 := Tryz.zeroValue0
 t2 := Tryz.underlying2
 a2 := Tryz.isAgg2
 z2 := Tryz.sizeOf2
 v2 := Tryz.zeroValue2
 t3 := Tryz.underlying3
 a3 := Tryz.isAgg3
 z3 := Tryz.sizeOf3
 v3 := Tryz.zeroValue3
 t4 := Tryz.underlying4
 a4 := Tryz.isAgg4
 z4 := Tryz.sizeOf4
 v4 := Tryz.zeroValue4
 t5 := Tryz.underlying5
 a5 := Tryz.isAgg5
 z5 := Tryz.sizeOf5
 v5 := Tryz.zeroValue5
 t9 := Tryz.underlying9
 a9 := Tryz.isAgg9
 z9 := Tryz.sizeOf9
 v9 := Tryz.zeroValue9
 t20 := Tryz.underlying20
 a20 := Tryz.isAgg20
 z20 := Tryz.sizeOf20
 v20 := Tryz.zeroValue20
 t37 := Tryz.underlying69
 a37 := Tryz.isAgg69
 z37 := Tryz.sizeOf69
 v37 := Tryz.zeroValue69
 t46 := Tryz.underlying70
 a46 := Tryz.isAgg70
 z46 := Tryz.sizeOf70
 v46 := Tryz.zeroValue70
 t51 := Tryz.underlying249
 a51 := Tryz.isAgg249
 z51 := Tryz.sizeOf249
 v51 := Tryz.zeroValue249
 t53 := Tryz.underlying197
 a53 := Tryz.isAgg197
 z53 := Tryz.sizeOf197
 v53 := Tryz.zeroValue197
 t171 := Tryz.underlying231
 a171 := Tryz.isAgg231
 z171 := Tryz.sizeOf231
 v171 := Tryz.zeroValue231
 t173 := Tryz.underlying234
 a173 := Tryz.isAgg234
 z173 := Tryz.sizeOf234
 v173 := Tryz.zeroValue234
 t212 := Tryz.underlying248
 a212 := Tryz.isAgg248
 z212 := Tryz.sizeOf248
 v212 := Tryz.zeroValue248
 t213 := Tryz.underlying250
 a213 := Tryz.isAgg250
 z213 := Tryz.sizeOf250
 t232 := Tryz.underlying260
 a232 := Tryz.isAgg260
 z232 := Tryz.sizeOf260
 v232 := Tryz.zeroValue260
 t233 := Tryz.underlying261
 a233 := Tryz.isAgg261
 z233 := Tryz.sizeOf261
 v233 := Tryz.zeroValue261
 g17 := by kernel_rfl
 g18 := by kernel_rfl
 g19 := by kernel_rfl
 i0 := by kernel_rfl
 i2 := by kernel_rfl
 i3 := by kernel_rfl
 i4 := by kernel_rfl
 i5 := by kernel_rfl
 i9 := by kernel_rfl
 i20 := by kernel_rfl
 i37 := by kernel_rfl
 i46 := by kernel_rfl
 i51 := by kernel_rfl
 i53 := by kernel_rfl
 i171 := by kernel_rfl
 i173 := by kernel_rfl
 i212 := by kernel_rfl
 i232 := by kernel_rfl
 i233 := by kernel_rfl
 m17 := by kernel_rfl
 m18 := by kernel_rfl
 m19 := by kernel_rfl }
open Go.RowKit Go.Sort Go.Lib in
theorem Tryz.strconv_Itoa (n : Int) (h0 : -9223372036854775808 ≤ n) (h1 : n ≤ 9223372036854775807) (w : World) (htab : Lib.TabIs Tryz.prog w "internal/strconv.uint64pow10" .u64 Lib.pow10Tab) :
 Calls Tryz.prog 135 #[.int .i64 n] w fun e w' => e = .returned (.string ⟨(Lib.itoa n).toArray⟩) ∧ ∃ k os, w' = grow (w.drewN k) os := Any.strconv_Itoa Tryz.laysM171 n h0 h1 w htab
def Tryz.laysM173_ren : Go.Shelf.Ren := ⟨fun | 173 => 150 | 246 => 179 | 283 => 208 | 284 => 209 | 285 => 210 | 286 => 211 | 129 => 224 | 317 => 223 | 318 => 225 | 319 => 226 | 320 => 227 | 337 => 236 | 338 => 237 | n => n, fun | 2 => 2 | 3 => 3 | 9 => 9 | 4 => 4 | 171 => 231 | 0 => 0 | 53 => 197 | 37 => 69 | 5 => 5 | 173 => 234 | 212 => 248 | 51 => 249 | 20 => 20 | 213 => 250 | 46 => 70 | 232 => 260 | 233 => 261 | n => n, fun | 17 => 5 | 18 => 6 | 19 => 7 | n => n⟩
theorem Tryz.laysM173 : Go.Proofs.LaysM.n173 Tryz.prog Tryz.laysM173_ren := {
 mixed := by kernel_rfl
 f129 := Tryz.func224.trans (congrArg some (by kernel_rfl))
 f173 := Tryz.func150.trans (congrArg some (by kernel_rfl))
 f246 := Tryz.func179.trans (congrArg some (by kernel_rfl))
 f283 := Tryz.func208.trans (congrArg some (by kernel_rfl))
 f284 := Tryz.func209.trans (congrArg some (by kernel_rfl))
 f285 := Tryz.func210.trans (congrArg some (by kernel_rfl))
 f286 := Tryz.func211.trans (congrArg some (by kernel_rfl))
 f317 := Tryz.func223.trans (congrArg some (by kernel_rfl))
 f318 := Tryz.func225.trans (congrArg some (by kernel_rfl))
 f319 := Tryz.func226.trans (congrArg some (by kernel_rfl))
 f320 := Tryz.func227.trans (congrArg some (by kernel_rfl))
 f337 := Tryz.func236.trans (congrArg some (by kernel_rfl))
 f338 := Tryz.func237.trans (congrArg some (by kernel_rfl))
 t0 := Tryz.underlying0
 a0 := Tryz.isAgg0
 z0 := Tryz.sizeOf0
 v0 := Tryz.zeroValue0
 t2 := Tryz.underlying2
 a2 := Tryz.isAgg2
 z2 := Tryz.sizeOf2
 v2 := Tryz.zeroValue2
 t3 := Tryz.underlying3
 a3 := Tryz.isAgg3
 z3 := Tryz.sizeOf3
 v3 := Tryz.zeroValue3
 t4 := Tryz.underlying4
 a4 := Tryz.isAgg4
 z4 := Tryz.sizeOf4
 v4 := Tryz.zeroValue4
 t5 := Tryz.underlying5
 a5 := Tryz.isAgg5
 z5 := Tryz.sizeOf5
 v5 := Tryz.zeroValue5
 t9 := Tryz.underlying9
 a9 := Tryz.isAgg9
 z9 := Tryz.sizeOf9
 v9 := Tryz.zeroValue9
 t20 := Tryz.underlying20
 a20 := Tryz.isAgg20
 z20 := Tryz.sizeOf20
 v20 := Tryz.zeroValue20
 t37 := Tryz.underlying69
 a37 := Tryz.isAgg69
 z37 := Tryz.sizeOf69
 v37 := Tryz.zeroValue69
 t46 := Tryz.underlying70
 a46 := Tryz.isAgg70
 z46 := Tryz.sizeOf70
 v46 := Tryz.zeroValue70
 t51 := Tryz.underlying249
 a51 := Tryz.isAgg249
 z51 := Tryz.sizeOf249
 v51 := Tryz.zeroValue249
 t53 := Tryz.underlying197
 a53 := Tryz.isAgg197
 z53 := Tryz.sizeOf197
 v53 := Tryz.zeroValue197
 t171 := Tryz.underlying231
 a171 := Tryz.isAgg231
 z171 := Tryz.sizeOf231
 v171 := Tryz.zeroValue231
 t173 := Tryz.underlying234
 a173 := Tryz.isAgg234
 z173 := Tryz.sizeOf234
 v173 := Tryz.zeroValue234
 t212 := Tryz.underlying248
 a212 := Tryz.isAgg248
 z212 := Tryz.sizeOf248
 v212 := Tryz.zeroValue248
 t213 := Tryz.underlying250
 a213 := Tryz.isAgg250
 z213 := Tryz.sizeOf250
 t232 := Tryz.underlying260
 a232 := Tryz.isAgg260
 z232 := Tryz.sizeOf260
 v232 := Tryz.zeroValue260
 t233 := Tryz.underlying261
 a233 := Tryz.isAgg261
 z233 := Tryz.sizeOf261
 v233 := Tryz.zeroValue261
 g17 := by kernel_rfl
 g18 := by kernel_rfl
 g19 := by kernel_rfl
 i0 := by kernel_rfl
 i2 := by kernel_rfl
 i3 := by kernel_rfl
 i4 := by kernel_rfl
 i5 := by kernel_rfl
 i9 := by kernel_rfl
 i20 := by kernel_rfl
 i37 := by kernel_rfl
 i46 := by kernel_rfl
 i51 := by kernel_rfl
 i53 := by kernel_rfl
 i171 := by kernel_rfl
 i173 := by kernel_rfl
 i212 := by kernel_rfl
 i232 := by kernel_rfl
 i233 := by kernel_rfl
 m17 := by kernel_rfl
 m18 := by kernel_rfl
 m19 := by kernel_rfl }
open Go.RowKit Go.Sort Go.Lib in
theorem Tryz.strconv_FormatInt_10 (n : Int) (h0 : -9223372036854775808 ≤ n) (h1 : n ≤ 9223372036854775807) (w : World) (htab : Lib.TabIs Tryz.prog w "internal/strconv.uint64pow10" .u64 Lib.pow10Tab) :
 Calls Tryz.prog 150 #[.int .i64 n, .int .i64 10] w fun e w' => e = .returned (.string ⟨(Lib.itoa n).toArray⟩) ∧ ∃ k os, w' = grow (w.drewN k) os := Any.strconv_FormatInt_10 Tryz.laysM173 n h0 h1 w htab
def Tryz.laysC174_ren : Go.Shelf.Ren := ⟨fun | 174 => 149 | 247 => 177 | 245 => 178 | 287 => 203 | 279 => 204 | 280 => 205 | 281 => 206 | 282 => 207 | 321 => 219 | 322 => 220 | 316 => 221 | 171 => 135 | 205 => 222 | 243 => 161 | 246 => 179 | 283 => 208 | 284 => 209 | 285 => 210 | 286 => 211 | 129 => 224 | 317 => 223 | 318 => 225 | 319 => 226 | 320 => 227 | 337 => 236 | 338 => 237 | n => n, fun | 9 => 9 | 3 => 3 | 2 => 2 | 75 => 158 | 85 => 191 | 4 => 4 | 167 => 225 | 5 => 5 | 53 => 197 | 175 => 226 | 46 => 70 | 168 => 228 | 37 => 69 | 0 => 0 | 210 => 245 | 21 => 21 | 127 => 182 | 145 => 258 | 143 => 256 | 171 => 231 | 173 => 234 | 212 => 248 | 51 => 249 | 20 => 20 | 213 => 250 | 232 => 260 | 233 => 261 | 80 => 138 | n => n, fun | 15 => 3 | 16 => 4 | 17 => 5 | 18 => 6 | 19 => 7 | n => n⟩
theorem Tryz.laysC174 : Go.Proofs.LaysC.n174 Tryz.prog Tryz.laysC174_ren := {
 mixed := by kernel_rfl
 f129 := Tryz.func224.trans (congrArg some (by kernel_rfl))
 f171 := Tryz.func135.trans (congrArg some (by kernel_rfl))
 f174 := Tryz.func149.trans (congrArg some (by kernel_rfl))
 f205 := Tryz.func222.trans (congrArg some (by kernel_rfl))
 f243 := Tryz.func161.trans (congrArg some (by kernel_rfl))
 f245 := Tryz.func178.trans (congrArg some (by kernel_rfl))
 f246 := Tryz.func179.trans (congrArg some (by kernel_rfl))
 f247 := Tryz.func177.trans (congrArg some (by kernel_rfl))
 f279 := Tryz.func204.trans (congrArg some (by kernel_rfl))
 f280 := Tryz.func205.trans (congrArg some (by kernel_rfl))
 f281 := Tryz.func206.trans (congrArg some (by kernel_rfl))
 f282 := Tryz.func207.trans (congrArg some (by kernel_rfl))
 f283 := Tryz.func208.trans (congrArg some (by kernel_rfl))
 f284 := Tryz.func209.trans (congrArg some (by kernel_rfl))
 f285 := Tryz.func210.trans (congrArg some (by kernel_rfl))
 f286 := Tryz.func211.trans (congrArg some (by kernel_rfl))
 f287 := Tryz.func203.trans (congrArg some (by kernel_rfl))
 f316 := Tryz.func221.trans (congrArg some (by kernel_rfl))
 f317 := Tryz.func223.trans (congrArg some (by kernel_rfl))
 f318 := Tryz.func225.trans (congrArg some (by kernel_rfl))
 f319 := Tryz.func226.trans (congrArg some (by kernel_rfl))
 f320 := Tryz.func227.trans (congrArg some (by kernel_rfl))
 f321 := Tryz.func219.trans (congrArg some (by kernel_rfl))
 f322 := Tryz.func220.trans (congrArg some (by kernel_rfl))
 f337 := Tryz.func236.trans (congrArg some (by kernel_rfl))
 f338 := Tryz.func237.trans (congrArg some (by kernel_rfl))
 t0 := Tryz.underlying0
 a0 := Tryz.isAgg0
 z0 := Tryz.sizeOf0
 v0 := Tryz.zeroValue0
 t2 := Tryz.underlying2
 a2 := Tryz.isAgg2
 z2 := Tryz.sizeOf2
 v2 := Tryz.zeroValue2
 t3 := Tryz.underlying3
 a3 := Tryz.isAgg3
 z3 := Tryz.sizeOf3
 v3 := Tryz.zeroValue3
 t4 := Tryz.underlying4
 a4 := Tryz.isAgg4
 z4 := Tryz.sizeOf4
 v4 := Tryz.zeroValue4
 t5 := Tryz.underlying5
 a5 := Tryz.isAgg5
 z5 := Tryz.sizeOf5
 v5 := Tryz.zeroValue5
 t9 := Tryz.underlying9
 a9 := Tryz.isAgg9
 z9 := Tryz.sizeOf9
 v9 := Tryz.zeroValue9
 t20 := Tryz.underlying20
 a20 := Tryz.isAgg20
 z20 := Tryz.sizeOf20
 v20 := Tryz.zeroValue20
 t21 := Tryz.underlying21
 a21 := Tryz.isAgg21
 z21 := Tryz.sizeOf21
 v21 := Tryz.zeroValue21
 t37 := Tryz.underlying69
 a37 := Tryz.isAgg69
 z37 := Tryz.sizeOf69
 v37 := Tryz.zeroValue69
 t46 := Tryz.underlying70
 a46 := Tryz.isAgg70
 z46 := Tryz.sizeOf70
 v46 := Tryz.zeroValue70
 t51 := Tryz.underlying249
 a51 := Tryz.isAgg249
 z51 := Tryz.sizeOf249
 v51 := Tryz.zeroValue249
 t53 := Tryz.underlying197
 a53 := Tryz.isAgg197
 z53 := Tryz.sizeOf197
 v53 := Tryz.zeroValue197
 t75 := Tryz.underlying158
 a75 := Tryz.isAgg158
 z75 := Tryz.sizeOf158
 v75 := Tryz.zeroValue158
 t85 := Tryz.underlying191
 a85 := Tryz.isAgg191
 z85 := Tryz.sizeOf191
 v85 := Tryz.zeroValue191
 t127 := Tryz.underlying182
 a127 := Tryz.isAgg182
 z127 := Tryz.sizeOf182
 v127 := Tryz.zeroValue182
 t143 := Tryz.underlying256
 a143 := Tryz.isAgg256
 z143 := Tryz.sizeOf256
 v143 := Tryz.zeroValue256
 t145 := Tryz.underlying258
 a145 := Tryz.isAgg258
 z145 := Tryz.sizeOf258
 v145 := Tryz.zeroValue258
 t167 := Tryz.underlying225
 a167 := Tryz.isAgg225
 z167 := Tryz.sizeOf225
 v167 := Tryz.zeroValue225
 t168 := Tryz.underlying228
 a168 := Tryz.isAgg228
 z168 := Tryz.sizeOf228
 v168 := Tryz.zeroValue228
 t171 := Tryz.underlying231
 a171 := Tryz.isAgg231
 z171 := Tryz.sizeOf231
 v171 := Tryz.zeroValue231
 t173 := Tryz.underlying234
 a173 := Tryz.isAgg234
 z173 := Tryz.sizeOf234
 v173 := Tryz.zeroValue234
 t175 := Tryz.underlying226
 a175 := Tryz.isAgg226
 z175 := Tryz.sizeOf226
 v175 := Tryz.zeroValue226
 t210 := Tryz.underlying245
 a210 := Tryz.isAgg245
 z210 := Tryz.sizeOf245
 v210 := Tryz.zeroValue245
 t212 := Tryz.underlying248
 a212 := Tryz.isAgg248
 z212 := Tryz.sizeOf248
 v212 := Tryz.zeroValue248
 t213 := Tryz.underlying250
 a213 := Tryz.isAgg250
 z213 := Tryz.sizeOf250
 t232 := Tryz.underlying260
 a232 := Tryz.isAgg260
 z232 := Tryz.sizeOf260
 v232 := Tryz.zeroValue260
 t233 := Tryz.underlying261
 a233 := Tryz.isAgg261
 z233 := Tryz.sizeOf261
 v233 := Tryz.zeroValue261
 g15 := by kernel_rfl
 g16 := by kernel_rfl
 g17 := by kernel_rfl
 g18 := by kernel_rfl
 g19 := by kernel_rfl
 t80 := Tryz.underlying138
 a80 := Tryz.isAgg138
 z80 := Tryz.sizeOf138
 v80 := Tryz.zeroValue138
 i0 := by kernel_rfl
 i2 := by kernel_rfl
 i3 := by kernel_rfl
 i4 := by kernel_rfl
 i5 := by kernel_rfl
 i9 := by kernel_rfl
 i20 := by kernel_rfl
 i21 := by kernel_rfl
 i37 := by kernel_rfl
 i46 := by kernel_rfl
 i51 := by kernel_rfl
 i53 := by kernel_rfl
 i75 := by kernel_rfl
 i80 := by kernel_rfl
 i85 := by kernel_rfl
 i127 := by kernel_rfl
 i143 := by kernel_rfl
 i145 := by kernel_rfl
 i167 := by kernel_rfl
 i168 := by kernel_rfl
 i171 := by kernel_rfl
 i173 := by kernel_rfl
 i175 := by kernel_rfl
 i210 := by kernel_rfl
 i212 := by kernel_rfl
 i232 := by kernel_rfl
 i233 := by kernel_rfl
 m15 := by kernel_rfl
 m16 := by kernel_rfl
 m17 := by kernel_rfl
 m18 := by kernel_rfl
 m19 := by kernel_rfl
 c0 := by kernel_rfl
 c2 := by kernel_rfl
 c3 := by kernel_rfl
 c4 := by kernel_rfl
 c5 := by kernel_rfl
 c9 := by kernel_rfl
 c20 := by kernel_rfl
 c21 := by kernel_rfl
 c37 := by kernel_rfl
 c46 := by kernel_rfl
 c51 := by kernel_rfl
 c53 := by kernel_rfl
 c75 := by kernel_rfl
 c80 := by kernel_rfl
 c85 := by kernel_rfl
 c127 := by kernel_rfl
 c143 := by kernel_rfl
 c145 := by kernel_rfl
 c167 := by kernel_rfl
 c168 := by kernel_rfl
 c171 := by kernel_rfl
 c173 := by kernel_rfl
 c175 := by kernel_rfl
 c210 := by kernel_rfl
 c212 := by kernel_rfl
 c213 := by kernel_rfl
 c232 := by kernel_rfl
 c233 := by kernel_rfl }
open Go.RowKit in
theorem Tryz.strconv_ParseInt_10_at64_ok (s : ByteArray) (hmax : s.size ≤ 9223372036854775806) (v : Int) (h : Lib.parseIntB 64 s.data.toList = .ok v) (w : World) :
 Calls Tryz.prog 149 #[.string s, .int .i64 10, .int .i64 64] w fun e w' => e = .returned (.tuple #[.int .i64 v, .nilIface]) ∧ (w' = w ∨ ∃ t, w' = Lib.bytesWorld w 5 t) := Any.strconv_ParseInt_10_at64_ok Tryz.laysC174 s hmax v h w
open Go.RowKit in
theorem Tryz.strconv_ParseInt_10_at64_syntax (s : ByteArray) (hlim : s.size ≤ 281474976710656) (h : Lib.parseIntB 64 s.data.toList = Lib.parseIntB 64 []) (ev : Value) (w : World) (hv : w.cell? ⟨3, 0, none⟩ = some ev) (hev : ev = .nilIface ∨ ∃ te pe, ev = .iface te pe) :
 Calls Tryz.prog 149 #[.string s, .int .i64 10, .int .i64 64] w fun e w' => ∃ N, e = .returned (.tuple #[.int .i64 (0), .iface 228 (.pointer (some ⟨N, 0, none⟩))]) ∧ w.heap.size ≤ N ∧ w'.heap[N]? = some (.cells #[.string ⟨#[80, 97, 114, 115, 101, 73, 110, 116]⟩, .string s, ev] 245 (0, 0)) ∧ Below w.heap.size w w' := Any.strconv_ParseInt_10_at64_syntax Tryz.laysC174 s hlim h ev w hv hev
open Go.RowKit in
theorem Tryz.strconv_ParseInt_10_at64_range (s : ByteArray) (hlim : s.size ≤ 281474976710656) (h : Lib.parseIntB 64 s.data.toList = .range) (ev : Value) (w : World) (hv : w.cell? ⟨4, 0, none⟩ = some ev) (hev : ev = .nilIface ∨ ∃ te pe, ev = .iface te pe) :
 Calls Tryz.prog 149 #[.string s, .int .i64 10, .int .i64 64] w fun e w' => ∃ N, e = .returned (.tuple #[.int .i64 (Lib.intSat 64 s.data.toList), .iface 228 (.pointer (some ⟨N, 0, none⟩))]) ∧ w.heap.size ≤ N ∧ w'.heap[N]? = some (.cells #[.string ⟨#[80, 97, 114, 115, 101, 73, 110, 116]⟩, .string s, ev] 245 (0, 0)) ∧ Below w.heap.size w w' := Any.strconv_ParseInt_10_at64_range Tryz.laysC174 s hlim h ev w hv hev
def Tryz.lays197_ren : Go.Shelf.Ren := ⟨fun | 197 => 92 | 260 => 133 | n => n, fun | 9 => 9 | 21 => 21 | 3 => 3 | 4 => 4 | 5 => 5 | 105 => 148 | 119 => 201 | 0 => 0 | 46 => 70 | 139 => 204 | 138 => 203 | n => n, fun | 3 => 0 | 4 => 1 | n => n⟩
theorem Tryz.lays197 : Go.Proofs.Lays.n197 Tryz.prog Tryz.lays197_ren := {
 mixed := by kernel_rfl
 f197 := Tryz.func92.trans (congrArg some (by kernel_rfl))
 f260 := Tryz.func133.trans (congrArg some (by kernel_rfl))
 t0 := Tryz.underlying0
 a0 := Tryz.isAgg0
 z0 := Tryz.sizeOf0
 v0 := Tryz.zeroValue0
 t3 := Tryz.underlying3
 a3 := Tryz.isAgg3
 z3 := Tryz.sizeOf3
 v3 := Tryz.zeroValue3
 t4 := Tryz.underlying4
 a4 := Tryz.isAgg4
 z4 := Tryz.sizeOf4
 v4 := Tryz.zeroValue4
 t5 := Tryz.underlying5
 a5 := Tryz.isAgg5
 z5 := Tryz.sizeOf5
 v5 := Tryz.zeroValue5
 t9 := Tryz.underlying9
 a9 := Tryz.isAgg9
 z9 := Tryz.sizeOf9
 v9 := Tryz.zeroValue9
 t21 := Tryz.underlying21
 a21 := Tryz.isAgg21
 z21 := Tryz.sizeOf21
 v21 := Tryz.zeroValue21
 t46 := Tryz.underlying70
 a46 := Tryz.isAgg70
 z46 := Tryz.sizeOf70
 v46 := Tryz.zeroValue70
 t105 := Tryz.underlying148
 a105 := Tryz.isAgg148
 z105 := Tryz.sizeOf148
 v105 := Tryz.zeroValue148
 t119 := Tryz.underlying201
 a119 := Tryz.isAgg201
 z119 := Tryz.sizeOf201
 t138 := Tryz.underlying203
 a138 := Tryz.isAgg203
 z138 := Tryz.sizeOf203
 v138 := Tryz.zeroValue203
 t139 := Tryz.underlying204
 a139 := Tryz.isAgg204
 z139 := Tryz.sizeOf204
 v139 := Tryz.zeroValue204
 g3 := by kernel_rfl
 g4 := by kernel_rfl }
open Go.RowKit Go.Lib in
theorem Tryz.utf8_DecodeRuneInString (s : ByteArray) (w : World) (hT : Lib.Utf8Tabs 0 1 w) :
 Calls Tryz.prog 92 #[.string s] w fun e w' => e = .returned (.tuple #[.int .i32 (Lib.decodeGo s).1, .int .i64 (Lib.decodeGo s).2]) ∧ Below w.heap.size w w' := Any.utf8_DecodeRuneInString Tryz.lays197 s w hT
def Tryz.lays110_ren : Go.Shelf.Ren := ⟨fun | 110 => 122 | 109 => 148 | n => n, fun | 31 => 31 | 9 => 9 | 4 => 4 | 3 => 3 | 0 => 0 | n => n, fun | n => n⟩
theorem Tryz.lays110 : Go.Proofs.Lays.n110 Tryz.prog Tryz.lays110_ren := {
 mixed := by kernel_rfl
 f109 := Tryz.func148.trans (congrArg some (by kernel_rfl))
 f110 := Tryz.func122.trans (congrArg some (by kernel_rfl))
 t0 := Tryz.underlying0
 a0 := Tryz.isAgg0
 z0 := Tryz.sizeOf0
 v0 := Tryz.zeroValue0
 t3 := Tryz.underlying3
 a3 := Tryz.isAgg3
 z3 := Tryz.sizeOf3
 v3 := Tryz.zeroValue3
 t4 := Tryz.underlying4
 a4 := Tryz.isAgg4
 z4 := Tryz.sizeOf4
 v4 := Tryz.zeroValue4
 t9 := Tryz.underlying9
 a9 := Tryz.isAgg9
 z9 := Tryz.sizeOf9
 v9 := Tryz.zeroValue9
 t31 := Tryz.underlying31
 a31 := Tryz.isAgg31
 z31 := Tryz.sizeOf31
 v31 := Tryz.zeroValue31 }
open Go.Lib in
theorem Tryz.slices_Contains_string (b off n c : Nat) (zs : List ByteArray) (x : ByteArray) (w : World) (hz : n ≤ zs.length) (hbig : n ≤ 9223372036854775807) (hc : ∀ j, j < zs.length → w.cell? ⟨b, off + j, none⟩ = some (.string (zs.getD j ByteArray.empty))) :
 Calls Tryz.prog 122 #[.slice (some ⟨b, off, none⟩) n c, .string x] w fun e w' => e = .returned (.bool (Lib.containsS (zs.take n) x)) ∧ w' = w := Any.slices_Contains_string Tryz.lays110 b off n c zs x w hz hbig hc
end Go.Proofs
