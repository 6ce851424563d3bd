/- Part 2 of a proof; packed: the texts that it was made of follow one another. No condition beyond those named in each lemma. -/
import Derived.Test.YtjplgcmfifoefaaGreatDoorPr1
import Derived.Test.YtjplgcmfifoefaaGreatDoorProg
import Derived.Laws.BytesString
import Derived.Laws.IdiomStrings
import Derived.Shelf.Bits.Mul64
import Derived.Shelf.LaysC
import Derived.Shelf.LaysM
import Derived.Shelf.Small.Strs
import Derived.Shelf.Small.Utf8
import Derived.Shelf.Strconv.Atoi
import Derived.Shelf.Strconv.AtoiAll
import Derived.Shelf.Strconv.AtoiErrFast
import Derived.Shelf.Strconv.AtoiFail
import Derived.Shelf.Strconv.AtoiInnerAll
import Derived.Shelf.Strconv.AtoiLong
import Derived.Shelf.Strconv.Clone
import Derived.Shelf.Strconv.Itoa0
import Derived.Shelf.Strconv.Itoa1
import Derived.Shelf.Strconv.Itoa2
import Derived.Shelf.Strconv.Itoa3
import Derived.Shelf.Strconv.Lower
import Derived.Shelf.Strconv.ParseInt10
import Derived.Shelf.Strconv.ParseIntEmpty
import Derived.Shelf.Strconv.ParseUint10
import Derived.Shelf.Strconv.ParseUint10Any
import Derived.Shelf.Strconv.ParseUint10Empty
import Derived.Shelf.Strconv.RangeError
import Derived.Shelf.Strconv.SyntaxError
import Derived.Shelf.Strconv.ToError
import Derived.Shelf.Strconv.ToErrorRange
import Derived.Shelf.Strings.AsciiSet
import Derived.Shelf.Strings.Builder1
import Derived.Shelf.Strings.Builder2
import Derived.Shelf.Strings.BuilderF
import Derived.Shelf.Strings.BuilderK
import Derived.Shelf.Strings.BuilderRune
import Derived.Shelf.Strings.OnBuilder
import Derived.Shelf.Strings.Prefix
import Derived.Shelf.Strings.Repeat
import Derived.Shelf.Strings.Runes
import Derived.Shelf.Strings.Search1
import Derived.Shelf.Strings.Trim
import Derived.Shelf.Unicode.Decode
import Derived.Shelf.Unicode.DecodeAny
import Derived.Shelf.Unicode.DecodeSlow
import Derived.WalkSmall
namespace Go.Proofs
open Go.Shelf
def Tryz.lays156_ren : Go.Shelf.Ren := ⟨fun | 156 => 25 | 165 => 43 | 166 => 44 | 169 => 45 | 240 => 72 | 241 => 73 | 276 => 85 | 277 => 86 | n => n, fun | 31 => 46 | 9 => 9 | 3 => 3 | 4 => 4 | 0 => 0 | 20 => 20 | 72 => 84 | 76 => 88 | 70 => 81 | 37 => 82 | 75 => 87 | 127 => 116 | 164 => 124 | 5 => 5 | 80 => 90 | n => n, fun | n => n⟩
theorem Tryz.lays156 : Go.Proofs.Lays.n156 Tryz.prog Tryz.lays156_ren := {
  mixed := by kernel_rfl
  f156 := Tryz.func25.trans (congrArg some (by kernel_rfl))
  f165 := Tryz.func43.trans (congrArg some (by kernel_rfl))
  f166 := Tryz.func44.trans (congrArg some (by kernel_rfl))
  f169 := Tryz.func45.trans (congrArg some (by kernel_rfl))
  f240 := Tryz.func72.trans (congrArg some (by kernel_rfl))
  f241 := Tryz.func73.trans (congrArg some (by kernel_rfl))
  f276 := Tryz.func85.trans (congrArg some (by kernel_rfl))
  f277 := Tryz.func86.trans (congrArg some (by kernel_rfl))
  t0 := Tryz.underlying0
  a0 := Tryz.isAgg0
  z0 := Tryz.sizeOf0
  v0 := Tryz.zeroValue0
  t3 := Tryz.underlying3
  a3 := Tryz.isAgg3
  z3 := Tryz.sizeOf3
  v3 := Tryz.zeroValue3
  t4 := Tryz.underlying4
  a4 := Tryz.isAgg4
  z4 := Tryz.sizeOf4
  v4 := Tryz.zeroValue4
  t9 := Tryz.underlying9
  a9 := Tryz.isAgg9
  z9 := Tryz.sizeOf9
  v9 := Tryz.zeroValue9
  t20 := Tryz.underlying20
  a20 := Tryz.isAgg20
  z20 := Tryz.sizeOf20
  v20 := Tryz.zeroValue20
  t31 := Tryz.underlying46
  a31 := Tryz.isAgg46
  z31 := Tryz.sizeOf46
  v31 := Tryz.zeroValue46
  t37 := Tryz.underlying82
  a37 := Tryz.isAgg82
  z37 := Tryz.sizeOf82
  v37 := Tryz.zeroValue82
  t70 := Tryz.underlying81
  a70 := Tryz.isAgg81
  z70 := Tryz.sizeOf81
  v70 := Tryz.zeroValue81
  t72 := Tryz.underlying84
  a72 := Tryz.isAgg84
  z72 := Tryz.sizeOf84
  v72 := Tryz.zeroValue84
  t75 := Tryz.underlying87
  a75 := Tryz.isAgg87
  z75 := Tryz.sizeOf87
  v75 := Tryz.zeroValue87
  t76 := Tryz.underlying88
  a76 := Tryz.isAgg88
  z76 := Tryz.sizeOf88
  v76 := Tryz.zeroValue88
  t127 := Tryz.underlying116
  a127 := Tryz.isAgg116
  z127 := Tryz.sizeOf116
  v127 := Tryz.zeroValue116
  t164 := Tryz.underlying124
  a164 := Tryz.isAgg124
  z164 := Tryz.sizeOf124
  v164 := Tryz.zeroValue124 }
theorem Tryz.Builder_Extra_156 : Builder.Extra Tryz.prog Tryz.lays156_ren := {
  sizeBuilder := by kernel_rfl
  liesBuilder := by kernel_rfl
  t5 := Tryz.underlying5
  a5 := Tryz.isAgg5
  z5 := Tryz.sizeOf5
  v5 := Tryz.zeroValue5
  infoByte := by kernel_rfl
  cellsByte := by kernel_rfl
  sizeByte := by kernel_rfl
  neB5 := by decide }
open Go.RowKit in
theorem Tryz.strings_Join (bk o c : Nat) (xs : List ByteArray) (sep : ByteArray) (w : World) (hcells : ∀ (j : Nat) x, xs[j]? = some x → w.cell? ⟨bk, o + j, none⟩ = some (.string x)) (hbk : bk < w.heap.size) (hN : xs.length ≤ 140737488355328) (hcap : xs.length ≤ c) (hlen : (Lib.join (xs.map (·.data.toList)) sep.data.toList).length ≤ 140737488355328) :
    Calls Tryz.prog 25 #[.slice (some ⟨bk, o, none⟩) xs.length c, .string sep] w fun e w' => e = .returned (.string ⟨(Lib.join (xs.map (·.data.toList)) sep.data.toList).toArray⟩) ∧ Below w.heap.size w w' := Any.strings_Join Tryz.lays156 Tryz.Builder_Extra_156 bk o c xs sep w hcells hbk hN hcap hlen
def Tryz.lays161_ren : Go.Shelf.Ren := ⟨fun | 161 => 33 | 231 => 49 | 227 => 50 | 233 => 51 | 235 => 52 | 228 => 75 | 197 => 69 | 151 => 76 | 260 => 83 | 152 => 88 | 137 => 53 | 119 => 97 | 224 => 98 | 225 => 99 | 217 => 77 | 266 => 89 | n => n, fun | 9 => 9 | 4 => 4 | 3 => 3 | 5 => 5 | 117 => 96 | 116 => 95 | 0 => 0 | 124 => 99 | 105 => 113 | 21 => 21 | 119 => 130 | 46 => 103 | 139 => 133 | 138 => 132 | n => n, fun | 3 => 1 | 4 => 2 | n => n⟩
theorem Tryz.lays161 : Go.Proofs.Lays.n161 Tryz.prog Tryz.lays161_ren := {
  mixed := by kernel_rfl
  f119 := Tryz.func97.trans (congrArg some (by kernel_rfl))
  f137 := Tryz.func53.trans (congrArg some (by kernel_rfl))
  f151 := Tryz.func76.trans (congrArg some (by kernel_rfl))
  f152 := Tryz.func88.trans (congrArg some (by kernel_rfl))
  f161 := Tryz.func33.trans (congrArg some (by kernel_rfl))
  f197 := Tryz.func69.trans (congrArg some (by kernel_rfl))
  f217 := Tryz.func77.trans (congrArg some (by kernel_rfl))
  f224 := Tryz.func98.trans (congrArg some (by kernel_rfl))
  f225 := Tryz.func99.trans (congrArg some (by kernel_rfl))
  f227 := Tryz.func50.trans (congrArg some (by kernel_rfl))
  f228 := Tryz.func75.trans (congrArg some (by kernel_rfl))
  f231 := Tryz.func49.trans (congrArg some (by kernel_rfl))
  f233 := Tryz.func51.trans (congrArg some (by kernel_rfl))
  f235 := Tryz.func52.trans (congrArg some (by kernel_rfl))
  f260 := Tryz.func83.trans (congrArg some (by kernel_rfl))
  f266 := Tryz.func89.trans (congrArg some (by kernel_rfl))
  t0 := Tryz.underlying0
  a0 := Tryz.isAgg0
  z0 := Tryz.sizeOf0
  v0 := Tryz.zeroValue0
  t3 := Tryz.underlying3
  a3 := Tryz.isAgg3
  z3 := Tryz.sizeOf3
  v3 := Tryz.zeroValue3
  t4 := Tryz.underlying4
  a4 := Tryz.isAgg4
  z4 := Tryz.sizeOf4
  v4 := Tryz.zeroValue4
  t5 := Tryz.underlying5
  a5 := Tryz.isAgg5
  z5 := Tryz.sizeOf5
  v5 := Tryz.zeroValue5
  t9 := Tryz.underlying9
  a9 := Tryz.isAgg9
  z9 := Tryz.sizeOf9
  v9 := Tryz.zeroValue9
  t21 := Tryz.underlying21
  a21 := Tryz.isAgg21
  z21 := Tryz.sizeOf21
  v21 := Tryz.zeroValue21
  t46 := Tryz.underlying103
  a46 := Tryz.isAgg103
  z46 := Tryz.sizeOf103
  v46 := Tryz.zeroValue103
  t105 := Tryz.underlying113
  a105 := Tryz.isAgg113
  z105 := Tryz.sizeOf113
  v105 := Tryz.zeroValue113
  t116 := Tryz.underlying95
  a116 := Tryz.isAgg95
  z116 := Tryz.sizeOf95
  t117 := Tryz.underlying96
  a117 := Tryz.isAgg96
  z117 := Tryz.sizeOf96
  v117 := Tryz.zeroValue96
  t119 := Tryz.underlying130
  a119 := Tryz.isAgg130
  z119 := Tryz.sizeOf130
  t124 := Tryz.underlying99
  a124 := Tryz.isAgg99
  z124 := Tryz.sizeOf99
  v124 := Tryz.zeroValue99
  t138 := Tryz.underlying132
  a138 := Tryz.isAgg132
  z138 := Tryz.sizeOf132
  v138 := Tryz.zeroValue132
  t139 := Tryz.underlying133
  a139 := Tryz.isAgg133
  z139 := Tryz.sizeOf133
  v139 := Tryz.zeroValue133
  g3 := by kernel_rfl
  g4 := by kernel_rfl }
open Go.RowKit in
theorem Tryz.strings_TrimLeft_one (s : ByteArray) (c : UInt8) (hc : c.toNat < 128) (w : World) :
    Calls Tryz.prog 33 #[.string s, .string ⟨#[c]⟩] w fun e w' => e = .returned (.string ⟨(Lib.trimLeftB s.data.toList c).toArray⟩) ∧ w' = w := Any.strings_TrimLeft_one Tryz.lays161 s c hc w
def Tryz.laysM171_ren : Go.Shelf.Ren := ⟨fun | 171 => 46 | 243 => 74 | 246 => 87 | 283 => 93 | 284 => 94 | 285 => 95 | 286 => 96 | 129 => 106 | 317 => 105 | 318 => 107 | 319 => 108 | 320 => 109 | 337 => 113 | 338 => 114 | n => n, fun | 3 => 3 | 9 => 9 | 2 => 2 | 4 => 4 | 171 => 134 | 0 => 0 | 53 => 120 | 37 => 82 | 5 => 5 | 173 => 137 | 212 => 149 | 51 => 38 | 20 => 20 | 213 => 150 | 46 => 103 | 232 => 163 | 233 => 164 | n => n, fun | 17 => 4 | 18 => 7 | 19 => 8 | n => n⟩
theorem Tryz.laysM171 : Go.Proofs.LaysM.n171 Tryz.prog Tryz.laysM171_ren := {
  mixed := by kernel_rfl
  f129 := Tryz.func106.trans (congrArg some (by kernel_rfl))
  f171 := Tryz.func46.trans (congrArg some (by kernel_rfl))
  f243 := Tryz.func74.trans (congrArg some (by kernel_rfl))
  f246 := Tryz.func87.trans (congrArg some (by kernel_rfl))
  f283 := Tryz.func93.trans (congrArg some (by kernel_rfl))
  f284 := Tryz.func94.trans (congrArg some (by kernel_rfl))
  f285 := Tryz.func95.trans (congrArg some (by kernel_rfl))
  f286 := Tryz.func96.trans (congrArg some (by kernel_rfl))
  f317 := Tryz.func105.trans (congrArg some (by kernel_rfl))
  f318 := Tryz.func107.trans (congrArg some (by kernel_rfl))
  f319 := Tryz.func108.trans (congrArg some (by kernel_rfl))
  f320 := Tryz.func109.trans (congrArg some (by kernel_rfl))
  f337 := Tryz.func113.trans (congrArg some (by kernel_rfl))
  f338 := Tryz.func114.trans (congrArg some (by kernel_rfl))
  t0 := Tryz.underlying0
  a0 := Tryz.isAgg0
  z0 := Tryz.sizeOf0
  v0 := Tryz.zeroValue0
  t2 := Tryz.underlying2
  a2 := Tryz.isAgg2
  z2 := Tryz.sizeOf2
  v2 := Tryz.zeroValue2
  t3 := Tryz.underlying3
  a3 := Tryz.isAgg3
  z3 := Tryz.sizeOf3
  v3 := Tryz.zeroValue3
  t4 := Tryz.underlying4
  a4 := Tryz.isAgg4
  z4 := Tryz.sizeOf4
  v4 := Tryz.zeroValue4
  t5 := Tryz.underlying5
  a5 := Tryz.isAgg5
  z5 := Tryz.sizeOf5
  v5 := Tryz.zeroValue5
  t9 := Tryz.underlying9
  a9 := Tryz.isAgg9
  z9 := Tryz.sizeOf9
  v9 := Tryz.zeroValue9
  t20 := Tryz.underlying20
  a20 := Tryz.isAgg20
  z20 := Tryz.sizeOf20
  v20 := Tryz.zeroValue20
  t37 := Tryz.underlying82
  a37 := Tryz.isAgg82
  z37 := Tryz.sizeOf82
  v37 := Tryz.zeroValue82
  t46 := Tryz.underlying103
  a46 := Tryz.isAgg103
  z46 := Tryz.sizeOf103
  v46 := Tryz.zeroValue103
  t51 := Tryz.underlying38
  a51 := Tryz.isAgg38
  z51 := Tryz.sizeOf38
  v51 := Tryz.zeroValue38
  t53 := Tryz.underlying120
  a53 := Tryz.isAgg120
  z53 := Tryz.sizeOf120
  v53 := Tryz.zeroValue120
  t171 := Tryz.underlying134
  a171 := Tryz.isAgg134
  z171 := Tryz.sizeOf134
  v171 := Tryz.zeroValue134
  t173 := Tryz.underlying137
  a173 := Tryz.isAgg137
  z173 := Tryz.sizeOf137
  v173 := Tryz.zeroValue137
  t212 := Tryz.underlying149
  a212 := Tryz.isAgg149
  z212 := Tryz.sizeOf149
  v212 := Tryz.zeroValue149
  t213 := Tryz.underlying150
  a213 := Tryz.isAgg150
  z213 := Tryz.sizeOf150
  t232 := Tryz.underlying163
  a232 := Tryz.isAgg163
  z232 := Tryz.sizeOf163
  v232 := Tryz.zeroValue163
  t233 := Tryz.underlying164
  a233 := Tryz.isAgg164
  z233 := Tryz.sizeOf164
  v233 := Tryz.zeroValue164
  g17 := by kernel_rfl
  g18 := by kernel_rfl
  g19 := by kernel_rfl
  i0 := by kernel_rfl
  i2 := by kernel_rfl
  i3 := by kernel_rfl
  i4 := by kernel_rfl
  i5 := by kernel_rfl
  i9 := by kernel_rfl
  i20 := by kernel_rfl
  i37 := by kernel_rfl
  i46 := by kernel_rfl
  i51 := by kernel_rfl
  i53 := by kernel_rfl
  i171 := by kernel_rfl
  i173 := by kernel_rfl
  i212 := by kernel_rfl
  i232 := by kernel_rfl
  i233 := by kernel_rfl
  m17 := by kernel_rfl
  m18 := by kernel_rfl
  m19 := by kernel_rfl }
open Go.RowKit Go.Sort Go.Lib in
theorem Tryz.strconv_Itoa (n : Int) (h0 : -9223372036854775808 ≤ n) (h1 : n ≤ 9223372036854775807) (w : World) (htab : Lib.TabIs Tryz.prog w "internal/strconv.uint64pow10" .u64 Lib.pow10Tab) :
    Calls Tryz.prog 46 #[.int .i64 n] w fun e w' => e = .returned (.string ⟨(Lib.itoa n).toArray⟩) ∧ ∃ k os, w' = grow (w.drewN k) os := Any.strconv_Itoa Tryz.laysM171 n h0 h1 w htab
def Tryz.laysC172_ren : Go.Shelf.Ren := ⟨fun | 172 => 82 | 244 => 90 | 245 => 91 | 247 => 100 | 279 => 101 | 280 => 102 | 281 => 103 | 282 => 104 | 287 => 110 | 316 => 111 | 171 => 46 | 205 => 112 | 321 => 115 | 322 => 116 | 243 => 74 | 246 => 87 | 283 => 93 | 284 => 94 | 285 => 95 | 286 => 96 | 129 => 106 | 317 => 105 | 318 => 107 | 319 => 108 | 320 => 109 | 337 => 113 | 338 => 114 | n => n, fun | 9 => 9 | 3 => 3 | 75 => 87 | 76 => 88 | 4 => 4 | 5 => 5 | 167 => 142 | 37 => 82 | 0 => 0 | 85 => 143 | 2 => 2 | 168 => 145 | 53 => 120 | 175 => 153 | 46 => 103 | 210 => 156 | 127 => 116 | 145 => 162 | 143 => 160 | 21 => 21 | 171 => 134 | 173 => 137 | 212 => 149 | 51 => 38 | 20 => 20 | 213 => 150 | 232 => 163 | 233 => 164 | 80 => 90 | n => n, fun | 15 => 5 | 16 => 6 | 17 => 4 | 18 => 7 | 19 => 8 | n => n⟩
theorem Tryz.laysC172 : Go.Proofs.LaysC.n172 Tryz.prog Tryz.laysC172_ren := {
  mixed := by kernel_rfl
  f129 := Tryz.func106.trans (congrArg some (by kernel_rfl))
  f171 := Tryz.func46.trans (congrArg some (by kernel_rfl))
  f172 := Tryz.func82.trans (congrArg some (by kernel_rfl))
  f205 := Tryz.func112.trans (congrArg some (by kernel_rfl))
  f243 := Tryz.func74.trans (congrArg some (by kernel_rfl))
  f244 := Tryz.func90.trans (congrArg some (by kernel_rfl))
  f245 := Tryz.func91.trans (congrArg some (by kernel_rfl))
  f246 := Tryz.func87.trans (congrArg some (by kernel_rfl))
  f247 := Tryz.func100.trans (congrArg some (by kernel_rfl))
  f279 := Tryz.func101.trans (congrArg some (by kernel_rfl))
  f280 := Tryz.func102.trans (congrArg some (by kernel_rfl))
  f281 := Tryz.func103.trans (congrArg some (by kernel_rfl))
  f282 := Tryz.func104.trans (congrArg some (by kernel_rfl))
  f283 := Tryz.func93.trans (congrArg some (by kernel_rfl))
  f284 := Tryz.func94.trans (congrArg some (by kernel_rfl))
  f285 := Tryz.func95.trans (congrArg some (by kernel_rfl))
  f286 := Tryz.func96.trans (congrArg some (by kernel_rfl))
  f287 := Tryz.func110.trans (congrArg some (by kernel_rfl))
  f316 := Tryz.func111.trans (congrArg some (by kernel_rfl))
  f317 := Tryz.func105.trans (congrArg some (by kernel_rfl))
  f318 := Tryz.func107.trans (congrArg some (by kernel_rfl))
  f319 := Tryz.func108.trans (congrArg some (by kernel_rfl))
  f320 := Tryz.func109.trans (congrArg some (by kernel_rfl))
  f321 := Tryz.func115.trans (congrArg some (by kernel_rfl))
  f322 := Tryz.func116.trans (congrArg some (by kernel_rfl))
  f337 := Tryz.func113.trans (congrArg some (by kernel_rfl))
  f338 := Tryz.func114.trans (congrArg some (by kernel_rfl))
  t0 := Tryz.underlying0
  a0 := Tryz.isAgg0
  z0 := Tryz.sizeOf0
  v0 := Tryz.zeroValue0
  t2 := Tryz.underlying2
  a2 := Tryz.isAgg2
  z2 := Tryz.sizeOf2
  v2 := Tryz.zeroValue2
  t3 := Tryz.underlying3
  a3 := Tryz.isAgg3
  z3 := Tryz.sizeOf3
  v3 := Tryz.zeroValue3
  t4 := Tryz.underlying4
  a4 := Tryz.isAgg4
  z4 := Tryz.sizeOf4
  v4 := Tryz.zeroValue4
  t5 := Tryz.underlying5
  a5 := Tryz.isAgg5
  z5 := Tryz.sizeOf5
  v5 := Tryz.zeroValue5
  t9 := Tryz.underlying9
  a9 := Tryz.isAgg9
  z9 := Tryz.sizeOf9
  v9 := Tryz.zeroValue9
  t20 := Tryz.underlying20
  a20 := Tryz.isAgg20
  z20 := Tryz.sizeOf20
  v20 := Tryz.zeroValue20
  t21 := Tryz.underlying21
  a21 := Tryz.isAgg21
  z21 := Tryz.sizeOf21
  v21 := Tryz.zeroValue21
  t37 := Tryz.underlying82
  a37 := Tryz.isAgg82
  z37 := Tryz.sizeOf82
  v37 := Tryz.zeroValue82
  t46 := Tryz.underlying103
  a46 := Tryz.isAgg103
  z46 := Tryz.sizeOf103
  v46 := Tryz.zeroValue103
  t51 := Tryz.underlying38
  a51 := Tryz.isAgg38
  z51 := Tryz.sizeOf38
  v51 := Tryz.zeroValue38
  t53 := Tryz.underlying120
  a53 := Tryz.isAgg120
  z53 := Tryz.sizeOf120
  v53 := Tryz.zeroValue120
  t75 := Tryz.underlying87
  a75 := Tryz.isAgg87
  z75 := Tryz.sizeOf87
  v75 := Tryz.zeroValue87
  t76 := Tryz.underlying88
  a76 := Tryz.isAgg88
  z76 := Tryz.sizeOf88
  v76 := Tryz.zeroValue88
  t85 := Tryz.underlying143
  a85 := Tryz.isAgg143
  z85 := Tryz.sizeOf143
  v85 := Tryz.zeroValue143
  t127 := Tryz.underlying116
  a127 := Tryz.isAgg116
  z127 := Tryz.sizeOf116
  v127 := Tryz.zeroValue116
  t143 := Tryz.underlying160
  a143 := Tryz.isAgg160
  z143 := Tryz.sizeOf160
  v143 := Tryz.zeroValue160
  t145 := Tryz.underlying162
  a145 := Tryz.isAgg162
  z145 := Tryz.sizeOf162
  v145 := Tryz.zeroValue162
  t167 := Tryz.underlying142
  a167 := Tryz.isAgg142
  z167 := Tryz.sizeOf142
  v167 := Tryz.zeroValue142
  t168 := Tryz.underlying145
  a168 := Tryz.isAgg145
  z168 := Tryz.sizeOf145
  v168 := Tryz.zeroValue145
  t171 := Tryz.underlying134
  a171 := Tryz.isAgg134
  z171 := Tryz.sizeOf134
  v171 := Tryz.zeroValue134
  t173 := Tryz.underlying137
  a173 := Tryz.isAgg137
  z173 := Tryz.sizeOf137
  v173 := Tryz.zeroValue137
  t175 := Tryz.underlying153
  a175 := Tryz.isAgg153
  z175 := Tryz.sizeOf153
  v175 := Tryz.zeroValue153
  t210 := Tryz.underlying156
  a210 := Tryz.isAgg156
  z210 := Tryz.sizeOf156
  v210 := Tryz.zeroValue156
  t212 := Tryz.underlying149
  a212 := Tryz.isAgg149
  z212 := Tryz.sizeOf149
  v212 := Tryz.zeroValue149
  t213 := Tryz.underlying150
  a213 := Tryz.isAgg150
  z213 := Tryz.sizeOf150
  t232 := Tryz.underlying163
  a232 := Tryz.isAgg163
  z232 := Tryz.sizeOf163
  v232 := Tryz.zeroValue163
  t233 := Tryz.underlying164
  a233 := Tryz.isAgg164
  z233 := Tryz.sizeOf164
  v233 := Tryz.zeroValue164
  g15 := by kernel_rfl
  g16 := by kernel_rfl
  g17 := by kernel_rfl
  g18 := by kernel_rfl
  g19 := by kernel_rfl
  t80 := Tryz.underlying90
  a80 := Tryz.isAgg90
  z80 := Tryz.sizeOf90
  v80 := Tryz.zeroValue90
  i0 := by kernel_rfl
  i2 := by kernel_rfl
  i3 := by kernel_rfl
  i4 := by kernel_rfl
  i5 := by kernel_rfl
  i9 := by kernel_rfl
  i20 := by kernel_rfl
  i21 := by kernel_rfl
  i37 := by kernel_rfl
  i46 := by kernel_rfl
  i51 := by kernel_rfl
  i53 := by kernel_rfl
  i75 := by kernel_rfl
  i76 := by kernel_rfl
  i80 := by kernel_rfl
  i85 := by kernel_rfl
  i127 := by kernel_rfl
  i143 := by kernel_rfl
  i145 := by kernel_rfl
  i167 := by kernel_rfl
  i168 := by kernel_rfl
  i171 := by kernel_rfl
  i173 := by kernel_rfl
  i175 := by kernel_rfl
  i210 := by kernel_rfl
  i212 := by kernel_rfl
  i232 := by kernel_rfl
  i233 := by kernel_rfl
  m15 := by kernel_rfl
  m16 := by kernel_rfl
  m17 := by kernel_rfl
  m18 := by kernel_rfl
  m19 := by kernel_rfl
  c0 := by kernel_rfl
  c2 := by kernel_rfl
  c3 := by kernel_rfl
  c4 := by kernel_rfl
  c5 := by kernel_rfl
  c9 := by kernel_rfl
  c20 := by kernel_rfl
  c21 := by kernel_rfl
  c37 := by kernel_rfl
  c46 := by kernel_rfl
  c51 := by kernel_rfl
  c53 := by kernel_rfl
  c75 := by kernel_rfl
  c76 := by kernel_rfl
  c80 := by kernel_rfl
  c85 := by kernel_rfl
  c127 := by kernel_rfl
  c143 := by kernel_rfl
  c145 := by kernel_rfl
  c167 := by kernel_rfl
  c168 := by kernel_rfl
  c171 := by kernel_rfl
  c173 := by kernel_rfl
  c175 := by kernel_rfl
  c210 := by kernel_rfl
  c212 := by kernel_rfl
  c213 := by kernel_rfl
  c232 := by kernel_rfl
  c233 := by kernel_rfl }
open Go.RowKit in
theorem Tryz.strconv_Atoi_ok (s : ByteArray) (hmax : s.size ≤ 9223372036854775806) (v : Int) (h : Lib.atoiAll s.data.toList = .ok v) (w : World) :
    Calls Tryz.prog 82 #[.string s] w fun e w' => e = .returned (.tuple #[.int .i64 v, .nilIface]) ∧ (w' = w ∨ ∃ t, w' = Lib.bytesWorld w 5 t) := Any.strconv_Atoi_ok Tryz.laysC172 s hmax v h w
open Go.RowKit in
theorem Tryz.strconv_Atoi_syntax (s : ByteArray) (hlim : s.size ≤ 281474976710656) (h : Lib.atoiAll s.data.toList = Lib.NumEnd.syntax) (ev : Value) (w : World) (hv : w.cell? ⟨5, 0, none⟩ = some ev) (hev : ev = .nilIface ∨ ∃ te pe, ev = .iface te pe) :
    Calls Tryz.prog 82 #[.string s] w fun e w' => ∃ N, e = .returned (.tuple #[.int .i64 (0), .iface 145 (.pointer (some ⟨N, 0, none⟩))]) ∧ w.heap.size ≤ N ∧ w'.heap[N]? = some (.cells #[.string ⟨#[65, 116, 111, 105]⟩, .string s, ev] 156 (0, 0)) ∧ Below w.heap.size w w' := Any.strconv_Atoi_syntax Tryz.laysC172 s hlim h ev w hv hev
open Go.RowKit in
theorem Tryz.strconv_Atoi_range (s : ByteArray) (hlim : s.size ≤ 281474976710656) (h : Lib.atoiAll s.data.toList = .range) (ev : Value) (w : World) (hv : w.cell? ⟨6, 0, none⟩ = some ev) (hev : ev = .nilIface ∨ ∃ te pe, ev = .iface te pe) :
    Calls Tryz.prog 82 #[.string s] w fun e w' => ∃ N, e = .returned (.tuple #[.int .i64 (Lib.atoiSat s.data.toList), .iface 145 (.pointer (some ⟨N, 0, none⟩))]) ∧ w.heap.size ≤ N ∧ w'.heap[N]? = some (.cells #[.string ⟨#[65, 116, 111, 105]⟩, .string s, ev] 156 (0, 0)) ∧ Below w.heap.size w w' := Any.strconv_Atoi_range Tryz.laysC172 s hlim h ev w hv hev
def Tryz.lays197_ren : Go.Shelf.Ren := ⟨fun | 197 => 69 | 260 => 83 | n => n, fun | 9 => 9 | 21 => 21 | 3 => 3 | 4 => 4 | 5 => 5 | 105 => 113 | 119 => 130 | 0 => 0 | 46 => 103 | 139 => 133 | 138 => 132 | n => n, fun | 3 => 1 | 4 => 2 | n => n⟩
theorem Tryz.lays197 : Go.Proofs.Lays.n197 Tryz.prog Tryz.lays197_ren := {
  mixed := by kernel_rfl
  f197 := Tryz.func69.trans (congrArg some (by kernel_rfl))
  f260 := Tryz.func83.trans (congrArg some (by kernel_rfl))
  t0 := Tryz.underlying0
  a0 := Tryz.isAgg0
  z0 := Tryz.sizeOf0
  v0 := Tryz.zeroValue0
  t3 := Tryz.underlying3
  a3 := Tryz.isAgg3
  z3 := Tryz.sizeOf3
  v3 := Tryz.zeroValue3
  t4 := Tryz.underlying4
  a4 := Tryz.isAgg4
  z4 := Tryz.sizeOf4
  v4 := Tryz.zeroValue4
  t5 := Tryz.underlying5
  a5 := Tryz.isAgg5
  z5 := Tryz.sizeOf5
  v5 := Tryz.zeroValue5
  t9 := Tryz.underlying9
  a9 := Tryz.isAgg9
  z9 := Tryz.sizeOf9
  v9 := Tryz.zeroValue9
  t21 := Tryz.underlying21
  a21 := Tryz.isAgg21
  z21 := Tryz.sizeOf21
  v21 := Tryz.zeroValue21
  t46 := Tryz.underlying103
  a46 := Tryz.isAgg103
  z46 := Tryz.sizeOf103
  v46 := Tryz.zeroValue103
  t105 := Tryz.underlying113
  a105 := Tryz.isAgg113
  z105 := Tryz.sizeOf113
  v105 := Tryz.zeroValue113
  t119 := Tryz.underlying130
  a119 := Tryz.isAgg130
  z119 := Tryz.sizeOf130
  t138 := Tryz.underlying132
  a138 := Tryz.isAgg132
  z138 := Tryz.sizeOf132
  v138 := Tryz.zeroValue132
  t139 := Tryz.underlying133
  a139 := Tryz.isAgg133
  z139 := Tryz.sizeOf133
  v139 := Tryz.zeroValue133
  g3 := by kernel_rfl
  g4 := by kernel_rfl }
def Tryz.lays105_ren : Go.Shelf.Ren := ⟨fun | 105 => 36 | 212 => 56 | 99 => 57 | 165 => 43 | 166 => 44 | 170 => 58 | 169 => 45 | 263 => 79 | 264 => 80 | 206 => 81 | 240 => 72 | 241 => 73 | 276 => 85 | 277 => 86 | n => n, fun | 9 => 9 | 3 => 3 | 4 => 4 | 20 => 20 | 0 => 0 | 46 => 103 | 109 => 104 | 5 => 5 | 72 => 84 | 76 => 88 | 51 => 38 | 146 => 118 | 53 => 120 | 148 => 121 | 70 => 81 | 37 => 82 | 75 => 87 | 127 => 116 | 164 => 124 | 80 => 90 | n => n, fun | n => n⟩
theorem Tryz.lays105 : Go.Proofs.Lays.n105 Tryz.prog Tryz.lays105_ren := {
  mixed := by kernel_rfl
  f99 := Tryz.func57.trans (congrArg some (by kernel_rfl))
  f105 := Tryz.func36.trans (congrArg some (by kernel_rfl))
  f165 := Tryz.func43.trans (congrArg some (by kernel_rfl))
  f166 := Tryz.func44.trans (congrArg some (by kernel_rfl))
  f169 := Tryz.func45.trans (congrArg some (by kernel_rfl))
  f170 := Tryz.func58.trans (congrArg some (by kernel_rfl))
  f206 := Tryz.func81.trans (congrArg some (by kernel_rfl))
  f212 := Tryz.func56.trans (congrArg some (by kernel_rfl))
  f240 := Tryz.func72.trans (congrArg some (by kernel_rfl))
  f241 := Tryz.func73.trans (congrArg some (by kernel_rfl))
  f263 := Tryz.func79.trans (congrArg some (by kernel_rfl))
  f264 := Tryz.func80.trans (congrArg some (by kernel_rfl))
  f276 := Tryz.func85.trans (congrArg some (by kernel_rfl))
  f277 := Tryz.func86.trans (congrArg some (by kernel_rfl))
  t0 := Tryz.underlying0
  a0 := Tryz.isAgg0
  z0 := Tryz.sizeOf0
  v0 := Tryz.zeroValue0
  t3 := Tryz.underlying3
  a3 := Tryz.isAgg3
  z3 := Tryz.sizeOf3
  v3 := Tryz.zeroValue3
  t4 := Tryz.underlying4
  a4 := Tryz.isAgg4
  z4 := Tryz.sizeOf4
  v4 := Tryz.zeroValue4
  t5 := Tryz.underlying5
  a5 := Tryz.isAgg5
  z5 := Tryz.sizeOf5
  v5 := Tryz.zeroValue5
  t9 := Tryz.underlying9
  a9 := Tryz.isAgg9
  z9 := Tryz.sizeOf9
  v9 := Tryz.zeroValue9
  t20 := Tryz.underlying20
  a20 := Tryz.isAgg20
  z20 := Tryz.sizeOf20
  v20 := Tryz.zeroValue20
  t37 := Tryz.underlying82
  a37 := Tryz.isAgg82
  z37 := Tryz.sizeOf82
  v37 := Tryz.zeroValue82
  t46 := Tryz.underlying103
  a46 := Tryz.isAgg103
  z46 := Tryz.sizeOf103
  v46 := Tryz.zeroValue103
  t51 := Tryz.underlying38
  a51 := Tryz.isAgg38
  z51 := Tryz.sizeOf38
  v51 := Tryz.zeroValue38
  t53 := Tryz.underlying120
  a53 := Tryz.isAgg120
  z53 := Tryz.sizeOf120
  v53 := Tryz.zeroValue120
  t70 := Tryz.underlying81
  a70 := Tryz.isAgg81
  z70 := Tryz.sizeOf81
  v70 := Tryz.zeroValue81
  t72 := Tryz.underlying84
  a72 := Tryz.isAgg84
  z72 := Tryz.sizeOf84
  v72 := Tryz.zeroValue84
  t75 := Tryz.underlying87
  a75 := Tryz.isAgg87
  z75 := Tryz.sizeOf87
  v75 := Tryz.zeroValue87
  t76 := Tryz.underlying88
  a76 := Tryz.isAgg88
  z76 := Tryz.sizeOf88
  v76 := Tryz.zeroValue88
  t109 := Tryz.underlying104
  a109 := Tryz.isAgg104
  z109 := Tryz.sizeOf104
  v109 := Tryz.zeroValue104
  t127 := Tryz.underlying116
  a127 := Tryz.isAgg116
  z127 := Tryz.sizeOf116
  v127 := Tryz.zeroValue116
  t146 := Tryz.underlying118
  a146 := Tryz.isAgg118
  z146 := Tryz.sizeOf118
  v146 := Tryz.zeroValue118
  t148 := Tryz.underlying121
  a148 := Tryz.isAgg121
  z148 := Tryz.sizeOf121
  v148 := Tryz.zeroValue121
  t164 := Tryz.underlying124
  a164 := Tryz.isAgg124
  z164 := Tryz.sizeOf124
  v164 := Tryz.zeroValue124 }
theorem Tryz.Builder_Extra_105 : Builder.Extra Tryz.prog Tryz.lays105_ren := {
  sizeBuilder := by kernel_rfl
  liesBuilder := by kernel_rfl
  t5 := Tryz.underlying5
  a5 := Tryz.isAgg5
  z5 := Tryz.sizeOf5
  v5 := Tryz.zeroValue5
  infoByte := by kernel_rfl
  cellsByte := by kernel_rfl
  sizeByte := by kernel_rfl
  neB5 := by decide }
open Go.RowKit Go.Lib in
theorem Tryz.strings_Repeat (s : ByteArray) (c : Nat) (w : World) (hc : c ≤ 9223372036854775807) (hlen : s.size * c ≤ 140737488355328) :
    Calls Tryz.prog 36 #[.string s, .int .i64 c] w fun e w' => e = .returned (.string ⟨(Lib.repeatL s.data.toList c).toArray⟩) ∧ Below w.heap.size w w' := Any.strings_Repeat Tryz.lays105 Tryz.Builder_Extra_105 s c w hc hlen
open Go.RowKit Go.Lib in
theorem Tryz.utf8_DecodeRuneInString (s : ByteArray) (w : World) (hT : Lib.Utf8Tabs 1 2 w) :
    Calls Tryz.prog 69 #[.string s] w fun e w' => e = .returned (.tuple #[.int .i32 (Lib.decodeGo s).1, .int .i64 (Lib.decodeGo s).2]) ∧ Below w.heap.size w w' := Any.utf8_DecodeRuneInString Tryz.lays197 s w hT
end Go.Proofs
namespace Go.Proofs.YtjplgcmfifoefaaGreatDoor
open Go.RowKit Go.Maps
set_option linter.unusedVariables false
set_option linter.unusedSimpArgs false

def strV (l : Bs) : Value := .string ⟨l.toArray⟩
/-- the table of kinds as it lies: a first part and its letters, thirteen times -/
def rowsC : Array Value := ((List.range 13).flatMap fun k => [strV (firsts.getD k []), strV (letters.getD k [])]).toArray
/-- the tables of the program and of the library lie where the program lays them -/
structure SOk (w : World) : Prop where
  rows : RowAt w 0 0 rowsC
  utf : Lib.Utf8Tabs 1 2 w
  pow : Lib.TabIs Tryz.prog w "internal/strconv.uint64pow10" .u64 Lib.pow10Tab
  syn : ∃ ev, w.cell? ⟨5, 0, none⟩ = some ev ∧ (ev = .nilIface ∨ ∃ te pe, ev = .iface te pe)
  ran : ∃ ev, w.cell? ⟨6, 0, none⟩ = some ev ∧ (ev = .nilIface ∨ ∃ te pe, ev = .iface te pe)
theorem gPow : Tryz.prog.globalNamed "internal/strconv.uint64pow10" = some 4 := by kernel_rfl
theorem SOk.then_ {n : Nat} {W W' : World} (h : SOk W) (hn : 7 ≤ n) (hb : Below n W W') : SOk W' := by
  refine ⟨fun j v hv => ?_, ⟨fun c hc => ?_, fun i hi => ?_⟩, ?_, ?_, ?_⟩
  · exact (hb.cell (p := ⟨0, 0 + j, none⟩) (by simp only; omega)).trans (h.rows j v hv)
  · exact (hb.cell (p := ⟨1, c, none⟩) (by simp only; omega)).trans (h.utf.1 c hc)
  · exact ⟨(hb.cell (p := ⟨2, 2 * i, none⟩) (by simp only; omega)).trans (h.utf.2 i hi).1, (hb.cell (p := ⟨2, 2 * i + 1, none⟩) (by simp only; omega)).trans (h.utf.2 i hi).2⟩
  · exact var?_below hb gPow (by omega) h.pow
  · obtain ⟨ev, h1, h2⟩ := h.syn
    exact ⟨ev, (hb.cell (p := ⟨5, 0, none⟩) (by simp only; omega)).trans h1, h2⟩
  · obtain ⟨ev, h1, h2⟩ := h.ran
    exact ⟨ev, (hb.cell (p := ⟨6, 0, none⟩) (by simp only; omega)).trans h1, h2⟩
theorem SOk.size {W : World} (h : SOk W) : 7 ≤ W.heap.size := by
  obtain ⟨ev, h1, _⟩ := h.ran
  refine Classical.byContradiction fun hn => ?_
  have : W.heap[6]? = none := Array.getElem?_eq_none (by omega)
  simp [World.cell?, this] at h1
theorem bytes_of (s : ByteArray) : (⟨s.data.toList.toArray⟩ : ByteArray) = s := by cases s; simp
theorem extract_bytes (s : ByteArray) (i j : Nat) (hj : j ≤ s.size) : (s.extract i j).data.toList = (s.data.toList.take j).drop i := by
  rw [ByteArray.data_extract, Array.toList_extract, List.extract_eq_take_drop, List.drop_take]
theorem isB_below {B b : Nat} {bs : Bs} {W W' : World} (h : IsB B b bs W) (hb : Below W.heap.size W W') : IsB B b bs W' := by
  have key : ∀ p, Lib.BuilderAtF 84 5 B b p (Lib.byteCells bs) W → Lib.BuilderAtF 84 5 B b p (Lib.byteCells bs) W' := by
    intro p h
    obtain ⟨hB, v, hbk, hown, hne⟩ := h
    have hlt : b < W.heap.size := (Array.getElem?_eq_some_iff.1 hbk).1
    refine ⟨hB, v, (hb.block b hlt).trans hbk, ⟨hown.1, ?_⟩, hne⟩
    rcases hown.2 with hn | ⟨g, cap, cur, fz, hv, hbg, hg, rest⟩
    · exact .inl hn
    · have hg2 : g < W.heap.size := (Array.getElem?_eq_some_iff.1 hg).1
      exact .inr ⟨g, cap, cur, fz, hv, hbg, (hb.block g hg2).trans hg, rest⟩
  exact h.elim (fun x => .inl (key _ x)) (fun x => .inr (key _ x))
theorem decode_any (s : ByteArray) (w : World) (hS : SOk w) : Calls Tryz.prog 69 #[.string s] w fun e w' => e = .returned (.tuple #[.int .i32 (Lib.decodeGo s).1, .int .i64 (Lib.decodeGo s).2]) ∧ Below w.heap.size w w' :=
  Tryz.utf8_DecodeRuneInString s w hS.utf
theorem itoa_any (n : Int) (h0 : -9223372036854775808 ≤ n) (h1 : n ≤ 9223372036854775807) (w : World) (hS : SOk w) : Calls Tryz.prog 46 #[.int .i64 n] w fun e w' => e = .returned (strV (Lib.itoa n)) ∧ Below w.heap.size w w' :=
  (Tryz.strconv_Itoa n h0 h1 w hS.pow).mono fun e w' ⟨he, k, os, hw⟩ => ⟨he, by
    subst hw
    refine ⟨rfl, rfl, rfl, ?_, fun j hj => ?_⟩
    · show w.heap.size ≤ (w.heap ++ os).size
      rw [Array.size_append]
      omega
    · show (w.heap ++ os)[j]? = _
      exact Array.getElem?_append_left hj⟩
end Go.Proofs.YtjplgcmfifoefaaGreatDoor
namespace Go.Proofs.YtjplgcmfifoefaaGreatDoor
open Go.RowKit Go.Shelf Go.Maps
set_option linter.unusedVariables false
set_option linter.unusedSimpArgs false
attribute [local go_sem] Oper.semAt_some

def escZ (l : Bs) : UInt8 × Nat := (escL l).getD (0, 0)
theorem nibZ_some {c : UInt8} {x : Nat} (h : nib c = some x) : nibZ c = (x : Int) ∧ x < 16 := by
  refine ⟨by unfold nibZ; rw [h], ?_⟩
  unfold nib at h
  split at h
  · injection h with h; omega
  · split at h
    · injection h with h; omega
    · cases h
theorem nibZ_none {c : UInt8} (h : nib c = none) : nibZ c = -1 := by unfold nibZ; rw [h]
set_option maxRecDepth 100000 in
set_option maxHeartbeats 4000000 in
theorem esc_any (s : ByteArray) (hs : s.size ≤ 1099511627776) (w : World) : Calls Tryz.prog 55 #[.string s] w fun e w' => e = .returned (.tuple #[.int .u8 ((escZ s.data.toList).1.toNat : Int), .int .i64 ((escZ s.data.toList).2 : Nat)]) ∧ Below w.heap.size w w' := by
  obtain ⟨l, hl⟩ : ∃ l, s.data.toList = l := ⟨_, rfl⟩
  have hsz : s.size = l.length := by rw [← hl]; simp
  cases l with
  | nil =>
    have he : s.toList.isEmpty = true := by rw [Lib.toList_data, hl]; rfl
    have hv : Hid (escZ s.data.toList = (0, 0)) := Lib.hid (by rw [hl]; rfl)
    clear hl hsz
    go_enter Tryz.func55, Tryz.ntmps55
    go_wp2_with (fail)
    go_ret2
    exact ⟨by rw [hv.out]; rfl, Below.refl _ _⟩
  | cons a u =>
    have he : s.toList.isEmpty = false := by rw [Lib.toList_data, hl]; rfl
    have h0 : 0 < s.size := by rw [hsz]; simp
    have hI0 : (0 : Int) < s.size := by omega
    have ha : s[0] = a := by
      have : s[0] = s.data.toList[0]'(by simpa using h0) := rfl
      rw [this]; simp [hl]
    have hE : ∀ r, escL (a :: u) = r → escZ s.data.toList = r.getD (0, 0) := fun r h => by unfold escZ; rw [hl, h]
    by_cases c1 : a.toNat = 34
    · have f1 : (((s[0].toNat : Nat) : Int) == 34) = true := beq_iff_eq.2 (by rw [ha]; omega)
      have hv : Hid (escZ s.data.toList = (s[0], 1)) := Lib.hid (by rw [hE (some (a, 1)) (by unfold escL; dsimp only; rw [if_pos (.inl c1)]), ha]; rfl)
      clear hl hsz hE ha c1
      go_enter Tryz.func55, Tryz.ntmps55
      go_wp2_with (fail)
      go_ret2
      exact ⟨by rw [hv.out]; rfl, Below.refl _ _⟩
    have f1 : (((s[0].toNat : Nat) : Int) == 34) = false := beq_eq_false_iff_ne.2 (by rw [ha]; omega)
    by_cases c2 : a.toNat = 92
    · have f2 : (((s[0].toNat : Nat) : Int) == 92) = true := beq_iff_eq.2 (by rw [ha]; omega)
      have hv : Hid (escZ s.data.toList = (s[0], 1)) := Lib.hid (by rw [hE (some (a, 1)) (by unfold escL; dsimp only; rw [if_pos (.inr c2)]), ha]; rfl)
      clear hl hsz hE ha c1 c2
      go_enter Tryz.func55, Tryz.ntmps55
      go_wp2_with (fail)
      go_ret2
      exact ⟨by rw [hv.out]; rfl, Below.refl _ _⟩
    have f2 : (((s[0].toNat : Nat) : Int) == 92) = false := beq_eq_false_iff_ne.2 (by rw [ha]; omega)
    have c12 : ¬ (a.toNat = 34 ∨ a.toNat = 92) := by omega
    by_cases c3 : a.toNat = 110
    · have f3 : (((s[0].toNat : Nat) : Int) == 110) = true := beq_iff_eq.2 (by rw [ha]; omega)
      have hv : Hid (escZ s.data.toList = (10, 1)) := Lib.hid (by rw [hE (some (10, 1)) (by unfold escL; dsimp only; rw [if_neg c12, if_pos c3])]; rfl)
      clear hl hsz hE ha c1 c2 c3 c12
      go_enter Tryz.func55, Tryz.ntmps55
      go_wp2_with (fail)
      go_ret2
      exact ⟨by rw [hv.out]; rfl, Below.refl _ _⟩
    have f3 : (((s[0].toNat : Nat) : Int) == 110) = false := beq_eq_false_iff_ne.2 (by rw [ha]; omega)
    by_cases c4 : a.toNat = 116
    · have f4 : (((s[0].toNat : Nat) : Int) == 116) = true := beq_iff_eq.2 (by rw [ha]; omega)
      have hv : Hid (escZ s.data.toList = (9, 1)) := Lib.hid (by rw [hE (some (9, 1)) (by unfold escL; dsimp only; rw [if_neg c12, if_neg c3, if_pos c4])]; rfl)
      clear hl hsz hE ha c1 c2 c3 c4 c12
      go_enter Tryz.func55, Tryz.ntmps55
      go_wp2_with (fail)
      go_ret2
      exact ⟨by rw [hv.out]; rfl, Below.refl _ _⟩
    have f4 : (((s[0].toNat : Nat) : Int) == 116) = false := beq_eq_false_iff_ne.2 (by rw [ha]; omega)
    by_cases c5 : a.toNat = 120
    · have f5 : (((s[0].toNat : Nat) : Int) == 120) = true := beq_iff_eq.2 (by rw [ha]; omega)
      by_cases c6 : 2 < s.size
      · have hI1 : (1 : Int) < s.size := by omega
        have hI2 : (2 : Int) < s.size := by omega
        obtain ⟨p, q, t, rfl⟩ : ∃ p q t, u = p :: q :: t := by
          rw [hsz] at c6
          match u, c6 with
          | [], h => simp at h
          | [_], h => simp at h
          | p :: q :: t, _ => exact ⟨p, q, t, rfl⟩
        have b1 : 1 < s.size := by omega
        clear hsz
        have g1 : s.data.toList[1]? = some p := by rw [hl]; rfl
        have g2 : s.data.toList[2]? = some q := by rw [hl]; rfl
        have hp : s[1] = p := by
          have : s[1] = s.data.toList[1]'(by simp; omega) := rfl
          rw [this]; simp [hl]
        have hq : s[2] = q := by
          have : s[2] = s.data.toList[2]'(by simp; omega) := rfl
          rw [this]; simp [hl]
        have hX : escL (a :: p :: q :: t) = (match nib p, nib q with | some x, some y => some (UInt8.ofNat (16 * x + y), 3) | _, _ => none) := by
          unfold escL; dsimp only; rw [if_neg c12, if_neg c3, if_neg c4, if_pos c5]
          rfl
        cases hnp : nib p with
        | none =>
          have e1 := nibZ_none hnp
          have k1 : ¬ (0 : Int) ≤ nibZ s[1] := by rw [hp, e1]; decide
          have hv : Hid (escZ s.data.toList = (0, 0)) := Lib.hid (by rw [hE _ hX, hnp]; rfl)
          clear hl hE ha c1 c2 c3 c4 c5 c12 hX e1 hnp hp hq g1 g2
          go_enter Tryz.func55, Tryz.ntmps55
          go_wp2_with (go_at_call 78; refine (nibble_any _ _).mono ?_; rintro e w' ⟨rfl, rfl⟩)
          go_ret2
          exact ⟨by rw [hv.out]; rfl, Below.refl _ _⟩
        | some x =>
          obtain ⟨e1, hx⟩ := nibZ_some hnp
          have k1 : (0 : Int) ≤ nibZ s[1] := by rw [hp, e1]; omega
          cases hnq : nib q with
          | none =>
            have e2 := nibZ_none hnq
            have k2 : ¬ (0 : Int) ≤ nibZ s[2] := by rw [hq, e2]; decide
            have hv : Hid (escZ s.data.toList = (0, 0)) := Lib.hid (by rw [hE _ hX, hnp, hnq]; rfl)
            clear hl hE ha c1 c2 c3 c4 c5 c12 hX e1 e2 hnp hnq hp hq g1 g2
            go_enter Tryz.func55, Tryz.ntmps55
            go_wp2_with (go_at_call 78; refine (nibble_any _ _).mono ?_; rintro e w' ⟨rfl, rfl⟩)
            go_ret2
            exact ⟨by rw [hv.out]; rfl, Below.refl _ _⟩
          | some y =>
            obtain ⟨e2, hy⟩ := nibZ_some hnq
            have k2 : (0 : Int) ≤ nibZ s[2] := by rw [hq, e2]; omega
            have hv : Hid (escZ s.data.toList = (UInt8.ofNat (16 * x + y), 3)) := Lib.hid (by rw [hE _ hX, hnp, hnq]; rfl)
            have hb : Hid ((UInt8.ofNat (16 * x + y)).toNat = 16 * x + y) := Lib.hid (by simp; omega)
            have G1 := Lib.hid (And.intro g1 (And.intro g2 (And.intro e1 e2)))
            clear hl hE ha c1 c2 c3 c4 c5 c12 hX e1 e2 hnp hnq hp hq g1 g2
            go_enter Tryz.func55, Tryz.ntmps55
            go_upto_region 10 with (go_at_call 78; refine (nibble_any _ _).mono ?_; rintro e w' ⟨rfl, rfl⟩)
            obtain ⟨g1, g2, e1, e2⟩ := G1.out
            refine wp_region_steps 11 [eqS (.string s), eqS (.int .u8 (((p.toNat : Nat) : Int))), eqS (.int .i64 (((x : Nat) : Int))), eqS (.int .i64 (((16 * x : Nat) : Int))), eqS (.string s), eqS (.int .u8 (((q.toNat : Nat) : Int))), eqS (.int .i64 (((y : Nat) : Int))), eqS (.int .i64 (((16 * x + y : Nat) : Int))), eqS (.int .u8 (((16 * x + y : Nat) : Int))), eqS (.int .u8 (((16 * x + y : Nat) : Int))), eqS (.int .i64 (3))] [47, 48, 49, 50, 51, 52, 53, 54, 55, 2, 3] follows_mixed (by kernel_rfl) (by kernel_rfl) ?_ ?_
            · skip
              refine Steps.cons (fun a' w' hG hB dep => gs_move (want_none rfl) _ rfl (id (hG.other 0 rfl))) ?_
              refine Steps.cons (fun a' w' hG hB dep => gs_istr (want_none rfl) _ _ rfl s 1 p (dep 0 rfl 47 rfl) rfl g1 rfl) ?_
              refine Steps.cons (fun a' w' hG hB dep => gs_call (want_none rfl) _ _ _ rfl enter_nibble _ (map1 (dep 1 rfl 48 rfl)) ((nibble_any p _).mono fun e w2 ⟨hq9, hb9⟩ => ⟨_, hq9, by rw [hb9]; exact Below.refl _ _, (by rw [e1]; rfl)⟩)) ?_
              refine Steps.cons (fun a' w' hG hB dep => gs_mul_nat (want_none rfl) _ _ _ _ rfl 16 x (16 * x) rfl (dep 2 rfl 49 rfl) rfl (by omega) rfl) ?_
              refine Steps.cons (fun a' w' hG hB dep => gs_move (want_none rfl) _ rfl (id (hG.other 0 rfl))) ?_
              refine Steps.cons (fun a' w' hG hB dep => gs_istr (want_none rfl) _ _ rfl s 2 q (dep 4 rfl 51 rfl) rfl g2 rfl) ?_
              refine Steps.cons (fun a' w' hG hB dep => gs_call (want_none rfl) _ _ _ rfl enter_nibble _ (map1 (dep 5 rfl 52 rfl)) ((nibble_any q _).mono fun e w2 ⟨hq9, hb9⟩ => ⟨_, hq9, by rw [hb9]; exact Below.refl _ _, (by rw [e2]; rfl)⟩)) ?_
              refine Steps.cons (fun a' w' hG hB dep => gs_add_nat (want_none rfl) _ _ _ _ rfl (16 * x) y (16 * x + y) (dep 3 rfl 50 rfl) (dep 6 rfl 53 rfl) rfl (by omega) rfl) ?_
              refine Steps.cons (fun a' w' hG hB dep => gs_conv_u8 (want_none rfl) _ rfl (16 * x + y) (by omega) (dep 7 rfl 54 rfl) rfl) ?_
              refine Steps.cons (fun a' w' hG hB dep => gs_assign (want_none rfl) _ rfl (id (dep 8 rfl 55 rfl))) ?_
              refine Steps.cons (fun a' w' hG hB dep => gs_assign (want_none rfl) _ rfl (id rfl)) ?_
              exact Steps.nil
            intro u wz hwz ans
            have hus2 : u 2 = (.int .u8 ((16 * x + y : Nat) : Int)) := ans 9 2 (by decide) rfl
            have hus3 : u 3 = (.int .i64 3) := ans 10 3 (by decide) rfl
            clear ans
            simp only [putAll, List.foldl_cons, List.foldl_nil, Act.put, List.setIfInBounds_toArray, List.set_cons_zero, List.set_cons_succ, hus2, hus3]
            clear hus2 hus3
            simp only [List.drop]
            refine wpList_nil ?_
            clear g1 g2 e1 e2
            go_wp2_with (fail)
            go_ret2
            refine ⟨?_, hwz⟩
            rw [hv.out]
            simp only [hb.out]
            rfl
      · have hI2 : ¬ (2 : Int) < s.size := by omega
        have hv : Hid (escZ s.data.toList = (0, 0)) := Lib.hid (by
          rw [hE none (by
            unfold escL; dsimp only; rw [if_neg c12, if_neg c3, if_neg c4, if_pos c5]
            match u, hsz with
            | [], _ => rfl
            | [_], _ => rfl
            | _ :: _ :: _, h => simp at h; omega)]
          rfl)
        clear hl hsz hE ha c1 c2 c3 c4 c5 c12 c6
        go_enter Tryz.func55, Tryz.ntmps55
        go_wp2_with (fail)
        go_ret2
        exact ⟨by rw [hv.out]; rfl, Below.refl _ _⟩
    have f5 : (((s[0].toNat : Nat) : Int) == 120) = false := beq_eq_false_iff_ne.2 (by rw [ha]; omega)
    have hv : Hid (escZ s.data.toList = (0, 0)) := Lib.hid (by rw [hE none (by unfold escL; dsimp only; rw [if_neg c12, if_neg c3, if_neg c4, if_neg c5])]; rfl)
    clear hl hsz hE ha c1 c2 c3 c4 c5 c12
    go_enter Tryz.func55, Tryz.ntmps55
    go_wp2_with (fail)
    go_ret2
    exact ⟨by rw [hv.out]; rfl, Below.refl _ _⟩
end Go.Proofs.YtjplgcmfifoefaaGreatDoor
namespace Go.Proofs.YtjplgcmfifoefaaGreatDoor
open Go.RowKit Go.Maps
set_option linter.unusedVariables false
set_option linter.unusedSimpArgs false
attribute [local go_sem] Oper.semAt_some

theorem qOne_len (l : Bs) (hne : l ≠ []) : (qOne l).length ≤ 4 * (Lib.decodeL l).2 := by
  have hw := Lib.decodeL_width l
  unfold qOne
  repeat' split
  all_goals simp [byN] <;> omega
theorem e34 : (({ data := #[92] } : ByteArray) ++ Utf8.encode 34) = { data := #[92, 34] } := by rfl
theorem e92 : (({ data := #[92] } : ByteArray) ++ Utf8.encode 92) = { data := #[92, 92] } := by rfl
set_option maxHeartbeats 4000000 in
theorem quote_any (s : ByteArray) (hs : s.size ≤ 1099511627776) (w : World) (hS : SOk w) : Calls Tryz.prog 42 #[.string s] w fun e w' => e = .returned (strV (quo s.data.toList)) ∧ Below w.heap.size w w' := by
  have hpl := plain_any s hs w
  by_cases hp : isPl s.data.toList = true
  · rw [hp] at hpl
    have hv : Hid (strV (quo s.data.toList) = .string s) := Lib.hid (by unfold strV; rw [quo_pl hp, bytes_of])
    clear hp hS
    go_enter Tryz.func42, Tryz.ntmps42
    go_wp2_with (go_at_call 54; refine hpl.mono ?_; clear hpl; rintro e w' ⟨rfl, hw'⟩; subst w')
    go_ret
    exact ⟨by rw [hv.out]; rfl, Below.refl _ _⟩
  · have hp' : isPl s.data.toList = false := by simpa using hp
    rw [hp'] at hpl
    have HQ := Lib.hid (quo_no hp')
    have HS := Lib.hid hS
    have h7 := hS.size
    clear hp hp' hS
    go_enter Tryz.func42, Tryz.ntmps42
    go_upto_region 4 with (go_at_call 54; refine hpl.mono ?_; clear hpl; rintro e w' ⟨rfl, hw'⟩; subst w')
    have hI0 : IsB w.heap.size w.heap.size [] (w.alloc (.cells #[.pointer none, .slice none 0 0] 84)) := Lib.IsBuilderF.of (Lib.fresh_isBuilder _ _ w)
    have hB1 := below_alloc (Below.refl w.heap.size w) (.cells #[.pointer none, .slice none 0 0] 84)
    have hsz1 := hB1.size
    obtain ⟨w1, hw1⟩ : ∃ y, y = w.alloc (.cells #[.pointer none, .slice none 0 0] 84) := ⟨_, rfl⟩
    rw [← hw1] at hI0 hB1 hsz1 ⊢
    have hgw : w.heap.size ≤ w1.heap.size := hsz1
    clear hw1
    obtain ⟨g, hg⟩ : ∃ y, y = w.heap.size := ⟨_, rfl⟩
    rw [← hg] at hI0 hB1 hgw h7 ⊢
    replace hg := Lib.hid hg
    have hS1 := HS.out.then_ h7 hB1
    have k1 := bWriteByte g g [] 34 w1 hI0 (by simp) hgw
    rw [show ((34 : UInt8).toNat : Int) = 34 from rfl] at k1
    clear hI0 hsz1
    go_upto_region 5 with (go_at_call 68; refine k1.mono ?_; clear k1; rintro e w2 ⟨rfl, hI2, hB2, hK2⟩)
    replace hB1 := hB1.trans hB2
    replace hgw := Nat.le_trans hgw hB2.size
    have hS2 := Lib.hid (hS1.then_ h7 hB2)
    clear hK2 hB2 hS1 HS
    obtain ⟨k, hk⟩ : ∃ y, y = w2.heap.size := ⟨_, rfl⟩
    have hgk : g < k := by
      rw [hk]
      have : ∀ p, Lib.BuilderAtF 84 5 g g p (Lib.byteCells ([] ++ [34])) w2 → g < w2.heap.size := fun p h => h.lt
      exact hI2.elim (this _) (this _)
    go_wp2_with (fail)
    rw [← hk]
    replace hk := Lib.hid hk
    go_loopw [4] (fun _ wr => ∃ (pos fuel : Nat) (acc : Bs), IsB g g acc wr ∧ wr.heap[k]? = some (.stringIter s pos) ∧ Below g w wr ∧ Hid (quo s.data.toList = acc ++ (qGo fuel (s.data.toList.drop pos) ++ [34])) ∧ s.size ≤ pos + fuel ∧ pos ≤ s.size ∧ acc.length ≤ 1 + 4 * pos ∧ Hid (SOk wr)) (fun _ wr => s.size - wr.iterPos k)
    case atStart =>
      refine ⟨0, s.size, [34], hI2.alloc _, ?_, hB1.alloc hgw _, ?_, by omega, by omega, by simp, ?_⟩
      · have := World.iter_heap w2 s 0
        rw [hk.out]
        simpa using this
      · exact Lib.hid (by rw [HQ.out]; simp)
      · exact Lib.hid (hS2.out.then_ h7 ((Below.refl g w2).alloc hgw _))
    case round =>
      clear hI2 hB1 hS2 hgw
      obtain ⟨pos, fuel, acc, hI, hit, hB, hq, hfu, hpz, hal, hS⟩ := hrel
      have hkw : k < wr.heap.size := (Array.getElem?_eq_some_iff.1 hit).1
      by_cases hp : pos < s.size
      · obtain ⟨l, hl⟩ : ∃ l, s.data.toList.drop pos = l := ⟨_, rfl⟩
        have hlen : l.length = s.size - pos := by rw [← hl, List.length_drop]; simp
        have hne : l ≠ [] := by intro h; rw [h] at hlen; simp at hlen; omega
        have hdec : Lib.decodeL l = Utf8.decode s pos := by rw [← hl]; exact Lib.decodeL_drop s pos
        obtain ⟨r, hr⟩ : ∃ r, (Lib.decodeL l).1 = r := ⟨_, rfl⟩
        obtain ⟨n, hn⟩ : ∃ n, (Lib.decodeL l).2 = n := ⟨_, rfl⟩
        have hd : Utf8.decode s pos = (r, n) := by rw [← hdec]; exact Prod.ext hr hn
        have hnx : ∀ ty, (Instr.next (.pointer (some ⟨k, 0, none⟩)) true ty).run Tryz.prog wr = .ok (.tuple #[.bool true, .int .i64 pos, .int .i32 (r : Nat)]) (wr.iterAt k s (pos + n)) := fun ty => by
          have h9 := Lib.run_next_any_at (P := Tryz.prog) wr k s pos ty hit hp
          rw [hd] at h9
          exact h9
        have hr1 : r ≤ 1114111 := by rw [← hr]; exact Lib.decodeL_rune l
        have hn1 : 1 ≤ n := by rw [← hn]; exact Lib.decodeL_width l
        have hn2 : n ≤ l.length := by rw [← hn]; exact Lib.decodeL_le l hne
        have hol : (qOne l).length ≤ 4 * n := by rw [← hn]; exact qOne_len l hne
        have hI3 := hI.iterAt hit (pos + n)
        have hit3 := Lib.iterAt_heap wr k s pos (pos + n) hit
        have hB3 := Lib.below_iterAt hB (k := k) (by omega) s (pos + n)
        have hS3 := hS.out.then_ h7 (Lib.below_iterAt (Below.refl g wr) (k := k) (by omega) s (pos + n))
        have hip : wr.iterPos k = pos := by simp [World.iterPos, hit]
        have hg3 : g ≤ (wr.iterAt k s (pos + n)).heap.size := by rw [Lib.iterAt_size]; omega
        have hk3 : k < (wr.iterAt k s (pos + n)).heap.size := by rw [Lib.iterAt_size]; exact hkw
        obtain ⟨w3, hw3⟩ : ∃ y, y = wr.iterAt k s (pos + n) := ⟨_, rfl⟩
        rw [← hw3] at hnx hI3 hit3 hB3 hS3 hg3 hk3
        clear hw3
        have kD : Calls Tryz.prog 69 #[.string (s.extract pos s.size)] w3 fun e w' => e = .returned (.tuple #[.int .i32 (r : Nat), .int .i64 (n : Nat)]) ∧ Below w3.heap.size w3 w' := by
          have h9 := decode_any (s.extract pos s.size) w3 hS3
          have e : Lib.decodeGo (s.extract pos s.size) = (r, n) := by
            unfold Lib.decodeGo
            rw [if_neg (by rw [ByteArray.size_extract]; omega), ← Lib.decodeL_drop, List.drop_zero, extract_bytes _ _ _ (Nat.le_refl _), List.take_of_length_le (by simp), hl]
            exact Prod.ext hr hn
          rw [e] at h9
          exact h9
        have hex : ∃ f, fuel = f + 1 := ⟨fuel - 1, by omega⟩
        obtain ⟨fuel, rfl⟩ := hex
        have fin : ∀ w4 w5, IsB g g (acc ++ qOne l) w5 → Below w3.heap.size w3 w4 → Below g w4 w5 → Kept g w4 w5 →
            (∃ (pos fuel : Nat) (acc : Bs), IsB g g acc w5 ∧ w5.heap[k]? = some (.stringIter s pos) ∧ Below g w w5 ∧ Hid (quo s.data.toList = acc ++ (qGo fuel (s.data.toList.drop pos) ++ [34])) ∧ s.size ≤ pos + fuel ∧ pos ≤ s.size ∧ acc.length ≤ 1 + 4 * pos ∧ Hid (SOk w5)) ∧ s.size - w5.iterPos k < s.size - wr.iterPos k := by
          intro w4 w5 hI5 hB4 hB5 hK5
          have hit4 : w4.heap[k]? = some (.stringIter s (pos + n)) := (hB4.block k hk3).trans hit3
          have hit5 := hK5.iter hit4 (by omega)
          have hB35 := (hB4.mono hg3).trans hB5
          refine ⟨⟨pos + n, fuel, acc ++ qOne l, hI5, hit5, hB3.trans hB35, Lib.hid ?_, by omega, by omega, by rw [List.length_append]; omega, Lib.hid (hS3.then_ h7 hB35)⟩, ?_⟩
          · rw [hq.out, hl, qGo, if_neg hne, hn, ← hl, List.drop_drop]
            simp [Nat.add_comm]
          · have : w5.iterPos k = pos + n := by simp [World.iterPos, hit5]
            rw [this, hip]
            omega
        have hg4 : ∀ w4, Below w3.heap.size w3 w4 → g ≤ w4.heap.size := fun w4 h => Nat.le_trans hg3 h.size
        have Fin := Lib.hid fin
        have HG4 := Lib.hid hg4
        have hO : qOne l = if r = 34 ∨ r = 92 then [92, UInt8.ofNat r] else if r = 10 then [92, 110] else if r = 9 then [92, 116] else if r < 32 ∨ r = 127 ∨ (r = 65533 ∧ n = 1) then byN (l.getD 0 0) else l.take n := by
          unfold qOne; rw [hr, hn]
        have HO := Lib.hid hO
        have hpI : (pos : Int) ≤ s.size := by omega
        have hpI0 : ¬ (pos : Int) < 0 := by omega
        clear fin hg4 hO hq hdec hd hip hB3 hit3 hS3 hS hI hit hB
        by_cases c1 : r = 34
        · subst c1
          have hX : Hid (qOne l = [92, 34]) := Lib.hid (by rw [HO.out, if_pos (.inl rfl)]; rfl)
          clear HO
          go_wp2_with (first
            | (go_at_call 69; refine kD.mono ?_; clear kD; rintro e w4 ⟨rfl, hB4⟩)
            | (go_at_call 44; refine (bWriteString g g acc _ w4 (isB_below hI3 hB4) (by rw [e34, ByteArray.size]; simp; omega) (HG4.out w4 hB4)).mono ?_; rintro e w5 ⟨rfl, hI5, hB5, hK5⟩))
          exact Fin.out w4 w5 (by rw [hX.out]; rw [show ([92, 34] : Bs) = (({ data := #[92] } : ByteArray) ++ Utf8.encode 34).data.toList from rfl]; exact hI5) hB4 hB5 hK5
        have f1 : (((r : Nat) : Int) == 34) = false := beq_eq_false_iff_ne.2 (by omega)
        by_cases c2 : r = 92
        · subst c2
          have hX : Hid (qOne l = [92, 92]) := Lib.hid (by rw [HO.out, if_pos (.inr rfl)]; rfl)
          clear HO
          go_wp2_with (first
            | (go_at_call 69; refine kD.mono ?_; clear kD; rintro e w4 ⟨rfl, hB4⟩)
            | (go_at_call 44; refine (bWriteString g g acc _ w4 (isB_below hI3 hB4) (by rw [e92, ByteArray.size]; simp; omega) (HG4.out w4 hB4)).mono ?_; rintro e w5 ⟨rfl, hI5, hB5, hK5⟩))
          exact Fin.out w4 w5 (by rw [hX.out]; rw [show ([92, 92] : Bs) = (({ data := #[92] } : ByteArray) ++ Utf8.encode 92).data.toList from rfl]; exact hI5) hB4 hB5 hK5
        have f2 : (((r : Nat) : Int) == 92) = false := beq_eq_false_iff_ne.2 (by omega)
        have c12 : ¬ (r = 34 ∨ r = 92) := by omega
        by_cases c3 : r = 10
        · have f3 : (((r : Nat) : Int) == 10) = true := beq_iff_eq.2 (by omega)
          have hX : Hid (qOne l = [92, 110]) := Lib.hid (by rw [HO.out, if_neg c12, if_pos c3])
          clear HO
          go_wp2_with (first
            | (go_at_call 69; refine kD.mono ?_; clear kD; rintro e w4 ⟨rfl, hB4⟩)
            | (go_at_call 44; refine (bWriteString g g acc _ w4 (isB_below hI3 hB4) (by rw [show (⟨#[92, 110]⟩ : ByteArray).size = 2 from rfl]; omega) (HG4.out w4 hB4)).mono ?_; rintro e w5 ⟨rfl, hI5, hB5, hK5⟩))
          exact Fin.out w4 w5 (by rw [hX.out]; exact hI5) hB4 hB5 hK5
        have f3 : (((r : Nat) : Int) == 10) = false := beq_eq_false_iff_ne.2 (by omega)
        by_cases c4 : r = 9
        · have f4 : (((r : Nat) : Int) == 9) = true := beq_iff_eq.2 (by omega)
          have hX : Hid (qOne l = [92, 116]) := Lib.hid (by rw [HO.out, if_neg c12, if_neg c3, if_pos c4])
          clear HO
          go_wp2_with (first
            | (go_at_call 69; refine kD.mono ?_; clear kD; rintro e w4 ⟨rfl, hB4⟩)
            | (go_at_call 44; refine (bWriteString g g acc _ w4 (isB_below hI3 hB4) (by rw [show (⟨#[92, 116]⟩ : ByteArray).size = 2 from rfl]; omega) (HG4.out w4 hB4)).mono ?_; rintro e w5 ⟨rfl, hI5, hB5, hK5⟩))
          exact Fin.out w4 w5 (by rw [hX.out]; exact hI5) hB4 hB5 hK5
        have f4 : (((r : Nat) : Int) == 9) = false := beq_eq_false_iff_ne.2 (by omega)
        have hget : l.getD 0 0 = s[pos] := by rw [← hl, List.getD_eq_getElem?_getD, List.getElem?_drop, Nat.add_zero, List.getElem?_eq_getElem (by simpa using hp)]; rfl
        have hpos : (pos : Int) < s.size := by omega
        by_cases c5 : r < 32
        · have f5 : ((r : Nat) : Int) < 32 := by omega
          have hX : Hid (qOne l = byN s[pos]) := Lib.hid (by rw [HO.out, if_neg c12, if_neg c3, if_neg c4, if_pos (.inl c5), hget])
          clear HO hget
          go_wp2_with (first
            | (go_at_call 69; refine kD.mono ?_; clear kD; rintro e w4 ⟨rfl, hB4⟩)
            | (go_at_call 70; refine (byn_any _ _).mono ?_; rintro e w45 ⟨rfl, hB45⟩)
            | (go_at_call 44; refine (bWriteString g g acc _ w45 (isB_below (isB_below hI3 hB4) hB45) (by rw [show ((⟨(byN s[pos]).toArray⟩ : ByteArray)).size = 4 from rfl]; omega) (Nat.le_trans (HG4.out w4 hB4) hB45.size)).mono ?_; rintro e w5 ⟨rfl, hI5, hB5, hK5⟩))
          exact Fin.out w45 w5 (by rw [hX.out]; exact hI5) (below_then hB4 hB45) hB5 hK5
        have f5 : ¬ ((r : Nat) : Int) < 32 := by omega
        by_cases c6 : r = 127
        · have f6 : (((r : Nat) : Int) == 127) = true := beq_iff_eq.2 (by omega)
          have hX : Hid (qOne l = byN s[pos]) := Lib.hid (by rw [HO.out, if_neg c12, if_neg c3, if_neg c4, if_pos (.inr (.inl c6)), hget])
          clear HO hget
          go_wp2_with (first
            | (go_at_call 69; refine kD.mono ?_; clear kD; rintro e w4 ⟨rfl, hB4⟩)
            | (go_at_call 70; refine (byn_any _ _).mono ?_; rintro e w45 ⟨rfl, hB45⟩)
            | (go_at_call 44; refine (bWriteString g g acc _ w45 (isB_below (isB_below hI3 hB4) hB45) (by rw [show ((⟨(byN s[pos]).toArray⟩ : ByteArray)).size = 4 from rfl]; omega) (Nat.le_trans (HG4.out w4 hB4) hB45.size)).mono ?_; rintro e w5 ⟨rfl, hI5, hB5, hK5⟩))
          exact Fin.out w45 w5 (by rw [hX.out]; exact hI5) (below_then hB4 hB45) hB5 hK5
        have f6 : (((r : Nat) : Int) == 127) = false := beq_eq_false_iff_ne.2 (by omega)
        by_cases c7 : r = 65533
        · have f7 : (((r : Nat) : Int) == 65533) = true := beq_iff_eq.2 (by omega)
          by_cases c8 : n = 1
          · have f8 : (((n : Nat) : Int) == 1) = true := beq_iff_eq.2 (by omega)
            have hX : Hid (qOne l = byN s[pos]) := Lib.hid (by rw [HO.out, if_neg c12, if_neg c3, if_neg c4, if_pos (.inr (.inr ⟨c7, c8⟩)), hget])
            clear HO hget
            go_wp2_with (first
              | (go_at_call 69; refine kD.mono ?_; clear kD; rintro e w4 ⟨rfl, hB4⟩)
              | (go_at_call 70; refine (byn_any _ _).mono ?_; rintro e w45 ⟨rfl, hB45⟩)
              | (go_at_call 44; refine (bWriteString g g acc _ w45 (isB_below (isB_below hI3 hB4) hB45) (by rw [show ((⟨(byN s[pos]).toArray⟩ : ByteArray)).size = 4 from rfl]; omega) (Nat.le_trans (HG4.out w4 hB4) hB45.size)).mono ?_; rintro e w5 ⟨rfl, hI5, hB5, hK5⟩))
            exact Fin.out w45 w5 (by rw [hX.out]; exact hI5) (below_then hB4 hB45) hB5 hK5
          · have f8 : (((n : Nat) : Int) == 1) = false := beq_eq_false_iff_ne.2 (by omega)
            have hX : Hid (qOne l = Lib.encodeRune 65533) := Lib.hid (by rw [HO.out, if_neg c12, if_neg c3, if_neg c4, if_neg (by omega), show (65533 : Int) = ((r : Nat) : Int) by omega, ← hr, Lib.encode_decode l hne (by rw [hr, hn]; omega), hn])
            clear HO hget
            go_wp2_with (first
              | (go_at_call 69; refine kD.mono ?_; clear kD; rintro e w4 ⟨rfl, hB4⟩)
              | (go_at_call 71; refine (bWriteRune g g acc 65533 (by omega) (by omega) w4 (isB_below hI3 hB4) (by omega) (HG4.out w4 hB4)).mono ?_; rintro e w5 ⟨⟨v5, rfl⟩, hI5, hB5, hK5⟩))
            exact Fin.out w4 w5 (by rw [hX.out]; exact hI5) hB4 hB5 hK5
        · have f7 : (((r : Nat) : Int) == 65533) = false := beq_eq_false_iff_ne.2 (by omega)
          have hX : Hid (qOne l = Lib.encodeRune ((r : Nat) : Int)) := Lib.hid (by rw [HO.out, if_neg c12, if_neg c3, if_neg c4, if_neg (by omega), ← hr, Lib.encode_decode l hne (by rw [hr, hn]; omega), hn])
          clear HO hget
          go_wp2_with (first
            | (go_at_call 69; refine kD.mono ?_; clear kD; rintro e w4 ⟨rfl, hB4⟩)
            | (go_at_call 71; refine (bWriteRune g g acc ((r : Nat) : Int) (by omega) (by omega) w4 (isB_below hI3 hB4) (by omega) (HG4.out w4 hB4)).mono ?_; rintro e w5 ⟨⟨v5, rfl⟩, hI5, hB5, hK5⟩))
          exact Fin.out w4 w5 (by rw [hX.out]; exact hI5) hB4 hB5 hK5
      · have hnx : ∀ ty, (Instr.next (.pointer (some ⟨k, 0, none⟩)) true ty).run Tryz.prog wr = .ok (.tuple #[.bool false]) wr := fun ty => Lib.run_next_end_at (P := Tryz.prog) wr k s pos ty hit hp
        have hend : quo s.data.toList = acc ++ [34] := by
          have e : qGo fuel (s.data.toList.drop pos) = [] := by
            rw [List.drop_eq_nil_of_le (by simp; omega)]
            cases fuel <;> simp [qGo]
          rw [hq.out, e]
          rfl
        have hv : Hid (strV (quo s.data.toList) = .string ⟨(acc ++ [34]).toArray⟩) := Lib.hid (by rw [hend]; rfl)
        have hgz : g ≤ wr.heap.size := by omega
        have k3 := bWriteByte g g acc 34 wr hI (by omega) hgz
        rw [show ((34 : UInt8).toNat : Int) = 34 from rfl] at k3
        have k4 : ∀ W, IsB g g (acc ++ [34]) W → g ≤ W.heap.size → Calls Tryz.prog 45 #[.pointer (some ⟨g, 0, none⟩)] W fun e w' => e = .returned (.string ⟨(acc ++ [34]).toArray⟩) ∧ Below g W w' := fun W h h2 => bString g g (acc ++ [34]) W h h2
        clear hq hend hS hI hit hfu hpz hal
        go_wp2_with (first
          | (go_at_call 68; refine k3.mono ?_; clear k3; rintro e w6 ⟨rfl, hI6, hB6, hK6⟩)
          | (go_at_call 45; refine (k4 w6 hI6 (Nat.le_trans hgz hB6.size)).mono ?_; clear k4; rintro e w7 ⟨rfl, hB7⟩))
        go_ret
        refine ⟨by rw [hv.out]; rfl, ?_⟩
        rw [← hg.out]
        exact (hB.trans hB6).trans hB7
theorem enter_quote (args : Array Value) (w : World) : (callFunc 42 args).run Tryz.prog w = .ok (.enter 42 args) w := by kernel_rfl
end Go.Proofs.YtjplgcmfifoefaaGreatDoor
namespace Go.Proofs.YtjplgcmfifoefaaGreatDoor
open Go.RowKit Go.Maps
set_option linter.unusedVariables false
set_option linter.unusedSimpArgs false
attribute [local go_sem] Oper.semAt_some

def encB (b : UInt8) : Array Value := #[.int .u8 (b.toNat : Int)]
theorem encB_size (b : UInt8) : (encB b).size = 1 := rfl
theorem encB_one (b : UInt8) : (encB b).all (·.oneCell') = true := by simp [encB, Value.oneCell']
theorem info_b3 : (Tryz.prog.info? 5).map (fun i => (i.zero, i.size, i.bytes)) = some (some (.int .u8 0), 1, 1) := by kernel_rfl
theorem run_bs1 (w : World) (y : Int) : (Instr.buildSlice 82 1 #[(0, .int .u8 y)]).run Tryz.prog w = .ok (.slice (some ⟨w.heap.size, 0, none⟩) 1 1) (w.alloc (.cells #[.int .u8 y] 5)) := by kernel_rfl
section
variable {ops : Array Oper} {rest : List Oper} {o : Oper} {a : Act} {w : World} {Q : Exit → Act → World → Prop}
theorem wl_bs1 (hgd : o.guard = none) (x : Operand) (ho : o.op = .buildSlice 82 1 #[(0, x)]) (y : UInt8) (hx : a.eval x = .int .u8 (y.toNat : Int))
    (h : wpList Tryz.prog ops Q rest (a.put o.dst (.slice (some ⟨w.heap.size, 0, none⟩) 1 1)) (w.alloc (.cells (encB y) 5))) : wpList Tryz.prog ops Q (o :: rest) a w :=
  wpList_plain hgd fun _ hK => by
    unfold Oper.wp execOp
    simp only [ho, List.map_toArray, List.map_cons, List.map_nil, hx, Sem.run_bind, run_bs1, Result.andThen_ok, Sem.run_pure]
    exact hK _ _ h
/-- one byte appended to a row of the call's own -/
theorem wl_pushB (hgd : o.guard = none) (s x : Operand) (ho : o.op = .call { callee := .builtin .append, args := #[s, x], argTypes := #[82, 82] })
    (base : Nat) (l : List UInt8) (z : UInt8) {A : Option Addr} {n c g : Nat} (hs : a.eval s = .slice A n c) (hx : a.eval x = .slice (some ⟨g, 0, none⟩) 1 1) (hb1 : Blk w g 5 (encB z)) (hown : Own w base 5 1 encB (.slice A n c) l) (hn : n = l.length) (hl : l.length ≤ 1099511627776) (hbase : base ≤ w.heap.size)
    (h : ∀ A' c' w', Own w' base 5 1 encB (.slice A' (n + 1) c') (l ++ [z]) → w.grownBy w' (Value.slice A n c).ownBlock → wpList Tryz.prog ops Q rest (a.put o.dst (.slice A' (n + 1) c')) w') : wpList Tryz.prog ops Q (o :: rest) a w := by
  obtain ⟨ii, hii, hz0, hz1, hz2⟩ := info_parts info_b3
  subst hn
  refine wl_append _ hgd _ _ 82 ho base 5 ii _ 1 1 Tryz.underlying82 hii hz0 hz1 hz2 rfl (by decide) encB_size encB_one (.slice A l.length c) l hs hown _ _ 1 1 [z] hx rfl (slice_one (enc := encB) hb1) (by unfold maxLen; omega) (by omega) hbase ?_
  intro v' w' ho' hg hv
  obtain ⟨A', c', rfl, _, _⟩ := ho'.shape
  have hl8 : (l ++ [z]).length = l.length + 1 := by simp
  rw [hl8] at ho' hv ⊢
  exact h _ _ _ ho' hg
theorem str_of {A : Option Addr} {n c B : Nat} {l : List UInt8} (hn : n = l.length) (hs : SliceOf w B 1 encB A l) : (Go.convert 82 9 (.slice A n c)).run Tryz.prog w = .ok (.string ⟨l.toArray⟩) w := by
  subst hn
  rcases A with _ | a
  · have hl : l = [] := by
      rcases hs with h | ⟨b, off, h, _⟩
      · exact h
      · cases h
    subst hl
    rw [run_convert_bytes_string w _ _ 5 none _ c Tryz.underlying82 Tryz.underlying5 Tryz.underlying9]
    rfl
  · refine run_convert_bytes_back w _ _ 5 a c l Tryz.underlying82 Tryz.underlying5 Tryz.underlying9 fun j hj => ?_
    obtain ⟨b, off, e, _, hrow⟩ := hs.at_ (by omega)
    injection e with e
    subst e
    have := hrow j hj 0 _ rfl
    rw [Nat.mul_one] at this
    rw [addr_add]
    exact this
end
theorem wl_conv_str {ops : Array Oper} {rest : List Oper} {o : Oper} {a : Act} {w : World} {Q : Exit → Act → World → Prop} (hgd : o.guard = none) (x : Operand) (ho : o.op = .convert 82 9 x) {A : Option Addr} {n c B : Nat} (l : List UInt8) (hx : a.eval x = .slice A n c) (hn : n = l.length) (hs : SliceOf w B 1 encB A l)
    (h : wpList Tryz.prog ops Q rest (a.put o.dst (.string ⟨l.toArray⟩)) w) : wpList Tryz.prog ops Q (o :: rest) a w :=
  wpList_plain hgd fun _ hK => by
    unfold Oper.wp execOp
    simp only [ho, hx, Sem.run_bind, str_of hn hs, Result.andThen_ok, Sem.run_pure]
    exact hK _ _ h
end Go.Proofs.YtjplgcmfifoefaaGreatDoor
namespace Go.Proofs.YtjplgcmfifoefaaGreatDoor
open Go.RowKit Go.Maps
set_option linter.unusedVariables false
set_option linter.unusedSimpArgs false
attribute [local go_sem] Oper.semAt_some

def unqZ (w : Bs) : Bs := (unq w).getD []
def unqE (w : Bs) : Int := if (unq w).isSome then 0 else 230
def strSz : Value → Nat
  | .string p => p.size
  | _ => 0
theorem escL_le {t : Bs} {b : UInt8} {n : Nat} (h : escL t = some (b, n)) : 1 ≤ n ∧ n ≤ 3 ∧ n ≤ t.length := by
  unfold escL at h
  split at h
  · cases h
  · split at h
    · injection h with h; injection h with _ h; subst h; simp
    · split at h
      · injection h with h; injection h with _ h; subst h; simp
      · split at h
        · injection h with h; injection h with _ h; subst h; simp
        · split at h
          · split at h
            · split at h
              · injection h with h; injection h with _ h; subst h; simp
              · cases h
            · cases h
          · cases h
theorem head_bytes {p : ByteArray} {c : UInt8} {t : Bs} (h : p.data.toList = c :: t) : ∃ h0 : 0 < p.size, p[0] = c ∧ p.size = t.length + 1 := by
  have hs : p.size = p.data.toList.length := by simp
  rw [h] at hs
  refine ⟨by rw [hs]; simp, ?_, by rw [hs]; simp⟩
  have : ∀ h0 : 0 < p.size, p[0] = p.data.toList[0]'(by simpa using h0) := fun _ => rfl
  rw [this]
  simp [h]
theorem last_bytes (p : ByteArray) (i : Nat) (h : i < p.size) : p.data.toList.getD i 0 = p[i] := by
  rw [List.getD_eq_getElem?_getD, List.getElem?_eq_getElem (by simpa using h)]
  rfl
set_option maxHeartbeats 4000000 in
theorem unquote_any (q : ByteArray) (hq : q.size ≤ 1099511627776) (w : World) : Calls Tryz.prog 35 #[.string q] w fun e w' => e = .returned (.tuple #[strV (unqZ q.data.toList), .int .i64 (unqE q.data.toList)]) ∧ Below w.heap.size w w' := by
  have hpl := plain_any q hq w
  by_cases hp : isPl q.data.toList = true
  · rw [hp] at hpl
    have hv : Hid (unq q.data.toList = some q.data.toList) := Lib.hid (by unfold unq; rw [if_pos hp])
    clear hp
    go_enter Tryz.func35, Tryz.ntmps35
    go_wp2_with (go_at_call 54; refine hpl.mono ?_; clear hpl; rintro e w' ⟨rfl, hw'⟩; subst w')
    go_ret2
    exact ⟨by unfold strV unqZ unqE; rw [hv.out, Option.getD_some, bytes_of]; rfl, Below.refl _ _⟩
  have hp' : isPl q.data.toList = false := by simpa using hp
  rw [hp'] at hpl
  clear hp
  have hU : unq q.data.toList = if q.size < 2 ∨ q.data.toList.getD 0 0 ≠ 34 ∨ q.data.toList.getD (q.size - 1) 0 ≠ 34 then none else unqG q.size ((q.data.toList.drop 1).take (q.size - 2)) := by
    unfold unq
    rw [if_neg (by simp [hp'])]
    simp
  clear hp'
  have none_ : unq q.data.toList = none → strV (unqZ q.data.toList) = .string ⟨#[]⟩ ∧ unqE q.data.toList = 230 := fun h => ⟨by unfold strV unqZ; rw [h]; rfl, by unfold unqE; rw [h]; rfl⟩
  by_cases c1 : q.size < 2
  · have f1 : (q.size : Int) < 2 := by omega
    have hv := Lib.hid (none_ (by rw [hU, if_pos (.inl c1)]))
    clear hU none_ c1
    go_enter Tryz.func35, Tryz.ntmps35
    go_wp2_with (go_at_call 54; refine hpl.mono ?_; clear hpl; rintro e w' ⟨rfl, hw'⟩; subst w')
    go_ret2
    exact ⟨by rw [hv.out.1, hv.out.2]; rfl, Below.refl _ _⟩
  have f1 : ¬ (q.size : Int) < 2 := by omega
  have h0 : 0 < q.size := by omega
  have hI0 : (0 : Int) < q.size := by omega
  have hl1 : q.size - 1 < q.size := by omega
  by_cases c2 : q[0].toNat = 34
  case neg =>
    have f2 : (((q[0].toNat : Nat) : Int) != 34) = true := bne_iff_ne.2 (by omega)
    have hv := Lib.hid (none_ (by rw [hU, if_pos (.inr (.inl (by rw [last_bytes q 0 h0]; intro h; exact c2 (by rw [h]; rfl))))]))
    clear hU none_ c1 c2
    go_enter Tryz.func35, Tryz.ntmps35
    go_wp2_with (go_at_call 54; refine hpl.mono ?_; clear hpl; rintro e w' ⟨rfl, hw'⟩; subst w')
    go_ret2
    exact ⟨by rw [hv.out.1, hv.out.2]; rfl, Below.refl _ _⟩
  have f2 : (((q[0].toNat : Nat) : Int) != 34) = false := Bool.eq_false_iff.2 (fun h => bne_iff_ne.1 h (by omega))
  have e3 : ((q.size : Int) - 1).toNat = q.size - 1 := by omega
  by_cases c3 : q[q.size - 1].toNat = 34
  case neg =>
    have f3 : (((q[q.size - 1].toNat : Nat) : Int) != 34) = true := bne_iff_ne.2 (by omega)
    have hv := Lib.hid (none_ (by rw [hU, if_pos (.inr (.inr (by rw [last_bytes q _ hl1]; intro h; exact c3 (by rw [h]; rfl))))]))
    clear hU none_ c1 c2 c3
    go_enter Tryz.func35, Tryz.ntmps35
    go_wp2_with (go_at_call 54; refine hpl.mono ?_; clear hpl; rintro e w' ⟨rfl, hw'⟩; subst w')
    go_ret2
    exact ⟨by rw [hv.out.1, hv.out.2]; rfl, Below.refl _ _⟩
  have f3 : (((q[q.size - 1].toNat : Nat) : Int) != 34) = false := Bool.eq_false_iff.2 (fun h => bne_iff_ne.1 h (by omega))
  have hU2 : Hid (unq q.data.toList = unqG q.size ((q.data.toList.drop 1).take (q.size - 2))) := Lib.hid (by
    rw [hU, if_neg]
    rw [last_bytes q 0 h0, last_bytes q _ hl1]
    have g1 : q[0] = 34 := UInt8.toNat_inj.1 c2
    have g2 : q[q.size - 1] = 34 := UInt8.toNat_inj.1 c3
    rw [g1, g2]
    simp
    omega)
  have hN := Lib.hid none_
  clear hU none_ c1 c2 c3
  go_enter Tryz.func35, Tryz.ntmps35
  go_wp2_with (go_at_call 54; refine hpl.mono ?_; clear hpl; rintro e w' ⟨rfl, hw'⟩; subst w')
  clear hI0 f2 f3
  go_loopw [4, 5] (fun bv pv wr => ∃ (acc : Bs) (A : Option Addr) (c : Nat) (p : ByteArray) (f : Nat), bv = .slice A acc.length c ∧ pv = .string p ∧ Own wr w.heap.size 5 1 encB (.slice A acc.length c) acc ∧ Below w.heap.size w wr ∧ Hid (unq q.data.toList = (unqG f p.data.toList).map (acc ++ ·)) ∧ p.size ≤ f ∧ acc.length + p.size ≤ q.size) (fun _ pv _ => strSz pv)
  case atStart =>
    refine ⟨[], none, 0, _, q.size, rfl, rfl, Own.nil_ _ _ _ _ _, Below.refl _ _, Lib.hid ?_, ?_, ?_⟩
    · have e : (q.extract 1 (q.size - 1)).data.toList = (q.data.toList.drop 1).take (q.size - 2) := by
        rw [extract_bytes _ _ _ (by omega), List.drop_take]
        congr 1
      first
        | (rw [hU2.out, ← e]; simp)
        | (rw [e3, hU2.out, ← e]; simp)
    · first
        | (rw [ByteArray.size_extract]; omega)
        | (rw [e3, ByteArray.size_extract]; omega)
    · first
        | (rw [ByteArray.size_extract]; simp; omega)
        | (rw [e3, ByteArray.size_extract]; simp; omega)
  case round =>
    obtain ⟨acc, A, c, p, f, rfl, rfl, ho, hB, hu, hpf, hap⟩ := hrel
    obtain ⟨l, hl⟩ : ∃ l, p.data.toList = l := ⟨_, rfl⟩
    cases l with
    | nil =>
      have he : p.toList.isEmpty = true := by rw [Lib.toList_data, hl]; rfl
      have hv : Hid (unq q.data.toList = some acc) := Lib.hid (by rw [hu.out, hl, unqG_nil]; simp)
      clear hu hl
      go_wp2_with (refine wl_conv_str rfl _ rfl acc rfl rfl (ho.slice_all encB_size) ?_)
      go_ret2
      exact ⟨by unfold strV unqZ unqE; rw [hv.out]; rfl, hB⟩
    | cons x t =>
      have he : p.toList.isEmpty = false := by rw [Lib.toList_data, hl]; rfl
      obtain ⟨h0, hx, hsz⟩ := head_bytes hl
      have hI0 : (0 : Int) < p.size := by omega
      obtain ⟨f, rfl⟩ : ∃ g, f = g + 1 := ⟨f - 1, by omega⟩
      have hu2 := hu.out
      rw [hl] at hu2
      have hms : ∀ k, (p.extract k p.size).data.toList = p.data.toList.drop k := fun k => by rw [extract_bytes _ _ _ (Nat.le_refl _), List.take_of_length_le (by simp)]
      by_cases c1 : x.toNat = 92
      · have f1 : (((p[0].toNat : Nat) : Int) == 92) = true := beq_iff_eq.2 (by rw [hx]; omega)
        have kE := fun W => esc_any (p.extract 1 p.size) (by rw [ByteArray.size_extract]; omega) W
        have e1 : (p.extract 1 p.size).data.toList = t := by rw [hms, hl]; rfl
        rw [e1] at kE
        have hp1 : (1 : Int) ≤ p.size := by omega
        cases hE : escL t with
        | none =>
          have e2 : escZ t = (0, 0) := by unfold escZ; rw [hE]; rfl
          rw [e2] at kE
          dsimp only at kE
          have hv := Lib.hid (hN.out (by rw [hu2, unqG, if_pos c1, hE]; rfl))
          clear hu hu2 hl hms hx c1 e1 e2 hE hsz
          go_wp2_with (go_at_call 55; refine (kE _).mono ?_; clear kE; rintro e w3 ⟨rfl, hB3⟩)
          go_ret2
          exact ⟨by rw [hv.out.1, hv.out.2]; rfl, below_then hB hB3⟩
        | some bn =>
          obtain ⟨b, n⟩ := bn
          obtain ⟨hn1, hn3, hnt⟩ := escL_le hE
          have e2 : escZ t = (b, n) := by unfold escZ; rw [hE]; rfl
          rw [e2] at kE
          dsimp only at kE
          have hu3 : Hid (unq q.data.toList = (unqG f (p.extract (n + 1) p.size).data.toList).map (acc ++ [b] ++ ·)) := Lib.hid (by
            rw [hu2, unqG, if_pos c1, hE, hms, hl, List.drop_succ_cons]
            show ((unqG f (t.drop n)).map (b :: ·)).map (acc ++ ·) = _
            cases unqG f (t.drop n) <;> simp)
          have f2 : (((n : Nat) : Int) == 0) = false := beq_eq_false_iff_ne.2 (by omega)
          have hnI : ((n : Nat) : Int) + 1 ≤ p.size := by omega
          have hnI0 : (0 : Int) ≤ ((n : Nat) : Int) + 1 := by omega
          have hsz3 : Hid ((p.extract (n + 1) p.size).size = p.size - (n + 1)) := Lib.hid (by rw [ByteArray.size_extract]; omega)
          clear hu hu2 hl hms hx c1 e1 e2 hE hsz
          go_wp2_with (first
            | (go_at_call 55; refine (kE _).mono ?_; clear kE; rintro e w3 ⟨rfl, hB3⟩)
            | (refine wl_bs1 rfl _ rfl b rfl ?_)
            | (refine wl_pushB rfl _ _ rfl w.heap.size acc b rfl rfl (Blk.new _ _ _) ((ho.then_ hB3).alloc _) rfl (by omega) (by have := (below_then hB hB3).size; rw [World.size_alloc]; omega) ?_; intro A8 c8 w8 ho8 hg8))
          have hB8 : Below w.heap.size w w8 := below_own (below_alloc (below_then hB hB3) (.cells (encB b) 5)) hg8 (fun k e => (ho.lt k e).1)
          have e9 : (acc ++ [b]).length = acc.length + 1 := by simp
          refine ⟨⟨acc ++ [b], A8, c8, _, f, by rw [e9], rfl, by rw [e9]; exact ho8, hB8, hu3, by rw [hsz3.out]; omega, by rw [e9, hsz3.out]; omega⟩, ?_⟩
          show (p.extract (n + 1) p.size).size < p.size
          rw [hsz3.out]
          omega
      · have f1 : (((p[0].toNat : Nat) : Int) == 92) = false := beq_eq_false_iff_ne.2 (by rw [hx]; omega)
        by_cases c2 : x.toNat < 32 ∨ x.toNat = 127 ∨ x.toNat = 34
        · have hv := Lib.hid (hN.out (by rw [hu2, unqG, if_neg c1, if_pos c2]; rfl))
          clear hu hu2 hl hms hsz
          rcases (by omega : x.toNat < 32 ∨ (¬ x.toNat < 32 ∧ x.toNat = 127) ∨ (¬ x.toNat < 32 ∧ ¬ x.toNat = 127 ∧ x.toNat = 34)) with d1 | ⟨d1, d2⟩ | ⟨d1, d2, d3⟩
          · have g1 : ((p[0].toNat : Nat) : Int) < 32 := by rw [hx]; omega
            clear hx c1 c2 d1
            go_wp2_with (fail)
            go_ret2
            exact ⟨by rw [hv.out.1, hv.out.2]; rfl, hB⟩
          · have g1 : ¬ ((p[0].toNat : Nat) : Int) < 32 := by rw [hx]; omega
            have g2 : (((p[0].toNat : Nat) : Int) == 127) = true := beq_iff_eq.2 (by rw [hx]; omega)
            clear hx c1 c2 d1 d2
            go_wp2_with (fail)
            go_ret2
            exact ⟨by rw [hv.out.1, hv.out.2]; rfl, hB⟩
          · have g1 : ¬ ((p[0].toNat : Nat) : Int) < 32 := by rw [hx]; omega
            have g2 : (((p[0].toNat : Nat) : Int) == 127) = false := beq_eq_false_iff_ne.2 (by rw [hx]; omega)
            have g3 : (((p[0].toNat : Nat) : Int) == 34) = true := beq_iff_eq.2 (by rw [hx]; omega)
            clear hx c1 c2 d1 d2 d3
            go_wp2_with (fail)
            go_ret2
            exact ⟨by rw [hv.out.1, hv.out.2]; rfl, hB⟩
        · have g1 : ¬ ((p[0].toNat : Nat) : Int) < 32 := by rw [hx]; omega
          have g2 : (((p[0].toNat : Nat) : Int) == 127) = false := beq_eq_false_iff_ne.2 (by rw [hx]; omega)
          have g3 : (((p[0].toNat : Nat) : Int) == 34) = false := beq_eq_false_iff_ne.2 (by rw [hx]; omega)
          have hu3 : Hid (unq q.data.toList = (unqG f (p.extract 1 p.size).data.toList).map (acc ++ [p[0]] ++ ·)) := Lib.hid (by
            rw [hu2, unqG, if_neg c1, if_neg c2, hms, hl, hx, List.drop_succ_cons, List.drop_zero]
            cases unqG f t <;> simp)
          have hp1 : (1 : Int) ≤ p.size := by omega
          have hsz3 : Hid ((p.extract 1 p.size).size = p.size - 1) := Lib.hid (by rw [ByteArray.size_extract]; omega)
          clear hu hu2 hl hms hsz hx c1 c2
          go_wp2_with (first
            | (refine wl_bs1 rfl _ rfl p[0] rfl ?_)
            | (refine wl_pushB rfl _ _ rfl w.heap.size acc p[0] rfl rfl (Blk.new _ _ _) (ho.alloc _) rfl (by omega) (by have := hB.size; rw [World.size_alloc]; omega) ?_; intro A8 c8 w8 ho8 hg8))
          have hB8 : Below w.heap.size w w8 := below_own (below_alloc hB (.cells (encB p[0]) 5)) hg8 (fun k e => (ho.lt k e).1)
          have e9 : (acc ++ [p[0]]).length = acc.length + 1 := by simp
          refine ⟨⟨acc ++ [p[0]], A8, c8, _, f, by rw [e9], rfl, by rw [e9]; exact ho8, hB8, hu3, by rw [hsz3.out]; omega, by rw [e9, hsz3.out]; omega⟩, ?_⟩
          show (p.extract 1 p.size).size < p.size
          rw [hsz3.out]
          omega
theorem enter_unquote (args : Array Value) (w : World) : (callFunc 35 args).run Tryz.prog w = .ok (.enter 35 args) w := by kernel_rfl
end Go.Proofs.YtjplgcmfifoefaaGreatDoor
namespace Go.Proofs.YtjplgcmfifoefaaGreatDoor
open Go.RowKit Go.Maps
set_option linter.unusedVariables false
set_option linter.unusedSimpArgs false
attribute [local go_sem] Oper.semAt_some

theorem idx_32 : ∀ l : Bs, Lib.indexByte (l ++ [32]) 32 = (l.findIdx (· == 32) : Nat) := by
  intro l
  induction l with
  | nil => rfl
  | cons b l ih =>
    rw [List.cons_append, Lib.indexByte, List.findIdx_cons, ih]
    by_cases h : (b == 32) = true
    · simp [h]
    · have h' : (b == 32) = false := by simpa using h
      rw [h']
      have e : (((l.findIdx (· == 32) : Nat) : Int) == -1) = false := beq_eq_false_iff_ne.2 (by omega)
      rw [e]
      simp
/-- a line's first part, what stands behind it, and whether it ends well -/
def cutE (l : Bs) : Bool := decide (cutN l = l.length) || (l.getD (cutN l) 0 == 32)
theorem cutN_le (l : Bs) : cutN l ≤ l.length := by
  unfold cutN
  split
  · omega
  · exact List.findIdx_le_length
/-- the last region: the parts are cut off -/
theorem sc_nil (f : Nat) : sc f [] = 0 := by cases f <;> rfl
set_option maxHeartbeats 4000000 in
theorem cut_any (q : ByteArray) (h0 : 0 < q.size) (hq : q.size ≤ 1099511627776) (w : World) : Calls Tryz.prog 34 #[.string q] w fun e w' => e = .returned (.tuple #[.string (q.extract 0 (cutN q.data.toList)), .string (q.extract (cutN q.data.toList) q.size), .bool (cutE q.data.toList)]) ∧ Below w.heap.size w w' := by
  have hlen : q.data.toList.length = q.size := by simp
  have hI0 : (0 : Int) < q.size := by omega
  have k1 : Calls Tryz.prog 53 #[.string (q ++ ⟨#[32]⟩), .int .u8 32] w fun e w' => e = .returned (.int .i64 ((q.data.toList.findIdx (· == 32) : Nat) : Int)) ∧ w' = w := by
    have h := sib_any (q ++ ⟨#[32]⟩) 32 w
    have e : (q ++ ⟨#[32]⟩).data.toList = q.data.toList ++ [32] := by simp
    rw [e] at h
    have e2 := idx_32 q.data.toList
    rw [show (Int.toNat 32).toUInt8 = 32 from rfl, e2] at h
    exact h
  obtain ⟨d, hd⟩ : ∃ d, q.data.toList.findIdx (· == 32) = d := ⟨_, rfl⟩
  rw [hd] at k1
  obtain ⟨n, hn⟩ : ∃ n, cutN q.data.toList = n := ⟨_, rfl⟩
  have hnl : n ≤ q.size := by rw [← hn, ← hlen]; exact cutN_le _
  obtain ⟨b, hb⟩ : ∃ b, cutE q.data.toList = b := ⟨_, rfl⟩
  rw [hn, hb]
  replace hb := Lib.hid hb
  by_cases c1 : q[0].toNat = 34
  · have f1 : (((q[0].toNat : Nat) : Int) == 34) = true := beq_iff_eq.2 (by omega)
    have hc : n = min (2 + sc q.size (q.data.toList.drop 1)) q.size := by
      rw [← hn]
      unfold cutN
      rw [if_pos (by rw [last_bytes q 0 h0]; exact UInt8.toNat_inj.1 c1), hlen]
    have HC := Lib.hid hc
    replace hn := Lib.hid hn
    replace hlen := Lib.hid hlen
    clear c1 hd hc
    go_enter Tryz.func34, Tryz.ntmps34
    go_wp2_with (go_at_call 53; refine k1.mono ?_; clear k1; rintro e w' ⟨rfl, hw'⟩; subst w')
    go_loopw [5] (fun nv wr => ∃ i f : Nat, nv = .int .i64 i ∧ Hid (wr = w) ∧ 1 ≤ i ∧ i ≤ q.size + 1 ∧ Hid (1 + sc q.size (q.data.toList.drop 1) = i + sc f (q.data.toList.drop i)) ∧ q.size ≤ i + f) (fun nv _ => q.size + 1 - (intOf nv).toNat)
    case atStart => exact ⟨1, q.size, rfl, Lib.hid rfl, by omega, by omega, Lib.hid rfl, by omega⟩
    case round =>
      obtain ⟨i, f, rfl, hwr, hi1, hi2, hs, hf⟩ := hrel
      by_cases hl : i < q.size
      · have hI : ((i : Nat) : Int) < q.size := by omega
        have hI1 : ¬ ((i : Nat) : Int) < 0 := by omega
        obtain ⟨f, rfl⟩ : ∃ g, f = g + 1 := ⟨f - 1, by omega⟩
        have hdr : q.data.toList.drop i = q[i] :: q.data.toList.drop (i + 1) := by
          rw [List.drop_eq_getElem_cons (by simpa using hl)]
          rfl
        have hs2 := hs.out
        rw [hdr, sc] at hs2
        by_cases d1 : q[i].toNat = 34
        · have g5 : (((q[i].toNat : Nat) : Int) != 34) = false := Bool.eq_false_iff.2 (fun h => bne_iff_ne.1 h (by omega))
          rw [if_pos d1] at hs2
          have hm : min ((i : Int) + 1) (q.size : Int) = ((n : Nat) : Int) := by rw [HC.out]; omega
          clear hs hs2 hdr d1 HC
          go_upto_region 9 with (fail)
          by_cases c2 : n = q.size
          · have g1 : (((n : Nat) : Int) == (q.size : Int)) = true := beq_iff_eq.2 (by omega)
            have hv : Hid (b = true) := Lib.hid (by rw [← hb.out]; unfold cutE; rw [hn.out, hlen.out, decide_eq_true c2]; rfl)
            have hdI : ((n : Nat) : Int) ≤ q.size := by omega
            clear hb c2 hlen hn
            go_big_region
            go_wp2_with (fail)
            go_ret3
            exact ⟨by rw [hv.out]; rfl, by rw [hwr.out]; exact (Below.refl w.heap.size w).drew⟩
          · have g1 : (((n : Nat) : Int) == (q.size : Int)) = false := beq_eq_false_iff_ne.2 (by omega)
            have hnz : n < q.size := by omega
            have hdI : ((n : Nat) : Int) ≤ q.size := by omega
            have hdL : ((n : Nat) : Int) < q.size := by omega
            have hv : Hid (b = (((q[n].toNat : Nat) : Int) == 32)) := Lib.hid (by
              rw [← hb.out]
              unfold cutE
              rw [hn.out, hlen.out, decide_eq_false c2, Bool.false_or, last_bytes q n hnz]
              by_cases h9 : q[n] = 32
              · rw [h9]; rfl
              · have h8 : ¬ (q[n].toNat : Int) = 32 := fun h => h9 (UInt8.toNat_inj.1 (by show q[n].toNat = 32; omega))
                rw [beq_eq_false_iff_ne.2 h9, beq_eq_false_iff_ne.2 h8])
            clear hb c2 hlen hn
            go_big_region
            go_wp2_with (fail)
            go_ret3
            exact ⟨by rw [hv.out]; rfl, by rw [hwr.out]; exact (Below.refl w.heap.size w).drew⟩
        · have g5 : (((q[i].toNat : Nat) : Int) != 34) = true := bne_iff_ne.2 (by omega)
          rw [if_neg d1] at hs2
          by_cases d2 : q[i].toNat = 92
          · have g6 : (((q[i].toNat : Nat) : Int) == 92) = true := beq_iff_eq.2 (by omega)
            rw [if_pos d2, List.drop_drop] at hs2
            have hs3 : Hid (1 + sc q.size (q.data.toList.drop 1) = (i + 2) + sc f (q.data.toList.drop (i + 2))) := Lib.hid (by
              rw [hs2]
              have e : q.data.toList.drop (i + 1 + 1) = q.data.toList.drop (i + 2) := rfl
              first
                | (rw [e]; omega)
                | (simp only [Nat.add_comm, Nat.add_left_comm] at *; omega))
            clear hs hs2 hdr d1 d2 HC
            go_wp2_with (fail)
            exact ⟨⟨i + 2, f, by first | rfl | (congr 1; omega), hwr, by omega, by omega, hs3, by omega⟩, by simp only [intOf]; omega⟩
          · have g6 : (((q[i].toNat : Nat) : Int) == 92) = false := beq_eq_false_iff_ne.2 (by omega)
            rw [if_neg d2] at hs2
            have hs3 : Hid (1 + sc q.size (q.data.toList.drop 1) = (i + 1) + sc f (q.data.toList.drop (i + 1))) := Lib.hid (by rw [hs2]; omega)
            clear hs hs2 hdr d1 d2 HC
            go_wp2_with (fail)
            exact ⟨⟨i + 1, f, rfl, hwr, by omega, by omega, hs3, by omega⟩, by simp only [intOf]; omega⟩
      · have hI : ¬ ((i : Nat) : Int) < q.size := by omega
        have hm : min ((i : Int) + 1) (q.size : Int) = ((n : Nat) : Int) := by
          have e := hs.out
          have e0 : q.data.toList.drop i = [] := List.drop_eq_nil_of_le (by rw [hlen.out]; omega)
          rw [e0, sc_nil] at e
          rw [HC.out]
          omega
        by_cases dummy : True
        · clear hs HC dummy
          go_upto_region 9 with (fail)
          by_cases c2 : n = q.size
          · have g1 : (((n : Nat) : Int) == (q.size : Int)) = true := beq_iff_eq.2 (by omega)
            have hv : Hid (b = true) := Lib.hid (by rw [← hb.out]; unfold cutE; rw [hn.out, hlen.out, decide_eq_true c2]; rfl)
            have hdI : ((n : Nat) : Int) ≤ q.size := by omega
            clear hb c2 hlen hn
            go_big_region
            go_wp2_with (fail)
            go_ret3
            exact ⟨by rw [hv.out]; rfl, by rw [hwr.out]; exact (Below.refl w.heap.size w).drew⟩
          · have g1 : (((n : Nat) : Int) == (q.size : Int)) = false := beq_eq_false_iff_ne.2 (by omega)
            have hnz : n < q.size := by omega
            have hdI : ((n : Nat) : Int) ≤ q.size := by omega
            have hdL : ((n : Nat) : Int) < q.size := by omega
            have hv : Hid (b = (((q[n].toNat : Nat) : Int) == 32)) := Lib.hid (by
              rw [← hb.out]
              unfold cutE
              rw [hn.out, hlen.out, decide_eq_false c2, Bool.false_or, last_bytes q n hnz]
              by_cases h9 : q[n] = 32
              · rw [h9]; rfl
              · have h8 : ¬ (q[n].toNat : Int) = 32 := fun h => h9 (UInt8.toNat_inj.1 (by show q[n].toNat = 32; omega))
                rw [beq_eq_false_iff_ne.2 h9, beq_eq_false_iff_ne.2 h8])
            clear hb c2 hlen hn
            go_big_region
            go_wp2_with (fail)
            go_ret3
            exact ⟨by rw [hv.out]; rfl, by rw [hwr.out]; exact (Below.refl w.heap.size w).drew⟩
        · exact absurd trivial dummy
  · have f1 : (((q[0].toNat : Nat) : Int) == 34) = false := beq_eq_false_iff_ne.2 (by omega)
    have hdn : d = n := by
      rw [← hd, ← hn]
      unfold cutN
      rw [if_neg (by rw [last_bytes q 0 h0]; intro h; exact c1 (by rw [h]; rfl))]
    subst hdn
    clear hd c1
    replace hn := Lib.hid hn
    replace hlen := Lib.hid hlen
    go_enter Tryz.func34, Tryz.ntmps34
    go_upto_region 9 with (go_at_call 53; refine k1.mono ?_; clear k1; rintro e w' ⟨rfl, hw'⟩; subst w')
    obtain ⟨n, hnn⟩ : ∃ n, n = d := ⟨_, rfl⟩
    subst hnn
    by_cases c2 : n = q.size
    · have g1 : (((n : Nat) : Int) == (q.size : Int)) = true := beq_iff_eq.2 (by omega)
      have hv : Hid (b = true) := Lib.hid (by rw [← hb.out]; unfold cutE; rw [hn.out, hlen.out, decide_eq_true c2]; rfl)
      have hdI : ((n : Nat) : Int) ≤ q.size := by omega
      clear hb c2 hlen hn
      go_big_region
      go_wp2_with (fail)
      go_ret3
      exact ⟨by rw [hv.out]; rfl, (Below.refl w.heap.size w).drew⟩
    · have g1 : (((n : Nat) : Int) == (q.size : Int)) = false := beq_eq_false_iff_ne.2 (by omega)
      have hnz : n < q.size := by omega
      have hdI : ((n : Nat) : Int) ≤ q.size := by omega
      have hdL : ((n : Nat) : Int) < q.size := by omega
      have hv : Hid (b = (((q[n].toNat : Nat) : Int) == 32)) := Lib.hid (by
        rw [← hb.out]
        unfold cutE
        rw [hn.out, hlen.out, decide_eq_false c2, Bool.false_or, last_bytes q n hnz]
        by_cases h9 : q[n] = 32
        · rw [h9]; rfl
        · have h8 : ¬ (q[n].toNat : Int) = 32 := fun h => h9 (UInt8.toNat_inj.1 (by show q[n].toNat = 32; omega))
          rw [beq_eq_false_iff_ne.2 h9, beq_eq_false_iff_ne.2 h8])
      clear hb c2 hlen hn
      go_big_region
      go_wp2_with (fail)
      go_ret3
      exact ⟨by rw [hv.out]; rfl, (Below.refl w.heap.size w).drew⟩
end Go.Proofs.YtjplgcmfifoefaaGreatDoor
namespace Go.Proofs.YtjplgcmfifoefaaGreatDoor
open Go.RowKit Go.Maps
set_option linter.unusedVariables false
set_option linter.unusedSimpArgs false
attribute [local go_sem] Oper.semAt_some

abbrev tl (q : ByteArray) : Bs := q.data.toList
def encQ (q : ByteArray) : Array Value := #[.string q]
theorem encQ_size (q : ByteArray) : (encQ q).size = 1 := rfl
theorem encQ_one (q : ByteArray) : (encQ q).all (·.oneCell') = true := by simp [encQ, Value.oneCell']
theorem info_s3 : (Tryz.prog.info? 9).map (fun i => (i.zero, i.size, i.bytes)) = some (some (.string ⟨#[]⟩), 1, 16) := by kernel_rfl
theorem run_bsS1 (w : World) (q : ByteArray) : (Instr.buildSlice 46 1 #[(0, .string q)]).run Tryz.prog w = .ok (.slice (some ⟨w.heap.size, 0, none⟩) 1 1) (w.alloc (.cells #[.string q] 9)) := by kernel_rfl
section
variable {ops : Array Oper} {rest : List Oper} {o : Oper} {a : Act} {w : World} {Q : Exit → Act → World → Prop}
theorem wl_bsS (hgd : o.guard = none) (x : Operand) (ho : o.op = .buildSlice 46 1 #[(0, x)]) (q : ByteArray) (hx : a.eval x = .string q)
    (h : wpList Tryz.prog ops Q rest (a.put o.dst (.slice (some ⟨w.heap.size, 0, none⟩) 1 1)) (w.alloc (.cells (encQ q) 9))) : wpList Tryz.prog ops Q (o :: rest) a w :=
  wpList_plain hgd fun _ hK => by
    unfold Oper.wp execOp
    simp only [ho, List.map_toArray, List.map_cons, List.map_nil, hx, Sem.run_bind, run_bsS1, Result.andThen_ok, Sem.run_pure]
    exact hK _ _ h
/-- texts appended to a row of the call's own -/
theorem wl_appS (hgd : o.guard = none) (s x : Operand) (ho : o.op = .call { callee := .builtin .append, args := #[s, x], argTypes := #[46, 46] })
    (base : Nat) (l ys : List ByteArray) {A B : Option Addr} {n c m d lo : Nat} (hs : a.eval s = .slice A n c) (hx : a.eval x = .slice B m d) (hm : m = ys.length) (hy : SliceOf w lo 1 encQ B ys) (hown : Own w base 9 1 encQ (.slice A n c) l) (hn : n = l.length) (hl : l.length + ys.length ≤ 1099511627776) (hbase : base ≤ w.heap.size)
    (h : ∀ A' c' w', Own w' base 9 1 encQ (.slice A' (n + m) c') (l ++ ys) → w.grownBy w' (Value.slice A n c).ownBlock → wpList Tryz.prog ops Q rest (a.put o.dst (.slice A' (n + m) c')) w') : wpList Tryz.prog ops Q (o :: rest) a w := by
  obtain ⟨ii, hii, hz0, hz1, hz2⟩ := info_parts info_s3
  subst hn
  subst hm
  refine wl_append _ hgd _ _ 46 ho base 9 ii _ 1 16 Tryz.underlying46 hii hz0 hz1 hz2 rfl (by decide) encQ_size encQ_one (.slice A l.length c) l hs hown lo _ ys.length d ys hx rfl hy (by unfold maxLen; omega) (by omega) hbase ?_
  intro v' w' ho' hg hv
  obtain ⟨A', c', rfl, _, _⟩ := ho'.shape
  have hl8 : (l ++ ys).length = l.length + ys.length := by simp
  rw [hl8] at ho' hv ⊢
  exact h _ _ _ ho' hg
end
theorem slice_oneQ {w : World} {g : Nat} {q : ByteArray} (h : Blk w g 9 (encQ q)) : SliceOf w w.heap.size 1 encQ (some ⟨g, 0, none⟩) [q] := slice_one (enc := encQ) h
theorem trim_any (q : ByteArray) (w : World) : Calls Tryz.prog 33 #[.string q, .string ⟨#[32]⟩] w fun e w' => e = .returned (.string ⟨((tl q).dropWhile (· == 32)).toArray⟩) ∧ w' = w :=
  Tryz.strings_TrimLeft_one q 32 (by decide) w
theorem dw_head : ∀ (l : Bs) (x : UInt8) (t : Bs), l.dropWhile (· == 32) = x :: t → x ≠ 32
  | [], x, t, h => by cases h
  | b :: l, x, t, h => by
    by_cases hb : (b == 32) = true
    · rw [List.dropWhile_cons_of_pos (p := fun y => y == 32) (by exact hb)] at h
      exact dw_head l x t h
    · rw [List.dropWhile_cons_of_neg (p := fun y => y == 32) (by exact hb)] at h
      injection h with h1 h2
      intro e
      rw [h1, e] at hb
      exact hb rfl
theorem cutN_pos {x : UInt8} {t : Bs} (hx : x ≠ 32) : 1 ≤ cutN (x :: t) := by
  unfold cutN
  split
  · simp only [List.length_cons]; omega
  · rw [List.findIdx_cons, beq_eq_false_iff_ne.2 hx]
    simp
/-- what parts answers -/
def PartsRes (q : ByteArray) (base : Nat) (e : Ending) (w : World) : Prop :=
  (∃ ps A c, partsG (q.size + 1) (tl q) = some (ps.map tl) ∧ e = .returned (.tuple #[.slice A ps.length c, .bool true]) ∧ Own w base 9 1 encQ (.slice A ps.length c) ps ∧ ps.length ≤ q.size)
  ∨ (partsG (q.size + 1) (tl q) = none ∧ e = .returned (.tuple #[.slice none 0 0, .bool false]))
set_option maxHeartbeats 4000000 in
theorem parts_any (q : ByteArray) (hq : q.size ≤ 1099511627776) (w : World) : Calls Tryz.prog 19 #[.string q] w fun e w' => PartsRes q w.heap.size e w' ∧ Below w.heap.size w w' := by
  obtain ⟨X, hX⟩ : ∃ X, partsG (q.size + 1) (tl q) = X := ⟨_, rfl⟩
  unfold PartsRes
  rw [hX]
  replace hX := Lib.hid hX
  go_enter Tryz.func19, Tryz.ntmps19
  go_wp2_with (fail)
  go_loopw [0, 4] (fun pv bv wr => ∃ (acc : List ByteArray) (A : Option Addr) (c : Nat) (p : ByteArray) (f : Nat), bv = .slice A acc.length c ∧ pv = .string p ∧ Own wr w.heap.size 9 1 encQ (.slice A acc.length c) acc ∧ Below w.heap.size w wr ∧ Hid (X = (partsG f (tl p)).map (acc.map tl ++ ·)) ∧ p.size < f ∧ acc.length + p.size ≤ q.size) (fun pv _ _ => strSz pv)
  case atStart => exact ⟨[], none, 0, q, q.size + 1, rfl, rfl, Own.nil_ _ _ _ _ _, Below.refl _ _, Lib.hid (by rw [hX.out]; simp), by omega, by simp⟩
  case round =>
    obtain ⟨acc, A, c, p, f, rfl, rfl, ho, hB, hu, hpf, hap⟩ := hrel
    obtain ⟨f, rfl⟩ : ∃ g, f = g + 1 := ⟨f - 1, by omega⟩
    have hu2 := hu.out
    have kT := trim_any p wr
    obtain ⟨m, hm⟩ : ∃ m, (tl p).dropWhile (· == 32) = m := ⟨_, rfl⟩
    have hml : m.length ≤ p.size := by
      rw [← hm]
      have := (List.dropWhile_sublist (l := tl p) (· == 32)).length_le
      simpa using this
    rw [hm] at kT
    obtain ⟨p1, hp1⟩ : ∃ p1 : ByteArray, ⟨m.toArray⟩ = p1 := ⟨_, rfl⟩
    have hpm : tl p1 = m := by rw [← hp1]
    have hps : p1.size = m.length := by rw [← hp1]; simp [ByteArray.size]
    rw [hp1] at kT
    clear hp1
    rw [partsG, hm] at hu2
    cases hmc : m with
    | nil =>
      have he : p1.toList.isEmpty = true := by rw [Lib.toList_data]; show (tl p1).isEmpty = true; rw [hpm, hmc]; rfl
      have hv : Hid (X = some (acc.map tl)) := Lib.hid (by rw [hu2, hmc]; simp)
      clear hu hu2 hm hml hps hpm hmc
      go_wp2_with (go_at_call 33; refine kT.mono ?_; clear kT; rintro e w3 ⟨rfl, hw3⟩; subst w3)
      go_ret2
      exact ⟨.inl ⟨acc, A, c, hv.out, rfl, ho, by omega⟩, hB⟩
    | cons x t =>
      have hne : m ≠ [] := by rw [hmc]; simp
      obtain ⟨k, hk⟩ : ∃ k, cutN m = k := ⟨_, rfl⟩
      have he : p1.toList.isEmpty = false := by rw [Lib.toList_data]; show (tl p1).isEmpty = false; rw [hpm, hmc]; rfl
      have hcn : 1 ≤ k := by rw [← hk, hmc]; exact cutN_pos (dw_head _ _ _ (hm.trans hmc))
      rw [if_neg hne] at hu2
      clear hmc
      have h10 : 0 < p1.size := by rw [hps]; exact List.length_pos_iff.2 hne
      have hkm : k ≤ p1.size := by rw [hps, ← hk]; exact cutN_le m
      have kC := cut_any p1 h10 (by omega)
      have kU := unquote_any (p1.extract 0 k) (by rw [ByteArray.size_extract]; omega)
      have hwl : tl (p1.extract 0 k) = m.take k := by
        show (p1.extract 0 k).data.toList = _
        rw [extract_bytes _ _ _ hkm, List.drop_zero]
        show (tl p1).take _ = _
        rw [hpm]
      have hrl : tl (p1.extract k p1.size) = m.drop k := by
        show (p1.extract k p1.size).data.toList = _
        rw [extract_bytes _ _ _ (Nat.le_refl _), List.take_of_length_le (by simp)]
        show (tl p1).drop _ = _
        rw [hpm]
      rw [show p1.data.toList = m from hpm, hk] at kC
      rw [show (p1.extract 0 k).data.toList = m.take k from hwl] at kU
      have hrz : Hid ((p1.extract k p1.size).size = p1.size - k) := Lib.hid (by rw [ByteArray.size_extract]; omega)
      obtain ⟨ok, hok⟩ : ∃ ok, cutE m = ok := ⟨_, rfl⟩
      obtain ⟨un, hun⟩ : ∃ un, unq (m.take k) = un := ⟨_, rfl⟩
      have hZ : unqZ (m.take k) = un.getD [] := by unfold unqZ; rw [hun]
      have hE : unqE (m.take k) = if un.isSome then 0 else 230 := by unfold unqE; rw [hun]
      rw [hok] at kC
      rw [hZ, hE] at kU
      have hcond : (k = m.length ∨ m.getD k 0 = 32) ↔ ok = true := by
        rw [← hok]
        unfold cutE
        rw [hk, Bool.or_eq_true, decide_eq_true_eq, beq_iff_eq]
      rw [hk, hun] at hu2
      cases ok with
      | false =>
        obtain ⟨ez, hez⟩ : ∃ z : Int, (if un.isSome then (0 : Int) else 230) = z := ⟨_, rfl⟩
        rw [hez] at kU
        clear hez
        have hv : Hid (X = none) := Lib.hid (by rw [hu2, if_neg (fun h => by have := hcond.1 h.1; cases this)]; rfl)
        clear hu hu2 hm hml hpm hwl hrl hk hok hun hZ hE hcond hps
        go_wp2_with (first
          | (go_at_call 33; refine kT.mono ?_; clear kT; rintro e w3 ⟨rfl, hw3⟩; subst w3)
          | (go_at_call 34; refine (kC _).mono ?_; clear kC; rintro e w4 ⟨rfl, hB4⟩)
          | (go_at_call 35; refine (kU _).mono ?_; clear kU; rintro e w5 ⟨rfl, hB5⟩))
        go_ret2
        exact ⟨.inr ⟨hv.out, rfl⟩, below_then (below_then hB hB4) hB5⟩
      | true =>
        cases un with
        | none =>
          have hv : Hid (X = none) := Lib.hid (by rw [hu2, if_neg (fun h => by cases h.2)]; rfl)
          rw [show (if (none : Option Bs).isSome then (0 : Int) else 230) = 230 from rfl] at kU
          clear hu hu2 hm hml hpm hwl hrl hk hok hun hZ hE hcond hps
          go_wp2_with (first
            | (go_at_call 33; refine kT.mono ?_; clear kT; rintro e w3 ⟨rfl, hw3⟩; subst w3)
            | (go_at_call 34; refine (kC _).mono ?_; clear kC; rintro e w4 ⟨rfl, hB4⟩)
            | (go_at_call 35; refine (kU _).mono ?_; clear kU; rintro e w5 ⟨rfl, hB5⟩))
          go_ret2
          exact ⟨.inr ⟨hv.out, rfl⟩, below_then (below_then hB hB4) hB5⟩
        | some uw =>
          rw [show (if (some uw).isSome then (0 : Int) else 230) = 0 from rfl] at kU
          have hv : Hid (X = (partsG f (tl (p1.extract k p1.size))).map ((acc ++ [p1.extract 0 k]).map tl ++ ·)) := Lib.hid (by
            rw [hu2, if_pos ⟨hcond.2 rfl, rfl⟩, hrl, List.map_append, List.map_cons, List.map_nil, hwl]
            cases partsG f (m.drop k) <;> simp)
          have hps2 := Lib.hid hps
          have hpz1 : 1 ≤ p.size := by omega
          clear hu hu2 hm hpm hwl hrl hk hok hun hZ hE hcond hps
          go_wp2_with (first
            | (go_at_call 33; refine kT.mono ?_; clear kT; rintro e w3 ⟨rfl, hw3⟩; subst w3)
            | (go_at_call 34; refine (kC _).mono ?_; clear kC; rintro e w4 ⟨rfl, hB4⟩)
            | (go_at_call 35; refine (kU _).mono ?_; clear kU; rintro e w5 ⟨rfl, hB5⟩)
            | (refine wl_bsS rfl _ rfl (p1.extract 0 k) rfl ?_)
            | (refine wl_appS rfl _ _ rfl w.heap.size acc [p1.extract 0 k] rfl rfl rfl (slice_oneQ (Blk.new _ _ _)) (((ho.then_ hB4).then_ hB5).alloc _) rfl (by rw [List.length_singleton]; omega) (by have := (below_then (below_then hB hB4) hB5).size; rw [World.size_alloc]; omega) ?_; intro A8 c8 w8 ho8 hg8))
          have hB8 : Below w.heap.size w w8 := below_own (below_alloc (below_then (below_then hB hB4) hB5) (.cells (encQ (p1.extract 0 k)) 9)) hg8 (fun k e => (ho.lt k e).1)
          have e9 : (acc ++ [p1.extract 0 k]).length = acc.length + 1 := by simp
          have hq2 := hps2.out
          refine ⟨⟨acc ++ [p1.extract 0 k], A8, c8, _, f, by rw [e9], rfl, by rw [e9]; exact ho8, hB8, hv, by rw [hrz.out]; omega, by rw [e9, hrz.out]; omega⟩, ?_⟩
          show (p1.extract k p1.size).size < p.size
          rw [hrz.out]
          omega
end Go.Proofs.YtjplgcmfifoefaaGreatDoor
namespace Go.Proofs.YtjplgcmfifoefaaGreatDoor
open Go.RowKit Go.Maps
set_option linter.unusedVariables false
set_option linter.unusedSimpArgs false
attribute [local go_sem] Oper.semAt_some

def encZ (z : Int) : Array Value := #[.int .i64 z]
theorem encZ_size (z : Int) : (encZ z).size = 1 := rfl
theorem encZ_one (z : Int) : (encZ z).all (·.oneCell') = true := by simp [encZ, Value.oneCell']
theorem cell_keep {lo : Nat} {w w' : World} {p : Addr} {v : Value} (h : w.cell? p = some v) (hp : p.block < lo) (hb : Below lo w w') : w'.cell? p = some v := (hb.cell hp).trans h
def itoaB (z : Int) : ByteArray := ⟨(Lib.itoa z).toArray⟩
theorem tl_itoa (z : Int) : tl (itoaB z) = Lib.itoa z := by simp [tl, itoaB]
set_option maxHeartbeats 2000000 in
theorem numbers_any (A : Option Addr) (n c : Nat) (zs : List Int) (hn : n = zs.length) (hn2 : n ≤ 1073741824) (hz : ∀ z ∈ zs, i64z z) (w : World) (hs : SliceOf w w.heap.size 1 encZ A zs) (hS : SOk w) :
    Calls Tryz.prog 27 #[.slice A n c] w fun e w' => (∃ A' c', e = .returned (.slice A' zs.length c') ∧ Own w' w.heap.size 9 1 encQ (.slice A' zs.length c') (zs.map itoaB)) ∧ Below w.heap.size w w' := by
  have h7 := hS.size
  replace hS := Lib.hid hS
  replace hn := Lib.hid hn
  go_enter Tryz.func27, Tryz.ntmps27
  go_wp2_with (fail)
  go_loopw [3, 8] (fun lv iv wr => ∃ (i : Nat) (A' : Option Addr) (c' : Nat), i ≤ n ∧ lv = .slice A' i c' ∧ iv = .int .i64 i ∧ Own wr w.heap.size 9 1 encQ (.slice A' i c') ((zs.take i).map itoaB) ∧ Below w.heap.size w wr) (fun _ iv _ => n - (intOf iv).toNat)
  case atStart => exact ⟨0, none, 0, by omega, rfl, rfl, Own.nil_ _ _ _ _ _, Below.refl _ _⟩
  case round =>
    obtain ⟨i, A', c', hi, rfl, rfl, ho, hB⟩ := hrel
    by_cases hl : i < n
    · have hI : ((i : Nat) : Int) < n := by omega
      have hI0 : ¬ ((i : Nat) : Int) < 0 := by omega
      have hil : i < zs.length := by rw [← hn.out]; exact hl
      obtain ⟨b, off, rfl, hb, hrow⟩ := hs.at_ (by omega)
      obtain ⟨z, hzz⟩ : ∃ z, zs[i] = z := ⟨_, rfl⟩
      have c0 := cell_keep (hrow i hil 0 _ rfl) hb hB
      rw [hzz] at c0
      have c1 : wr.cell? ⟨b, off + i, none⟩ = some (.int .i64 z) := by
        have h9 := c0
        simp only [Nat.mul_one, Nat.add_zero] at h9
        exact h9
      have c2 : wr.cell? ⟨b, off + i * 1, none⟩ = some (.int .i64 z) := by rw [Nat.mul_one]; exact c1
      clear c0
      have hzi := hz z (by rw [← hzz]; exact List.getElem_mem _)
      have kI := itoa_any z hzi.1 hzi.2
      have hS2 := hS.out.then_ h7 hB
      have htk : Hid ((zs.take (i + 1)).map itoaB = (zs.take i).map itoaB ++ [itoaB z]) := Lib.hid (by rw [List.take_add_one, List.getElem?_eq_getElem hil, hzz]; simp)
      have hln : Hid (((zs.take i).map itoaB).length = i) := Lib.hid (by rw [List.length_map, List.length_take]; omega)
      clear hzz hzi hrow
      go_wp2_with (first
        | (go_at_call 46; refine (kI wr hS2).mono ?_; clear kI; rintro e w3 ⟨rfl, hB3⟩; unfold strV)
        | (refine wl_bsS rfl _ rfl (itoaB z) rfl ?_)
        | (refine wl_appS rfl _ _ rfl w.heap.size ((zs.take i).map itoaB) [itoaB z] rfl rfl rfl (slice_oneQ (Blk.new _ _ _)) ((ho.then_ hB3).alloc _) hln.out.symm (by rw [hln.out, List.length_singleton]; omega) (by have := (below_then hB hB3).size; rw [World.size_alloc]; omega) ?_; intro A8 c8 w8 ho8 hg8))
      have hB8 : Below w.heap.size w w8 := below_own (below_alloc (below_then hB hB3) (.cells (encQ (itoaB z)) 9)) hg8 (fun k e => (ho.lt k e).1)
      rw [← htk.out] at ho8
      exact ⟨⟨i + 1, A8, c8, by omega, rfl, rfl, ho8, hB8⟩, by simp only [intOf]; omega⟩
    · have hI : ¬ ((i : Nat) : Int) < n := by omega
      have hie : i = n := by omega
      subst hie
      have hv : Hid ((zs.take i).map itoaB = zs.map itoaB) := Lib.hid (by rw [List.take_of_length_le (by rw [← hn.out]; omega)])
      go_wp2_with (fail)
      go_ret
      rw [hv.out] at ho
      refine ⟨⟨A', c', ?_, ?_⟩, hB⟩
      · rw [← hn.out]; rfl
      · rw [← hn.out]; exact ho
theorem enter_numbers (args : Array Value) (w : World) : (callFunc 27 args).run Tryz.prog w = .ok (.enter 27 args) w := by kernel_rfl
end Go.Proofs.YtjplgcmfifoefaaGreatDoor
