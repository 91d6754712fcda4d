/- Several texts in one, each over the last: Join, CutPrefix, CutSuffix, Itoa (below 100), Index and Count (one byte), genSplit of the library: the shelf's contracts laid at this program. The laying is what lay-plain.mjs printed, turned into a template by tplplain.py; behind it: strings.Split at one byte. Names of files: plain; the walks of valid, ending, number. -/
import Derived.Shelf.Strings.OnBuilder
import Derived.Shelf.Small.Wraps
import Derived.Shelf.Strconv.Itoa3
import Derived.Shelf.Strings.Split
import Derived.Test.YtenkeodfijladaaGreatDoorProg
import Derived.Test.YtenkeodfijladaaGreatDoorBase
import Derived.Lib.Hide
namespace Go.Proofs.YtenkeodfijladaaGreatDoor
open Go.RowKit Go.Shelf
def lays156_ren : Go.Shelf.Ren := ⟨fun | 156 => 43 | 165 => 75 | 166 => 76 | 169 => 77 | 240 => 101 | 241 => 102 | 276 => 124 | 277 => 125 | n => n, fun | 31 => 87 | 9 => 9 | 3 => 3 | 4 => 4 | 0 => 0 | 20 => 20 | 72 => 118 | 76 => 122 | 70 => 116 | 37 => 34 | 75 => 121 | 127 => 139 | 164 => 155 | 5 => 5 | 80 => 86 | n => n, fun | n => n⟩
theorem lays156 : Go.Proofs.Lays.n156 Tryz.prog lays156_ren := {
  mixed := by kernel_rfl
  f156 := Tryz.func43.trans (congrArg some (by kernel_rfl))
  f165 := Tryz.func75.trans (congrArg some (by kernel_rfl))
  f166 := Tryz.func76.trans (congrArg some (by kernel_rfl))
  f169 := Tryz.func77.trans (congrArg some (by kernel_rfl))
  f240 := Tryz.func101.trans (congrArg some (by kernel_rfl))
  f241 := Tryz.func102.trans (congrArg some (by kernel_rfl))
  f276 := Tryz.func124.trans (congrArg some (by kernel_rfl))
  f277 := Tryz.func125.trans (congrArg some (by kernel_rfl))
  t0 := Tryz.underlying0
  a0 := Tryz.isAgg0
  z0 := Tryz.sizeOf0
  v0 := Tryz.zeroValue0
  t3 := Tryz.underlying3
  a3 := Tryz.isAgg3
  z3 := Tryz.sizeOf3
  v3 := Tryz.zeroValue3
  t4 := Tryz.underlying4
  a4 := Tryz.isAgg4
  z4 := Tryz.sizeOf4
  v4 := Tryz.zeroValue4
  t9 := Tryz.underlying9
  a9 := Tryz.isAgg9
  z9 := Tryz.sizeOf9
  v9 := Tryz.zeroValue9
  t20 := Tryz.underlying20
  a20 := Tryz.isAgg20
  z20 := Tryz.sizeOf20
  v20 := Tryz.zeroValue20
  t31 := Tryz.underlying87
  a31 := Tryz.isAgg87
  z31 := Tryz.sizeOf87
  v31 := Tryz.zeroValue87
  t37 := Tryz.underlying34
  a37 := Tryz.isAgg34
  z37 := Tryz.sizeOf34
  v37 := Tryz.zeroValue34
  t70 := Tryz.underlying116
  a70 := Tryz.isAgg116
  z70 := Tryz.sizeOf116
  v70 := Tryz.zeroValue116
  t72 := Tryz.underlying118
  a72 := Tryz.isAgg118
  z72 := Tryz.sizeOf118
  v72 := Tryz.zeroValue118
  t75 := Tryz.underlying121
  a75 := Tryz.isAgg121
  z75 := Tryz.sizeOf121
  v75 := Tryz.zeroValue121
  t76 := Tryz.underlying122
  a76 := Tryz.isAgg122
  z76 := Tryz.sizeOf122
  v76 := Tryz.zeroValue122
  t127 := Tryz.underlying139
  a127 := Tryz.isAgg139
  z127 := Tryz.sizeOf139
  v127 := Tryz.zeroValue139
  t164 := Tryz.underlying155
  a164 := Tryz.isAgg155
  z164 := Tryz.sizeOf155
  v164 := Tryz.zeroValue155 }
theorem Builder_Extra_156 : Builder.Extra Tryz.prog lays156_ren := {
  sizeBuilder := by kernel_rfl
  liesBuilder := by kernel_rfl
  t5 := Tryz.underlying5
  a5 := Tryz.isAgg5
  z5 := Tryz.sizeOf5
  v5 := Tryz.zeroValue5
  infoByte := by kernel_rfl
  cellsByte := by kernel_rfl
  sizeByte := by kernel_rfl
  neB5 := by decide }
open Go.RowKit in
/-- strings.Join: "Join concatenates the elements of its first argument to create a single string. The separator string sep is placed between elements in the resulting string.": HOWEVER MANY ELEMENTS. Below the heap's end the world is as it was. (LAID: no walk: one application.) -/
theorem strings_Join (bk o c : Nat) (xs : List ByteArray) (sep : ByteArray) (w : World) (hcells : ∀ (j : Nat) x, xs[j]? = some x → w.cell? ⟨bk, o + j, none⟩ = some (.string x)) (hbk : bk < w.heap.size) (hN : xs.length ≤ 140737488355328) (hcap : xs.length ≤ c) (hlen : (Lib.join (xs.map (·.data.toList)) sep.data.toList).length ≤ 140737488355328) :
    Calls Tryz.prog 43 #[.slice (some ⟨bk, o, none⟩) xs.length c, .string sep] w fun e w' => e = .returned (.string ⟨(Lib.join (xs.map (·.data.toList)) sep.data.toList).toArray⟩) ∧ Below w.heap.size w w' := Any.strings_Join lays156 Builder_Extra_156 bk o c xs sep w hcells hbk hN hcap hlen
def lays103_ren : Go.Shelf.Ren := ⟨fun | 103 => 49 | 210 => 81 | 206 => 108 | n => n, fun | 9 => 9 | 4 => 4 | 24 => 88 | 3 => 3 | n => n, fun | n => n⟩
theorem lays103 : Go.Proofs.Lays.n103 Tryz.prog lays103_ren := {
  mixed := by kernel_rfl
  f103 := Tryz.func49.trans (congrArg some (by kernel_rfl))
  f206 := Tryz.func108.trans (congrArg some (by kernel_rfl))
  f210 := Tryz.func81.trans (congrArg some (by kernel_rfl))
  t3 := Tryz.underlying3
  a3 := Tryz.isAgg3
  z3 := Tryz.sizeOf3
  v3 := Tryz.zeroValue3
  t4 := Tryz.underlying4
  a4 := Tryz.isAgg4
  z4 := Tryz.sizeOf4
  v4 := Tryz.zeroValue4
  t9 := Tryz.underlying9
  a9 := Tryz.isAgg9
  z9 := Tryz.sizeOf9
  v9 := Tryz.zeroValue9
  t24 := Tryz.underlying88
  a24 := Tryz.isAgg88
  z24 := Tryz.sizeOf88
  v24 := Tryz.zeroValue88 }
open Go.RowKit in
/-- strings.CutPrefix: "CutPrefix returns s without the provided leading prefix string and reports whether it found the prefix. If s doesn't start with prefix, CutPrefix returns s, false. If prefix is the empty string, CutPrefix returns s, true.": IT RETURNS '(Lib.trimPrefix s p, Lib.hasPrefix s p)'; the world is as it was. (LAID: no walk: one application.) -/
theorem strings_CutPrefix (s p : ByteArray) (w : World) :
    Calls Tryz.prog 49 #[.string s, .string p] w fun e w' => e = .returned (.tuple #[.string ⟨(Lib.trimPrefix s.data.toList p.data.toList).toArray⟩, .bool (Lib.hasPrefix s.data.toList p.data.toList)]) ∧ w' = w := Any.strings_CutPrefix lays103 s p w
def lays104_ren : Go.Shelf.Ren := ⟨fun | 104 => 46 | 211 => 79 | 207 => 104 | n => n, fun | 9 => 9 | 4 => 4 | 24 => 88 | 3 => 3 | n => n, fun | n => n⟩
theorem lays104 : Go.Proofs.Lays.n104 Tryz.prog lays104_ren := {
  mixed := by kernel_rfl
  f104 := Tryz.func46.trans (congrArg some (by kernel_rfl))
  f207 := Tryz.func104.trans (congrArg some (by kernel_rfl))
  f211 := Tryz.func79.trans (congrArg some (by kernel_rfl))
  t3 := Tryz.underlying3
  a3 := Tryz.isAgg3
  z3 := Tryz.sizeOf3
  v3 := Tryz.zeroValue3
  t4 := Tryz.underlying4
  a4 := Tryz.isAgg4
  z4 := Tryz.sizeOf4
  v4 := Tryz.zeroValue4
  t9 := Tryz.underlying9
  a9 := Tryz.isAgg9
  z9 := Tryz.sizeOf9
  v9 := Tryz.zeroValue9
  t24 := Tryz.underlying88
  a24 := Tryz.isAgg88
  z24 := Tryz.sizeOf88
  v24 := Tryz.zeroValue88 }
open Go.RowKit in
/-- strings.CutSuffix: "CutSuffix returns s without the provided ending suffix string and reports whether it found the suffix. If s doesn't end with suffix, CutSuffix returns s, false. If suffix is the empty string, CutSuffix returns s, true.": IT RETURNS '(Lib.trimSuffix s p, Lib.hasSuffix s p)'; the world is as it was. (LAID: no walk: one application.) -/
theorem strings_CutSuffix (s p : ByteArray) (w : World) (hs : s.size ≤ 9223372036854775807) :
    Calls Tryz.prog 46 #[.string s, .string p] w fun e w' => e = .returned (.tuple #[.string ⟨(Lib.trimSuffix s.data.toList p.data.toList).toArray⟩, .bool (Lib.hasSuffix s.data.toList p.data.toList)]) ∧ w' = w := Any.strings_CutSuffix lays104 s p w hs
def lays171_ren : Go.Shelf.Ren := ⟨fun | 171 => 44 | 243 => 78 | 246 => 103 | 283 => 126 | 284 => 127 | 285 => 128 | 286 => 129 | 129 => 143 | 317 => 148 | 318 => 149 | 319 => 150 | 320 => 151 | 337 => 164 | 338 => 165 | n => n, fun | 3 => 3 | 9 => 9 | 2 => 2 | 4 => 4 | 171 => 158 | 0 => 0 | 53 => 32 | 37 => 34 | 5 => 5 | 173 => 160 | 212 => 177 | 51 => 33 | 20 => 20 | 213 => 178 | 46 => 132 | 232 => 195 | 233 => 196 | n => n, fun | 17 => 1 | 18 => 4 | 19 => 5 | n => n⟩
theorem lays171 : Go.Proofs.Lays.n171 Tryz.prog lays171_ren := {
  mixed := by kernel_rfl
  f129 := Tryz.func143.trans (congrArg some (by kernel_rfl))
  f171 := Tryz.func44.trans (congrArg some (by kernel_rfl))
  f243 := Tryz.func78.trans (congrArg some (by kernel_rfl))
  f246 := Tryz.func103.trans (congrArg some (by kernel_rfl))
  f283 := Tryz.func126.trans (congrArg some (by kernel_rfl))
  f284 := Tryz.func127.trans (congrArg some (by kernel_rfl))
  f285 := Tryz.func128.trans (congrArg some (by kernel_rfl))
  f286 := Tryz.func129.trans (congrArg some (by kernel_rfl))
  f317 := Tryz.func148.trans (congrArg some (by kernel_rfl))
  f318 := Tryz.func149.trans (congrArg some (by kernel_rfl))
  f319 := Tryz.func150.trans (congrArg some (by kernel_rfl))
  f320 := Tryz.func151.trans (congrArg some (by kernel_rfl))
  f337 := Tryz.func164.trans (congrArg some (by kernel_rfl))
  f338 := Tryz.func165.trans (congrArg some (by kernel_rfl))
  t0 := Tryz.underlying0
  a0 := Tryz.isAgg0
  z0 := Tryz.sizeOf0
  v0 := Tryz.zeroValue0
  t2 := Tryz.underlying2
  a2 := Tryz.isAgg2
  z2 := Tryz.sizeOf2
  v2 := Tryz.zeroValue2
  t3 := Tryz.underlying3
  a3 := Tryz.isAgg3
  z3 := Tryz.sizeOf3
  v3 := Tryz.zeroValue3
  t4 := Tryz.underlying4
  a4 := Tryz.isAgg4
  z4 := Tryz.sizeOf4
  v4 := Tryz.zeroValue4
  t5 := Tryz.underlying5
  a5 := Tryz.isAgg5
  z5 := Tryz.sizeOf5
  v5 := Tryz.zeroValue5
  t9 := Tryz.underlying9
  a9 := Tryz.isAgg9
  z9 := Tryz.sizeOf9
  v9 := Tryz.zeroValue9
  t20 := Tryz.underlying20
  a20 := Tryz.isAgg20
  z20 := Tryz.sizeOf20
  v20 := Tryz.zeroValue20
  t37 := Tryz.underlying34
  a37 := Tryz.isAgg34
  z37 := Tryz.sizeOf34
  v37 := Tryz.zeroValue34
  t46 := Tryz.underlying132
  a46 := Tryz.isAgg132
  z46 := Tryz.sizeOf132
  v46 := Tryz.zeroValue132
  t51 := Tryz.underlying33
  a51 := Tryz.isAgg33
  z51 := Tryz.sizeOf33
  v51 := Tryz.zeroValue33
  t53 := Tryz.underlying32
  a53 := Tryz.isAgg32
  z53 := Tryz.sizeOf32
  v53 := Tryz.zeroValue32
  t171 := Tryz.underlying158
  a171 := Tryz.isAgg158
  z171 := Tryz.sizeOf158
  v171 := Tryz.zeroValue158
  t173 := Tryz.underlying160
  a173 := Tryz.isAgg160
  z173 := Tryz.sizeOf160
  v173 := Tryz.zeroValue160
  t212 := Tryz.underlying177
  a212 := Tryz.isAgg177
  z212 := Tryz.sizeOf177
  v212 := Tryz.zeroValue177
  t213 := Tryz.underlying178
  a213 := Tryz.isAgg178
  z213 := Tryz.sizeOf178
  t232 := Tryz.underlying195
  a232 := Tryz.isAgg195
  z232 := Tryz.sizeOf195
  v232 := Tryz.zeroValue195
  t233 := Tryz.underlying196
  a233 := Tryz.isAgg196
  z233 := Tryz.sizeOf196
  v233 := Tryz.zeroValue196
  g17 := by kernel_rfl
  g18 := by kernel_rfl
  g19 := by kernel_rfl }
open Go.RowKit Go.Sort Go.Lib in
/-- THE ROAD WITHOUT THE TABLE: 0 <= i < 100: NO PREMISE ON THE WORLD, AND THE WORLD IS AS IT WAS: a row that keeps its argument in that range need list no table ('laid = []'). (LAID: no walk: one application.) -/
theorem strconv_Itoa_small (i : Nat) (hi : i < 100) (w : World) :
    Calls Tryz.prog 44 #[.int .i64 i] w fun e w' => e = .returned (.string ⟨(Lib.decDigits i).toArray⟩) ∧ w' = w := Any.strconv_Itoa_small lays171 i hi w
def lays143_ren : Go.Shelf.Ren := ⟨fun | 143 => 107 | 219 => 133 | 217 => 153 | 225 => 154 | 224 => 155 | 267 => 156 | 266 => 166 | 314 => 167 | n => n, fun | 9 => 9 | 3 => 3 | 4 => 4 | 5 => 5 | 46 => 132 | 146 => 190 | 51 => 33 | n => n, fun | 1 => 0 | n => n⟩
theorem lays143 : Go.Proofs.Lays.n143 Tryz.prog lays143_ren := {
  mixed := by kernel_rfl
  f143 := Tryz.func107.trans (congrArg some (by kernel_rfl))
  f217 := Tryz.func153.trans (congrArg some (by kernel_rfl))
  f219 := Tryz.func133.trans (congrArg some (by kernel_rfl))
  f224 := Tryz.func155.trans (congrArg some (by kernel_rfl))
  f225 := Tryz.func154.trans (congrArg some (by kernel_rfl))
  f266 := Tryz.func166.trans (congrArg some (by kernel_rfl))
  f267 := Tryz.func156.trans (congrArg some (by kernel_rfl))
  f314 := Tryz.func167.trans (congrArg some (by kernel_rfl))
  t3 := Tryz.underlying3
  a3 := Tryz.isAgg3
  z3 := Tryz.sizeOf3
  v3 := Tryz.zeroValue3
  t4 := Tryz.underlying4
  a4 := Tryz.isAgg4
  z4 := Tryz.sizeOf4
  v4 := Tryz.zeroValue4
  t5 := Tryz.underlying5
  a5 := Tryz.isAgg5
  z5 := Tryz.sizeOf5
  v5 := Tryz.zeroValue5
  t9 := Tryz.underlying9
  a9 := Tryz.isAgg9
  z9 := Tryz.sizeOf9
  v9 := Tryz.zeroValue9
  t46 := Tryz.underlying132
  a46 := Tryz.isAgg132
  z46 := Tryz.sizeOf132
  v46 := Tryz.zeroValue132
  t51 := Tryz.underlying33
  a51 := Tryz.isAgg33
  z51 := Tryz.sizeOf33
  v51 := Tryz.zeroValue33
  t146 := Tryz.underlying190
  a146 := Tryz.isAgg190
  z146 := Tryz.sizeOf190
  v146 := Tryz.zeroValue190
  g1 := by kernel_rfl }
open Go.RowKit Go.Lib in
/-- strings.Index: "Index returns the index of the first instance of substr in s, or -1 if substr is not present in s.": AT A substr OF ONE BYTE c: IT RETURNS 'Lib.indexByte s c'; the world is as it was. (LAID: no walk: one application.) -/
theorem strings_Index_one (s : ByteArray) (c : UInt8) (w : World) :
    Calls Tryz.prog 107 #[.string s, .string ⟨#[c]⟩] w fun e w' => e = .returned (.int .i64 (Lib.indexByte s.data.toList c)) ∧ w' = w := Any.strings_Index_one lays143 s c w
def lays138_ren : Go.Shelf.Ren := ⟨fun | 138 => 106 | 195 => 130 | 218 => 132 | 143 => 107 | 219 => 133 | 217 => 153 | 225 => 154 | 224 => 155 | 267 => 156 | 266 => 166 | 314 => 167 | n => n, fun | 9 => 9 | 3 => 3 | 4 => 4 | 5 => 5 | 0 => 0 | 46 => 132 | 146 => 190 | 51 => 33 | n => n, fun | 1 => 0 | n => n⟩
theorem lays138 : Go.Proofs.Lays.n138 Tryz.prog lays138_ren := {
  mixed := by kernel_rfl
  f138 := Tryz.func106.trans (congrArg some (by kernel_rfl))
  f143 := Tryz.func107.trans (congrArg some (by kernel_rfl))
  f195 := Tryz.func130.trans (congrArg some (by kernel_rfl))
  f217 := Tryz.func153.trans (congrArg some (by kernel_rfl))
  f218 := Tryz.func132.trans (congrArg some (by kernel_rfl))
  f219 := Tryz.func133.trans (congrArg some (by kernel_rfl))
  f224 := Tryz.func155.trans (congrArg some (by kernel_rfl))
  f225 := Tryz.func154.trans (congrArg some (by kernel_rfl))
  f266 := Tryz.func166.trans (congrArg some (by kernel_rfl))
  f267 := Tryz.func156.trans (congrArg some (by kernel_rfl))
  f314 := Tryz.func167.trans (congrArg some (by kernel_rfl))
  t0 := Tryz.underlying0
  a0 := Tryz.isAgg0
  z0 := Tryz.sizeOf0
  v0 := Tryz.zeroValue0
  t3 := Tryz.underlying3
  a3 := Tryz.isAgg3
  z3 := Tryz.sizeOf3
  v3 := Tryz.zeroValue3
  t4 := Tryz.underlying4
  a4 := Tryz.isAgg4
  z4 := Tryz.sizeOf4
  v4 := Tryz.zeroValue4
  t5 := Tryz.underlying5
  a5 := Tryz.isAgg5
  z5 := Tryz.sizeOf5
  v5 := Tryz.zeroValue5
  t9 := Tryz.underlying9
  a9 := Tryz.isAgg9
  z9 := Tryz.sizeOf9
  v9 := Tryz.zeroValue9
  t46 := Tryz.underlying132
  a46 := Tryz.isAgg132
  z46 := Tryz.sizeOf132
  v46 := Tryz.zeroValue132
  t51 := Tryz.underlying33
  a51 := Tryz.isAgg33
  z51 := Tryz.sizeOf33
  v51 := Tryz.zeroValue33
  t146 := Tryz.underlying190
  a146 := Tryz.isAgg190
  z146 := Tryz.sizeOf190
  v146 := Tryz.zeroValue190
  g1 := by kernel_rfl }
open Go.RowKit Go.Lib in
/-- strings.Count AT A substr OF ONE BYTE ('hp'): "Count counts the number of non-overlapping instances of substr in s.": IT RETURNS 'Lib.countByte s (that byte)'; the world is as it was. ✋ NO CONTRACT HERE YET at an empty substr (utf8.RuneCountInString) or at a longer one (a loop over strings.Index). (LAID: no walk: one application.) -/
theorem strings_Count_one (s : ByteArray) (c : UInt8) (w : World) :
    Calls Tryz.prog 106 #[.string s, .string ⟨#[c]⟩] w fun e w' => e = .returned (.int .i64 (Lib.countByte s.data.toList c)) ∧ w' = w := Any.strings_Count_one lays138 s c w
def lays221_ren : Go.Shelf.Ren := ⟨fun | 221 => 80 | 268 => 105 | 138 => 106 | 143 => 107 | 195 => 130 | 197 => 131 | 218 => 132 | 219 => 133 | 260 => 152 | 217 => 153 | 225 => 154 | 224 => 155 | 267 => 156 | 266 => 166 | 314 => 167 | n => n, fun | 9 => 9 | 3 => 3 | 31 => 87 | 4 => 4 | 0 => 0 | 105 => 162 | 21 => 21 | 5 => 5 | 46 => 132 | 119 => 186 | 139 => 189 | 138 => 188 | 146 => 190 | 51 => 33 | n => n, fun | 1 => 0 | 3 => 2 | 4 => 3 | n => n⟩
theorem lays221 : Go.Proofs.Lays.n221 Tryz.prog lays221_ren := {
  mixed := by kernel_rfl
  f138 := Tryz.func106.trans (congrArg some (by kernel_rfl))
  f143 := Tryz.func107.trans (congrArg some (by kernel_rfl))
  f195 := Tryz.func130.trans (congrArg some (by kernel_rfl))
  f197 := Tryz.func131.trans (congrArg some (by kernel_rfl))
  f217 := Tryz.func153.trans (congrArg some (by kernel_rfl))
  f218 := Tryz.func132.trans (congrArg some (by kernel_rfl))
  f219 := Tryz.func133.trans (congrArg some (by kernel_rfl))
  f221 := Tryz.func80.trans (congrArg some (by kernel_rfl))
  f224 := Tryz.func155.trans (congrArg some (by kernel_rfl))
  f225 := Tryz.func154.trans (congrArg some (by kernel_rfl))
  f260 := Tryz.func152.trans (congrArg some (by kernel_rfl))
  f266 := Tryz.func166.trans (congrArg some (by kernel_rfl))
  f267 := Tryz.func156.trans (congrArg some (by kernel_rfl))
  f268 := Tryz.func105.trans (congrArg some (by kernel_rfl))
  f314 := Tryz.func167.trans (congrArg some (by kernel_rfl))
  t0 := Tryz.underlying0
  a0 := Tryz.isAgg0
  z0 := Tryz.sizeOf0
  v0 := Tryz.zeroValue0
  t3 := Tryz.underlying3
  a3 := Tryz.isAgg3
  z3 := Tryz.sizeOf3
  v3 := Tryz.zeroValue3
  t4 := Tryz.underlying4
  a4 := Tryz.isAgg4
  z4 := Tryz.sizeOf4
  v4 := Tryz.zeroValue4
  t5 := Tryz.underlying5
  a5 := Tryz.isAgg5
  z5 := Tryz.sizeOf5
  v5 := Tryz.zeroValue5
  t9 := Tryz.underlying9
  a9 := Tryz.isAgg9
  z9 := Tryz.sizeOf9
  v9 := Tryz.zeroValue9
  t21 := Tryz.underlying21
  a21 := Tryz.isAgg21
  z21 := Tryz.sizeOf21
  v21 := Tryz.zeroValue21
  t31 := Tryz.underlying87
  a31 := Tryz.isAgg87
  z31 := Tryz.sizeOf87
  v31 := Tryz.zeroValue87
  t46 := Tryz.underlying132
  a46 := Tryz.isAgg132
  z46 := Tryz.sizeOf132
  v46 := Tryz.zeroValue132
  t51 := Tryz.underlying33
  a51 := Tryz.isAgg33
  z51 := Tryz.sizeOf33
  v51 := Tryz.zeroValue33
  t105 := Tryz.underlying162
  a105 := Tryz.isAgg162
  z105 := Tryz.sizeOf162
  v105 := Tryz.zeroValue162
  t119 := Tryz.underlying186
  a119 := Tryz.isAgg186
  z119 := Tryz.sizeOf186
  t138 := Tryz.underlying188
  a138 := Tryz.isAgg188
  z138 := Tryz.sizeOf188
  v138 := Tryz.zeroValue188
  t139 := Tryz.underlying189
  a139 := Tryz.isAgg189
  z139 := Tryz.sizeOf189
  v139 := Tryz.zeroValue189
  t146 := Tryz.underlying190
  a146 := Tryz.isAgg190
  z146 := Tryz.sizeOf190
  v146 := Tryz.zeroValue190
  g1 := by kernel_rfl
  g3 := by kernel_rfl
  g4 := by kernel_rfl }

/-- strings.Split at one byte: no premise on the world. -/
theorem genSplit1 (s : ByteArray) (c : UInt8) (w : World) (hs : s.size < 4294967281) :
    Calls Tryz.prog 80 #[.string s, .string ⟨#[c]⟩, .int .i64 0, .int .i64 (-1)] w fun e w' =>
      e = .returned (.slice (some ⟨w.heap.size, 0, none⟩) (Lib.splitB ⟨#[c]⟩ 0 (Lib.countB s ⟨#[c]⟩) s).length (Lib.countB s ⟨#[c]⟩ + 1)) ∧ w' = w.alloc (.cells (Lib.cellsOf (Lib.splitB ⟨#[c]⟩ 0 (Lib.countB s ⟨#[c]⟩) s) (Lib.countB s ⟨#[c]⟩ + 1)) 9) := by
  have hC : Calls Tryz.prog 106 #[.string s, .string ⟨#[c]⟩] w fun e w' => e = .returned (.int .i64 (Lib.countB s ⟨#[c]⟩)) ∧ w' = w := by
    refine (strings_Count_one s c w).mono ?_
    rintro e w' ⟨rfl, rfl⟩
    refine ⟨?_, rfl⟩
    show _ = Ending.returned (Value.int .i64 ((Lib.count s.data.toList [c] : Nat) : Int))
    rw [Lib.count_one]
    rfl
  have hcl : Lib.countB s ⟨#[c]⟩ ≤ s.size := Lib.countB_le ⟨#[c]⟩ (Nat.le_refl 1) _ s (Nat.le_refl _)
  exact Any.strings_genSplit_core lays221 (by kernel_rfl) s ⟨#[c]⟩ 0 (-1) (Lib.countB s ⟨#[c]⟩ + 1) w hs (Nat.le_refl 1) (Nat.zero_le _) (fun x c' _ => by
    refine (strings_Index_one x c _).mono ?_
    rintro e w' ⟨rfl, rfl⟩
    refine ⟨?_, rfl⟩
    show _ = Ending.returned (Value.int .i64 (Lib.index x.data.toList [c]))
    rw [Lib.index_one]) hC (by decide) (by decide) (by simp; omega)
/-- The pieces of a string between the bytes c. -/
def pieces (s : ByteArray) (c : UInt8) : List ByteArray := Lib.splitB ⟨#[c]⟩ 0 (Lib.countB s ⟨#[c]⟩) s
theorem pieces_len (s : ByteArray) (c : UInt8) : (pieces s c).length = Lib.countB s ⟨#[c]⟩ + 1 := Lib.splitB_all ⟨#[c]⟩ (Nat.le_refl 1) 0 _ s rfl
theorem split1_any (s : ByteArray) (c : UInt8) (w : World) (hs : s.size < 4294967281) :
    Calls Tryz.prog 47 #[.string s, .string ⟨#[c]⟩] w fun e w' =>
      e = .returned (.slice (some ⟨w.heap.size, 0, none⟩) (pieces s c).length (pieces s c).length) ∧ w' = w.alloc (.cells ((pieces s c).map Value.string).toArray 9) := by
  have HG := Lib.hid (genSplit1 s c w hs)
  have e1 := pieces_len s c
  unfold pieces at e1
  rw [← e1, Lib.cellsOf_full] at HG
  go_enter Tryz.func47, Tryz.ntmps47
  go_wp2_with fail
  refine HG.out.mono ?_
  rintro e w' ⟨rfl, rfl⟩
  go_wp2_with fail
  go_ret
  exact ⟨by rw [pieces_len]; rfl, rfl⟩
end Go.Proofs.YtenkeodfijladaaGreatDoor

namespace Go.Proofs.YtenkeodfijladaaGreatDoor
open Go.RowKit

structure Nam where
  kind : Int
  slot : Int
  gen : Int
  shard : Int
  temp : Bool
  deriving DecidableEq
def nam0 : Nam := ⟨0, 0, 0, 0, false⟩
abbrev namC (x : Nam) : Array Value := #[.int .i64 x.kind, .int .i64 x.slot, .int .i64 x.gen, .int .i64 x.shard, .bool x.temp]
abbrev namV (x : Nam) : Value := .agg (namC x)
/-- Slot, generation and shard are in their ranges. -/
def inN (x : Nam) : Prop := 0 ≤ x.shard ∧ x.shard < 6 ∧ 0 ≤ x.slot ∧ x.slot < 4 ∧ 1 ≤ x.gen ∧ x.gen ≤ 8
instance (x : Nam) : Decidable (inN x) := by unfold inN; infer_instance
def validN (x : Nam) : Prop := inN x ∧ ((x.kind = 1 ∨ x.kind = 2 ∨ x.kind = 3) ∧ x.temp = false ∧ x.shard = 0 ∨ x.kind = 4 ∧ x.shard = 0 ∨ x.kind = 5)
instance (x : Nam) : Decidable (validN x) := by unfold validN; infer_instance
/-- What stands behind the last dot. -/
def endN (x : Nam) : List UInt8 := if x.kind = 1 then [100, 97, 116] else if x.kind = 2 then [115, 104, 100] else if x.kind = 3 then [100, 101, 108] else if x.kind = 4 then [105, 100, 120] else [101, 99, UInt8.ofNat (48 + x.shard.toNat)]
def fmtL (x : Nam) : List UInt8 := [118, 46, UInt8.ofNat (48 + x.slot.toNat), 46, UInt8.ofNat (48 + x.gen.toNat), 46] ++ endN x ++ (if x.temp then [46, 116, 109, 112] else [])
def fmtN (x : Nam) : List UInt8 := if validN x then fmtL x else []
abbrev strV (l : List UInt8) : Value := .string ⟨l.toArray⟩
/-- A name in a block of its own. -/
structure BoxN (W : World) (b : Nat) (x : Nam) : Prop where
  c0 : W.cell? ⟨b, 0, none⟩ = some (.int .i64 x.kind)
  c1 : W.cell? ⟨b, 1, none⟩ = some (.int .i64 x.slot)
  c2 : W.cell? ⟨b, 2, none⟩ = some (.int .i64 x.gen)
  c3 : W.cell? ⟨b, 3, none⟩ = some (.int .i64 x.shard)
  c4 : W.cell? ⟨b, 4, none⟩ = some (.bool x.temp)
  f : ∀ i, W.frozen? ⟨b, i, none⟩ = false
theorem BoxN.new (W : World) (x : Nam) (t : TypeId) : BoxN (W.alloc (.cells (namC x) t)) W.heap.size x := ⟨by simp, by simp, by simp, by simp, by simp, fun i => by simp⟩
theorem BoxN.lt {W : World} {b : Nat} {x : Nam} (h : BoxN W b x) : b < W.heap.size := World.block_lt_of_cell? W _ h.c0
theorem BoxN.below {W W' : World} {b : Nat} {x : Nam} (h : BoxN W b x) (hB : Below W.heap.size W W') : BoxN W' b x := ⟨Below.keeps hB _ _ h.c0, Below.keeps hB _ _ h.c1, Below.keeps hB _ _ h.c2, Below.keeps hB _ _ h.c3, Below.keeps hB _ _ h.c4, fun i => (hB.frozen (p := ⟨b, i, none⟩) h.lt).trans (h.f i)⟩
theorem below_nam (w : World) (x : Nam) (t : TypeId) : Below w.heap.size w (w.alloc (.cells (namC x) t)) := (Below.refl _ _).alloc (Nat.le_refl _) _

set_option maxRecDepth 100000 in
set_option maxHeartbeats 4000000 in
theorem nvalid_any (x : Nam) (w : World) : Calls Tryz.prog 42 #[namV x] w fun e w' => e = .returned (.bool (decide (validN x))) ∧ Below w.heap.size w w' := by
  obtain ⟨k, s, g, d, t⟩ := x
  have HB := below_nam w ⟨k, s, g, d, t⟩ 64
  go_enter Tryz.func42, Tryz.ntmps42
  cases t <;> go_wp2_with fail
  all_goals
    go_ret
    refine ⟨ret_bool ?_, HB⟩
    clear HB
    try simp only [beq_iff_eq, bne_iff_ne, beq_eq_false_iff_ne, bne_eq_false_iff_eq, ne_eq] at *
    first
    | (refine (decide_eq_false ?_).symm; unfold validN inN; simp only [reduceCtorEq, true_and, and_false, false_and, false_or]; omega)
    | (rw [decide_eq_decide]; unfold validN inN; simp only [reduceCtorEq, true_and, and_false, false_and, false_or]; omega)
set_option maxRecDepth 100000 in
set_option maxHeartbeats 4000000 in
theorem ending_any (x : Nam) (w : World) (h : x.kind = 1 ∨ x.kind = 2 ∨ x.kind = 3 ∨ x.kind = 4 ∨ 0 ≤ x.shard ∧ x.shard < 6) : Calls Tryz.prog 45 #[namV x] w fun e w' => e = .returned (strV (endN x)) ∧ Below w.heap.size w w' := by
  obtain ⟨k, s, g, d, t⟩ := x
  have HB := below_nam w ⟨k, s, g, d, t⟩ 64
  dsimp only at h
  unfold endN strV
  dsimp only
  go_enter Tryz.func45, Tryz.ntmps45
  by_cases h1 : k = 1
  · subst h1
    go_wp2_with fail
    go_ret
    exact ⟨rfl, HB⟩
  by_cases h2 : k = 2
  · subst h2
    go_wp2_with fail
    go_ret
    exact ⟨rfl, HB⟩
  by_cases h3 : k = 3
  · subst h3
    go_wp2_with fail
    go_ret
    exact ⟨rfl, HB⟩
  by_cases h4 : k = 4
  · subst h4
    go_wp2_with fail
    go_ret
    exact ⟨rfl, HB⟩
  obtain ⟨d0, d1⟩ := ((h.resolve_left h1).resolve_left h2).resolve_left h3 |>.resolve_left h4
  obtain ⟨j, rfl⟩ : ∃ j : Nat, d = (j : Int) := ⟨d.toNat, by omega⟩
  have HI := Lib.hid (strconv_Itoa_small j (by omega))
  rw [if_neg h1, if_neg h2, if_neg h3, if_neg h4]
  have e1 : decide (k = 1) = false := decide_eq_false h1
  have e2 : decide (k = 2) = false := decide_eq_false h2
  have e3 : decide (k = 3) = false := decide_eq_false h3
  have e4 : decide (k = 4) = false := decide_eq_false h4
  rw [Lib.decDigits_one (by omega)] at HI
  have hj : ((j : Int)).toNat = j := rfl
  rw [hj]
  clear h
  go_wp2_with fail
  refine (HI.out _).mono ?_
  rintro e w1 ⟨rfl, rfl⟩
  go_wp2_with fail
  go_ret
  refine ⟨?_, HB⟩
  rw [show (48 + UInt8.ofNat j) = UInt8.ofNat (48 + j) from (UInt8.ofNat_add 48 j).symm]
  rfl
end Go.Proofs.YtenkeodfijladaaGreatDoor
