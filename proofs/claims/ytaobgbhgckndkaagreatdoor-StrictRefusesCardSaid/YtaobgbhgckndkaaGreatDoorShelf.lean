/- Contracts of the library's functions over this seat's translation, laid by the kit's own tool in plain words. No condition of ours. -/
import Derived.Shelf.Strings.Builder1
import Derived.Shelf.Strings.Builder2
import Derived.Shelf.Strings.OnBuilder
import Derived.Shelf.Strings.Trim
import Derived.Shelf.Small.Utf8
import Derived.Shelf.Small.Strs
import Derived.Shelf.Small.Wraps
import Derived.Shelf.Strings.BuilderF
import Derived.Shelf.Strings.BuilderK
import Derived.Shelf.Strings.BuilderRune
import Derived.Shelf.Utf8.AppendRune
import Derived.Shelf.Utf8.AppendRunePlain
import Derived.Shelf.Strings.Search1
import Derived.Shelf.Strings.Search2
import Derived.Shelf.Strings.Search3
import Derived.Shelf.Strings.Cut
import Derived.Shelf.Strings.Count
import Derived.Shelf.Strings.Shaped
import Derived.Shelf.Sort.Plain
import Derived.Shelf.Strings.Prefix
import Derived.Shelf.Strings.Split
import Derived.Shelf.Strings.SplitShaped
import Derived.Shelf.Strings.Runes
import Derived.Shelf.Strings.AsciiSet
import Derived.Shelf.Unicode.DecodeSlow
import Derived.Shelf.Unicode.DecodeAny
import Derived.Shelf.Slices.Turned
import Derived.Shelf.Slices.Equal
import Derived.Ground.Names2Prog
import Derived.Shelf.Slices.Clone
import Derived.Test.YtaobgbhgckndkaaGreatDoorProg
namespace Go.Proofs
open Go.Shelf
def Tryz.lays169_ren : Go.Shelf.Ren := ⟨fun | 169 => 74 | n => n, fun | 70 => 139 | 9 => 9 | 0 => 0 | 72 => 141 | 37 => 55 | 127 => 185 | 3 => 3 | 5 => 5 | n => n, fun | n => n⟩
theorem Tryz.lays169 : Go.Proofs.Lays.n169 Tryz.prog Tryz.lays169_ren := {
  mixed := by kernel_rfl
  f169 := Tryz.func74.trans (congrArg some (by kernel_rfl))
  t0 := Tryz.underlying0
  a0 := Tryz.isAgg0
  z0 := Tryz.sizeOf0
  v0 := Tryz.zeroValue0
  t3 := Tryz.underlying3
  a3 := Tryz.isAgg3
  z3 := Tryz.sizeOf3
  v3 := Tryz.zeroValue3
  t9 := Tryz.underlying9
  a9 := Tryz.isAgg9
  z9 := Tryz.sizeOf9
  v9 := Tryz.zeroValue9
  t37 := Tryz.underlying55
  a37 := Tryz.isAgg55
  z37 := Tryz.sizeOf55
  v37 := Tryz.zeroValue55
  t70 := Tryz.underlying139
  a70 := Tryz.isAgg139
  z70 := Tryz.sizeOf139
  v70 := Tryz.zeroValue139
  t72 := Tryz.underlying141
  a72 := Tryz.isAgg141
  z72 := Tryz.sizeOf141
  v72 := Tryz.zeroValue141
  t127 := Tryz.underlying185
  a127 := Tryz.isAgg185
  z127 := Tryz.sizeOf185
  v127 := Tryz.zeroValue185 }
theorem Tryz.Builder_Extra_169 : Builder.Extra Tryz.prog Tryz.lays169_ren := {
  sizeBuilder := by kernel_rfl
  liesBuilder := by kernel_rfl
  t5 := Tryz.underlying5
  a5 := Tryz.isAgg5
  z5 := Tryz.sizeOf5
  v5 := Tryz.zeroValue5
  infoByte := by kernel_rfl
  cellsByte := by kernel_rfl
  sizeByte := by kernel_rfl
  neB5 := by decide }
open Go.RowKit in
theorem Tryz.Builder_String_any (B b : Nat) (l : List UInt8) (w : World) (h : Lib.IsBuilder 141 5 B b (Lib.byteCells l) w) (hBw : B ≤ w.heap.size) :
    Calls Tryz.prog 74 #[.pointer (some ⟨b, 0, none⟩)] w fun e w' => e = .returned (.string ⟨l.toArray⟩) ∧ Below B w w' := Any.Builder_String_any Tryz.lays169 Tryz.Builder_Extra_169 B b l w h hBw
def Tryz.lays156_ren : Go.Shelf.Ren := ⟨fun | 156 => 222 | 165 => 237 | 166 => 73 | 169 => 74 | 240 => 120 | 241 => 262 | 276 => 188 | 277 => 274 | n => n, fun | 31 => 35 | 9 => 9 | 3 => 3 | 4 => 4 | 0 => 0 | 20 => 20 | 72 => 141 | 76 => 142 | 70 => 139 | 37 => 55 | 75 => 100 | 127 => 185 | 164 => 238 | 5 => 5 | 80 => 144 | n => n, fun | n => n⟩
theorem Tryz.lays156 : Go.Proofs.Lays.n156 Tryz.prog Tryz.lays156_ren := {
  mixed := by kernel_rfl
  f156 := Tryz.func222.trans (congrArg some (by kernel_rfl))
  f165 := Tryz.func237.trans (congrArg some (by kernel_rfl))
  f166 := Tryz.func73.trans (congrArg some (by kernel_rfl))
  f169 := Tryz.func74.trans (congrArg some (by kernel_rfl))
  f240 := Tryz.func120.trans (congrArg some (by kernel_rfl))
  f241 := Tryz.func262.trans (congrArg some (by kernel_rfl))
  f276 := Tryz.func188.trans (congrArg some (by kernel_rfl))
  f277 := Tryz.func274.trans (congrArg some (by kernel_rfl))
  t0 := Tryz.underlying0
  a0 := Tryz.isAgg0
  z0 := Tryz.sizeOf0
  v0 := Tryz.zeroValue0
  t3 := Tryz.underlying3
  a3 := Tryz.isAgg3
  z3 := Tryz.sizeOf3
  v3 := Tryz.zeroValue3
  t4 := Tryz.underlying4
  a4 := Tryz.isAgg4
  z4 := Tryz.sizeOf4
  v4 := Tryz.zeroValue4
  t9 := Tryz.underlying9
  a9 := Tryz.isAgg9
  z9 := Tryz.sizeOf9
  v9 := Tryz.zeroValue9
  t20 := Tryz.underlying20
  a20 := Tryz.isAgg20
  z20 := Tryz.sizeOf20
  v20 := Tryz.zeroValue20
  t31 := Tryz.underlying35
  a31 := Tryz.isAgg35
  z31 := Tryz.sizeOf35
  v31 := Tryz.zeroValue35
  t37 := Tryz.underlying55
  a37 := Tryz.isAgg55
  z37 := Tryz.sizeOf55
  v37 := Tryz.zeroValue55
  t70 := Tryz.underlying139
  a70 := Tryz.isAgg139
  z70 := Tryz.sizeOf139
  v70 := Tryz.zeroValue139
  t72 := Tryz.underlying141
  a72 := Tryz.isAgg141
  z72 := Tryz.sizeOf141
  v72 := Tryz.zeroValue141
  t75 := Tryz.underlying100
  a75 := Tryz.isAgg100
  z75 := Tryz.sizeOf100
  v75 := Tryz.zeroValue100
  t76 := Tryz.underlying142
  a76 := Tryz.isAgg142
  z76 := Tryz.sizeOf142
  v76 := Tryz.zeroValue142
  t127 := Tryz.underlying185
  a127 := Tryz.isAgg185
  z127 := Tryz.sizeOf185
  v127 := Tryz.zeroValue185
  t164 := Tryz.underlying238
  a164 := Tryz.isAgg238
  z164 := Tryz.sizeOf238
  v164 := Tryz.zeroValue238 }
theorem Tryz.Builder_Extra_156 : Builder.Extra Tryz.prog Tryz.lays156_ren := {
  sizeBuilder := by kernel_rfl
  liesBuilder := by kernel_rfl
  t5 := Tryz.underlying5
  a5 := Tryz.isAgg5
  z5 := Tryz.sizeOf5
  v5 := Tryz.zeroValue5
  infoByte := by kernel_rfl
  cellsByte := by kernel_rfl
  sizeByte := by kernel_rfl
  neB5 := by decide }
open Go.RowKit in
theorem Tryz.strings_Join (bk o c : Nat) (xs : List ByteArray) (sep : ByteArray) (w : World) (hcells : ∀ (j : Nat) x, xs[j]? = some x → w.cell? ⟨bk, o + j, none⟩ = some (.string x)) (hbk : bk < w.heap.size) (hN : xs.length ≤ 140737488355328) (hcap : xs.length ≤ c) (hlen : (Lib.join (xs.map (·.data.toList)) sep.data.toList).length ≤ 140737488355328) :
    Calls Tryz.prog 222 #[.slice (some ⟨bk, o, none⟩) xs.length c, .string sep] w fun e w' => e = .returned (.string ⟨(Lib.join (xs.map (·.data.toList)) sep.data.toList).toArray⟩) ∧ Below w.heap.size w w' := Any.strings_Join Tryz.lays156 Tryz.Builder_Extra_156 bk o c xs sep w hcells hbk hN hcap hlen
def Tryz.lays161_ren : Go.Shelf.Ren := ⟨fun | 161 => 236 | 231 => 258 | 227 => 259 | 233 => 260 | 235 => 261 | 228 => 272 | 197 => 94 | 151 => 273 | 260 => 172 | 152 => 277 | 137 => 218 | 119 => 207 | 224 => 270 | 225 => 269 | 217 => 233 | 266 => 255 | n => n, fun | 9 => 9 | 4 => 4 | 3 => 3 | 5 => 5 | 117 => 303 | 116 => 302 | 0 => 0 | 124 => 306 | 105 => 172 | 21 => 21 | 119 => 256 | 46 => 257 | 139 => 260 | 138 => 259 | n => n, fun | 3 => 0 | 4 => 1 | n => n⟩
theorem Tryz.lays161 : Go.Proofs.Lays.n161 Tryz.prog Tryz.lays161_ren := {
  mixed := by kernel_rfl
  f119 := Tryz.func207.trans (congrArg some (by kernel_rfl))
  f137 := Tryz.func218.trans (congrArg some (by kernel_rfl))
  f151 := Tryz.func273.trans (congrArg some (by kernel_rfl))
  f152 := Tryz.func277.trans (congrArg some (by kernel_rfl))
  f161 := Tryz.func236.trans (congrArg some (by kernel_rfl))
  f197 := Tryz.func94.trans (congrArg some (by kernel_rfl))
  f217 := Tryz.func233.trans (congrArg some (by kernel_rfl))
  f224 := Tryz.func270.trans (congrArg some (by kernel_rfl))
  f225 := Tryz.func269.trans (congrArg some (by kernel_rfl))
  f227 := Tryz.func259.trans (congrArg some (by kernel_rfl))
  f228 := Tryz.func272.trans (congrArg some (by kernel_rfl))
  f231 := Tryz.func258.trans (congrArg some (by kernel_rfl))
  f233 := Tryz.func260.trans (congrArg some (by kernel_rfl))
  f235 := Tryz.func261.trans (congrArg some (by kernel_rfl))
  f260 := Tryz.func172.trans (congrArg some (by kernel_rfl))
  f266 := Tryz.func255.trans (congrArg some (by kernel_rfl))
  t0 := Tryz.underlying0
  a0 := Tryz.isAgg0
  z0 := Tryz.sizeOf0
  v0 := Tryz.zeroValue0
  t3 := Tryz.underlying3
  a3 := Tryz.isAgg3
  z3 := Tryz.sizeOf3
  v3 := Tryz.zeroValue3
  t4 := Tryz.underlying4
  a4 := Tryz.isAgg4
  z4 := Tryz.sizeOf4
  v4 := Tryz.zeroValue4
  t5 := Tryz.underlying5
  a5 := Tryz.isAgg5
  z5 := Tryz.sizeOf5
  v5 := Tryz.zeroValue5
  t9 := Tryz.underlying9
  a9 := Tryz.isAgg9
  z9 := Tryz.sizeOf9
  v9 := Tryz.zeroValue9
  t21 := Tryz.underlying21
  a21 := Tryz.isAgg21
  z21 := Tryz.sizeOf21
  v21 := Tryz.zeroValue21
  t46 := Tryz.underlying257
  a46 := Tryz.isAgg257
  z46 := Tryz.sizeOf257
  v46 := Tryz.zeroValue257
  t105 := Tryz.underlying172
  a105 := Tryz.isAgg172
  z105 := Tryz.sizeOf172
  v105 := Tryz.zeroValue172
  t116 := Tryz.underlying302
  a116 := Tryz.isAgg302
  z116 := Tryz.sizeOf302
  t117 := Tryz.underlying303
  a117 := Tryz.isAgg303
  z117 := Tryz.sizeOf303
  v117 := Tryz.zeroValue303
  t119 := Tryz.underlying256
  a119 := Tryz.isAgg256
  z119 := Tryz.sizeOf256
  t124 := Tryz.underlying306
  a124 := Tryz.isAgg306
  z124 := Tryz.sizeOf306
  v124 := Tryz.zeroValue306
  t138 := Tryz.underlying259
  a138 := Tryz.isAgg259
  z138 := Tryz.sizeOf259
  v138 := Tryz.zeroValue259
  t139 := Tryz.underlying260
  a139 := Tryz.isAgg260
  z139 := Tryz.sizeOf260
  v139 := Tryz.zeroValue260
  g3 := by kernel_rfl
  g4 := by kernel_rfl }
open Go.RowKit in
theorem Tryz.strings_TrimLeft_one (s : ByteArray) (c : UInt8) (hc : c.toNat < 128) (w : World) :
    Calls Tryz.prog 236 #[.string s, .string ⟨#[c]⟩] w fun e w' => e = .returned (.string ⟨(Lib.trimLeftB s.data.toList c).toArray⟩) ∧ w' = w := Any.strings_TrimLeft_one Tryz.lays161 s c hc w
def Tryz.lays119_ren : Go.Shelf.Ren := ⟨fun | 119 => 207 | n => n, fun | 21 => 21 | 4 => 4 | n => n, fun | n => n⟩
theorem Tryz.lays119 : Go.Proofs.Lays.n119 Tryz.prog Tryz.lays119_ren := {
  mixed := by kernel_rfl
  f119 := Tryz.func207.trans (congrArg some (by kernel_rfl))
  t4 := Tryz.underlying4
  a4 := Tryz.isAgg4
  z4 := Tryz.sizeOf4
  v4 := Tryz.zeroValue4
  t21 := Tryz.underlying21
  a21 := Tryz.isAgg21
  z21 := Tryz.sizeOf21
  v21 := Tryz.zeroValue21 }
theorem Tryz.utf8_ValidRune (r : Int) (w : World) :
    Calls Tryz.prog 207 #[.int .i32 r] w fun e w' => e = .returned (.bool (Lib.validRune r)) ∧ w' = w := Any.utf8_ValidRune Tryz.lays119 r w
def Tryz.lays137_ren : Go.Shelf.Ren := ⟨fun | 137 => 218 | 217 => 233 | 266 => 255 | n => n, fun | 9 => 9 | 5 => 5 | 3 => 3 | n => n, fun | n => n⟩
theorem Tryz.lays137 : Go.Proofs.Lays.n137 Tryz.prog Tryz.lays137_ren := {
  mixed := by kernel_rfl
  f137 := Tryz.func218.trans (congrArg some (by kernel_rfl))
  f217 := Tryz.func233.trans (congrArg some (by kernel_rfl))
  f266 := Tryz.func255.trans (congrArg some (by kernel_rfl))
  t3 := Tryz.underlying3
  a3 := Tryz.isAgg3
  z3 := Tryz.sizeOf3
  v3 := Tryz.zeroValue3
  t5 := Tryz.underlying5
  a5 := Tryz.isAgg5
  z5 := Tryz.sizeOf5
  v5 := Tryz.zeroValue5
  t9 := Tryz.underlying9
  a9 := Tryz.isAgg9
  z9 := Tryz.sizeOf9
  v9 := Tryz.zeroValue9 }
open Go.RowKit in
theorem Tryz.strings_IndexByte (s : ByteArray) (c : Int) (w : World) :
    Calls Tryz.prog 218 #[.string s, .int .u8 c] w fun e w' => e = .returned (.int .i64 (Lib.indexByte s.data.toList c.toNat.toUInt8)) ∧ w' = w := Any.strings_IndexByte Tryz.lays137 s c w
def Tryz.lays103_ren : Go.Shelf.Ren := ⟨fun | 103 => 62 | 210 => 114 | 206 => 184 | n => n, fun | 9 => 9 | 4 => 4 | 24 => 127 | 3 => 3 | n => n, fun | n => n⟩
theorem Tryz.lays103 : Go.Proofs.Lays.n103 Tryz.prog Tryz.lays103_ren := {
  mixed := by kernel_rfl
  f103 := Tryz.func62.trans (congrArg some (by kernel_rfl))
  f206 := Tryz.func184.trans (congrArg some (by kernel_rfl))
  f210 := Tryz.func114.trans (congrArg some (by kernel_rfl))
  t3 := Tryz.underlying3
  a3 := Tryz.isAgg3
  z3 := Tryz.sizeOf3
  v3 := Tryz.zeroValue3
  t4 := Tryz.underlying4
  a4 := Tryz.isAgg4
  z4 := Tryz.sizeOf4
  v4 := Tryz.zeroValue4
  t9 := Tryz.underlying9
  a9 := Tryz.isAgg9
  z9 := Tryz.sizeOf9
  v9 := Tryz.zeroValue9
  t24 := Tryz.underlying127
  a24 := Tryz.isAgg127
  z24 := Tryz.sizeOf127
  v24 := Tryz.zeroValue127 }
open Go.RowKit in
theorem Tryz.strings_CutPrefix (s p : ByteArray) (w : World) :
    Calls Tryz.prog 62 #[.string s, .string p] w fun e w' => e = .returned (.tuple #[.string ⟨(Lib.trimPrefix s.data.toList p.data.toList).toArray⟩, .bool (Lib.hasPrefix s.data.toList p.data.toList)]) ∧ w' = w := Any.strings_CutPrefix Tryz.lays103 s p w
def Tryz.lays104_ren : Go.Shelf.Ren := ⟨fun | 104 => 64 | 211 => 115 | 207 => 185 | n => n, fun | 9 => 9 | 4 => 4 | 24 => 127 | 3 => 3 | n => n, fun | n => n⟩
theorem Tryz.lays104 : Go.Proofs.Lays.n104 Tryz.prog Tryz.lays104_ren := {
  mixed := by kernel_rfl
  f104 := Tryz.func64.trans (congrArg some (by kernel_rfl))
  f207 := Tryz.func185.trans (congrArg some (by kernel_rfl))
  f211 := Tryz.func115.trans (congrArg some (by kernel_rfl))
  t3 := Tryz.underlying3
  a3 := Tryz.isAgg3
  z3 := Tryz.sizeOf3
  v3 := Tryz.zeroValue3
  t4 := Tryz.underlying4
  a4 := Tryz.isAgg4
  z4 := Tryz.sizeOf4
  v4 := Tryz.zeroValue4
  t9 := Tryz.underlying9
  a9 := Tryz.isAgg9
  z9 := Tryz.sizeOf9
  v9 := Tryz.zeroValue9
  t24 := Tryz.underlying127
  a24 := Tryz.isAgg127
  z24 := Tryz.sizeOf127
  v24 := Tryz.zeroValue127 }
open Go.RowKit in
theorem Tryz.strings_CutSuffix (s p : ByteArray) (w : World) (hs : s.size ≤ 9223372036854775807) :
    Calls Tryz.prog 64 #[.string s, .string p] w fun e w' => e = .returned (.tuple #[.string ⟨(Lib.trimSuffix s.data.toList p.data.toList).toArray⟩, .bool (Lib.hasSuffix s.data.toList p.data.toList)]) ∧ w' = w := Any.strings_CutSuffix Tryz.lays104 s p w hs
def Tryz.lays242_ren : Go.Shelf.Ren := ⟨fun | 242 => 176 | 278 => 208 | n => n, fun | 37 => 55 | 21 => 21 | 51 => 261 | 4 => 4 | 5 => 5 | 46 => 257 | n => n, fun | n => n⟩
theorem Tryz.lays242 : Go.Proofs.Lays.n242 Tryz.prog Tryz.lays242_ren := {
  mixed := by kernel_rfl
  f242 := Tryz.func176.trans (congrArg some (by kernel_rfl))
  f278 := Tryz.func208.trans (congrArg some (by kernel_rfl))
  t4 := Tryz.underlying4
  a4 := Tryz.isAgg4
  z4 := Tryz.sizeOf4
  v4 := Tryz.zeroValue4
  t5 := Tryz.underlying5
  a5 := Tryz.isAgg5
  z5 := Tryz.sizeOf5
  v5 := Tryz.zeroValue5
  t21 := Tryz.underlying21
  a21 := Tryz.isAgg21
  z21 := Tryz.sizeOf21
  v21 := Tryz.zeroValue21
  t37 := Tryz.underlying55
  a37 := Tryz.isAgg55
  z37 := Tryz.sizeOf55
  v37 := Tryz.zeroValue55
  t46 := Tryz.underlying257
  a46 := Tryz.isAgg257
  z46 := Tryz.sizeOf257
  v46 := Tryz.zeroValue257
  t51 := Tryz.underlying261
  a51 := Tryz.isAgg261
  z51 := Tryz.sizeOf261
  v51 := Tryz.zeroValue261 }
open Go.RowKit in
theorem Tryz.utf8_AppendRune_plain (B : Nat) (v : Value) (n : Nat) (xs : List Value) (r : Int) (hr0 : -2147483648 ≤ r) (hr1 : r ≤ 2147483647) (w : World) (hown : w.ownsRow B 5 1 v n xs) (hlen : n + 4 ≤ 140737488355328) (hBw : B ≤ w.heap.size) :
    Calls Tryz.prog 176 #[v, .int .i32 r] w fun e w' => ∃ v', e = .returned v' ∧ w'.ownsRow B 5 1 v' (n + (Lib.runeCells r).length) (xs ++ Lib.runeCells r) ∧ ∃ o, (w.alloc o).grownBy w' v.ownBlock := Any.utf8_AppendRune_plain Tryz.lays242 (by kernel_rfl) B v n xs r hr0 hr1 w hown hlen hBw
def Tryz.lays217_ren : Go.Shelf.Ren := ⟨fun | 217 => 233 | 266 => 255 | n => n, fun | 9 => 9 | 5 => 5 | 3 => 3 | n => n, fun | n => n⟩
theorem Tryz.lays217 : Go.Proofs.Lays.n217 Tryz.prog Tryz.lays217_ren := {
  mixed := by kernel_rfl
  f217 := Tryz.func233.trans (congrArg some (by kernel_rfl))
  f266 := Tryz.func255.trans (congrArg some (by kernel_rfl))
  t3 := Tryz.underlying3
  a3 := Tryz.isAgg3
  z3 := Tryz.sizeOf3
  v3 := Tryz.zeroValue3
  t5 := Tryz.underlying5
  a5 := Tryz.isAgg5
  z5 := Tryz.sizeOf5
  v5 := Tryz.zeroValue5
  t9 := Tryz.underlying9
  a9 := Tryz.isAgg9
  z9 := Tryz.sizeOf9
  v9 := Tryz.zeroValue9 }
open Go.RowKit Go.Lib in
theorem Tryz.stringslite_IndexByte (s : ByteArray) (c : Int) (w : World) :
    Calls Tryz.prog 233 #[.string s, .int .u8 c] w fun e w' => e = .returned (.int .i64 (Lib.indexByte s.data.toList c.toNat.toUInt8)) ∧ w' = w := Any.stringslite_IndexByte Tryz.lays217 s c w
def Tryz.lays143_ren : Go.Shelf.Ren := ⟨fun | 143 => 240 | 219 => 256 | 217 => 233 | 225 => 269 | 224 => 270 | 267 => 271 | 266 => 255 | 314 => 276 | n => n, fun | 9 => 9 | 3 => 3 | 4 => 4 | 5 => 5 | 46 => 257 | 146 => 318 | 51 => 261 | n => n, fun | 1 => 2 | n => n⟩
theorem Tryz.lays143 : Go.Proofs.Lays.n143 Tryz.prog Tryz.lays143_ren := {
  mixed := by kernel_rfl
  f143 := Tryz.func240.trans (congrArg some (by kernel_rfl))
  f217 := Tryz.func233.trans (congrArg some (by kernel_rfl))
  f219 := Tryz.func256.trans (congrArg some (by kernel_rfl))
  f224 := Tryz.func270.trans (congrArg some (by kernel_rfl))
  f225 := Tryz.func269.trans (congrArg some (by kernel_rfl))
  f266 := Tryz.func255.trans (congrArg some (by kernel_rfl))
  f267 := Tryz.func271.trans (congrArg some (by kernel_rfl))
  f314 := Tryz.func276.trans (congrArg some (by kernel_rfl))
  t3 := Tryz.underlying3
  a3 := Tryz.isAgg3
  z3 := Tryz.sizeOf3
  v3 := Tryz.zeroValue3
  t4 := Tryz.underlying4
  a4 := Tryz.isAgg4
  z4 := Tryz.sizeOf4
  v4 := Tryz.zeroValue4
  t5 := Tryz.underlying5
  a5 := Tryz.isAgg5
  z5 := Tryz.sizeOf5
  v5 := Tryz.zeroValue5
  t9 := Tryz.underlying9
  a9 := Tryz.isAgg9
  z9 := Tryz.sizeOf9
  v9 := Tryz.zeroValue9
  t46 := Tryz.underlying257
  a46 := Tryz.isAgg257
  z46 := Tryz.sizeOf257
  v46 := Tryz.zeroValue257
  t51 := Tryz.underlying261
  a51 := Tryz.isAgg261
  z51 := Tryz.sizeOf261
  v51 := Tryz.zeroValue261
  t146 := Tryz.underlying318
  a146 := Tryz.isAgg318
  z146 := Tryz.sizeOf318
  v146 := Tryz.zeroValue318
  g1 := by kernel_rfl }
open Go.RowKit Go.Lib in
theorem Tryz.strings_Index_one (s : ByteArray) (c : UInt8) (w : World) :
    Calls Tryz.prog 240 #[.string s, .string ⟨#[c]⟩] w fun e w' => e = .returned (.int .i64 (Lib.indexByte s.data.toList c)) ∧ w' = w := Any.strings_Index_one Tryz.lays143 s c w
def Tryz.lays138_ren : Go.Shelf.Ren := ⟨fun | 138 => 223 | 195 => 238 | 218 => 239 | 143 => 240 | 219 => 256 | 217 => 233 | 225 => 269 | 224 => 270 | 267 => 271 | 266 => 255 | 314 => 276 | n => n, fun | 9 => 9 | 3 => 3 | 4 => 4 | 5 => 5 | 0 => 0 | 46 => 257 | 146 => 318 | 51 => 261 | n => n, fun | 1 => 2 | n => n⟩
theorem Tryz.lays138 : Go.Proofs.Lays.n138 Tryz.prog Tryz.lays138_ren := {
  mixed := by kernel_rfl
  f138 := Tryz.func223.trans (congrArg some (by kernel_rfl))
  f143 := Tryz.func240.trans (congrArg some (by kernel_rfl))
  f195 := Tryz.func238.trans (congrArg some (by kernel_rfl))
  f217 := Tryz.func233.trans (congrArg some (by kernel_rfl))
  f218 := Tryz.func239.trans (congrArg some (by kernel_rfl))
  f219 := Tryz.func256.trans (congrArg some (by kernel_rfl))
  f224 := Tryz.func270.trans (congrArg some (by kernel_rfl))
  f225 := Tryz.func269.trans (congrArg some (by kernel_rfl))
  f266 := Tryz.func255.trans (congrArg some (by kernel_rfl))
  f267 := Tryz.func271.trans (congrArg some (by kernel_rfl))
  f314 := Tryz.func276.trans (congrArg some (by kernel_rfl))
  t0 := Tryz.underlying0
  a0 := Tryz.isAgg0
  z0 := Tryz.sizeOf0
  v0 := Tryz.zeroValue0
  t3 := Tryz.underlying3
  a3 := Tryz.isAgg3
  z3 := Tryz.sizeOf3
  v3 := Tryz.zeroValue3
  t4 := Tryz.underlying4
  a4 := Tryz.isAgg4
  z4 := Tryz.sizeOf4
  v4 := Tryz.zeroValue4
  t5 := Tryz.underlying5
  a5 := Tryz.isAgg5
  z5 := Tryz.sizeOf5
  v5 := Tryz.zeroValue5
  t9 := Tryz.underlying9
  a9 := Tryz.isAgg9
  z9 := Tryz.sizeOf9
  v9 := Tryz.zeroValue9
  t46 := Tryz.underlying257
  a46 := Tryz.isAgg257
  z46 := Tryz.sizeOf257
  v46 := Tryz.zeroValue257
  t51 := Tryz.underlying261
  a51 := Tryz.isAgg261
  z51 := Tryz.sizeOf261
  v51 := Tryz.zeroValue261
  t146 := Tryz.underlying318
  a146 := Tryz.isAgg318
  z146 := Tryz.sizeOf318
  v146 := Tryz.zeroValue318
  g1 := by kernel_rfl }
open Go.RowKit Go.Lib in
theorem Tryz.strings_Count_one (s : ByteArray) (c : UInt8) (w : World) :
    Calls Tryz.prog 223 #[.string s, .string ⟨#[c]⟩] w fun e w' => e = .returned (.int .i64 (Lib.countByte s.data.toList c)) ∧ w' = w := Any.strings_Count_one Tryz.lays138 s c w
def Tryz.lays190_ren : Go.Shelf.Ren := ⟨fun | 190 => 202 | 125 => 226 | 258 => 225 | 128 => 251 | 129 => 252 | 302 => 242 | 303 => 243 | 304 => 244 | 305 => 245 | 306 => 246 | 307 => 247 | 308 => 248 | 309 => 249 | 310 => 250 | 333 => 263 | 329 => 264 | 330 => 265 | 334 => 266 | 335 => 267 | 336 => 268 | 344 => 275 | n => n, fun | 31 => 35 | 9 => 9 | 3 => 3 | 46 => 257 | 0 => 0 | 51 => 261 | 53 => 297 | 4 => 4 | 183 => 290 | 182 => 289 | 131 => 248 | 5 => 5 | 218 => 307 | 222 => 311 | 228 => 316 | 229 => 145 | n => n, fun | n => n⟩
theorem Tryz.lays190 : Go.Proofs.Lays.n190 Tryz.prog Tryz.lays190_ren := {
  mixed := by kernel_rfl
  f125 := Tryz.func226.trans (congrArg some (by kernel_rfl))
  f128 := Tryz.func251.trans (congrArg some (by kernel_rfl))
  f129 := Tryz.func252.trans (congrArg some (by kernel_rfl))
  f190 := Tryz.func202.trans (congrArg some (by kernel_rfl))
  f258 := Tryz.func225.trans (congrArg some (by kernel_rfl))
  f302 := Tryz.func242.trans (congrArg some (by kernel_rfl))
  f303 := Tryz.func243.trans (congrArg some (by kernel_rfl))
  f304 := Tryz.func244.trans (congrArg some (by kernel_rfl))
  f305 := Tryz.func245.trans (congrArg some (by kernel_rfl))
  f306 := Tryz.func246.trans (congrArg some (by kernel_rfl))
  f307 := Tryz.func247.trans (congrArg some (by kernel_rfl))
  f308 := Tryz.func248.trans (congrArg some (by kernel_rfl))
  f309 := Tryz.func249.trans (congrArg some (by kernel_rfl))
  f310 := Tryz.func250.trans (congrArg some (by kernel_rfl))
  f329 := Tryz.func264.trans (congrArg some (by kernel_rfl))
  f330 := Tryz.func265.trans (congrArg some (by kernel_rfl))
  f333 := Tryz.func263.trans (congrArg some (by kernel_rfl))
  f334 := Tryz.func266.trans (congrArg some (by kernel_rfl))
  f335 := Tryz.func267.trans (congrArg some (by kernel_rfl))
  f336 := Tryz.func268.trans (congrArg some (by kernel_rfl))
  f344 := Tryz.func275.trans (congrArg some (by kernel_rfl))
  t0 := Tryz.underlying0
  a0 := Tryz.isAgg0
  z0 := Tryz.sizeOf0
  v0 := Tryz.zeroValue0
  t3 := Tryz.underlying3
  a3 := Tryz.isAgg3
  z3 := Tryz.sizeOf3
  v3 := Tryz.zeroValue3
  t4 := Tryz.underlying4
  a4 := Tryz.isAgg4
  z4 := Tryz.sizeOf4
  v4 := Tryz.zeroValue4
  t5 := Tryz.underlying5
  a5 := Tryz.isAgg5
  z5 := Tryz.sizeOf5
  v5 := Tryz.zeroValue5
  t9 := Tryz.underlying9
  a9 := Tryz.isAgg9
  z9 := Tryz.sizeOf9
  v9 := Tryz.zeroValue9
  t31 := Tryz.underlying35
  a31 := Tryz.isAgg35
  z31 := Tryz.sizeOf35
  v31 := Tryz.zeroValue35
  t46 := Tryz.underlying257
  a46 := Tryz.isAgg257
  z46 := Tryz.sizeOf257
  v46 := Tryz.zeroValue257
  t51 := Tryz.underlying261
  a51 := Tryz.isAgg261
  z51 := Tryz.sizeOf261
  v51 := Tryz.zeroValue261
  t53 := Tryz.underlying297
  a53 := Tryz.isAgg297
  z53 := Tryz.sizeOf297
  v53 := Tryz.zeroValue297
  t131 := Tryz.underlying248
  a131 := Tryz.isAgg248
  z131 := Tryz.sizeOf248
  v131 := Tryz.zeroValue248
  t182 := Tryz.underlying289
  a182 := Tryz.isAgg289
  z182 := Tryz.sizeOf289
  v182 := Tryz.zeroValue289
  t183 := Tryz.underlying290
  a183 := Tryz.isAgg290
  z183 := Tryz.sizeOf290
  v183 := Tryz.zeroValue290
  t218 := Tryz.underlying307
  a218 := Tryz.isAgg307
  z218 := Tryz.sizeOf307
  v218 := Tryz.zeroValue307
  t222 := Tryz.underlying311
  a222 := Tryz.isAgg311
  z222 := Tryz.sizeOf311
  v222 := Tryz.zeroValue311
  t228 := Tryz.underlying316
  a228 := Tryz.isAgg316
  z228 := Tryz.sizeOf316
  v228 := Tryz.zeroValue316
  t229 := Tryz.underlying145
  a229 := Tryz.isAgg145
  z229 := Tryz.sizeOf145
  v229 := Tryz.zeroValue145 }
open Go.Sort Go.RowKit in
theorem Tryz.slices_Sort_string (blk off cap : Nat) (ss : List (List UInt8)) (w : World) (hH : Holds encStr w blk off ss.toArray) (hblk : blk < w.heap.size) (hsz : ss.length < 4611686018427387904) :
    Calls Tryz.prog 202 #[.slice (some ⟨blk, off, none⟩) ss.length cap] w fun e w' =>
      e = .returned (.tuple #[]) ∧ ∃ n os, w' = grow (putRow encStr (Sort.ahead w n) blk off (ss.mergeSort fun x y => decide (x ≤ y)).toArray) os := Any.slices_Sort_string Tryz.lays190 blk off cap ss w hH hblk hsz
def Tryz.lays221_ren : Go.Shelf.Ren := ⟨fun | 221 => 235 | 268 => 257 | 138 => 223 | 143 => 240 | 195 => 238 | 197 => 94 | 218 => 239 | 219 => 256 | 260 => 172 | 217 => 233 | 225 => 269 | 224 => 270 | 267 => 271 | 266 => 255 | 314 => 276 | n => n, fun | 9 => 9 | 3 => 3 | 31 => 35 | 4 => 4 | 0 => 0 | 105 => 172 | 21 => 21 | 5 => 5 | 46 => 257 | 119 => 256 | 139 => 260 | 138 => 259 | 146 => 318 | 51 => 261 | n => n, fun | 1 => 2 | 3 => 0 | 4 => 1 | n => n⟩
theorem Tryz.lays221 : Go.Proofs.Lays.n221 Tryz.prog Tryz.lays221_ren := {
  mixed := by kernel_rfl
  f138 := Tryz.func223.trans (congrArg some (by kernel_rfl))
  f143 := Tryz.func240.trans (congrArg some (by kernel_rfl))
  f195 := Tryz.func238.trans (congrArg some (by kernel_rfl))
  f197 := Tryz.func94.trans (congrArg some (by kernel_rfl))
  f217 := Tryz.func233.trans (congrArg some (by kernel_rfl))
  f218 := Tryz.func239.trans (congrArg some (by kernel_rfl))
  f219 := Tryz.func256.trans (congrArg some (by kernel_rfl))
  f221 := Tryz.func235.trans (congrArg some (by kernel_rfl))
  f224 := Tryz.func270.trans (congrArg some (by kernel_rfl))
  f225 := Tryz.func269.trans (congrArg some (by kernel_rfl))
  f260 := Tryz.func172.trans (congrArg some (by kernel_rfl))
  f266 := Tryz.func255.trans (congrArg some (by kernel_rfl))
  f267 := Tryz.func271.trans (congrArg some (by kernel_rfl))
  f268 := Tryz.func257.trans (congrArg some (by kernel_rfl))
  f314 := Tryz.func276.trans (congrArg some (by kernel_rfl))
  t0 := Tryz.underlying0
  a0 := Tryz.isAgg0
  z0 := Tryz.sizeOf0
  v0 := Tryz.zeroValue0
  t3 := Tryz.underlying3
  a3 := Tryz.isAgg3
  z3 := Tryz.sizeOf3
  v3 := Tryz.zeroValue3
  t4 := Tryz.underlying4
  a4 := Tryz.isAgg4
  z4 := Tryz.sizeOf4
  v4 := Tryz.zeroValue4
  t5 := Tryz.underlying5
  a5 := Tryz.isAgg5
  z5 := Tryz.sizeOf5
  v5 := Tryz.zeroValue5
  t9 := Tryz.underlying9
  a9 := Tryz.isAgg9
  z9 := Tryz.sizeOf9
  v9 := Tryz.zeroValue9
  t21 := Tryz.underlying21
  a21 := Tryz.isAgg21
  z21 := Tryz.sizeOf21
  v21 := Tryz.zeroValue21
  t31 := Tryz.underlying35
  a31 := Tryz.isAgg35
  z31 := Tryz.sizeOf35
  v31 := Tryz.zeroValue35
  t46 := Tryz.underlying257
  a46 := Tryz.isAgg257
  z46 := Tryz.sizeOf257
  v46 := Tryz.zeroValue257
  t51 := Tryz.underlying261
  a51 := Tryz.isAgg261
  z51 := Tryz.sizeOf261
  v51 := Tryz.zeroValue261
  t105 := Tryz.underlying172
  a105 := Tryz.isAgg172
  z105 := Tryz.sizeOf172
  v105 := Tryz.zeroValue172
  t119 := Tryz.underlying256
  a119 := Tryz.isAgg256
  z119 := Tryz.sizeOf256
  t138 := Tryz.underlying259
  a138 := Tryz.isAgg259
  z138 := Tryz.sizeOf259
  v138 := Tryz.zeroValue259
  t139 := Tryz.underlying260
  a139 := Tryz.isAgg260
  z139 := Tryz.sizeOf260
  v139 := Tryz.zeroValue260
  t146 := Tryz.underlying318
  a146 := Tryz.isAgg318
  z146 := Tryz.sizeOf318
  v146 := Tryz.zeroValue318
  g1 := by kernel_rfl
  g3 := by kernel_rfl
  g4 := by kernel_rfl }
def Tryz.lays197_ren : Go.Shelf.Ren := ⟨fun | 197 => 94 | 260 => 172 | n => n, fun | 9 => 9 | 21 => 21 | 3 => 3 | 4 => 4 | 5 => 5 | 105 => 172 | 119 => 256 | 0 => 0 | 46 => 257 | 139 => 260 | 138 => 259 | n => n, fun | 3 => 0 | 4 => 1 | n => n⟩
theorem Tryz.lays197 : Go.Proofs.Lays.n197 Tryz.prog Tryz.lays197_ren := {
  mixed := by kernel_rfl
  f197 := Tryz.func94.trans (congrArg some (by kernel_rfl))
  f260 := Tryz.func172.trans (congrArg some (by kernel_rfl))
  t0 := Tryz.underlying0
  a0 := Tryz.isAgg0
  z0 := Tryz.sizeOf0
  v0 := Tryz.zeroValue0
  t3 := Tryz.underlying3
  a3 := Tryz.isAgg3
  z3 := Tryz.sizeOf3
  v3 := Tryz.zeroValue3
  t4 := Tryz.underlying4
  a4 := Tryz.isAgg4
  z4 := Tryz.sizeOf4
  v4 := Tryz.zeroValue4
  t5 := Tryz.underlying5
  a5 := Tryz.isAgg5
  z5 := Tryz.sizeOf5
  v5 := Tryz.zeroValue5
  t9 := Tryz.underlying9
  a9 := Tryz.isAgg9
  z9 := Tryz.sizeOf9
  v9 := Tryz.zeroValue9
  t21 := Tryz.underlying21
  a21 := Tryz.isAgg21
  z21 := Tryz.sizeOf21
  v21 := Tryz.zeroValue21
  t46 := Tryz.underlying257
  a46 := Tryz.isAgg257
  z46 := Tryz.sizeOf257
  v46 := Tryz.zeroValue257
  t105 := Tryz.underlying172
  a105 := Tryz.isAgg172
  z105 := Tryz.sizeOf172
  v105 := Tryz.zeroValue172
  t119 := Tryz.underlying256
  a119 := Tryz.isAgg256
  z119 := Tryz.sizeOf256
  t138 := Tryz.underlying259
  a138 := Tryz.isAgg259
  z138 := Tryz.sizeOf259
  v138 := Tryz.zeroValue259
  t139 := Tryz.underlying260
  a139 := Tryz.isAgg260
  z139 := Tryz.sizeOf260
  v139 := Tryz.zeroValue260
  g3 := by kernel_rfl
  g4 := by kernel_rfl }
open Go.RowKit Go.Lib in
theorem Tryz.utf8_DecodeRuneInString (s : ByteArray) (w : World) (hT : Lib.Utf8Tabs 0 1 w) :
    Calls Tryz.prog 94 #[.string s] w fun e w' => e = .returned (.tuple #[.int .i32 (Lib.decodeGo s).1, .int .i64 (Lib.decodeGo s).2]) ∧ Below w.heap.size w w' := Any.utf8_DecodeRuneInString Tryz.lays197 s w hT
def Tryz.lays107_ren : Go.Shelf.Ren := ⟨fun | 107 => 112 | 108 => 183 | n => n, fun | 28 => 41 | 3 => 3 | 4 => 4 | 0 => 0 | n => n, fun | n => n⟩
theorem Tryz.lays107 : Go.Proofs.Lays.n107 Tryz.prog Tryz.lays107_ren := {
  mixed := by kernel_rfl
  f107 := Tryz.func112.trans (congrArg some (by kernel_rfl))
  f108 := Tryz.func183.trans (congrArg some (by kernel_rfl))
  t0 := Tryz.underlying0
  a0 := Tryz.isAgg0
  z0 := Tryz.sizeOf0
  v0 := Tryz.zeroValue0
  t3 := Tryz.underlying3
  a3 := Tryz.isAgg3
  z3 := Tryz.sizeOf3
  v3 := Tryz.zeroValue3
  t4 := Tryz.underlying4
  a4 := Tryz.isAgg4
  z4 := Tryz.sizeOf4
  v4 := Tryz.zeroValue4
  t28 := Tryz.underlying41
  a28 := Tryz.isAgg41
  z28 := Tryz.sizeOf41
  v28 := Tryz.zeroValue41 }
open Go.Lib in
theorem Tryz.slices_Contains_int (b off n c : Nat) (zs : List Int) (x : Int) (w : World) (hz : n ≤ zs.length) (hbig : n ≤ 9223372036854775807) (hc : ∀ j, j < zs.length → w.cell? ⟨b, off + j, none⟩ = some (.int .i64 (zs.getD j 0))) :
    Calls Tryz.prog 112 #[.slice (some ⟨b, off, none⟩) n c, .int .i64 x] w fun e w' => e = .returned (.bool ((zs.take n).contains x)) ∧ w' = w := Any.slices_Contains_int Tryz.lays107 b off n c zs x w hz hbig hc
open Go.Lib in
theorem Tryz.slices_Contains_int_empty (a : Option Addr) (c : Nat) (x : Int) (w : World) :
    Calls Tryz.prog 112 #[.slice a 0 c, .int .i64 x] w fun e w' => e = .returned (.bool false) ∧ w' = w := Any.slices_Contains_int_empty Tryz.lays107 a c x w
def Tryz.lays109_ren : Go.Shelf.Ren := ⟨fun | 109 => 173 | n => n, fun | 31 => 35 | 9 => 9 | 3 => 3 | 0 => 0 | 4 => 4 | n => n, fun | n => n⟩
theorem Tryz.lays109 : Go.Proofs.Lays.n109 Tryz.prog Tryz.lays109_ren := {
  mixed := by kernel_rfl
  f109 := Tryz.func173.trans (congrArg some (by kernel_rfl))
  t0 := Tryz.underlying0
  a0 := Tryz.isAgg0
  z0 := Tryz.sizeOf0
  v0 := Tryz.zeroValue0
  t3 := Tryz.underlying3
  a3 := Tryz.isAgg3
  z3 := Tryz.sizeOf3
  v3 := Tryz.zeroValue3
  t4 := Tryz.underlying4
  a4 := Tryz.isAgg4
  z4 := Tryz.sizeOf4
  v4 := Tryz.zeroValue4
  t9 := Tryz.underlying9
  a9 := Tryz.isAgg9
  z9 := Tryz.sizeOf9
  v9 := Tryz.zeroValue9
  t31 := Tryz.underlying35
  a31 := Tryz.isAgg35
  z31 := Tryz.sizeOf35
  v31 := Tryz.zeroValue35 }
open Go.Lib in
theorem Tryz.slices_Index_string (b off n c : Nat) (zs : List ByteArray) (x : ByteArray) (w : World) (hz : n ≤ zs.length) (hbig : n ≤ 9223372036854775807) (hc : ∀ j, j < zs.length → w.cell? ⟨b, off + j, none⟩ = some (.string (zs.getD j ByteArray.empty))) :
    Calls Tryz.prog 173 #[.slice (some ⟨b, off, none⟩) n c, .string x] w fun e w' => e = .returned (.int .i64 (Lib.idxOfS (zs.take n) x)) ∧ w' = w := Any.slices_Index_string Tryz.lays109 b off n c zs x w hz hbig hc
def Tryz.lays110_ren : Go.Shelf.Ren := ⟨fun | 110 => 149 | 109 => 173 | n => n, fun | 31 => 35 | 9 => 9 | 4 => 4 | 3 => 3 | 0 => 0 | n => n, fun | n => n⟩
theorem Tryz.lays110 : Go.Proofs.Lays.n110 Tryz.prog Tryz.lays110_ren := {
  mixed := by kernel_rfl
  f109 := Tryz.func173.trans (congrArg some (by kernel_rfl))
  f110 := Tryz.func149.trans (congrArg some (by kernel_rfl))
  t0 := Tryz.underlying0
  a0 := Tryz.isAgg0
  z0 := Tryz.sizeOf0
  v0 := Tryz.zeroValue0
  t3 := Tryz.underlying3
  a3 := Tryz.isAgg3
  z3 := Tryz.sizeOf3
  v3 := Tryz.zeroValue3
  t4 := Tryz.underlying4
  a4 := Tryz.isAgg4
  z4 := Tryz.sizeOf4
  v4 := Tryz.zeroValue4
  t9 := Tryz.underlying9
  a9 := Tryz.isAgg9
  z9 := Tryz.sizeOf9
  v9 := Tryz.zeroValue9
  t31 := Tryz.underlying35
  a31 := Tryz.isAgg35
  z31 := Tryz.sizeOf35
  v31 := Tryz.zeroValue35 }
open Go.Lib in
theorem Tryz.slices_Contains_string (b off n c : Nat) (zs : List ByteArray) (x : ByteArray) (w : World) (hz : n ≤ zs.length) (hbig : n ≤ 9223372036854775807) (hc : ∀ j, j < zs.length → w.cell? ⟨b, off + j, none⟩ = some (.string (zs.getD j ByteArray.empty))) :
    Calls Tryz.prog 149 #[.slice (some ⟨b, off, none⟩) n c, .string x] w fun e w' => e = .returned (.bool (Lib.containsS (zs.take n) x)) ∧ w' = w := Any.slices_Contains_string Tryz.lays110 b off n c zs x w hz hbig hc
open Go.Lib in
theorem Tryz.slices_Contains_string_empty (a : Option Addr) (c : Nat) (x : ByteArray) (w : World) :
    Calls Tryz.prog 149 #[.slice a 0 c, .string x] w fun e w' => e = .returned (.bool false) ∧ w' = w := Any.slices_Contains_string_empty Tryz.lays110 a c x w
end Go.Proofs
