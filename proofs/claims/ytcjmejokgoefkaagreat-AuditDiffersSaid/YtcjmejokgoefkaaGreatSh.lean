import Derived.Shelf.Strings.Builder1
import Derived.Shelf.Strings.Builder2
import Derived.Shelf.Strings.BuilderF
import Derived.Shelf.Strings.Repeat
import Derived.Test.YtcjmejokgoefkaaGreatProg
namespace Go.Proofs
open Go.Shelf
def Tryz.lays105_ren : Go.Shelf.Ren := ⟨fun | 105 => 178 | 212 => 204 | 99 => 205 | 165 => 206 | 166 => 201 | 170 => 207 | 169 => 203 | 263 => 231 | 264 => 232 | 206 => 233 | 240 => 230 | 241 => 234 | 276 => 255 | 277 => 256 | n => n, fun | 9 => 9 | 3 => 3 | 4 => 4 | 20 => 20 | 0 => 0 | 46 => 148 | 109 => 335 | 5 => 5 | 72 => 329 | 76 => 332 | 51 => 205 | 146 => 369 | 53 => 207 | 148 => 371 | 70 => 327 | 37 => 22 | 75 => 331 | 127 => 368 | 164 => 393 | 80 => 93 | n => n, fun | n => n⟩
theorem Tryz.lays105 : Go.Proofs.Lays.n105 Tryz.prog Tryz.lays105_ren := {
  mixed := by kernel_rfl
  f99 := Tryz.func205.trans (congrArg some (by kernel_rfl))
  f105 := Tryz.func178.trans (congrArg some (by kernel_rfl))
  f165 := Tryz.func206.trans (congrArg some (by kernel_rfl))
  f166 := Tryz.func201.trans (congrArg some (by kernel_rfl))
  f169 := Tryz.func203.trans (congrArg some (by kernel_rfl))
  f170 := Tryz.func207.trans (congrArg some (by kernel_rfl))
  f206 := Tryz.func233.trans (congrArg some (by kernel_rfl))
  f212 := Tryz.func204.trans (congrArg some (by kernel_rfl))
  f240 := Tryz.func230.trans (congrArg some (by kernel_rfl))
  f241 := Tryz.func234.trans (congrArg some (by kernel_rfl))
  f263 := Tryz.func231.trans (congrArg some (by kernel_rfl))
  f264 := Tryz.func232.trans (congrArg some (by kernel_rfl))
  f276 := Tryz.func255.trans (congrArg some (by kernel_rfl))
  f277 := Tryz.func256.trans (congrArg some (by kernel_rfl))
  t0 := Tryz.underlying0
  a0 := Tryz.isAgg0
  z0 := Tryz.sizeOf0
  v0 := Tryz.zeroValue0
  t3 := Tryz.underlying3
  a3 := Tryz.isAgg3
  z3 := Tryz.sizeOf3
  v3 := Tryz.zeroValue3
  t4 := Tryz.underlying4
  a4 := Tryz.isAgg4
  z4 := Tryz.sizeOf4
  v4 := Tryz.zeroValue4
  t5 := Tryz.underlying5
  a5 := Tryz.isAgg5
  z5 := Tryz.sizeOf5
  v5 := Tryz.zeroValue5
  t9 := Tryz.underlying9
  a9 := Tryz.isAgg9
  z9 := Tryz.sizeOf9
  v9 := Tryz.zeroValue9
  t20 := Tryz.underlying20
  a20 := Tryz.isAgg20
  z20 := Tryz.sizeOf20
  v20 := Tryz.zeroValue20
  t37 := Tryz.underlying22
  a37 := Tryz.isAgg22
  z37 := Tryz.sizeOf22
  v37 := Tryz.zeroValue22
  t46 := Tryz.underlying148
  a46 := Tryz.isAgg148
  z46 := Tryz.sizeOf148
  v46 := Tryz.zeroValue148
  t51 := Tryz.underlying205
  a51 := Tryz.isAgg205
  z51 := Tryz.sizeOf205
  v51 := Tryz.zeroValue205
  t53 := Tryz.underlying207
  a53 := Tryz.isAgg207
  z53 := Tryz.sizeOf207
  v53 := Tryz.zeroValue207
  t70 := Tryz.underlying327
  a70 := Tryz.isAgg327
  z70 := Tryz.sizeOf327
  v70 := Tryz.zeroValue327
  t72 := Tryz.underlying329
  a72 := Tryz.isAgg329
  z72 := Tryz.sizeOf329
  v72 := Tryz.zeroValue329
  t75 := Tryz.underlying331
  a75 := Tryz.isAgg331
  z75 := Tryz.sizeOf331
  v75 := Tryz.zeroValue331
  t76 := Tryz.underlying332
  a76 := Tryz.isAgg332
  z76 := Tryz.sizeOf332
  v76 := Tryz.zeroValue332
  t109 := Tryz.underlying335
  a109 := Tryz.isAgg335
  z109 := Tryz.sizeOf335
  v109 := Tryz.zeroValue335
  t127 := Tryz.underlying368
  a127 := Tryz.isAgg368
  z127 := Tryz.sizeOf368
  v127 := Tryz.zeroValue368
  t146 := Tryz.underlying369
  a146 := Tryz.isAgg369
  z146 := Tryz.sizeOf369
  v146 := Tryz.zeroValue369
  t148 := Tryz.underlying371
  a148 := Tryz.isAgg371
  z148 := Tryz.sizeOf371
  v148 := Tryz.zeroValue371
  t164 := Tryz.underlying393
  a164 := Tryz.isAgg393
  z164 := Tryz.sizeOf393
  v164 := Tryz.zeroValue393 }
theorem Tryz.Builder_Extra_105 : Builder.Extra Tryz.prog Tryz.lays105_ren := {
  sizeBuilder := by kernel_rfl
  liesBuilder := by kernel_rfl
  t5 := Tryz.underlying5
  a5 := Tryz.isAgg5
  z5 := Tryz.sizeOf5
  v5 := Tryz.zeroValue5
  infoByte := by kernel_rfl
  cellsByte := by kernel_rfl
  sizeByte := by kernel_rfl
  neB5 := by decide }
def Tryz.ren202 : Go.Shelf.Ren := ⟨fun | 167 => 202 | n => Tryz.lays105_ren.f n, Tryz.lays105_ren.t, Tryz.lays105_ren.g⟩
theorem Tryz.lays167 : Go.Proofs.Lays.n167 Tryz.prog Tryz.ren202 := {
  mixed := by kernel_rfl
  f167 := Tryz.func202.trans (congrArg some (by kernel_rfl))
  f240 := Tryz.func230.trans (congrArg some (by kernel_rfl))
  f276 := Tryz.func255.trans (congrArg some (by kernel_rfl))
  t0 := Tryz.underlying0
  a0 := Tryz.isAgg0
  z0 := Tryz.sizeOf0
  v0 := Tryz.zeroValue0
  t4 := Tryz.underlying4
  a4 := Tryz.isAgg4
  z4 := Tryz.sizeOf4
  v4 := Tryz.zeroValue4
  t5 := Tryz.underlying5
  a5 := Tryz.isAgg5
  z5 := Tryz.sizeOf5
  v5 := Tryz.zeroValue5
  t9 := Tryz.underlying9
  a9 := Tryz.isAgg9
  z9 := Tryz.sizeOf9
  v9 := Tryz.zeroValue9
  t20 := Tryz.underlying20
  a20 := Tryz.isAgg20
  z20 := Tryz.sizeOf20
  v20 := Tryz.zeroValue20
  t37 := Tryz.underlying22
  a37 := Tryz.isAgg22
  z37 := Tryz.sizeOf22
  v37 := Tryz.zeroValue22
  t70 := Tryz.underlying327
  a70 := Tryz.isAgg327
  z70 := Tryz.sizeOf327
  v70 := Tryz.zeroValue327
  t72 := Tryz.underlying329
  a72 := Tryz.isAgg329
  z72 := Tryz.sizeOf329
  v72 := Tryz.zeroValue329
  t75 := Tryz.underlying331
  a75 := Tryz.isAgg331
  z75 := Tryz.sizeOf331
  v75 := Tryz.zeroValue331
  t164 := Tryz.underlying393
  a164 := Tryz.isAgg393
  z164 := Tryz.sizeOf393
  v164 := Tryz.zeroValue393 }
theorem Tryz.Builder_Extra_167 : Builder.Extra Tryz.prog Tryz.ren202 := {
  sizeBuilder := by kernel_rfl
  liesBuilder := by kernel_rfl
  t5 := Tryz.underlying5
  a5 := Tryz.isAgg5
  z5 := Tryz.sizeOf5
  v5 := Tryz.zeroValue5
  infoByte := by kernel_rfl
  cellsByte := by kernel_rfl
  sizeByte := by kernel_rfl
  neB5 := by decide }
open Go.RowKit Go.Lib
theorem Tryz.strings_Repeat (s : ByteArray) (c : Nat) (w : World) (hc : c ≤ 9223372036854775807) (hlen : s.size * c ≤ 140737488355328) :
    Calls Tryz.prog 178 #[.string s, .int .i64 c] w fun e w' => e = .returned (.string ⟨(Lib.repeatL s.data.toList c).toArray⟩) ∧ Below w.heap.size w w' := Any.strings_Repeat Tryz.lays105 Tryz.Builder_Extra_105 s c w hc hlen
theorem Tryz.writeString (B b : Nat) (bs : List Value) (s : ByteArray) (w : World) (h : Lib.IsBuilder 329 5 B b bs w) (hlen : bs.length + s.size ≤ 140737488355328) (hBw : B ≤ w.heap.size) :
    Calls Tryz.prog 201 #[.pointer (some ⟨b, 0, none⟩), .string s] w fun e w' => e = .returned (.tuple #[.int .i64 s.size, .nilIface]) ∧ (Lib.BuilderAt 329 5 B b (.pointer (some ⟨b, 0, none⟩)) (bs ++ Lib.strCells s) w' ∧ Below B w w') :=
  Any.Builder_WriteString { Tryz.lays105 with } Tryz.Builder_Extra_105 B b bs s w h hlen hBw
theorem Tryz.writeByte (B b : Nat) (bs : List Value) (c : Int) (w : World) (h : Lib.IsBuilder 329 5 B b bs w) (hlen : bs.length + 1 ≤ 140737488355328) (hBw : B ≤ w.heap.size) :
    Calls Tryz.prog 202 #[.pointer (some ⟨b, 0, none⟩), .int .u8 c] w fun e w' => e = .returned .nilIface ∧ (Lib.BuilderAt 329 5 B b (.pointer (some ⟨b, 0, none⟩)) (bs ++ [.int .u8 c]) w' ∧ Below B w w') :=
  Any.Builder_WriteByte Tryz.lays167 Tryz.Builder_Extra_167 B b bs c w h hlen hBw
theorem Tryz.builderString (B b : Nat) (l : List UInt8) (w : World) (h : Lib.IsBuilder 329 5 B b (Lib.byteCells l) w) (hBw : B ≤ w.heap.size) :
    Calls Tryz.prog 203 #[.pointer (some ⟨b, 0, none⟩)] w fun e w' => e = .returned (.string ⟨l.toArray⟩) ∧ Below B w w' :=
  Any.Builder_String_any { Tryz.lays105 with } Tryz.Builder_Extra_105 B b l w h hBw
end Go.Proofs
