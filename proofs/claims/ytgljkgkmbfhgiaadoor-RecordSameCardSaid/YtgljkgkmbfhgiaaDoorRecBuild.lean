/- strings.Builder: its writing methods, laid. -/
import Derived.Test.YtgljkgkmbfhgiaaDoorShelf
import Derived.Shelf.Strings.Builder1
import Derived.Test.YtgljkgkmbfhgiaaDoorBase
set_option linter.unusedVariables false
set_option linter.unusedSimpArgs false
namespace Go.Proofs.YtgljkgkmbfhgiaaDoor
open Go.RowKit

def laysB_ren : Go.Shelf.Ren := ⟨fun | 240 => 71 | 276 => 82 | 167 => 54 | 166 => 55 | n => n, fun | 0 => 0 | 3 => 3 | 4 => 4 | 5 => 5 | 9 => 9 | 20 => 20 | 37 => 82 | 70 => 83 | 72 => 85 | 75 => 87 | 80 => 91 | 164 => 110 | n => n, fun | n => n⟩
theorem laysB240 : Go.Proofs.Lays.n240 Tryd.prog laysB_ren := {
  mixed := by kernel_rfl
  f240 := Tryd.func71.trans (congrArg some (by kernel_rfl))
  f276 := Tryd.func82.trans (congrArg some (by kernel_rfl))
  t0 := Tryd.underlying0
  a0 := Tryd.isAgg0
  z0 := Tryd.sizeOf0
  v0 := Tryd.zeroValue0
  t4 := Tryd.underlying4
  a4 := Tryd.isAgg4
  z4 := Tryd.sizeOf4
  v4 := Tryd.zeroValue4
  t9 := Tryd.underlying9
  a9 := Tryd.isAgg9
  z9 := Tryd.sizeOf9
  v9 := Tryd.zeroValue9
  t20 := Tryd.underlying20
  a20 := Tryd.isAgg20
  z20 := Tryd.sizeOf20
  v20 := Tryd.zeroValue20
  t70 := Tryd.underlying83
  a70 := Tryd.isAgg83
  z70 := Tryd.sizeOf83
  v70 := Tryd.zeroValue83
  t72 := Tryd.underlying85
  a72 := Tryd.isAgg85
  z72 := Tryd.sizeOf85
  v72 := Tryd.zeroValue85
  t164 := Tryd.underlying110
  a164 := Tryd.isAgg110
  z164 := Tryd.sizeOf110
  v164 := Tryd.zeroValue110 }
theorem laysB167 : Go.Proofs.Lays.n167 Tryd.prog laysB_ren := {
  mixed := by kernel_rfl
  f167 := Tryd.func54.trans (congrArg some (by kernel_rfl))
  f240 := Tryd.func71.trans (congrArg some (by kernel_rfl))
  f276 := Tryd.func82.trans (congrArg some (by kernel_rfl))
  t0 := Tryd.underlying0
  a0 := Tryd.isAgg0
  z0 := Tryd.sizeOf0
  v0 := Tryd.zeroValue0
  t4 := Tryd.underlying4
  a4 := Tryd.isAgg4
  z4 := Tryd.sizeOf4
  v4 := Tryd.zeroValue4
  t5 := Tryd.underlying5
  a5 := Tryd.isAgg5
  z5 := Tryd.sizeOf5
  v5 := Tryd.zeroValue5
  t9 := Tryd.underlying9
  a9 := Tryd.isAgg9
  z9 := Tryd.sizeOf9
  v9 := Tryd.zeroValue9
  t20 := Tryd.underlying20
  a20 := Tryd.isAgg20
  z20 := Tryd.sizeOf20
  v20 := Tryd.zeroValue20
  t37 := Tryd.underlying82
  a37 := Tryd.isAgg82
  z37 := Tryd.sizeOf82
  v37 := Tryd.zeroValue82
  t70 := Tryd.underlying83
  a70 := Tryd.isAgg83
  z70 := Tryd.sizeOf83
  v70 := Tryd.zeroValue83
  t72 := Tryd.underlying85
  a72 := Tryd.isAgg85
  z72 := Tryd.sizeOf85
  v72 := Tryd.zeroValue85
  t75 := Tryd.underlying87
  a75 := Tryd.isAgg87
  z75 := Tryd.sizeOf87
  v75 := Tryd.zeroValue87
  t164 := Tryd.underlying110
  a164 := Tryd.isAgg110
  z164 := Tryd.sizeOf110
  v164 := Tryd.zeroValue110 }
theorem laysB166 : Go.Proofs.Lays.n166 Tryd.prog laysB_ren := {
  mixed := by kernel_rfl
  f166 := Tryd.func55.trans (congrArg some (by kernel_rfl))
  f240 := Tryd.func71.trans (congrArg some (by kernel_rfl))
  f276 := Tryd.func82.trans (congrArg some (by kernel_rfl))
  t0 := Tryd.underlying0
  a0 := Tryd.isAgg0
  z0 := Tryd.sizeOf0
  v0 := Tryd.zeroValue0
  t3 := Tryd.underlying3
  a3 := Tryd.isAgg3
  z3 := Tryd.sizeOf3
  v3 := Tryd.zeroValue3
  t4 := Tryd.underlying4
  a4 := Tryd.isAgg4
  z4 := Tryd.sizeOf4
  v4 := Tryd.zeroValue4
  t9 := Tryd.underlying9
  a9 := Tryd.isAgg9
  z9 := Tryd.sizeOf9
  v9 := Tryd.zeroValue9
  t20 := Tryd.underlying20
  a20 := Tryd.isAgg20
  z20 := Tryd.sizeOf20
  v20 := Tryd.zeroValue20
  t37 := Tryd.underlying82
  a37 := Tryd.isAgg82
  z37 := Tryd.sizeOf82
  v37 := Tryd.zeroValue82
  t70 := Tryd.underlying83
  a70 := Tryd.isAgg83
  z70 := Tryd.sizeOf83
  v70 := Tryd.zeroValue83
  t72 := Tryd.underlying85
  a72 := Tryd.isAgg85
  z72 := Tryd.sizeOf85
  v72 := Tryd.zeroValue85
  t75 := Tryd.underlying87
  a75 := Tryd.isAgg87
  z75 := Tryd.sizeOf87
  v75 := Tryd.zeroValue87
  t164 := Tryd.underlying110
  a164 := Tryd.isAgg110
  z164 := Tryd.sizeOf110
  v164 := Tryd.zeroValue110 }
theorem extraB : Builder.Extra Tryd.prog laysB_ren where
  sizeBuilder := by kernel_rfl
  liesBuilder := by kernel_rfl
  t5 := Tryd.underlying5
  a5 := Tryd.isAgg5
  z5 := Tryd.sizeOf5
  v5 := Tryd.zeroValue5
  infoByte := by kernel_rfl
  cellsByte := by kernel_rfl
  sizeByte := by kernel_rfl
  neB5 := by decide
abbrev IsB (B b : Nat) (bs : List Value) (w : World) : Prop := Lib.IsBuilder 85 5 B b bs w
theorem wbyte_calls (B b : Nat) (bs : List Value) (c : Int) (w : World) (h : IsB B b bs w) (hlen : bs.length + 1 ≤ 140737488355328) (hBw : B ≤ w.heap.size) :
    Calls Tryd.prog 54 #[.pointer (some ⟨b, 0, none⟩), .int .u8 c] w fun e w' => e = .returned .nilIface ∧ (IsB B b (bs ++ [.int .u8 c]) w' ∧ Below B w w') :=
  (Any.Builder_WriteByte laysB167 extraB B b bs c w h hlen hBw).mono fun e w' h => ⟨h.1, .inr h.2.1, h.2.2⟩
theorem wstr_calls (B b : Nat) (bs : List Value) (s : ByteArray) (w : World) (h : IsB B b bs w) (hlen : bs.length + s.size ≤ 140737488355328) (hBw : B ≤ w.heap.size) :
    Calls Tryd.prog 55 #[.pointer (some ⟨b, 0, none⟩), .string s] w fun e w' => e = .returned (.tuple #[.int .i64 s.size, .nilIface]) ∧ (IsB B b (bs ++ Lib.strCells s) w' ∧ Below B w w') :=
  (Any.Builder_WriteString laysB166 extraB B b bs s w h hlen hBw).mono fun e w' h => ⟨h.1, .inr h.2.1, h.2.2⟩
end Go.Proofs.YtgljkgkmbfhgiaaDoor
