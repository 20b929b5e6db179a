/- Part of a proof: the texts F1, T0, T1, T2, T3, T4 of a library of data trees, abstract stores and contracts, joined. -/
import Derived.Test.YtpdenmclcnkaaaaGreatDoorL6
import Derived.Test.YtpdenmclcnkaaaaGreatDoorChecked
/- Facts of types of the seat YtpdenmclcnkaaaaGreatDoor, printed by a tool of this session (facts.py). -/
namespace Go.Apl
open Go Go.Proofs
set_option maxRecDepth 100000
namespace Tryz
theorem lay : LayOK Tryz.prog := ⟨by kernel_rfl⟩
theorem mixed : Tryz.prog.follows .mixedOrders = true := Tryz.checked.mixed
@[simp] theorem parts3 : parts Tryz.prog 3 = none := by kernel_rfl
@[simp] theorem scal3 : scal Tryz.prog 3 = true := by kernel_rfl
@[simp] theorem stTy3 : stTy Tryz.prog 3 = false := by kernel_rfl
@[simp] theorem boolTy3 : isBoolTy Tryz.prog 3 = false := by kernel_rfl
@[simp] theorem u8Ty3 : u8Ty Tryz.prog 3 = false := by kernel_rfl
@[simp] theorem cells3 : Tryz.prog.cellsOf 3 = 1 := by kernel_rfl
@[simp] theorem bytes3 : Tryz.prog.bytesOf 3 = 8 := by kernel_rfl
@[simp] theorem und3 : Tryz.prog.underlying 3 = some (.int .i64) := by kernel_rfl
@[simp] theorem undS3 : (Tryz.prog.underlying 3).isSome = true := by kernel_rfl
@[simp] theorem zero3 : zeroD Tryz.prog 3 = some (.v (.int .i64 0)) := by kernel_rfl
@[simp] theorem parts4 : parts Tryz.prog 4 = none := by kernel_rfl
@[simp] theorem scal4 : scal Tryz.prog 4 = true := by kernel_rfl
@[simp] theorem stTy4 : stTy Tryz.prog 4 = false := by kernel_rfl
@[simp] theorem boolTy4 : isBoolTy Tryz.prog 4 = true := by kernel_rfl
@[simp] theorem u8Ty4 : u8Ty Tryz.prog 4 = false := by kernel_rfl
@[simp] theorem cells4 : Tryz.prog.cellsOf 4 = 1 := by kernel_rfl
@[simp] theorem bytes4 : Tryz.prog.bytesOf 4 = 1 := by kernel_rfl
@[simp] theorem und4 : Tryz.prog.underlying 4 = some (.bool) := by kernel_rfl
@[simp] theorem undS4 : (Tryz.prog.underlying 4).isSome = true := by kernel_rfl
@[simp] theorem zero4 : zeroD Tryz.prog 4 = some (.v (.bool false)) := by kernel_rfl
@[simp] theorem parts5 : parts Tryz.prog 5 = none := by kernel_rfl
@[simp] theorem scal5 : scal Tryz.prog 5 = true := by kernel_rfl
@[simp] theorem stTy5 : stTy Tryz.prog 5 = false := by kernel_rfl
@[simp] theorem boolTy5 : isBoolTy Tryz.prog 5 = false := by kernel_rfl
@[simp] theorem u8Ty5 : u8Ty Tryz.prog 5 = true := by kernel_rfl
@[simp] theorem cells5 : Tryz.prog.cellsOf 5 = 1 := by kernel_rfl
@[simp] theorem bytes5 : Tryz.prog.bytesOf 5 = 1 := by kernel_rfl
@[simp] theorem und5 : Tryz.prog.underlying 5 = some (.int .u8) := by kernel_rfl
@[simp] theorem undS5 : (Tryz.prog.underlying 5).isSome = true := by kernel_rfl
@[simp] theorem zero5 : zeroD Tryz.prog 5 = some (.v (.int .u8 0)) := by kernel_rfl
@[simp] theorem parts9 : parts Tryz.prog 9 = none := by kernel_rfl
@[simp] theorem scal9 : scal Tryz.prog 9 = true := by kernel_rfl
@[simp] theorem stTy9 : stTy Tryz.prog 9 = false := by kernel_rfl
@[simp] theorem boolTy9 : isBoolTy Tryz.prog 9 = false := by kernel_rfl
@[simp] theorem u8Ty9 : u8Ty Tryz.prog 9 = false := by kernel_rfl
@[simp] theorem cells9 : Tryz.prog.cellsOf 9 = 1 := by kernel_rfl
@[simp] theorem bytes9 : Tryz.prog.bytesOf 9 = 16 := by kernel_rfl
@[simp] theorem und9 : Tryz.prog.underlying 9 = some (.string) := by kernel_rfl
@[simp] theorem undS9 : (Tryz.prog.underlying 9).isSome = true := by kernel_rfl
@[simp] theorem zero9 : zeroD Tryz.prog 9 = some (.v (.string (ByteArray.mk #[]))) := by kernel_rfl
@[simp] theorem parts22 : parts Tryz.prog 22 = none := by kernel_rfl
@[simp] theorem scal22 : scal Tryz.prog 22 = true := by kernel_rfl
@[simp] theorem stTy22 : stTy Tryz.prog 22 = false := by kernel_rfl
@[simp] theorem boolTy22 : isBoolTy Tryz.prog 22 = false := by kernel_rfl
@[simp] theorem u8Ty22 : u8Ty Tryz.prog 22 = false := by kernel_rfl
@[simp] theorem cells22 : Tryz.prog.cellsOf 22 = 1 := by kernel_rfl
@[simp] theorem bytes22 : Tryz.prog.bytesOf 22 = 24 := by kernel_rfl
@[simp] theorem und22 : Tryz.prog.underlying 22 = some (.slice 33) := by kernel_rfl
@[simp] theorem undS22 : (Tryz.prog.underlying 22).isSome = true := by kernel_rfl
@[simp] theorem zero22 : zeroD Tryz.prog 22 = some (.lst false true 33 []) := by kernel_rfl
@[simp] theorem parts24 : parts Tryz.prog 24 = none := by kernel_rfl
@[simp] theorem scal24 : scal Tryz.prog 24 = true := by kernel_rfl
@[simp] theorem stTy24 : stTy Tryz.prog 24 = false := by kernel_rfl
@[simp] theorem boolTy24 : isBoolTy Tryz.prog 24 = false := by kernel_rfl
@[simp] theorem u8Ty24 : u8Ty Tryz.prog 24 = false := by kernel_rfl
@[simp] theorem cells24 : Tryz.prog.cellsOf 24 = 1 := by kernel_rfl
@[simp] theorem bytes24 : Tryz.prog.bytesOf 24 = 24 := by kernel_rfl
@[simp] theorem und24 : Tryz.prog.underlying 24 = some (.slice 30) := by kernel_rfl
@[simp] theorem undS24 : (Tryz.prog.underlying 24).isSome = true := by kernel_rfl
@[simp] theorem zero24 : zeroD Tryz.prog 24 = some (.lst false true 30 []) := by kernel_rfl
@[simp] theorem parts25 : parts Tryz.prog 25 = some [24, 24, 24, 24] := by kernel_rfl
@[simp] theorem scal25 : scal Tryz.prog 25 = false := by kernel_rfl
@[simp] theorem stTy25 : stTy Tryz.prog 25 = false := by kernel_rfl
@[simp] theorem boolTy25 : isBoolTy Tryz.prog 25 = false := by kernel_rfl
@[simp] theorem u8Ty25 : u8Ty Tryz.prog 25 = false := by kernel_rfl
@[simp] theorem cells25 : Tryz.prog.cellsOf 25 = 4 := by kernel_rfl
@[simp] theorem bytes25 : Tryz.prog.bytesOf 25 = 96 := by kernel_rfl
@[simp] theorem und25 : Tryz.prog.underlying 25 = some (.array 4 24) := by kernel_rfl
@[simp] theorem undS25 : (Tryz.prog.underlying 25).isSome = true := by kernel_rfl
@[simp] theorem zero25 : zeroD Tryz.prog 25 = some (.st 25 [.lst false true 30 [], .lst false true 30 [], .lst false true 30 [], .lst false true 30 []]) := by kernel_rfl
@[simp] theorem parts26 : parts Tryz.prog 26 = none := by kernel_rfl
@[simp] theorem scal26 : scal Tryz.prog 26 = true := by kernel_rfl
@[simp] theorem stTy26 : stTy Tryz.prog 26 = false := by kernel_rfl
@[simp] theorem boolTy26 : isBoolTy Tryz.prog 26 = false := by kernel_rfl
@[simp] theorem u8Ty26 : u8Ty Tryz.prog 26 = false := by kernel_rfl
@[simp] theorem cells26 : Tryz.prog.cellsOf 26 = 1 := by kernel_rfl
@[simp] theorem bytes26 : Tryz.prog.bytesOf 26 = 8 := by kernel_rfl
@[simp] theorem und26 : Tryz.prog.underlying 26 = some (.int .i64) := by kernel_rfl
@[simp] theorem undS26 : (Tryz.prog.underlying 26).isSome = true := by kernel_rfl
@[simp] theorem zero26 : zeroD Tryz.prog 26 = some (.v (.int .i64 0)) := by kernel_rfl
@[simp] theorem parts28 : parts Tryz.prog 28 = some (List.replicate 32 5) := by kernel_rfl
@[simp] theorem scal28 : scal Tryz.prog 28 = false := by kernel_rfl
@[simp] theorem stTy28 : stTy Tryz.prog 28 = false := by kernel_rfl
@[simp] theorem boolTy28 : isBoolTy Tryz.prog 28 = false := by kernel_rfl
@[simp] theorem u8Ty28 : u8Ty Tryz.prog 28 = false := by kernel_rfl
@[simp] theorem cells28 : Tryz.prog.cellsOf 28 = 32 := by kernel_rfl
@[simp] theorem bytes28 : Tryz.prog.bytesOf 28 = 32 := by kernel_rfl
@[simp] theorem und28 : Tryz.prog.underlying 28 = some (.array 32 5) := by kernel_rfl
@[simp] theorem undS28 : (Tryz.prog.underlying 28).isSome = true := by kernel_rfl
@[simp] theorem eqTy28 : eqTy Tryz.prog 28 = true := by kernel_rfl
@[simp] theorem zero28 : zeroD Tryz.prog 28 = some (zArr 28 32 (.v (.int .u8 0))) := by kernel_rfl
@[simp] theorem parts30 : parts Tryz.prog 30 = some [26, 3, 3, 9, 9, 3, 28] := by kernel_rfl
@[simp] theorem scal30 : scal Tryz.prog 30 = false := by kernel_rfl
@[simp] theorem stTy30 : stTy Tryz.prog 30 = true := by kernel_rfl
@[simp] theorem boolTy30 : isBoolTy Tryz.prog 30 = false := by kernel_rfl
@[simp] theorem u8Ty30 : u8Ty Tryz.prog 30 = false := by kernel_rfl
@[simp] theorem cells30 : Tryz.prog.cellsOf 30 = 38 := by kernel_rfl
@[simp] theorem bytes30 : Tryz.prog.bytesOf 30 = 96 := by kernel_rfl
@[simp] theorem undS30 : (Tryz.prog.underlying 30).isSome = true := by kernel_rfl
@[simp] theorem eqTy30 : eqTy Tryz.prog 30 = true := by kernel_rfl
@[simp] theorem zero30 : zeroD Tryz.prog 30 = some (.st 30 [.v (.int .i64 0), .v (.int .i64 0), .v (.int .i64 0), .v (.string (ByteArray.mk #[])), .v (.string (ByteArray.mk #[])), .v (.int .i64 0), zArr 28 32 (.v (.int .u8 0))]) := by kernel_rfl
@[simp] theorem parts33 : parts Tryz.prog 33 = some [5, 5, 5, 5] := by kernel_rfl
@[simp] theorem scal33 : scal Tryz.prog 33 = false := by kernel_rfl
@[simp] theorem stTy33 : stTy Tryz.prog 33 = true := by kernel_rfl
@[simp] theorem boolTy33 : isBoolTy Tryz.prog 33 = false := by kernel_rfl
@[simp] theorem u8Ty33 : u8Ty Tryz.prog 33 = false := by kernel_rfl
@[simp] theorem cells33 : Tryz.prog.cellsOf 33 = 4 := by kernel_rfl
@[simp] theorem bytes33 : Tryz.prog.bytesOf 33 = 4 := by kernel_rfl
@[simp] theorem undS33 : (Tryz.prog.underlying 33).isSome = true := by kernel_rfl
@[simp] theorem eqTy33 : eqTy Tryz.prog 33 = true := by kernel_rfl
@[simp] theorem zero33 : zeroD Tryz.prog 33 = some (.st 33 [.v (.int .u8 0), .v (.int .u8 0), .v (.int .u8 0), .v (.int .u8 0)]) := by kernel_rfl
@[simp] theorem parts35 : parts Tryz.prog 35 = none := by kernel_rfl
@[simp] theorem scal35 : scal Tryz.prog 35 = true := by kernel_rfl
@[simp] theorem stTy35 : stTy Tryz.prog 35 = false := by kernel_rfl
@[simp] theorem boolTy35 : isBoolTy Tryz.prog 35 = false := by kernel_rfl
@[simp] theorem u8Ty35 : u8Ty Tryz.prog 35 = false := by kernel_rfl
@[simp] theorem cells35 : Tryz.prog.cellsOf 35 = 1 := by kernel_rfl
@[simp] theorem bytes35 : Tryz.prog.bytesOf 35 = 24 := by kernel_rfl
@[simp] theorem und35 : Tryz.prog.underlying 35 = some (.slice 43) := by kernel_rfl
@[simp] theorem undS35 : (Tryz.prog.underlying 35).isSome = true := by kernel_rfl
@[simp] theorem zero35 : zeroD Tryz.prog 35 = some (.lst false true 43 []) := by kernel_rfl
@[simp] theorem parts36 : parts Tryz.prog 36 = none := by kernel_rfl
@[simp] theorem scal36 : scal Tryz.prog 36 = true := by kernel_rfl
@[simp] theorem stTy36 : stTy Tryz.prog 36 = false := by kernel_rfl
@[simp] theorem boolTy36 : isBoolTy Tryz.prog 36 = false := by kernel_rfl
@[simp] theorem u8Ty36 : u8Ty Tryz.prog 36 = false := by kernel_rfl
@[simp] theorem cells36 : Tryz.prog.cellsOf 36 = 1 := by kernel_rfl
@[simp] theorem bytes36 : Tryz.prog.bytesOf 36 = 24 := by kernel_rfl
@[simp] theorem und36 : Tryz.prog.underlying 36 = some (.slice 65) := by kernel_rfl
@[simp] theorem undS36 : (Tryz.prog.underlying 36).isSome = true := by kernel_rfl
@[simp] theorem zero36 : zeroD Tryz.prog 36 = some (.lst false true 65 []) := by kernel_rfl
@[simp] theorem parts37 : parts Tryz.prog 37 = none := by kernel_rfl
@[simp] theorem scal37 : scal Tryz.prog 37 = true := by kernel_rfl
@[simp] theorem stTy37 : stTy Tryz.prog 37 = false := by kernel_rfl
@[simp] theorem boolTy37 : isBoolTy Tryz.prog 37 = false := by kernel_rfl
@[simp] theorem u8Ty37 : u8Ty Tryz.prog 37 = false := by kernel_rfl
@[simp] theorem cells37 : Tryz.prog.cellsOf 37 = 1 := by kernel_rfl
@[simp] theorem bytes37 : Tryz.prog.bytesOf 37 = 24 := by kernel_rfl
@[simp] theorem und37 : Tryz.prog.underlying 37 = some (.slice 68) := by kernel_rfl
@[simp] theorem undS37 : (Tryz.prog.underlying 37).isSome = true := by kernel_rfl
@[simp] theorem zero37 : zeroD Tryz.prog 37 = some (.lst false true 68 []) := by kernel_rfl
@[simp] theorem parts39 : parts Tryz.prog 39 = some [3, 35, 36, 37] := by kernel_rfl
@[simp] theorem scal39 : scal Tryz.prog 39 = false := by kernel_rfl
@[simp] theorem stTy39 : stTy Tryz.prog 39 = true := by kernel_rfl
@[simp] theorem boolTy39 : isBoolTy Tryz.prog 39 = false := by kernel_rfl
@[simp] theorem u8Ty39 : u8Ty Tryz.prog 39 = false := by kernel_rfl
@[simp] theorem cells39 : Tryz.prog.cellsOf 39 = 4 := by kernel_rfl
@[simp] theorem bytes39 : Tryz.prog.bytesOf 39 = 80 := by kernel_rfl
@[simp] theorem undS39 : (Tryz.prog.underlying 39).isSome = true := by kernel_rfl
@[simp] theorem zero39 : zeroD Tryz.prog 39 = some (.st 39 [.v (.int .i64 0), .lst false true 43 [], .lst false true 65 [], .lst false true 68 []]) := by kernel_rfl
@[simp] theorem parts41 : parts Tryz.prog 41 = none := by kernel_rfl
@[simp] theorem scal41 : scal Tryz.prog 41 = true := by kernel_rfl
@[simp] theorem stTy41 : stTy Tryz.prog 41 = false := by kernel_rfl
@[simp] theorem boolTy41 : isBoolTy Tryz.prog 41 = false := by kernel_rfl
@[simp] theorem u8Ty41 : u8Ty Tryz.prog 41 = false := by kernel_rfl
@[simp] theorem cells41 : Tryz.prog.cellsOf 41 = 1 := by kernel_rfl
@[simp] theorem bytes41 : Tryz.prog.bytesOf 41 = 24 := by kernel_rfl
@[simp] theorem und41 : Tryz.prog.underlying 41 = some (.slice 53) := by kernel_rfl
@[simp] theorem undS41 : (Tryz.prog.underlying 41).isSome = true := by kernel_rfl
@[simp] theorem zero41 : zeroD Tryz.prog 41 = some (.lst false true 53 []) := by kernel_rfl
@[simp] theorem parts43 : parts Tryz.prog 43 = some [9, 41] := by kernel_rfl
@[simp] theorem scal43 : scal Tryz.prog 43 = false := by kernel_rfl
@[simp] theorem stTy43 : stTy Tryz.prog 43 = true := by kernel_rfl
@[simp] theorem boolTy43 : isBoolTy Tryz.prog 43 = false := by kernel_rfl
@[simp] theorem u8Ty43 : u8Ty Tryz.prog 43 = false := by kernel_rfl
@[simp] theorem cells43 : Tryz.prog.cellsOf 43 = 2 := by kernel_rfl
@[simp] theorem bytes43 : Tryz.prog.bytesOf 43 = 40 := by kernel_rfl
@[simp] theorem undS43 : (Tryz.prog.underlying 43).isSome = true := by kernel_rfl
@[simp] theorem zero43 : zeroD Tryz.prog 43 = some (.st 43 [.v (.string (ByteArray.mk #[])), .lst false true 53 []]) := by kernel_rfl
@[simp] theorem parts46 : parts Tryz.prog 46 = none := by kernel_rfl
@[simp] theorem scal46 : scal Tryz.prog 46 = true := by kernel_rfl
@[simp] theorem stTy46 : stTy Tryz.prog 46 = false := by kernel_rfl
@[simp] theorem boolTy46 : isBoolTy Tryz.prog 46 = false := by kernel_rfl
@[simp] theorem u8Ty46 : u8Ty Tryz.prog 46 = false := by kernel_rfl
@[simp] theorem cells46 : Tryz.prog.cellsOf 46 = 1 := by kernel_rfl
@[simp] theorem bytes46 : Tryz.prog.bytesOf 46 = 24 := by kernel_rfl
@[simp] theorem und46 : Tryz.prog.underlying 46 = some (.slice 9) := by kernel_rfl
@[simp] theorem undS46 : (Tryz.prog.underlying 46).isSome = true := by kernel_rfl
@[simp] theorem zero46 : zeroD Tryz.prog 46 = some (.lst false true 9 []) := by kernel_rfl
@[simp] theorem parts47 : parts Tryz.prog 47 = none := by kernel_rfl
@[simp] theorem scal47 : scal Tryz.prog 47 = true := by kernel_rfl
@[simp] theorem stTy47 : stTy Tryz.prog 47 = false := by kernel_rfl
@[simp] theorem boolTy47 : isBoolTy Tryz.prog 47 = false := by kernel_rfl
@[simp] theorem u8Ty47 : u8Ty Tryz.prog 47 = false := by kernel_rfl
@[simp] theorem cells47 : Tryz.prog.cellsOf 47 = 1 := by kernel_rfl
@[simp] theorem bytes47 : Tryz.prog.bytesOf 47 = 24 := by kernel_rfl
@[simp] theorem und47 : Tryz.prog.underlying 47 = some (.slice 5) := by kernel_rfl
@[simp] theorem undS47 : (Tryz.prog.underlying 47).isSome = true := by kernel_rfl
@[simp] theorem zero47 : zeroD Tryz.prog 47 = some (.lst false true 5 []) := by kernel_rfl
@[simp] theorem parts48 : parts Tryz.prog 48 = none := by kernel_rfl
@[simp] theorem scal48 : scal Tryz.prog 48 = true := by kernel_rfl
@[simp] theorem stTy48 : stTy Tryz.prog 48 = false := by kernel_rfl
@[simp] theorem boolTy48 : isBoolTy Tryz.prog 48 = false := by kernel_rfl
@[simp] theorem u8Ty48 : u8Ty Tryz.prog 48 = false := by kernel_rfl
@[simp] theorem cells48 : Tryz.prog.cellsOf 48 = 1 := by kernel_rfl
@[simp] theorem bytes48 : Tryz.prog.bytesOf 48 = 8 := by kernel_rfl
@[simp] theorem und48 : Tryz.prog.underlying 48 = some (.int .i64) := by kernel_rfl
@[simp] theorem undS48 : (Tryz.prog.underlying 48).isSome = true := by kernel_rfl
@[simp] theorem zero48 : zeroD Tryz.prog 48 = some (.v (.int .i64 0)) := by kernel_rfl
@[simp] theorem parts51 : parts Tryz.prog 51 = none := by kernel_rfl
@[simp] theorem scal51 : scal Tryz.prog 51 = true := by kernel_rfl
@[simp] theorem stTy51 : stTy Tryz.prog 51 = false := by kernel_rfl
@[simp] theorem boolTy51 : isBoolTy Tryz.prog 51 = false := by kernel_rfl
@[simp] theorem u8Ty51 : u8Ty Tryz.prog 51 = false := by kernel_rfl
@[simp] theorem cells51 : Tryz.prog.cellsOf 51 = 1 := by kernel_rfl
@[simp] theorem bytes51 : Tryz.prog.bytesOf 51 = 8 := by kernel_rfl
@[simp] theorem und51 : Tryz.prog.underlying 51 = some (.int .i64) := by kernel_rfl
@[simp] theorem undS51 : (Tryz.prog.underlying 51).isSome = true := by kernel_rfl
@[simp] theorem zero51 : zeroD Tryz.prog 51 = some (.v (.int .i64 0)) := by kernel_rfl
@[simp] theorem parts53 : parts Tryz.prog 53 = some [3, 51, 9] := by kernel_rfl
@[simp] theorem scal53 : scal Tryz.prog 53 = false := by kernel_rfl
@[simp] theorem stTy53 : stTy Tryz.prog 53 = true := by kernel_rfl
@[simp] theorem boolTy53 : isBoolTy Tryz.prog 53 = false := by kernel_rfl
@[simp] theorem u8Ty53 : u8Ty Tryz.prog 53 = false := by kernel_rfl
@[simp] theorem cells53 : Tryz.prog.cellsOf 53 = 3 := by kernel_rfl
@[simp] theorem bytes53 : Tryz.prog.bytesOf 53 = 32 := by kernel_rfl
@[simp] theorem undS53 : (Tryz.prog.underlying 53).isSome = true := by kernel_rfl
@[simp] theorem eqTy53 : eqTy Tryz.prog 53 = true := by kernel_rfl
@[simp] theorem zero53 : zeroD Tryz.prog 53 = some (.st 53 [.v (.int .i64 0), .v (.int .i64 0), .v (.string (ByteArray.mk #[]))]) := by kernel_rfl
@[simp] theorem parts56 : parts Tryz.prog 56 = none := by kernel_rfl
@[simp] theorem scal56 : scal Tryz.prog 56 = true := by kernel_rfl
@[simp] theorem stTy56 : stTy Tryz.prog 56 = false := by kernel_rfl
@[simp] theorem boolTy56 : isBoolTy Tryz.prog 56 = false := by kernel_rfl
@[simp] theorem u8Ty56 : u8Ty Tryz.prog 56 = false := by kernel_rfl
@[simp] theorem cells56 : Tryz.prog.cellsOf 56 = 1 := by kernel_rfl
@[simp] theorem bytes56 : Tryz.prog.bytesOf 56 = 8 := by kernel_rfl
@[simp] theorem und56 : Tryz.prog.underlying 56 = some (.pointer 59) := by kernel_rfl
@[simp] theorem undS56 : (Tryz.prog.underlying 56).isSome = true := by kernel_rfl
@[simp] theorem zero56 : zeroD Tryz.prog 56 = some (.v (.pointer none)) := by kernel_rfl
@[simp] theorem parts59 : parts Tryz.prog 59 = some [39] := by kernel_rfl
@[simp] theorem scal59 : scal Tryz.prog 59 = false := by kernel_rfl
@[simp] theorem stTy59 : stTy Tryz.prog 59 = true := by kernel_rfl
@[simp] theorem boolTy59 : isBoolTy Tryz.prog 59 = false := by kernel_rfl
@[simp] theorem u8Ty59 : u8Ty Tryz.prog 59 = false := by kernel_rfl
@[simp] theorem cells59 : Tryz.prog.cellsOf 59 = 4 := by kernel_rfl
@[simp] theorem bytes59 : Tryz.prog.bytesOf 59 = 80 := by kernel_rfl
@[simp] theorem undS59 : (Tryz.prog.underlying 59).isSome = true := by kernel_rfl
@[simp] theorem zero59 : zeroD Tryz.prog 59 = some (.st 59 [.st 39 [.v (.int .i64 0), .lst false true 43 [], .lst false true 65 [], .lst false true 68 []]]) := by kernel_rfl
@[simp] theorem parts65 : parts Tryz.prog 65 = some [3, 28, 28] := by kernel_rfl
@[simp] theorem scal65 : scal Tryz.prog 65 = false := by kernel_rfl
@[simp] theorem stTy65 : stTy Tryz.prog 65 = true := by kernel_rfl
@[simp] theorem boolTy65 : isBoolTy Tryz.prog 65 = false := by kernel_rfl
@[simp] theorem u8Ty65 : u8Ty Tryz.prog 65 = false := by kernel_rfl
@[simp] theorem cells65 : Tryz.prog.cellsOf 65 = 65 := by kernel_rfl
@[simp] theorem bytes65 : Tryz.prog.bytesOf 65 = 72 := by kernel_rfl
@[simp] theorem undS65 : (Tryz.prog.underlying 65).isSome = true := by kernel_rfl
@[simp] theorem eqTy65 : eqTy Tryz.prog 65 = true := by kernel_rfl
@[simp] theorem zero65 : zeroD Tryz.prog 65 = some (.st 65 [.v (.int .i64 0), zArr 28 32 (.v (.int .u8 0)), zArr 28 32 (.v (.int .u8 0))]) := by kernel_rfl
@[simp] theorem parts68 : parts Tryz.prog 68 = some [3, 3, 48, 3] := by kernel_rfl
@[simp] theorem scal68 : scal Tryz.prog 68 = false := by kernel_rfl
@[simp] theorem stTy68 : stTy Tryz.prog 68 = true := by kernel_rfl
@[simp] theorem boolTy68 : isBoolTy Tryz.prog 68 = false := by kernel_rfl
@[simp] theorem u8Ty68 : u8Ty Tryz.prog 68 = false := by kernel_rfl
@[simp] theorem cells68 : Tryz.prog.cellsOf 68 = 4 := by kernel_rfl
@[simp] theorem bytes68 : Tryz.prog.bytesOf 68 = 32 := by kernel_rfl
@[simp] theorem undS68 : (Tryz.prog.underlying 68).isSome = true := by kernel_rfl
@[simp] theorem eqTy68 : eqTy Tryz.prog 68 = true := by kernel_rfl
@[simp] theorem zero68 : zeroD Tryz.prog 68 = some (.st 68 [.v (.int .i64 0), .v (.int .i64 0), .v (.int .i64 0), .v (.int .i64 0)]) := by kernel_rfl
@[simp] theorem parts87 : parts Tryz.prog 87 = none := by kernel_rfl
@[simp] theorem scal87 : scal Tryz.prog 87 = true := by kernel_rfl
@[simp] theorem stTy87 : stTy Tryz.prog 87 = false := by kernel_rfl
@[simp] theorem boolTy87 : isBoolTy Tryz.prog 87 = false := by kernel_rfl
@[simp] theorem u8Ty87 : u8Ty Tryz.prog 87 = false := by kernel_rfl
@[simp] theorem cells87 : Tryz.prog.cellsOf 87 = 1 := by kernel_rfl
@[simp] theorem bytes87 : Tryz.prog.bytesOf 87 = 8 := by kernel_rfl
@[simp] theorem undS87 : (Tryz.prog.underlying 87).isSome = true := by kernel_rfl
@[simp] theorem zero87 : zeroD Tryz.prog 87 = some (.v (.nilFunc)) := by kernel_rfl
@[simp] theorem parts108 : parts Tryz.prog 108 = none := by kernel_rfl
@[simp] theorem scal108 : scal Tryz.prog 108 = true := by kernel_rfl
@[simp] theorem stTy108 : stTy Tryz.prog 108 = false := by kernel_rfl
@[simp] theorem boolTy108 : isBoolTy Tryz.prog 108 = false := by kernel_rfl
@[simp] theorem u8Ty108 : u8Ty Tryz.prog 108 = false := by kernel_rfl
@[simp] theorem cells108 : Tryz.prog.cellsOf 108 = 1 := by kernel_rfl
@[simp] theorem bytes108 : Tryz.prog.bytesOf 108 = 8 := by kernel_rfl
@[simp] theorem und108 : Tryz.prog.underlying 108 = some (.int .u64) := by kernel_rfl
@[simp] theorem undS108 : (Tryz.prog.underlying 108).isSome = true := by kernel_rfl
@[simp] theorem zero108 : zeroD Tryz.prog 108 = some (.v (.int .u64 0)) := by kernel_rfl
@[simp] theorem parts112 : parts Tryz.prog 112 = none := by kernel_rfl
@[simp] theorem scal112 : scal Tryz.prog 112 = true := by kernel_rfl
@[simp] theorem stTy112 : stTy Tryz.prog 112 = false := by kernel_rfl
@[simp] theorem boolTy112 : isBoolTy Tryz.prog 112 = false := by kernel_rfl
@[simp] theorem u8Ty112 : u8Ty Tryz.prog 112 = false := by kernel_rfl
@[simp] theorem cells112 : Tryz.prog.cellsOf 112 = 1 := by kernel_rfl
@[simp] theorem bytes112 : Tryz.prog.bytesOf 112 = 8 := by kernel_rfl
@[simp] theorem undS112 : (Tryz.prog.underlying 112).isSome = true := by kernel_rfl
@[simp] theorem zero112 : zeroD Tryz.prog 112 = some (.v (.nilFunc)) := by kernel_rfl
end Tryz
end Go.Apl

/- The data of the directory, as trees. -/
namespace Go.Apl
open Go Go.Proofs
set_option maxRecDepth 100000
set_option linter.unusedSimpArgs false
set_option linter.unusedVariables false

/-! ### Trees without lists and names -/
mutual
def D.plain : D → Bool
  | .v _ => true
  | .st _ ds => plains ds
  | _ => false
def plains : List D → Bool
  | [] => true
  | d :: ds => d.plain && plains ds
end
mutual
theorem D.old_plain : ∀ {d : D}, d.plain = true → d.old = d
  | .v _, _ => rfl
  | .st T ds, h => by simp only [D.old, olds_plain (ds := ds) (by simpa [D.plain] using h)]
  | .tup _, h | .ptr .., h | .fptr .., h | .lst .., h | .own .., h | .fn .., h | .undef, h => by simp [D.plain] at h
theorem olds_plain : ∀ {ds : List D}, plains ds = true → olds ds = ds
  | [], _ => rfl
  | d :: ds, h => by simp [plains] at h; simp only [olds, D.old_plain h.1, olds_plain h.2]
end
mutual
theorem D.young_plain : ∀ {d : D}, d.plain = true → d.young = d
  | .v _, _ => rfl
  | .st T ds, h => by simp only [D.young, youngs_plain (ds := ds) (by simpa [D.plain] using h)]
  | .tup _, h | .ptr .., h | .fptr .., h | .lst .., h | .own .., h | .fn .., h | .undef, h => by simp [D.plain] at h
theorem youngs_plain : ∀ {ds : List D}, plains ds = true → youngs ds = ds
  | [], _ => rfl
  | d :: ds, h => by simp [plains] at h; simp only [youngs, D.young_plain h.1, youngs_plain h.2]
end
mutual
theorem D.fresh_plain : ∀ {d : D}, d.plain = true → d.fresh = true
  | .v _, _ => rfl
  | .st T ds, h => by simp only [D.fresh]; exact freshs_plain (by simpa [D.plain] using h)
  | .tup _, h | .ptr .., h | .fptr .., h | .lst .., h | .own .., h | .fn .., h | .undef, h => by simp [D.plain] at h
theorem freshs_plain : ∀ {ds : List D}, plains ds = true → freshs ds = true
  | [], _ => rfl
  | d :: ds, h => by simp [plains] at h; simp only [freshs, D.fresh_plain h.1, freshs_plain h.2, Bool.and_self]
end
mutual
theorem D.bare_plain : ∀ {d : D}, d.plain = true → d.bare = true
  | .v _, _ => rfl
  | .st T ds, h => by simp only [D.bare]; exact bares_plain (by simpa [D.plain] using h)
  | .tup _, h | .ptr .., h | .fptr .., h | .lst .., h | .own .., h | .fn .., h | .undef, h => by simp [D.plain] at h
theorem bares_plain : ∀ {ds : List D}, plains ds = true → bares ds = true
  | [], _ => rfl
  | d :: ds, h => by simp [plains] at h; simp only [bares, D.bare_plain h.1, bares_plain h.2, Bool.and_self]
end
mutual
theorem D.cn_plain {y : Bool} {fi : List (Nat × Nat)} : ∀ {d : D}, d.plain = true → cn y fi d = some d
  | .v _, _ => rfl
  | .st T ds, h => by simp only [cn, cns_plain (ds := ds) (by simpa [D.plain] using h)]
  | .tup _, h | .ptr .., h | .fptr .., h | .lst .., h | .own .., h | .fn .., h | .undef, h => by simp [D.plain] at h
theorem cns_plain {y : Bool} {fi : List (Nat × Nat)} : ∀ {ds : List D}, plains ds = true → cns y fi ds = some ds
  | [], _ => rfl
  | d :: ds, h => by simp [plains] at h; simp only [cns, D.cn_plain h.1, cns_plain h.2]
end
/-- How deep a tree is. -/
def D.flat : Nat → D → Bool
  | _, .v _ => true
  | n + 1, .st _ ds => ds.all (D.flat n)
  | _, _ => false
theorem mapO_id {g : D → Option D} : ∀ {ds : List D}, (∀ d ∈ ds, g d = some d) → mapO g ds = some ds
  | [], _ => rfl
  | d :: ds, h => by
    have e := mapO_id (g := g) (ds := ds) (fun e he => h e (by simp [he]))
    simp only [mapO, h d (by simp), e]
theorem frz_flat {σ : Sg} : ∀ {n : Nat} {d : D}, d.flat n = true → frz (n + 1) σ d = some d := by
  intro n
  induction n with
  | zero => intro d h; cases d <;> simp [D.flat] at h; rfl
  | succ n ih =>
    intro d h
    cases d <;> simp [D.flat] at h
    · rfl
    · rename_i T ds
      have e := mapO_id (g := frz (n + 1) σ) (ds := ds) fun d hd => ih (h d hd)
      rw [show frz (n + 1 + 1) σ (.st T ds) = (match mapO (frz (n + 1) σ) ds with | some ds' => some (.st T ds') | none => none) from rfl, e]
theorem vw_flat {σ : Sg} : ∀ {n : Nat} {d : D}, d.flat n = true → vw (n + 1) σ d = some d := by
  intro n
  induction n with
  | zero => intro d h; cases d <;> simp [D.flat] at h; rfl
  | succ n ih =>
    intro d h
    cases d <;> simp [D.flat] at h
    · rfl
    · rename_i T ds
      have e := mapO_id (g := vw (n + 1) σ) (ds := ds) fun d hd => ih (h d hd)
      rw [show vw (n + 1 + 1) σ (.st T ds) = (match mapO (vw (n + 1) σ) ds with | some ds' => some (.st T ds') | none => none) from rfl, e]

theorem olds_append {a b : List D} : olds (a ++ b) = olds a ++ olds b := by
  induction a with
  | nil => rfl
  | cons x a ih => simp [ih]
theorem youngs_append {a b : List D} : youngs (a ++ b) = youngs a ++ youngs b := by
  induction a with
  | nil => rfl
  | cons x a ih => simp [ih]
theorem freshs_append {a b : List D} : freshs (a ++ b) = (freshs a && freshs b) := by
  induction a with
  | nil => rfl
  | cons x a ih => simp [ih, Bool.and_assoc]
theorem plains_map {α : Type} {f : α → D} (h : ∀ x, (f x).plain = true) : ∀ (l : List α), plains (l.map f) = true
  | [] => rfl
  | x :: l => by simp [plains, h x, plains_map h l]
theorem mapO_map {α : Type} {f f' : α → D} {g : D → Option D} (h : ∀ x, g (f x) = some (f' x)) : ∀ (l : List α), mapO g (l.map f) = some (l.map f')
  | [] => rfl
  | x :: l => by simp [h x, mapO_map h l]
theorem cns_map {α : Type} {y : Bool} {fi : List (Nat × Nat)} {f f' : α → D} (h : ∀ x, cn y fi (f x) = some (f' x)) : ∀ (l : List α), cns y fi (l.map f) = some (l.map f')
  | [] => rfl
  | x :: l => by simp only [List.map_cons, cns, h x, cns_map h l]

@[simp] theorem take_map_len {α β : Type} (f : α → β) (l : List α) : (l.map f).take l.length = l.map f := List.take_of_length_le (by simp)
@[simp] theorem take_map_one {α β : Type} (f : α → β) (l : List α) (x : β) : (l.map f ++ [x]).take (l.length + 1) = l.map f ++ [x] := List.take_of_length_le (by simp)
@[simp] theorem mapO_append {g : D → Option D} : ∀ (a b : List D), mapO g (a ++ b) = (match mapO g a with | some x => (match mapO g b with | some y => some (x ++ y) | none => none) | none => none)
  | [], b => by simp only [List.nil_append, mapO]; cases mapO g b <;> rfl
  | d :: a, b => by
    simp only [List.cons_append, mapO, mapO_append a b]
    cases g d <;> cases mapO g a <;> cases mapO g b <;> rfl
@[simp] theorem olds_take : ∀ (n : Nat) (ds : List D), olds (ds.take n) = (olds ds).take n
  | 0, _ => by simp
  | n + 1, [] => by simp
  | n + 1, d :: ds => by simp [olds_take n ds]
@[simp] theorem olds_drop : ∀ (n : Nat) (ds : List D), olds (ds.drop n) = (olds ds).drop n
  | 0, _ => by simp
  | n + 1, [] => by simp
  | n + 1, d :: ds => by simp [olds_drop n ds]
attribute [simp] olds_append youngs_append freshs_append
theorem wrap_id {x : Int} (h : -9223372036854775808 ≤ x ∧ x ≤ 9223372036854775807) : IntKind.i64.wrap x = x := by rw [IntKind.wrap_i64]; omega

mutual
/-- A result that stands for less. -/
def dle1 : D → D → Prop
  | .lst k x E ds, .lst k' x' E' ds' => (k = true → k' = true) ∧ (x' = true → x = true) ∧ ((E = E' ∧ ds = ds') ∨ (ds = [] ∧ ds' = []))
  | .st T ds, .st T' ds' => T = T' ∧ dles1 ds ds'
  | d, d' => d = d'
def dles1 : List D → List D → Prop
  | [], [] => True
  | d :: ds, d' :: ds' => dle1 d d' ∧ dles1 ds ds'
  | _, _ => False
end
mutual
theorem dle1_ok : ∀ {d d' : D}, dle1 d d' → Dle d d'
  | .lst k x E ds, .lst k' x' E' ds', h => by
    obtain ⟨h1, h2, h3⟩ := h
    rcases h3 with ⟨rfl, rfl⟩ | ⟨rfl, rfl⟩
    · exact .lst h1 h2 (Dles.refl _)
    · exact .lst0 h2
  | .st T ds, .st T' ds', h => by
    obtain ⟨rfl, h2⟩ := h
    exact .st (dles1_ok h2)
  | .v _, d', h => by simp only [dle1] at h; rw [← h]; exact .refl _
  | .tup _, d', h => by simp only [dle1] at h; rw [← h]; exact .refl _
  | .ptr .., d', h => by simp only [dle1] at h; rw [← h]; exact .refl _
  | .fptr .., d', h => by simp only [dle1] at h; rw [← h]; exact .refl _
  | .own .., d', h => by simp only [dle1] at h; rw [← h]; exact .refl _
  | .fn .., d', h => by simp only [dle1] at h; rw [← h]; exact .refl _
  | .undef, d', h => by simp only [dle1] at h; rw [← h]; exact .refl _
  | .lst .., .v _, h | .lst .., .st .., h | .lst .., .tup _, h | .lst .., .ptr .., h | .lst .., .fptr .., h | .lst .., .own .., h | .lst .., .fn .., h | .lst .., .undef, h => by simp [dle1] at h
  | .st .., .v _, h | .st .., .lst .., h | .st .., .tup _, h | .st .., .ptr .., h | .st .., .fptr .., h | .st .., .own .., h | .st .., .fn .., h | .st .., .undef, h => by simp [dle1] at h
theorem dles1_ok : ∀ {ds ds' : List D}, dles1 ds ds' → Dles ds ds'
  | [], [], _ => .nil
  | d :: ds, d' :: ds', h => .cons (dle1_ok h.1) (dles1_ok h.2)
  | [], _ :: _, h => by simp [dles1] at h
  | _ :: _, [], h => by simp [dles1] at h
end
/-- What a return asks, by equations; the result may stand for less. -/
def retE2 (P : Program) (rs : List ResultVar) (r : D) (s : St) : Prop :=
  match rets s P rs with
  | some ds => match mapO (frz 9 s.σ) ds with
    | some ds' => dles1 ds' (retL r)
    | none => False
  | none => False
theorem retQ.of2 {P : Program} {rs : List ResultVar} {r : D} {e : Exit} {s : St} (he : e = .normal ∨ e = .ret) (h : retE2 P rs r s) : retQ P rs r e s := by
  unfold retE2 at h
  split at h
  · rename_i ds h1
    split at h
    · rename_i ds' h2
      exact ⟨he, ds, _, h1, h2, by cases r <;> exact dles1_ok h⟩
    · exact h.elim
  · exact h.elim
attribute [simp] retE2 dle1 dles1 abuildSlice

/-! ### The types -/
structure Version where
  Epoch : Int
  Kind : Int
  Key : ByteArray
structure Session where
  Client : Int
  Seq : Int
  Code : Int
  Epoch : Int
structure User where
  Name : ByteArray
  Versions : List Version
/-- Commands without a root. -/
structure Command where
  Kind : Int
  Client : Int
  Seq : Int
  User : ByteArray
  Key : ByteArray
  Epoch : Int
/-- Directories without heads. -/
structure Directory where
  Epoch : Int
  Users : List User
  Sessions : List Session

def noStr : ByteArray := { data := #[] }
def Version.enc (v : Version) : D := .st 53 [.v (.int .i64 v.Epoch), .v (.int .i64 v.Kind), .v (.string v.Key)]
def Session.enc (s : Session) : D := .st 68 [.v (.int .i64 s.Client), .v (.int .i64 s.Seq), .v (.int .i64 s.Code), .v (.int .i64 s.Epoch)]
def User.enc (k : Bool) (u : User) : D := .st 43 [.v (.string u.Name), .lst k false 53 (u.Versions.map Version.enc)]
abbrev zDig : D := zArr 28 32 (.v (.int .u8 0))
def Command.enc (c : Command) : D := .st 30 [.v (.int .i64 c.Kind), .v (.int .i64 c.Client), .v (.int .i64 c.Seq), .v (.string c.User), .v (.string c.Key), .v (.int .i64 c.Epoch), zDig]
def Directory.enc (k : Bool) (d : Directory) : D := .st 39 [.v (.int .i64 d.Epoch), .lst k false 43 (d.Users.map (User.enc k)), .lst k false 65 [], .lst k false 68 (d.Sessions.map Session.enc)]
attribute [simp] Version.enc Session.enc User.enc Command.enc Directory.enc

theorem zDig_plain : zDig.plain = true := by decide
@[simp] theorem zDig_old : zDig.old = zDig := D.old_plain zDig_plain
@[simp] theorem zDig_young : zDig.young = zDig := D.young_plain zDig_plain
@[simp] theorem zDig_fresh : zDig.fresh = true := D.fresh_plain zDig_plain
@[simp] theorem zDig_bare : zDig.bare = true := D.bare_plain zDig_plain
@[simp] theorem zDig_cn {y : Bool} {fi : List (Nat × Nat)} : cn y fi zDig = some zDig := D.cn_plain zDig_plain
theorem zDig_flat : zDig.flat 1 = true := by decide
@[simp] theorem zDig_frz {n : Nat} {σ : Sg} : frz (n + 2) σ zDig = some zDig := by
  cases n
  · exact frz_flat zDig_flat
  · simp [zDig, zArr, mapO_id]
@[simp] theorem zDig_vw {n : Nat} {σ : Sg} : vw (n + 2) σ zDig = some zDig := by
  cases n
  · exact vw_flat zDig_flat
  · simp [zDig, zArr, mapO_id]
@[simp] theorem zDig_ren {f : Nat → Nat} : zDig.ren f = zDig := D.bare_ren zDig_bare
@[simp] theorem zDig_lt {n : Nat} : zDig.ltN n = true := D.bare_lt zDig_bare
@[simp high] theorem zDig_shape : shape Tryz.prog 5 28 zDig = true := by kernel_rfl
@[simp] theorem zDig_eq : dEq zDig zDig = true := by decide
@[simp] theorem zDig_one : zDig.one = zDig := rfl
@[simp] theorem zDig_fits : fits Tryz.prog 28 zDig = true := by kernel_rfl
@[simp] theorem zDig_isSt : isStD zDig = true := rfl

@[simp] theorem ver_plain (l : List Version) : plains (l.map Version.enc) = true := plains_map (fun _ => rfl) l
@[simp] theorem ver_old (l : List Version) : olds (l.map Version.enc) = l.map Version.enc := olds_plain (ver_plain l)
@[simp] theorem ver_young (l : List Version) : youngs (l.map Version.enc) = l.map Version.enc := youngs_plain (ver_plain l)
@[simp] theorem ver_fresh (l : List Version) : freshs (l.map Version.enc) = true := freshs_plain (ver_plain l)
@[simp] theorem ver_bare (l : List Version) : bares (l.map Version.enc) = true := bares_plain (ver_plain l)
@[simp] theorem ver_cn {y : Bool} {fi : List (Nat × Nat)} (l : List Version) : cns y fi (l.map Version.enc) = some (l.map Version.enc) := cns_plain (ver_plain l)
@[simp] theorem ver_frz {n : Nat} {σ : Sg} (l : List Version) : mapO (frz (n + 2) σ) (l.map Version.enc) = some (l.map Version.enc) := mapO_map (fun v => by simp) l
@[simp] theorem ver_vw {n : Nat} {σ : Sg} (l : List Version) : mapO (vw (n + 2) σ) (l.map Version.enc) = some (l.map Version.enc) := mapO_map (fun v => by simp) l
@[simp] theorem ver_ren {f : Nat → Nat} (l : List Version) : rens f (l.map Version.enc) = l.map Version.enc := bares_ren (ver_bare l)
@[simp] theorem ver_lt {n : Nat} (l : List Version) : ltNs n (l.map Version.enc) = true := bares_lt (ver_bare l)

@[simp] theorem ses_plain (l : List Session) : plains (l.map Session.enc) = true := plains_map (fun _ => rfl) l
@[simp] theorem ses_old (l : List Session) : olds (l.map Session.enc) = l.map Session.enc := olds_plain (ses_plain l)
@[simp] theorem ses_young (l : List Session) : youngs (l.map Session.enc) = l.map Session.enc := youngs_plain (ses_plain l)
@[simp] theorem ses_fresh (l : List Session) : freshs (l.map Session.enc) = true := freshs_plain (ses_plain l)
@[simp] theorem ses_bare (l : List Session) : bares (l.map Session.enc) = true := bares_plain (ses_plain l)
@[simp] theorem ses_cn {y : Bool} {fi : List (Nat × Nat)} (l : List Session) : cns y fi (l.map Session.enc) = some (l.map Session.enc) := cns_plain (ses_plain l)
@[simp] theorem ses_frz {n : Nat} {σ : Sg} (l : List Session) : mapO (frz (n + 2) σ) (l.map Session.enc) = some (l.map Session.enc) := mapO_map (fun v => by simp) l
@[simp] theorem ses_vw {n : Nat} {σ : Sg} (l : List Session) : mapO (vw (n + 2) σ) (l.map Session.enc) = some (l.map Session.enc) := mapO_map (fun v => by simp) l
@[simp] theorem ses_ren {f : Nat → Nat} (l : List Session) : rens f (l.map Session.enc) = l.map Session.enc := bares_ren (ses_bare l)
@[simp] theorem ses_lt {n : Nat} (l : List Session) : ltNs n (l.map Session.enc) = true := bares_lt (ses_bare l)

@[simp] theorem cmd_plain (l : List Command) : plains (l.map Command.enc) = true := plains_map (fun c => by simp [D.plain, plains, zDig_plain]) l
@[simp] theorem cmd_old (l : List Command) : olds (l.map Command.enc) = l.map Command.enc := olds_plain (cmd_plain l)
@[simp] theorem cmd_young (l : List Command) : youngs (l.map Command.enc) = l.map Command.enc := youngs_plain (cmd_plain l)
@[simp] theorem cmd_vw {n : Nat} {σ : Sg} (l : List Command) : mapO (vw (n + 3) σ) (l.map Command.enc) = some (l.map Command.enc) := mapO_map (fun v => by simp) l

@[simp] theorem usr_old (k : Bool) (l : List User) : olds (l.map (User.enc k)) = l.map (User.enc true) := by
  rw [olds_map]; simp only [List.map_inj_left]; intro u _; simp
@[simp] theorem usr_young (k : Bool) (l : List User) : youngs (l.map (User.enc k)) = l.map (User.enc false) := by
  rw [youngs_map]; simp only [List.map_inj_left]; intro u _; simp
@[simp] theorem usr_fresh : ∀ (l : List User), freshs (l.map (User.enc false)) = true
  | [] => rfl
  | u :: l => by simp [usr_fresh l]
@[simp] theorem usr_bare (k : Bool) (l : List User) : bares (l.map (User.enc k)) = true := bares_map (fun u => by simp [D.bare, bares]) l
@[simp] theorem usr_cn {fi : List (Nat × Nat)} (k : Bool) (l : List User) : cns false fi (l.map (User.enc k)) = some (l.map (User.enc true)) := cns_map (fun u => by simp) l
@[simp] theorem usr_cnY {fi : List (Nat × Nat)} (l : List User) : cns true fi (l.map (User.enc false)) = some (l.map (User.enc true)) := cns_map (fun u => by simp) l
@[simp] theorem usr_frz {n : Nat} {σ : Sg} (k : Bool) (l : List User) : mapO (frz (n + 2) σ) (l.map (User.enc k)) = some (l.map (User.enc k)) := mapO_map (fun v => by simp) l
@[simp] theorem usr_vw {n : Nat} {σ : Sg} (k : Bool) (l : List User) : mapO (vw (n + 2) σ) (l.map (User.enc k)) = some (l.map (User.enc true)) := mapO_map (fun v => by simp) l
@[simp] theorem usr_ren {f : Nat → Nat} (k : Bool) (l : List User) : rens f (l.map (User.enc k)) = l.map (User.enc k) := bares_ren (usr_bare k l)
@[simp] theorem usr_lt {n : Nat} (k : Bool) (l : List User) : ltNs n (l.map (User.enc k)) = true := bares_lt (usr_bare k l)
end Go.Apl

/- Contracts of the small functions. -/
namespace Go.Apl
open Go Go.Proofs
set_option maxRecDepth 100000
set_option linter.unusedSimpArgs false
set_option linter.unusedVariables false

def withinS (n lo hi : Int) : Bool := decide (lo ≤ n) && decide (n ≤ hi)
theorem within_c (n lo hi : Int) : PureF Tryz.prog 14 [.v (.int .i64 n), .v (.int .i64 lo), .v (.int .i64 hi)] (.v (.bool (withinS n lo hi))) := by
  refine PureF.intro (c := _) Tryz.func14 rfl (by kernel_rfl) (by rw [Tryz.ntmps14]; simp) rfl ?_
  refine Awp.rg [0, 1, 2] fun K hK => ?_
  simp
  refine hK _ ?_; clear hK K
  refine Awp.rg [6] fun K hK => ?_
  simp
  refine hK _ ?_; clear hK K
  refine Awp.ret ?_
  try simp only [thenQ, inBlk, ↓reduceIte]
  refine retQ.of (by simp) ?_
  simp [Tryz.results14]
  simp [withinS]

def nameS (s : ByteArray) : Bool := withinS s.size 1 32
theorem name_c (s : ByteArray) : PureF Tryz.prog 15 [.v (.string s)] (.v (.bool (nameS s))) := by
  refine PureF.intro (c := _) Tryz.func15 rfl (by kernel_rfl) (by rw [Tryz.ntmps15]; simp) rfl ?_
  refine Awp.rg [0] fun K hK => ?_
  simp
  refine hK _ ?_; clear hK K
  refine Awp.rg [2] fun K hK => ?_
  simp
  refine RL.cF ?_  -- directory.within
  simp
  refine ⟨_, within_c _ _ _, by simp, ?_⟩
  try simp
  refine hK _ ?_; clear hK K
  refine Awp.ret ?_
  try simp only [thenQ, inBlk, ↓reduceIte]
  refine retQ.of (by simp) ?_
  simp [Tryz.results15]
  simp [nameS]

def version_may (v : Version) : Bool :=
  let ok := decide (1 ≤ v.Epoch) && decide (v.Epoch ≤ 200)
  if v.Kind = 1 ∨ v.Kind = 2 then ok && !strEq v.Key noStr && decide ((v.Key.size : Int) ≤ 64)
  else if v.Kind = 3 then ok && strEq v.Key noStr
  else false
theorem may_c (v : Version) : PureF Tryz.prog 27 [v.enc] (.v (.bool (version_may v))) := by
  refine PureF.intro (c := _) Tryz.func27 rfl (by kernel_rfl) (by rw [Tryz.ntmps27]; simp) rfl ?_
  refine Awp.rg [1] fun K hK => ?_
  simp
  refine hK _ ?_; clear hK K
  refine Awp.rg [1, 3] fun K hK => ?_
  simp
  refine hK _ ?_; clear hK K
  refine Awp.seq ?_
  refine Awp.rg [1, 3, 13] fun K hK => ?_
  simp
  refine hK _ ?_; clear hK K
  refine Awp.block ?_
  refine Awp.seq ?_
  refine Awp.block ?_
  refine Awp.seq ?_
  refine Awp.block ?_
  refine Awp.block ?_
  refine Awp.seq ?_
  refine Awp.seq ?_
  refine Awp.rg [1, 3, 13, 14] fun K hK => ?_
  simp
  refine hK _ ?_; clear hK K
  refine Awp.cond _ rfl (fun h => ?_) (fun h => ?_)
  · try simp at h
    all_goals
      refine Awp.exit ?_
      try simp only [thenQ, inBlk, ↓reduceIte]
      refine Awp.seq ?_
      refine Awp.rg [2] fun K hK => ?_
      simp
      refine hK _ ?_; clear hK K
      refine Awp.ret ?_
      try simp only [thenQ, inBlk, ↓reduceIte]
      refine retQ.of (by simp) ?_
      simp [Tryz.results27]
      try simp [version_may, noStr, *]
  · try simp at h
    all_goals
      refine Awp.skip ?_
      try simp only [thenQ, inBlk, ↓reduceIte]
      refine Awp.seq ?_
      refine Awp.rg [1, 3, 13, 16] fun K hK => ?_
      simp
      refine hK _ ?_; clear hK K
      refine Awp.cond _ rfl (fun h => ?_) (fun h => ?_)
      · try simp at h
        all_goals
          refine Awp.exit ?_
          try simp only [thenQ, inBlk, ↓reduceIte]
          refine Awp.seq ?_
          refine Awp.rg [2] fun K hK => ?_
          simp
          refine hK _ ?_; clear hK K
          refine Awp.ret ?_
          try simp only [thenQ, inBlk, ↓reduceIte]
          refine retQ.of (by simp) ?_
          simp [Tryz.results27]
          try simp [version_may, noStr, *]
      · try simp at h
        all_goals
          refine Awp.skip ?_
          try simp only [thenQ, inBlk, ↓reduceIte]
          refine Awp.rg [1, 3, 18] fun K hK => ?_
          simp
          refine hK _ ?_; clear hK K
          refine Awp.cond _ rfl (fun h => ?_) (fun h => ?_)
          · try simp at h
            all_goals
              refine Awp.exit ?_
              try simp only [thenQ, inBlk, ↓reduceIte]
              refine Awp.seq ?_
              refine Awp.rg [2] fun K hK => ?_
              simp
              refine hK _ ?_; clear hK K
              refine Awp.ret ?_
              try simp only [thenQ, inBlk, ↓reduceIte]
              refine retQ.of (by simp) ?_
              simp [Tryz.results27]
              try simp [version_may, noStr, *]
          · try simp at h
            all_goals
              refine Awp.skip ?_
              try simp only [thenQ, inBlk, ↓reduceIte]
              refine Awp.exit ?_
              try simp only [thenQ, inBlk, ↓reduceIte]
              refine Awp.rg [2] fun K hK => ?_
              simp
              refine hK _ ?_; clear hK K
              refine Awp.ret ?_
              try simp only [thenQ, inBlk, ↓reduceIte]
              refine retQ.of (by simp) ?_
              simp [Tryz.results27]
              try simp [version_may, noStr, *]

def openS (v : Version) : Bool := v.Kind == 0 || v.Kind == 3
theorem open_c (v : Version) : PureF Tryz.prog 28 [v.enc] (.v (.bool (openS v))) := by
  refine PureF.intro (c := _) Tryz.func28 rfl (by kernel_rfl) (by rw [Tryz.ntmps28]; simp) rfl ?_
  refine Awp.rg [1] fun K hK => ?_
  simp
  refine hK _ ?_; clear hK K
  refine Awp.rg [2] fun K hK => ?_
  simp
  refine hK _ ?_; clear hK K
  refine Awp.ret ?_
  try simp only [thenQ, inBlk, ↓reduceIte]
  refine retQ.of (by simp) ?_
  simp [Tryz.results28]
  simp [openS]

def zVer : Version := ⟨0, 0, noStr⟩
def lastS (l : List Version) : Version := (l[l.length - 1]?).getD zVer
theorem last_c {ds : List D} (l : List Version) (hds : ds = l.map Version.enc) (hl : l.length ≤ 1000000) : PureF Tryz.prog 26 [.lst true false 53 ds] (lastS l).enc := by
  subst hds
  refine PureF.intro (c := _) Tryz.func26 rfl (by kernel_rfl) (by rw [Tryz.ntmps26]; simp) rfl ?_
  refine Awp.rg [0, 2] fun K hK => ?_
  simp
  refine hK _ ?_; clear hK K
  refine Awp.seq ?_
  refine Awp.rg [0, 2, 5] fun K hK => ?_
  simp
  refine hK _ ?_; clear hK K
  refine Awp.cond _ rfl (fun h => ?_) (fun h => ?_)
  · try simp at h
    all_goals
      refine Awp.rg [2] fun K hK => ?_
      simp
      refine hK _ ?_; clear hK K
      refine Awp.ret ?_
      try simp only [thenQ, inBlk, ↓reduceIte]
      refine retQ.of (by simp) ?_
      simp [Tryz.results26]
      try simp [lastS, zVer, noStr, *]
  · try simp at h
    all_goals
      refine Awp.skip ?_
      try simp only [thenQ, inBlk, ↓reduceIte]
      refine Awp.rg [2] fun K hK => ?_
      have hp : 0 < l.length := List.length_pos_iff.2 h
      have hv : l[l.length - 1]? = some l[l.length - 1] := List.getElem?_eq_getElem (by omega)
      have e : ((l.length : Int) - 1).toNat = l.length - 1 := by omega
      simp (disch := omega) [wrap_id, hv, e]
      repeat (rw [if_pos (by omega)]; simp (disch := omega) [wrap_id, hv, e])
      refine hK _ ?_; clear hK K
      refine Awp.ret ?_
      try simp only [thenQ, inBlk, ↓reduceIte]
      refine retQ.of (by simp) ?_
      simp [Tryz.results26]
      try simp [lastS, zVer, noStr, *]

theorem nan_c (n : Int) : PureF Tryz.prog 49 [.v (.int .i64 n)] (.v (.bool false)) := by
  refine PureF.intro (c := _) Tryz.func49 rfl (by kernel_rfl) (by rw [Tryz.ntmps49]; simp) rfl ?_
  refine Awp.rg [0] fun K hK => ?_
  simp
  refine hK _ ?_; clear hK K
  refine Awp.rg [2] fun K hK => ?_
  simp
  refine hK _ ?_; clear hK K
  refine Awp.ret ?_
  try simp only [thenQ, inBlk, ↓reduceIte]
  refine retQ.of (by simp) ?_
  simp [Tryz.results49]
  try simp [*]
def cmpS (a b : Int) : Int := if a < b then -1 else if b < a then 1 else 0
theorem cmp_c (a b : Int) : PureF Tryz.prog 34 [.v (.int .i64 a), .v (.int .i64 b)] (.v (.int .i64 (cmpS a b))) := by
  refine PureF.intro (c := _) Tryz.func34 rfl (by kernel_rfl) (by rw [Tryz.ntmps34]; simp) rfl ?_
  refine Awp.rg [0, 1] fun K hK => ?_
  simp
  refine hK _ ?_; clear hK K
  refine Awp.rg [0, 1, 5] fun K hK => ?_
  simp
  refine RL.cF ?_  -- cmp.isNaN[int]
  simp
  refine ⟨_, nan_c _, by simp, ?_⟩
  try simp
  refine hK _ ?_; clear hK K
  refine Awp.rg [0, 1, 5, 6] fun K hK => ?_
  simp
  refine RL.cF ?_  -- cmp.isNaN[int]
  simp
  refine ⟨_, nan_c _, by simp, ?_⟩
  try simp
  refine hK _ ?_; clear hK K
  refine Awp.seq ?_
  refine Awp.rg [0, 1, 6, 11] fun K hK => ?_
  simp
  refine hK _ ?_; clear hK K
  refine Awp.cond _ rfl (fun h => ?_) (fun h => ?_)
  · try simp at h
    all_goals
      refine Awp.seq ?_
      refine Awp.rg [12] fun K hK => ?_
      simp
      refine hK _ ?_; clear hK K
      refine Awp.cond _ rfl (fun h => ?_) (fun h => ?_)
      · try simp at h
        all_goals
          refine Awp.rg [4] fun K hK => ?_
          simp
          refine hK _ ?_; clear hK K
          refine Awp.ret ?_
          try simp only [thenQ, inBlk, ↓reduceIte]
          refine retQ.of (by simp) ?_
          simp [Tryz.results34]
          simp only [cmpS]; repeat' split
          all_goals omega
      · try simp at h
        all_goals
          refine Awp.skip ?_
          try simp only [thenQ, inBlk, ↓reduceIte]
          refine Awp.rg [4] fun K hK => ?_
          simp
          refine hK _ ?_; clear hK K
          refine Awp.ret ?_
          try simp only [thenQ, inBlk, ↓reduceIte]
          refine retQ.of (by simp) ?_
          simp [Tryz.results34]
          simp only [cmpS]; repeat' split
          all_goals omega
  · try simp at h
    all_goals
      refine Awp.skip ?_
      try simp only [thenQ, inBlk, ↓reduceIte]
      refine Awp.seq ?_
      refine Awp.rg [0, 1, 13] fun K hK => ?_
      simp
      refine hK _ ?_; clear hK K
      refine Awp.cond _ rfl (fun h => ?_) (fun h => ?_)
      · try simp at h
        all_goals
          refine Awp.rg [4] fun K hK => ?_
          simp
          refine hK _ ?_; clear hK K
          refine Awp.ret ?_
          try simp only [thenQ, inBlk, ↓reduceIte]
          refine retQ.of (by simp) ?_
          simp [Tryz.results34]
          simp only [cmpS]; repeat' split
          all_goals omega
      · try simp at h
        all_goals
          refine Awp.skip ?_
          try simp only [thenQ, inBlk, ↓reduceIte]
          refine Awp.seq ?_
          refine Awp.rg [0, 1, 16] fun K hK => ?_
          simp
          refine hK _ ?_; clear hK K
          refine Awp.cond _ rfl (fun h => ?_) (fun h => ?_)
          · try simp at h
            all_goals
              refine Awp.rg [4] fun K hK => ?_
              simp
              refine hK _ ?_; clear hK K
              refine Awp.ret ?_
              try simp only [thenQ, inBlk, ↓reduceIte]
              refine retQ.of (by simp) ?_
              simp [Tryz.results34]
              simp only [cmpS]; repeat' split
              all_goals omega
          · try simp at h
            all_goals
              refine Awp.skip ?_
              try simp only [thenQ, inBlk, ↓reduceIte]
              refine Awp.seq ?_
              refine Awp.rg [19] fun K hK => ?_
              simp
              refine hK _ ?_; clear hK K
              refine Awp.cond _ rfl (fun h => ?_) (fun h => ?_)
              · try simp at h
                all_goals
                  refine Awp.rg [4] fun K hK => ?_
                  simp
                  refine hK _ ?_; clear hK K
                  refine Awp.ret ?_
                  try simp only [thenQ, inBlk, ↓reduceIte]
                  refine retQ.of (by simp) ?_
                  simp [Tryz.results34]
                  simp only [cmpS]; repeat' split
                  all_goals omega
              · try simp at h
                all_goals
                  refine Awp.skip ?_
                  try simp only [thenQ, inBlk, ↓reduceIte]
                  refine Awp.rg [4] fun K hK => ?_
                  simp
                  refine hK _ ?_; clear hK K
                  refine Awp.ret ?_
                  try simp only [thenQ, inBlk, ↓reduceIte]
                  refine retQ.of (by simp) ?_
                  simp [Tryz.results34]
                  simp only [cmpS]; repeat' split
                  all_goals omega
theorem ses1_c (s : Session) (n : Int) : PureF Tryz.prog 33 [s.enc, .v (.int .i64 n)] (.v (.int .i64 (cmpS s.Client n))) := by
  refine PureF.intro (c := _) Tryz.func33 rfl (by kernel_rfl) (by rw [Tryz.ntmps33]; simp) rfl ?_
  refine Awp.rg [1, 2] fun K hK => ?_
  simp
  refine hK _ ?_; clear hK K
  refine Awp.rg [4] fun K hK => ?_
  simp
  refine RL.cF ?_  -- cmp.Compare[int]
  simp
  refine ⟨_, cmp_c _ _, by simp, ?_⟩
  try simp
  refine hK _ ?_; clear hK K
  refine Awp.ret ?_
  try simp only [thenQ, inBlk, ↓reduceIte]
  refine retQ.of (by simp) ?_
  simp [Tryz.results33]
  try simp [*]
end Go.Apl

/- Contracts: a list of versions. -/
namespace Go.Apl
open Go Go.Proofs
set_option maxRecDepth 100000
set_option linter.unusedSimpArgs false
set_option linter.unusedVariables false

def vOKs : Version → List Version → Bool
  | _, [] => true
  | was, v :: l => (version_may v && decide (was.Epoch ≤ v.Epoch) && (openS was == (v.Kind == 1))) && vOKs v l
def versOK (l : List Version) : Bool := decide (l.length ≤ 16) && vOKs zVer l

theorem lastS_take (l : List Version) {i : Nat} (h : i < l.length) : lastS (l.take (i + 1)) = l[i] := by
  simp only [lastS, List.length_take, Nat.min_eq_left (show i + 1 ≤ l.length by omega), Nat.add_sub_cancel]
  simp [List.getElem?_take, h]
theorem vOKs_drop (l : List Version) {i : Nat} (h : i < l.length) (was : Version) : vOKs was (l.drop i) = ((version_may l[i] && decide (was.Epoch ≤ l[i].Epoch) && (openS was == (l[i].Kind == 1))) && vOKs l[i] (l.drop (i + 1))) := by
  rw [List.drop_eq_getElem_cons h]
  rfl

theorem vcheck_c {ds : List D} (l : List Version) (hds : ds = l.map Version.enc) (hl : l.length ≤ 1000000) : PureF Tryz.prog 16 [.lst true false 53 ds] (.v (.int .i64 (if versOK l then 0 else 50))) := by
  subst hds
  refine PureF.intro (c := _) Tryz.func16 rfl (by kernel_rfl) (by rw [Tryz.ntmps16]; simp) rfl ?_
  refine Awp.rg [0] fun K hK => ?_
  simp
  refine hK _ ?_; clear hK K
  refine Awp.rg [0, 3] fun K hK => ?_
  simp
  refine hK _ ?_; clear hK K
  refine Awp.seq ?_
  refine Awp.rg [0, 3, 4] fun K hK => ?_
  simp
  refine hK _ ?_; clear hK K
  refine Awp.block ?_
  -- LOOP 0 live [0, 3, 4]
  refine Awp.loopS (f := fun (a : Nat × Bool × Nat) => ⟨50, [(0, .lst true false 53 (l.map Version.enc)), (3, .v (.bool a.2.1)), (4, .v (.int .i64 a.1))], [], a.2.2⟩) (I := fun a => a.1 ≤ l.length ∧ versOK l = (a.2.1 && vOKs (lastS (l.take a.1)) (l.drop a.1))) (μ := fun a => l.length - a.1) (0, decide (l.length ≤ 16), 0) ?_ ?_ ?_
  · simp [versOK, lastS, zVer]
  · simp; omega
  rintro ⟨i, ok, m⟩ ⟨hi, hI⟩
  simp only at hi hI
  refine Awp.seq ?_
  refine Awp.rg [0, 3, 4, 15] fun K hK => ?_
  simp
  refine hK _ ?_; clear hK K
  refine Awp.cond _ rfl (fun h => ?_) (fun h => ?_)  -- C0
  · try simp at h
    all_goals
      obtain ⟨hok, hlt⟩ := h
      subst hok
      have hv : l[i]? = some l[i] := List.getElem?_eq_getElem hlt
      refine Awp.skip ?_
      try simp only [thenQ, inBlk, ↓reduceIte]
      refine Awp.seq ?_
      refine Awp.block ?_
      refine Awp.rg [0, 4, 5] fun K hK => ?_
      simp [hi]
      refine RL.cF ?_  -- version.last
      simp [hi]
      refine ⟨_, last_c (l.take i) (by simp) (by simp; omega), by simp, ?_⟩
      try simp [hi]
      refine hK _ ?_; clear hK K
      refine Awp.rgDE [[], [], [0, 1], [0, 1, 2], [0, 1, 2, 3], [0, 1, 2, 3, 4], [0, 1, 2, 3, 4, 5], [0, 1, 2, 3, 4, 5], [0, 1, 2, 3, 4, 5, 6, 7], [0, 1, 2, 3, 4, 5, 6, 7, 8], [0, 1, 2, 3, 4, 5, 6, 7, 8, 9], [0, 1, 2, 3, 4, 5], [0, 1, 2, 3, 4, 5, 11], [0, 1, 2, 3, 4, 5, 6, 7, 8, 9, 10, 11, 12], [0, 1, 2, 3, 4, 5, 6, 7, 8, 9, 10, 11, 12, 13], [0, 1, 2, 3, 4, 5, 6, 7, 8, 9, 10, 11, 12, 13, 14], [0, 1, 2, 3, 4, 5, 6, 7, 8, 9, 10, 11, 12, 13, 14, 15], [0, 1, 2, 3, 4, 5, 6, 7, 8, 9, 10, 11, 12, 13, 14, 15, 16], [0, 1, 2, 3, 4, 5, 6, 7, 8, 9, 10, 11, 12, 13, 14, 15], [0, 1, 2, 3, 4, 5, 6, 7, 8, 9, 10, 11, 12, 13, 14, 15], [0, 1, 2, 3, 4, 5, 6, 7, 8, 9, 10, 11, 12, 13, 14, 15, 18, 19], [0, 1, 2, 3, 4, 5, 6, 7, 8, 9, 10, 11, 12, 13, 14, 15, 18, 19, 20], [0, 1, 2, 3, 4, 5, 6, 7, 8, 9, 10, 11, 12, 13, 14, 15, 18, 19, 20, 21], [0, 1, 2, 3, 4, 5, 6, 7, 8, 9, 10, 11, 12, 13, 14, 15, 18, 19, 20, 21, 22], [0, 1, 2, 3, 4, 5, 6, 7, 8, 9, 10, 11, 12, 13, 14, 15, 16, 17, 18, 19, 20, 21, 22, 23], [0, 1, 2, 3, 4, 5, 6, 7, 8, 9, 10, 11, 12, 13, 14, 15, 16, 17, 18, 19, 20, 21, 22, 23, 24], [0, 1, 2, 3, 4, 5, 6, 7, 8, 9, 10, 11, 12, 13, 14, 15, 16, 17, 18, 19, 20, 21, 22, 23, 24, 25]] (by kernel_rfl) fun K hK => ?_
      simp [hlt, hv]
      refine DL.cF ?_  -- version.may
      simp [hlt, hv]
      refine ⟨_, may_c l[i], by simp, ?_⟩
      try simp [hlt, hv]
      refine DL.cG ?_  -- version.open
      simp [hlt, hv]
      refine ⟨_, open_c (lastS (l.take i)), by simp, ?_⟩
      try simp [hlt, hv]
      refine hK _ ?_; clear hK K
      try simp only [thenQ, inBlk, ↓reduceIte]
      refine Awp.rgE fun K hK => ?_
      simp
      refine hK _ ?_; clear hK K
      try simp only [thenQ, inBlk, ↓reduceIte]
      refine ⟨(i + 1, version_may l[i] && decide ((lastS (l.take i)).Epoch ≤ l[i].Epoch) && (openS (lastS (l.take i)) == (l[i].Kind == 1)), m + 1), ⟨by simp only; omega, ?_⟩, by simp only; omega, ⟨rfl, ⟨rfl, rfl, ?_, trivial⟩, trivial, Nat.le_refl _⟩⟩
      · rw [hI, vOKs_drop l hlt, lastS_take l hlt, Bool.true_and]
      · simp (disch := omega) [wrap_id]
  · try simp at h
    all_goals
      have hd : ok = true → vOKs (lastS (l.take i)) (l.drop i) = true := fun e => by rw [List.drop_eq_nil_of_le (h e)]; rfl
      refine Awp.exit ?_
      try simp only [thenQ, inBlk, ↓reduceIte]
      refine Awp.seq ?_
      refine Awp.rg [49] fun K hK => ?_
      simp
      refine hK _ ?_; clear hK K
      refine Awp.cond _ rfl (fun h => ?_) (fun h => ?_)  -- C1
      · try simp at h
        all_goals
          refine Awp.rg [2] fun K hK => ?_
          simp
          refine hK _ ?_; clear hK K
          refine Awp.ret ?_
          try simp only [thenQ, inBlk, ↓reduceIte]
          refine retQ.of (by simp) ?_
          simp [Tryz.results16]
          rw [hI]; cases ok <;> simp_all
      · try simp at h
        all_goals
          refine Awp.skip ?_
          try simp only [thenQ, inBlk, ↓reduceIte]
          refine Awp.rg [2] fun K hK => ?_
          simp
          refine hK _ ?_; clear hK K
          refine Awp.ret ?_
          try simp only [thenQ, inBlk, ↓reduceIte]
          refine retQ.of (by simp) ?_
          simp [Tryz.results16]
          rw [hI]; cases ok <;> simp_all
end Go.Apl

/- Contracts: copies of slices; a version added. -/
namespace Go.Apl
open Go Go.Proofs
set_option maxRecDepth 100000
set_option linter.unusedSimpArgs false
set_option linter.unusedVariables false

theorem cloneU_m (ds : List D) (hl : ds.length ≤ 1000000) (hb : bares ds = true) : MutF Tryz.prog 18 [] 0 [.lst true false 43 ds] [(0, .arr 43 ds)] 1 [] (.own 0 0 ds.length) := by
  refine MutF.intro (c := _) Tryz.func18 rfl (by kernel_rfl) (by rw [Tryz.ntmps18]; simp) (by simp) rfl ?_
  refine Awp.rg [0] fun K hK => ?_
  simp
  refine hK _ ?_; clear hK K
  refine Awp.seq ?_
  refine Awp.rg [0, 4] fun K hK => ?_
  simp
  refine RL.nilC ?_
  simp
  refine ⟨hK _ ?_, fun he => hK _ ?_⟩ <;> clear hK K
  · refine Awp.cond _ rfl (fun h => ?_) (fun h => ?_) <;> simp at h
    refine Awp.skip ?_
    try simp only [thenQ, inBlk, ↓reduceIte]
    refine Awp.rg [2] fun K hK => ?_
    simp [abuildSlice]
    rw [if_pos (by omega)]
    simp
    refine hK _ ?_; clear hK K
    refine Awp.ret ?_
    try simp only [thenQ, inBlk, ↓reduceIte]
    refine retM.of (fun x => 1) (by simp) ?_
    simp [Tryz.results18, bares_ren hb, bares_lt hb]
  · subst he
    refine Awp.cond _ rfl (fun h => ?_) (fun h => ?_) <;> simp at h
    refine Awp.rg [2] fun K hK => ?_
    simp
    refine hK _ ?_; clear hK K
    refine Awp.adopt (E := 43) (t := 2) rfl (by simp) ?_
    refine Awp.ret ?_
    try simp only [thenQ, inBlk, ↓reduceIte]
    refine retM.of (fun x => x) (by simp) ?_
    simp [Tryz.results18]
theorem cloneS_m (ds : List D) (hl : ds.length ≤ 1000000) (hb : bares ds = true) : MutF Tryz.prog 21 [] 0 [.lst true false 68 ds] [(0, .arr 68 ds)] 1 [] (.own 0 0 ds.length) := by
  refine MutF.intro (c := _) Tryz.func21 rfl (by kernel_rfl) (by rw [Tryz.ntmps21]; simp) (by simp) rfl ?_
  refine Awp.rg [0] fun K hK => ?_
  simp
  refine hK _ ?_; clear hK K
  refine Awp.seq ?_
  refine Awp.rg [0, 4] fun K hK => ?_
  simp
  refine RL.nilC ?_
  simp
  refine ⟨hK _ ?_, fun he => hK _ ?_⟩ <;> clear hK K
  · refine Awp.cond _ rfl (fun h => ?_) (fun h => ?_) <;> simp at h
    refine Awp.skip ?_
    try simp only [thenQ, inBlk, ↓reduceIte]
    refine Awp.rg [2] fun K hK => ?_
    simp [abuildSlice]
    rw [if_pos (by omega)]
    simp
    refine hK _ ?_; clear hK K
    refine Awp.ret ?_
    try simp only [thenQ, inBlk, ↓reduceIte]
    refine retM.of (fun x => 1) (by simp) ?_
    simp [Tryz.results21, bares_ren hb, bares_lt hb]
  · subst he
    refine Awp.cond _ rfl (fun h => ?_) (fun h => ?_) <;> simp at h
    refine Awp.rg [2] fun K hK => ?_
    simp
    refine hK _ ?_; clear hK K
    refine Awp.adopt (E := 68) (t := 2) rfl (by simp) ?_
    refine Awp.ret ?_
    try simp only [thenQ, inBlk, ↓reduceIte]
    refine retM.of (fun x => x) (by simp) ?_
    simp [Tryz.results21]
theorem cloneV_m (ds : List D) (hl : ds.length ≤ 1000000) (hb : bares ds = true) : MutF Tryz.prog 19 [] 0 [.lst true false 53 ds] [(0, .arr 53 ds)] 1 [] (.own 0 0 ds.length) := by
  refine MutF.intro (c := _) Tryz.func19 rfl (by kernel_rfl) (by rw [Tryz.ntmps19]; simp) (by simp) rfl ?_
  refine Awp.rg [0] fun K hK => ?_
  simp
  refine hK _ ?_; clear hK K
  refine Awp.seq ?_
  refine Awp.rg [0, 4] fun K hK => ?_
  simp
  refine RL.nilC ?_
  simp
  refine ⟨hK _ ?_, fun he => hK _ ?_⟩ <;> clear hK K
  · refine Awp.cond _ rfl (fun h => ?_) (fun h => ?_) <;> simp at h
    refine Awp.skip ?_
    try simp only [thenQ, inBlk, ↓reduceIte]
    refine Awp.rg [2] fun K hK => ?_
    simp [abuildSlice]
    rw [if_pos (by omega)]
    simp
    refine hK _ ?_; clear hK K
    refine Awp.ret ?_
    try simp only [thenQ, inBlk, ↓reduceIte]
    refine retM.of (fun x => 1) (by simp) ?_
    simp [Tryz.results19, bares_ren hb, bares_lt hb]
  · subst he
    refine Awp.cond _ rfl (fun h => ?_) (fun h => ?_) <;> simp at h
    refine Awp.rg [2] fun K hK => ?_
    simp
    refine hK _ ?_; clear hK K
    refine Awp.adopt (E := 53) (t := 2) rfl (by simp) ?_
    refine Awp.ret ?_
    try simp only [thenQ, inBlk, ↓reduceIte]
    refine retM.of (fun x => x) (by simp) ?_
    simp [Tryz.results19]
theorem cloneV_c (ds : List D) (hl : ds.length ≤ 1000000) (hf : ∀ σ, mapO (frz 8 σ) ds = some ds) : PureF Tryz.prog 19 [.lst true false 53 ds] (.lst false false 53 ds) := by
  refine PureF.intro (c := _) Tryz.func19 rfl (by kernel_rfl) (by rw [Tryz.ntmps19]; simp) rfl ?_
  refine Awp.rg [0] fun K hK => ?_
  simp
  refine hK _ ?_; clear hK K
  refine Awp.seq ?_
  refine Awp.rg [0, 4] fun K hK => ?_
  simp
  refine RL.nilC ?_
  simp
  refine ⟨hK _ ?_, fun he => hK _ ?_⟩ <;> clear hK K
  · refine Awp.cond _ rfl (fun h => ?_) (fun h => ?_) <;> simp at h
    refine Awp.skip ?_
    try simp only [thenQ, inBlk, ↓reduceIte]
    refine Awp.rg [2] fun K hK => ?_
    simp [abuildSlice]
    rw [if_pos (by omega)]
    simp
    refine hK _ ?_; clear hK K
    refine Awp.ret ?_
    try simp only [thenQ, inBlk, ↓reduceIte]
    refine retQ.of2 (by simp) ?_
    simp [Tryz.results19, hf]
  · subst he
    refine Awp.cond _ rfl (fun h => ?_) (fun h => ?_) <;> simp at h
    refine Awp.rg [2] fun K hK => ?_
    simp
    refine hK _ ?_; clear hK K
    refine Awp.ret ?_
    try simp only [thenQ, inBlk, ↓reduceIte]
    refine retQ.of2 (by simp) ?_
    simp [Tryz.results19]
theorem cloneH_c (ds : List D) (hl : ds.length ≤ 1000000) (hf : ∀ σ, mapO (frz 8 σ) ds = some ds) : PureF Tryz.prog 20 [.lst true false 65 ds] (.lst false false 65 ds) := by
  refine PureF.intro (c := _) Tryz.func20 rfl (by kernel_rfl) (by rw [Tryz.ntmps20]; simp) rfl ?_
  refine Awp.rg [0] fun K hK => ?_
  simp
  refine hK _ ?_; clear hK K
  refine Awp.seq ?_
  refine Awp.rg [0, 4] fun K hK => ?_
  simp
  refine RL.nilC ?_
  simp
  refine ⟨hK _ ?_, fun he => hK _ ?_⟩ <;> clear hK K
  · refine Awp.cond _ rfl (fun h => ?_) (fun h => ?_) <;> simp at h
    refine Awp.skip ?_
    try simp only [thenQ, inBlk, ↓reduceIte]
    refine Awp.rg [2] fun K hK => ?_
    simp [abuildSlice]
    rw [if_pos (by omega)]
    simp
    refine hK _ ?_; clear hK K
    refine Awp.ret ?_
    try simp only [thenQ, inBlk, ↓reduceIte]
    refine retQ.of2 (by simp) ?_
    simp [Tryz.results20, hf]
  · subst he
    refine Awp.cond _ rfl (fun h => ?_) (fun h => ?_) <;> simp at h
    refine Awp.rg [2] fun K hK => ?_
    simp
    refine hK _ ?_; clear hK K
    refine Awp.ret ?_
    try simp only [thenQ, inBlk, ↓reduceIte]
    refine retQ.of2 (by simp) ?_
    simp [Tryz.results20]

def nextS (l : List Version) (v : Version) : List Version × Int :=
  if versOK l = true ∧ version_may v = true ∧ (lastS l).Epoch ≤ v.Epoch then
    if v.Kind = 1 ∧ openS (lastS l) = false then ([], 51)
    else if v.Kind ≠ 1 ∧ openS (lastS l) = true then ([], 52)
    else if l.length = 16 then ([], 2)
    else (l ++ [v], 0)
  else ([], 50)
theorem next_c {ds : List D} (l : List Version) (v : Version) (hds : ds = l.map Version.enc) (hl : l.length ≤ 1000000) : PureF Tryz.prog 37 [.lst true false 53 ds, v.enc] (.tup [.lst false false 53 ((nextS l v).1.map Version.enc), .v (.int .i64 (nextS l v).2)]) := by
  subst hds
  refine PureF.intro (c := _) Tryz.func37 rfl (by kernel_rfl) (by rw [Tryz.ntmps37]; simp) (by simp [Tryz.results37]) ?_
  refine Awp.rg [0, 3] fun K hK => ?_
  simp
  refine hK _ ?_; clear hK K
  refine Awp.rg [0, 3, 6] fun K hK => ?_
  simp
  refine RL.cF ?_  -- version.last
  simp
  refine ⟨_, last_c l rfl hl, by simp, ?_⟩
  try simp
  refine hK _ ?_; clear hK K
  refine Awp.seq ?_
  refine Awp.block ?_
  refine Awp.rg [0, 3, 6, 9] fun K hK => ?_
  simp
  refine RL.cF ?_  -- version.Check
  simp
  refine ⟨_, vcheck_c l rfl hl, by simp, ?_⟩
  try simp
  refine RL.cG ?_  -- version.may
  simp
  refine ⟨_, may_c v, by simp, ?_⟩
  try simp
  refine hK _ ?_; clear hK K
  refine Awp.cond _ rfl (fun h => ?_) (fun h => ?_)  -- C0
  · try simp at h
    all_goals
      refine Awp.rg [4, 5] fun K hK => ?_
      simp
      refine hK _ ?_; clear hK K
      refine Awp.ret ?_
      try simp only [thenQ, inBlk, ↓reduceIte]
      -- RET 0
      refine retQ.of2 (by simp) ?_
      simp [Tryz.results37]
      try simp only [nextS]
      repeat' split
      all_goals first | (simp_all; done) | (simp_all; omega) | (exfalso; simp_all; omega)
  · try simp at h
    all_goals
      refine Awp.rg [0, 3, 6, 25] fun K hK => ?_
      simp
      refine RL.cG ?_  -- version.open
      simp
      refine ⟨_, open_c (lastS l), by simp, ?_⟩
      try simp
      refine hK _ ?_; clear hK K
      refine Awp.cond _ rfl (fun h => ?_) (fun h => ?_)  -- C1
      · try simp at h
        all_goals
          refine Awp.rg [4, 5] fun K hK => ?_
          simp
          refine hK _ ?_; clear hK K
          refine Awp.ret ?_
          try simp only [thenQ, inBlk, ↓reduceIte]
          -- RET 1
          refine retQ.of2 (by simp) ?_
          simp [Tryz.results37]
          try simp only [nextS]
          repeat' split
          all_goals first | (simp_all; done) | (simp_all; omega) | (exfalso; simp_all; omega)
      · try simp at h
        all_goals
          refine Awp.rg [0, 3, 34] fun K hK => ?_
          simp
          refine RL.cG ?_  -- version.open
          simp
          refine ⟨_, open_c (lastS l), by simp, ?_⟩
          try simp
          refine hK _ ?_; clear hK K
          refine Awp.cond _ rfl (fun h => ?_) (fun h => ?_)  -- C2
          · try simp at h
            all_goals
              refine Awp.rg [4, 5] fun K hK => ?_
              simp
              refine hK _ ?_; clear hK K
              refine Awp.ret ?_
              try simp only [thenQ, inBlk, ↓reduceIte]
              -- RET 2
              refine retQ.of2 (by simp) ?_
              simp [Tryz.results37]
              try simp only [nextS]
              repeat' split
              all_goals first | (simp_all; done) | (simp_all; omega) | (exfalso; simp_all; omega)
          · try simp at h
            all_goals
              refine Awp.rg [0, 3, 42] fun K hK => ?_
              simp
              refine hK _ ?_; clear hK K
              refine Awp.cond _ rfl (fun h => ?_) (fun h => ?_)  -- C3
              · try simp at h
                all_goals
                  refine Awp.rg [4, 5] fun K hK => ?_
                  simp
                  refine hK _ ?_; clear hK K
                  refine Awp.ret ?_
                  try simp only [thenQ, inBlk, ↓reduceIte]
                  -- RET 3
                  refine retQ.of2 (by simp) ?_
                  simp [Tryz.results37]
                  try simp only [nextS]
                  repeat' split
                  all_goals first | (simp_all; done) | (simp_all; omega) | (exfalso; simp_all; omega)
              · try simp at h
                all_goals
                  refine Awp.skip ?_
                  try simp only [thenQ, inBlk, ↓reduceIte]
                  refine Awp.rgD [4, 5] [[], [0], [], [2], [0, 1, 2, 3], [0, 1, 2, 3, 4], [0, 1, 2, 3, 4, 5], [3]] (by kernel_rfl) fun K hK => ?_
                  simp
                  repeat (rw [if_pos (by omega)]; simp)
                  refine DL.cM false [] ?_
                  simp
                  refine ⟨_, _, _, _, _, cloneV_m _ (by simpa using hl) (by simp), by decide, ?_⟩
                  try simp
                  repeat (rw [if_pos (by omega)]; simp)
                  refine DL.bQ ?_
                  simp
                  refine ⟨_, _, ⟨rfl, rfl⟩, ?_⟩
                  try simp
                  repeat (rw [if_pos (by omega)]; simp)
                  refine hK _ ?_; clear hK K
                  refine Awp.ret ?_
                  try simp only [thenQ, inBlk, ↓reduceIte]
                  -- RET 4
                  refine retQ.of2 (by simp) ?_
                  simp [Tryz.results37]
                  try simp only [nextS]
                  repeat' split
                  all_goals first | (simp_all; done) | (simp_all; omega) | (exfalso; simp_all; omega)
end Go.Apl

/- Contracts: places by halving. -/
namespace Go.Apl
open Go Go.Proofs
set_option maxRecDepth 100000
set_option linter.unusedSimpArgs false
set_option linter.unusedVariables false

/-- The place in a row: all ahead of it are less, all from it on are not. -/
structure At {α : Type} (c : α → Int) (l : List α) (p : Nat) : Prop where
  le : p ≤ l.length
  lo : ∀ k (h : k < l.length), k < p → c l[k] < 0
  hi : ∀ k (h : k < l.length), p ≤ k → 0 ≤ c l[k]
def foundAt {α : Type} (c : α → Int) (l : List α) (p : Nat) : Bool := match l[p]? with
  | some x => c x == 0
  | none => false

theorem half {i j : Nat} (h : i + j ≤ 3000000) : IntKind.i64.wrap ((IntKind.u64.wrap (IntKind.i64.wrap ((i : Int) + (j : Int)))).fdiv (2 ^ min 1 IntKind.u64.bits)) = (((i + j) / 2 : Nat) : Int) := by
  have e1 : IntKind.i64.wrap ((i : Int) + (j : Int)) = (i : Int) + (j : Int) := wrap_id (by omega)
  have e2 : IntKind.u64.wrap ((i : Int) + (j : Int)) = (i : Int) + (j : Int) := by simp [IntKind.wrap, IntKind.bits, IntKind.signed]; omega
  rw [e1, e2, show (2 : Int) ^ min 1 IntKind.u64.bits = 2 from rfl, Int.fdiv_eq_ediv_of_nonneg _ (by omega), wrap_id (by omega)]
  omega

theorem halfE {i j : Nat} (h : i < j) (hj : j ≤ 1000000) : ∃ q : Nat, i ≤ q ∧ q < j ∧ IntKind.i64.wrap ((IntKind.u64.wrap (IntKind.i64.wrap ((i : Int) + (j : Int)))).fdiv (2 ^ min 1 IntKind.u64.bits)) = (q : Int) :=
  ⟨(i + j) / 2, by omega, by omega, half (by omega)⟩

theorem bsS_c {ds : List D} (l : List Session) (n : Int) (p : Nat) (hds : ds = l.map Session.enc) (hl : l.length ≤ 1000000) (hp : At (fun s : Session => cmpS s.Client n) l p) :
    PureF Tryz.prog 32 [.lst true false 68 ds, .v (.int .i64 n), .fn 33 []] (.tup [.v (.int .i64 p), .v (.bool (foundAt (fun s : Session => cmpS s.Client n) l p))]) := by
  subst hds
  have hpl := hp.le
  refine PureF.intro (c := _) Tryz.func32 rfl (by kernel_rfl) (by rw [Tryz.ntmps32]; simp) (by simp [Tryz.results32]) ?_
  refine Awp.rg [0, 1, 2] fun K hK => ?_
  simp
  refine hK _ ?_; clear hK K
  refine Awp.rg [0, 1, 2, 8] fun K hK => ?_
  simp
  refine hK _ ?_; clear hK K
  refine Awp.rg [0, 1, 2, 8, 9, 10] fun K hK => ?_
  simp
  refine hK _ ?_; clear hK K
  refine Awp.seq ?_
  refine Awp.block ?_
  -- LOOP 0 live [0, 1, 2, 8, 9, 10]
  refine Awp.loopS (f := fun (a : Nat × Nat × Nat) => ⟨49, [(0, .lst true false 68 (l.map Session.enc)), (1, .v (.int .i64 n)), (2, .fn 33 []), (8, .v (.int .i64 l.length)), (9, .v (.int .i64 a.1)), (10, .v (.int .i64 a.2.1))], [], a.2.2⟩) (I := fun a => a.1 ≤ p ∧ p ≤ a.2.1 ∧ a.2.1 ≤ l.length) (μ := fun a => a.2.1 - a.1) (0, l.length, 0) ?_ ?_ ?_
  · simp [hpl]
  · simp
  rintro ⟨i, j, m⟩ ⟨h1, h2, h3⟩
  simp only at h1 h2 h3
  refine Awp.seq ?_
  refine Awp.rg [0, 1, 2, 8, 9, 10, 17] fun K hK => ?_
  simp
  refine hK _ ?_; clear hK K
  refine Awp.cond _ rfl (fun h => ?_) (fun h => ?_)  -- C0
  · try simp at h
    all_goals
      obtain ⟨q, g1, g2, hh⟩ := halfE h (by omega)
      have hq : q < l.length := by omega
      have hv : l[q]? = some l[q] := List.getElem?_eq_getElem hq
      refine Awp.skip ?_
      try simp only [thenQ, inBlk, ↓reduceIte]
      refine Awp.block ?_
      refine Awp.rg [0, 1, 2, 8, 9, 10, 11] fun K hK => ?_
      simp [ashift, hh]
      refine hK _ ?_; clear hK K
      refine Awp.rg [0, 1, 2, 8, 9, 10, 11, 31] fun K hK => ?_
      simp [hv, hq]
      refine RL.cT ?_  -- tmp
      simp [hv, hq]
      refine ⟨_, _, ⟨rfl, rfl⟩, ?_⟩
      simp [hv, hq]
      refine ⟨_, ses1_c l[q] n, by simp, ?_⟩
      try simp [hv, hq]
      refine hK _ ?_; clear hK K
      refine Awp.cond _ rfl (fun h => ?_) (fun h => ?_)  -- C1
      · try simp at h
        all_goals
          have hqp : q < p := Nat.lt_of_not_le fun e => by have := hp.hi q hq e; omega
          refine Awp.rgE fun K hK => ?_
          simp
          refine hK _ ?_; clear hK K
          try simp only [thenQ, inBlk, ↓reduceIte]
          first | (refine ⟨(q + 1, j, m), ⟨by simp only; omega, h2, h3⟩, by simp only; omega, ?_⟩; simp (disch := omega) [wrap_id]; done) | (refine ⟨(i, q, m), ⟨h1, hqp, by simp only; omega⟩, by simp only; omega, ?_⟩; simp; done)
      · try simp at h
        all_goals
          have hqp : p ≤ q := Nat.le_of_not_lt fun e => by have := hp.lo q hq e; omega
          refine Awp.rgE fun K hK => ?_
          simp
          refine hK _ ?_; clear hK K
          try simp only [thenQ, inBlk, ↓reduceIte]
          first | (refine ⟨(q + 1, j, m), ⟨by simp only; omega, h2, h3⟩, by simp only; omega, ?_⟩; simp (disch := omega) [wrap_id]; done) | (refine ⟨(i, q, m), ⟨h1, hqp, by simp only; omega⟩, by simp only; omega, ?_⟩; simp; done)
  · try simp at h
    all_goals
      refine Awp.exit ?_
      try simp only [thenQ, inBlk, ↓reduceIte]
      rcases (Nat.lt_or_ge i l.length) with hx | hx
      ·
        refine Awp.rg [6, 7] fun K hK => ?_
        simp [hx, List.getElem?_eq_getElem hx]
        refine RL.holdG ?_
        simp [hx, List.getElem?_eq_getElem hx]
        refine RL.cT ?_  -- tmp
        simp [hx, List.getElem?_eq_getElem hx]
        refine ⟨_, _, ⟨rfl, rfl⟩, ?_⟩
        simp [hx, List.getElem?_eq_getElem hx]
        refine ⟨_, ses1_c l[i] n, by simp, ?_⟩
        try simp [hx, List.getElem?_eq_getElem hx]
        refine hK _ ?_; clear hK K
        refine Awp.ret ?_
        try simp only [thenQ, inBlk, ↓reduceIte]
        refine retQ.of2 (by simp) ?_
        simp [Tryz.results32]
        have hip : i = p := by omega
        subst hip
        simp [foundAt, *]
      ·
        refine Awp.rg [6, 7] fun K hK => ?_
        simp [Nat.not_lt.2 hx]
        refine RL.skipG ?_
        simp [Nat.not_lt.2 hx]
        refine hK _ ?_; clear hK K
        refine Awp.ret ?_
        try simp only [thenQ, inBlk, ↓reduceIte]
        refine retQ.of2 (by simp) ?_
        simp [Tryz.results32]
        have hip : i = p := by omega
        subst hip
        simp [foundAt, *]

def strCmp (a b : ByteArray) : Int := Lib.compareBytes a.data.toList b.data.toList
theorem cstr_c (a b : ByteArray) : PureF Tryz.prog 70 [.v (.string a), .v (.string b)] (.v (.int .i64 (strCmp a b))) := by
  refine PureF.intro (c := _) Tryz.func70 rfl (by kernel_rfl) (by rw [Tryz.ntmps70]; simp) rfl ?_
  refine Awp.rg [0, 1] fun K hK => ?_
  simp
  refine hK _ ?_; clear hK K
  refine Awp.rg [4] fun K hK => ?_
  simp
  refine RL.ext ?_
  simp
  refine ⟨_, ExtH.compare Tryz.func87 (by kernel_rfl) (by kernel_rfl) (by kernel_rfl) (by kernel_rfl) rfl a b, ?_⟩
  try simp
  refine hK _ ?_; clear hK K
  refine Awp.ret ?_
  try simp only [thenQ, inBlk, ↓reduceIte]
  refine retQ.of2 (by simp) ?_
  simp [Tryz.results70]
  simp [strCmp]
theorem compare_c (a b : ByteArray) : PureF Tryz.prog 53 [.v (.string a), .v (.string b)] (.v (.int .i64 (strCmp a b))) := by
  refine PureF.intro (c := _) Tryz.func53 rfl (by kernel_rfl) (by rw [Tryz.ntmps53]; simp) rfl ?_
  refine Awp.rg [0, 1] fun K hK => ?_
  simp
  refine hK _ ?_; clear hK K
  refine Awp.rg [4] fun K hK => ?_
  simp
  refine RL.cF ?_  -- internal/bytealg.CompareString
  simp
  refine ⟨_, cstr_c a b, by simp, ?_⟩
  try simp
  refine hK _ ?_; clear hK K
  refine Awp.ret ?_
  try simp only [thenQ, inBlk, ↓reduceIte]
  refine retQ.of2 (by simp) ?_
  simp [Tryz.results53]
  try simp [*]
theorem usr1_c (u : User) (n : ByteArray) : PureF Tryz.prog 52 [u.enc true, .v (.string n)] (.v (.int .i64 (strCmp u.Name n))) := by
  refine PureF.intro (c := _) Tryz.func52 rfl (by kernel_rfl) (by rw [Tryz.ntmps52]; simp) rfl ?_
  refine Awp.rg [1, 2] fun K hK => ?_
  simp
  refine hK _ ?_; clear hK K
  refine Awp.rg [4] fun K hK => ?_
  simp
  refine RL.cF ?_  -- strings.Compare
  simp
  refine ⟨_, compare_c _ _, by simp, ?_⟩
  try simp
  refine hK _ ?_; clear hK K
  refine Awp.ret ?_
  try simp only [thenQ, inBlk, ↓reduceIte]
  refine retQ.of2 (by simp) ?_
  simp [Tryz.results52]
  try simp [*]

theorem bsU_c {ds : List D} (l : List User) (n : ByteArray) (p : Nat) (hds : ds = l.map (User.enc true)) (hl : l.length ≤ 1000000) (hp : At (fun s : User => strCmp s.Name n) l p) :
    PureF Tryz.prog 51 [.lst true false 43 ds, .v (.string n), .fn 52 []] (.tup [.v (.int .i64 p), .v (.bool (foundAt (fun s : User => strCmp s.Name n) l p))]) := by
  subst hds
  have hpl := hp.le
  refine PureF.intro (c := _) Tryz.func51 rfl (by kernel_rfl) (by rw [Tryz.ntmps51]; simp) (by simp [Tryz.results51]) ?_
  refine Awp.rg [0, 1, 2] fun K hK => ?_
  simp
  refine hK _ ?_; clear hK K
  refine Awp.rg [0, 1, 2, 8] fun K hK => ?_
  simp
  refine hK _ ?_; clear hK K
  refine Awp.rg [0, 1, 2, 8, 9, 10] fun K hK => ?_
  simp
  refine hK _ ?_; clear hK K
  refine Awp.seq ?_
  refine Awp.block ?_
  -- LOOP 0 live [0, 1, 2, 8, 9, 10]
  refine Awp.loopS (f := fun (a : Nat × Nat × Nat) => ⟨49, [(0, .lst true false 43 (l.map (User.enc true))), (1, .v (.string n)), (2, .fn 52 []), (8, .v (.int .i64 l.length)), (9, .v (.int .i64 a.1)), (10, .v (.int .i64 a.2.1))], [], a.2.2⟩) (I := fun a => a.1 ≤ p ∧ p ≤ a.2.1 ∧ a.2.1 ≤ l.length) (μ := fun a => a.2.1 - a.1) (0, l.length, 0) ?_ ?_ ?_
  · simp [hpl]
  · simp
  rintro ⟨i, j, m⟩ ⟨h1, h2, h3⟩
  simp only at h1 h2 h3
  refine Awp.seq ?_
  refine Awp.rg [0, 1, 2, 8, 9, 10, 17] fun K hK => ?_
  simp
  refine hK _ ?_; clear hK K
  refine Awp.cond _ rfl (fun h => ?_) (fun h => ?_)  -- C0
  · try simp at h
    all_goals
      obtain ⟨q, g1, g2, hh⟩ := halfE h (by omega)
      have hq : q < l.length := by omega
      have hv : l[q]? = some l[q] := List.getElem?_eq_getElem hq
      refine Awp.skip ?_
      try simp only [thenQ, inBlk, ↓reduceIte]
      refine Awp.block ?_
      refine Awp.rg [0, 1, 2, 8, 9, 10, 11] fun K hK => ?_
      simp [ashift, hh]
      refine hK _ ?_; clear hK K
      refine Awp.rg [0, 1, 2, 8, 9, 10, 11, 31] fun K hK => ?_
      simp [hv, hq]
      refine RL.cT ?_  -- tmp
      simp [hv, hq]
      refine ⟨_, _, ⟨rfl, rfl⟩, ?_⟩
      simp [hv, hq]
      refine ⟨_, usr1_c l[q] n, by simp, ?_⟩
      try simp [hv, hq]
      refine hK _ ?_; clear hK K
      refine Awp.cond _ rfl (fun h => ?_) (fun h => ?_)  -- C1
      · try simp at h
        all_goals
          have hqp : q < p := Nat.lt_of_not_le fun e => by have := hp.hi q hq e; omega
          refine Awp.rgE fun K hK => ?_
          simp
          refine hK _ ?_; clear hK K
          try simp only [thenQ, inBlk, ↓reduceIte]
          first | (refine ⟨(q + 1, j, m), ⟨by simp only; omega, h2, h3⟩, by simp only; omega, ?_⟩; simp (disch := omega) [wrap_id]; done) | (refine ⟨(i, q, m), ⟨h1, hqp, by simp only; omega⟩, by simp only; omega, ?_⟩; simp; done)
      · try simp at h
        all_goals
          have hqp : p ≤ q := Nat.le_of_not_lt fun e => by have := hp.lo q hq e; omega
          refine Awp.rgE fun K hK => ?_
          simp
          refine hK _ ?_; clear hK K
          try simp only [thenQ, inBlk, ↓reduceIte]
          first | (refine ⟨(q + 1, j, m), ⟨by simp only; omega, h2, h3⟩, by simp only; omega, ?_⟩; simp (disch := omega) [wrap_id]; done) | (refine ⟨(i, q, m), ⟨h1, hqp, by simp only; omega⟩, by simp only; omega, ?_⟩; simp; done)
  · try simp at h
    all_goals
      refine Awp.exit ?_
      try simp only [thenQ, inBlk, ↓reduceIte]
      rcases (Nat.lt_or_ge i l.length) with hx | hx
      ·
        refine Awp.rg [6, 7] fun K hK => ?_
        simp [hx, List.getElem?_eq_getElem hx]
        refine RL.holdG ?_
        simp [hx, List.getElem?_eq_getElem hx]
        refine RL.cT ?_  -- tmp
        simp [hx, List.getElem?_eq_getElem hx]
        refine ⟨_, _, ⟨rfl, rfl⟩, ?_⟩
        simp [hx, List.getElem?_eq_getElem hx]
        refine ⟨_, usr1_c l[i] n, by simp, ?_⟩
        try simp [hx, List.getElem?_eq_getElem hx]
        refine hK _ ?_; clear hK K
        refine Awp.ret ?_
        try simp only [thenQ, inBlk, ↓reduceIte]
        refine retQ.of2 (by simp) ?_
        simp [Tryz.results51]
        have hip : i = p := by omega
        subst hip
        simp [foundAt, *]
      ·
        refine Awp.rg [6, 7] fun K hK => ?_
        simp [Nat.not_lt.2 hx]
        refine RL.skipG ?_
        simp [Nat.not_lt.2 hx]
        refine hK _ ?_; clear hK K
        refine Awp.ret ?_
        try simp only [thenQ, inBlk, ↓reduceIte]
        refine retQ.of2 (by simp) ?_
        simp [Tryz.results51]
        have hip : i = p := by omega
        subst hip
        simp [foundAt, *]
end Go.Apl
