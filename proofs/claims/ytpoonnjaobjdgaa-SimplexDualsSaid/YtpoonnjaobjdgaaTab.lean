/-
What the table of types of the program says, a closed fact each.
-/
import Derived.Test.YtpoonnjaobjdgaaProg
import Derived.Test.YtpoonnjaobjdgaaFw13
namespace Go.Proofs.Ytpoonnjaobjdgaa
open Go Go.Fw
set_option maxRecDepth 100000

theorem zo0 : zeroOf Try.prog 0 = some [Value.tuple #[]] := rfl
theorem ld0 : ldTy Try.prog 0 = some (Bool.false, 1) := rfl
theorem zo1 : zeroOf Try.prog 1 = some [Value.nilFunc] := rfl
theorem ld1 : ldTy Try.prog 1 = some (Bool.false, 1) := rfl
theorem zo2 : zeroOf Try.prog 2 = some [Value.int IntKind.i64 0] := rfl
theorem ld2 : ldTy Try.prog 2 = some (Bool.false, 1) := rfl
theorem zo3 : zeroOf Try.prog 3 = some [Value.int IntKind.i64 0] := rfl
theorem ld3 : ldTy Try.prog 3 = some (Bool.false, 1) := rfl
theorem ub4 : Program.underlying Try.prog 4 = some TypeDesc.bool := rfl
theorem zo4 : zeroOf Try.prog 4 = some [Value.bool false] := rfl
theorem ld4 : ldTy Try.prog 4 = some (Bool.false, 1) := rfl
theorem zo5 : zeroOf Try.prog 5 = some [Value.int IntKind.u8 0] := rfl
theorem ld5 : ldTy Try.prog 5 = some (Bool.false, 1) := rfl
theorem zo6 : zeroOf Try.prog 6 = some [Value.int IntKind.u8 0] := rfl
theorem ld6 : ldTy Try.prog 6 = some (Bool.false, 1) := rfl
theorem st7 : structTy Try.prog 7 = some [(0, 1), (1, 1), (2, 1), (3, 1)] := rfl
theorem fd7_0 : fldTy Try.prog 7 0 = some 0 := rfl
theorem fd7_1 : fldTy Try.prog 7 1 = some 1 := rfl
theorem fd7_2 : fldTy Try.prog 7 2 = some 2 := rfl
theorem fd7_3 : fldTy Try.prog 7 3 = some 3 := rfl
theorem zo7 : zeroOf Try.prog 7 = some [Value.int IntKind.i64 0, Value.int IntKind.i64 0, Value.bool false, Value.int IntKind.u8 0] := rfl
theorem ld7 : ldTy Try.prog 7 = some (Bool.true, 4) := rfl
theorem st8 : structTy Try.prog 8 = some [(0, 1), (1, 1), (2, 1), (3, 1)] := rfl
theorem fd8_0 : fldTy Try.prog 8 0 = some 0 := rfl
theorem fd8_1 : fldTy Try.prog 8 1 = some 1 := rfl
theorem fd8_2 : fldTy Try.prog 8 2 = some 2 := rfl
theorem fd8_3 : fldTy Try.prog 8 3 = some 3 := rfl
theorem zo8 : zeroOf Try.prog 8 = some [Value.int IntKind.i64 0, Value.int IntKind.i64 0, Value.bool false, Value.int IntKind.u8 0] := rfl
theorem ld8 : ldTy Try.prog 8 = some (Bool.true, 4) := rfl
theorem zo9 : zeroOf Try.prog 9 = some [Value.string { data := #[] }] := rfl
theorem ld9 : ldTy Try.prog 9 = some (Bool.false, 1) := rfl
theorem zo10 : zeroOf Try.prog 10 = some [Value.string { data := #[] }] := rfl
theorem ld10 : ldTy Try.prog 10 = some (Bool.false, 1) := rfl
theorem zo11 : zeroOf Try.prog 11 = some [Value.string { data := #[] }] := rfl
theorem ld11 : ldTy Try.prog 11 = some (Bool.false, 1) := rfl
theorem zo12 : zeroOf Try.prog 12 = some [Value.int IntKind.u64 0] := rfl
theorem ld12 : ldTy Try.prog 12 = some (Bool.false, 1) := rfl
theorem st13 : structTy Try.prog 13 = some [(0, 1), (1, 1)] := rfl
theorem fd13_0 : fldTy Try.prog 13 0 = some 0 := rfl
theorem fd13_1 : fldTy Try.prog 13 1 = some 1 := rfl
theorem zo13 : zeroOf Try.prog 13 = some [Value.string { data := #[] }, Value.int IntKind.u64 0] := rfl
theorem ld13 : ldTy Try.prog 13 = some (Bool.true, 2) := rfl
theorem st14 : structTy Try.prog 14 = some [(0, 1), (1, 1)] := rfl
theorem fd14_0 : fldTy Try.prog 14 0 = some 0 := rfl
theorem fd14_1 : fldTy Try.prog 14 1 = some 1 := rfl
theorem zo14 : zeroOf Try.prog 14 = some [Value.string { data := #[] }, Value.int IntKind.u64 0] := rfl
theorem ld14 : ldTy Try.prog 14 = some (Bool.true, 2) := rfl
theorem zo15 : zeroOf Try.prog 15 = some [Value.pointer none] := rfl
theorem ld15 : ldTy Try.prog 15 = some (Bool.false, 1) := rfl
theorem zo16 : zeroOf Try.prog 16 = some [Value.pointer none] := rfl
theorem ld16 : ldTy Try.prog 16 = some (Bool.false, 1) := rfl
theorem zo17 : zeroOf Try.prog 17 = some [Value.pointer none] := rfl
theorem ld17 : ldTy Try.prog 17 = some (Bool.false, 1) := rfl
theorem st18 : structTy Try.prog 18 = some [(0, 1)] := rfl
theorem fd18_0 : fldTy Try.prog 18 0 = some 0 := rfl
theorem zo18 : zeroOf Try.prog 18 = some [Value.pointer none] := rfl
theorem ld18 : ldTy Try.prog 18 = some (Bool.true, 1) := rfl
theorem st19 : structTy Try.prog 19 = some [(0, 1)] := rfl
theorem fd19_0 : fldTy Try.prog 19 0 = some 0 := rfl
theorem zo19 : zeroOf Try.prog 19 = some [Value.pointer none] := rfl
theorem ld19 : ldTy Try.prog 19 = some (Bool.true, 1) := rfl
theorem zo20 : zeroOf Try.prog 20 = some [Value.nilIface] := rfl
theorem ld20 : ldTy Try.prog 20 = some (Bool.false, 1) := rfl
theorem zo21 : zeroOf Try.prog 21 = some [Value.int IntKind.i32 0] := rfl
theorem ld21 : ldTy Try.prog 21 = some (Bool.false, 1) := rfl
theorem sl22 : slTy Try.prog 22 = some (37, 3) := rfl
abbrev el22 : TypeId := 37
theorem zo22e : zeroOf Try.prog 37 = some [Value.bool false, Value.slice none 0 0, Value.slice none 0 0] := rfl
theorem by22e : Program.bytesOf Try.prog 37 = 56 := rfl
theorem zo22 : zeroOf Try.prog 22 = some [Value.slice none 0 0] := rfl
theorem ld22 : ldTy Try.prog 22 = some (Bool.false, 1) := rfl
theorem sl23 : slTy Try.prog 23 = some (22, 1) := rfl
abbrev el23 : TypeId := 22
theorem zo23e : zeroOf Try.prog 22 = some [Value.slice none 0 0] := rfl
theorem by23e : Program.bytesOf Try.prog 22 = 24 := rfl
theorem zo23 : zeroOf Try.prog 23 = some [Value.slice none 0 0] := rfl
theorem ld23 : ldTy Try.prog 23 = some (Bool.false, 1) := rfl
theorem st24 : structTy Try.prog 24 = some [(0, 1), (1, 1), (2, 1)] := rfl
theorem fd24_0 : fldTy Try.prog 24 0 = some 0 := rfl
theorem fd24_1 : fldTy Try.prog 24 1 = some 1 := rfl
theorem fd24_2 : fldTy Try.prog 24 2 = some 2 := rfl
theorem zo24 : zeroOf Try.prog 24 = some [Value.slice none 0 0, Value.slice none 0 0, Value.slice none 0 0] := rfl
theorem ld24 : ldTy Try.prog 24 = some (Bool.true, 3) := rfl
theorem st25 : structTy Try.prog 25 = some [(0, 1), (1, 1), (2, 1)] := rfl
theorem fd25_0 : fldTy Try.prog 25 0 = some 0 := rfl
theorem fd25_1 : fldTy Try.prog 25 1 = some 1 := rfl
theorem fd25_2 : fldTy Try.prog 25 2 = some 2 := rfl
theorem zo25 : zeroOf Try.prog 25 = some [Value.slice none 0 0, Value.slice none 0 0, Value.slice none 0 0] := rfl
theorem ld25 : ldTy Try.prog 25 = some (Bool.true, 3) := rfl
theorem zo26 : zeroOf Try.prog 26 = some [Value.int IntKind.i64 0] := rfl
theorem ld26 : ldTy Try.prog 26 = some (Bool.false, 1) := rfl
theorem zo27 : zeroOf Try.prog 27 = some [Value.nilFunc] := rfl
theorem ld27 : ldTy Try.prog 27 = some (Bool.false, 1) := rfl
theorem zo28 : zeroOf Try.prog 28 = some [Value.nilFunc] := rfl
theorem ld28 : ldTy Try.prog 28 = some (Bool.false, 1) := rfl
theorem zo29 : zeroOf Try.prog 29 = some [Value.tuple #[Value.agg #[Value.slice none 0 0, Value.slice none 0 0, Value.slice none 0 0], Value.int IntKind.i64 0]] := rfl
theorem ld29 : ldTy Try.prog 29 = some (Bool.false, 1) := rfl
theorem zo30 : zeroOf Try.prog 30 = some [Value.nilFunc] := rfl
theorem ld30 : ldTy Try.prog 30 = some (Bool.false, 1) := rfl
theorem zo31 : zeroOf Try.prog 31 = some [Value.nilFunc] := rfl
theorem ld31 : ldTy Try.prog 31 = some (Bool.false, 1) := rfl
theorem zo32 : zeroOf Try.prog 32 = some [Value.nilFunc] := rfl
theorem ld32 : ldTy Try.prog 32 = some (Bool.false, 1) := rfl
theorem zo33 : zeroOf Try.prog 33 = some [Value.nilFunc] := rfl
theorem ld33 : ldTy Try.prog 33 = some (Bool.false, 1) := rfl
theorem sl34 : slTy Try.prog 34 = some (52, 1) := rfl
abbrev el34 : TypeId := 52
theorem zo34e : zeroOf Try.prog 52 = some [Value.int IntKind.u32 0] := rfl
theorem by34e : Program.bytesOf Try.prog 52 = 4 := rfl
theorem zo34 : zeroOf Try.prog 34 = some [Value.slice none 0 0] := rfl
theorem ld34 : ldTy Try.prog 34 = some (Bool.false, 1) := rfl
theorem sl35 : slTy Try.prog 35 = some (52, 1) := rfl
abbrev el35 : TypeId := 52
theorem zo35e : zeroOf Try.prog 52 = some [Value.int IntKind.u32 0] := rfl
theorem by35e : Program.bytesOf Try.prog 52 = 4 := rfl
theorem zo35 : zeroOf Try.prog 35 = some [Value.slice none 0 0] := rfl
theorem ld35 : ldTy Try.prog 35 = some (Bool.false, 1) := rfl
theorem st36 : structTy Try.prog 36 = some [(0, 1), (1, 1), (2, 1)] := rfl
theorem fd36_0 : fldTy Try.prog 36 0 = some 0 := rfl
theorem fd36_1 : fldTy Try.prog 36 1 = some 1 := rfl
theorem fd36_2 : fldTy Try.prog 36 2 = some 2 := rfl
theorem zo36 : zeroOf Try.prog 36 = some [Value.bool false, Value.slice none 0 0, Value.slice none 0 0] := rfl
theorem ld36 : ldTy Try.prog 36 = some (Bool.true, 3) := rfl
theorem st37 : structTy Try.prog 37 = some [(0, 1), (1, 1), (2, 1)] := rfl
theorem fd37_0 : fldTy Try.prog 37 0 = some 0 := rfl
theorem fd37_1 : fldTy Try.prog 37 1 = some 1 := rfl
theorem fd37_2 : fldTy Try.prog 37 2 = some 2 := rfl
theorem zo37 : zeroOf Try.prog 37 = some [Value.bool false, Value.slice none 0 0, Value.slice none 0 0] := rfl
theorem ld37 : ldTy Try.prog 37 = some (Bool.true, 3) := rfl
theorem zo38 : zeroOf Try.prog 38 = some [Value.nilFunc] := rfl
theorem ld38 : ldTy Try.prog 38 = some (Bool.false, 1) := rfl
theorem zo39 : zeroOf Try.prog 39 = some [Value.nilFunc] := rfl
theorem ld39 : ldTy Try.prog 39 = some (Bool.false, 1) := rfl
theorem zo40 : zeroOf Try.prog 40 = some [Value.nilFunc] := rfl
theorem ld40 : ldTy Try.prog 40 = some (Bool.false, 1) := rfl
theorem zo41 : zeroOf Try.prog 41 = some [Value.nilFunc] := rfl
theorem ld41 : ldTy Try.prog 41 = some (Bool.false, 1) := rfl
theorem zo42 : zeroOf Try.prog 42 = some [Value.nilFunc] := rfl
theorem ld42 : ldTy Try.prog 42 = some (Bool.false, 1) := rfl
theorem zo43 : zeroOf Try.prog 43 = some [Value.nilFunc] := rfl
theorem ld43 : ldTy Try.prog 43 = some (Bool.false, 1) := rfl
theorem zo44 : zeroOf Try.prog 44 = some [Value.nilFunc] := rfl
theorem ld44 : ldTy Try.prog 44 = some (Bool.false, 1) := rfl
theorem zo45 : zeroOf Try.prog 45 = some [Value.nilFunc] := rfl
theorem ld45 : ldTy Try.prog 45 = some (Bool.false, 1) := rfl
theorem zo46 : zeroOf Try.prog 46 = some [Value.nilFunc] := rfl
theorem ld46 : ldTy Try.prog 46 = some (Bool.false, 1) := rfl
theorem zo47 : zeroOf Try.prog 47 = some [Value.nilFunc] := rfl
theorem ld47 : ldTy Try.prog 47 = some (Bool.false, 1) := rfl
theorem zo48 : zeroOf Try.prog 48 = some [Value.tuple #[Value.slice none 0 0, Value.slice none 0 0, Value.int IntKind.i64 0]] := rfl
theorem ld48 : ldTy Try.prog 48 = some (Bool.false, 1) := rfl
theorem zo49 : zeroOf Try.prog 49 = some [Value.nilFunc] := rfl
theorem ld49 : ldTy Try.prog 49 = some (Bool.false, 1) := rfl
theorem zo50 : zeroOf Try.prog 50 = some [Value.nilFunc] := rfl
theorem ld50 : ldTy Try.prog 50 = some (Bool.false, 1) := rfl
theorem zo51 : zeroOf Try.prog 51 = some [Value.nilFunc] := rfl
theorem ld51 : ldTy Try.prog 51 = some (Bool.false, 1) := rfl
theorem zo52 : zeroOf Try.prog 52 = some [Value.int IntKind.u32 0] := rfl
theorem ld52 : ldTy Try.prog 52 = some (Bool.false, 1) := rfl
theorem zo53 : zeroOf Try.prog 53 = some [Value.tuple #[Value.slice none 0 0, Value.slice none 0 0]] := rfl
theorem ld53 : ldTy Try.prog 53 = some (Bool.false, 1) := rfl
theorem zo54 : zeroOf Try.prog 54 = some [Value.nilFunc] := rfl
theorem ld54 : ldTy Try.prog 54 = some (Bool.false, 1) := rfl
theorem zo55 : zeroOf Try.prog 55 = some [Value.nilFunc] := rfl
theorem ld55 : ldTy Try.prog 55 = some (Bool.false, 1) := rfl
theorem zo56 : zeroOf Try.prog 56 = some [Value.nilFunc] := rfl
theorem ld56 : ldTy Try.prog 56 = some (Bool.false, 1) := rfl
theorem zo57 : zeroOf Try.prog 57 = some [Value.nilFunc] := rfl
theorem ld57 : ldTy Try.prog 57 = some (Bool.false, 1) := rfl
theorem zo58 : zeroOf Try.prog 58 = some [Value.tuple #[Value.slice none 0 0, Value.int IntKind.u32 0]] := rfl
theorem ld58 : ldTy Try.prog 58 = some (Bool.false, 1) := rfl
theorem zo59 : zeroOf Try.prog 59 = some [Value.nilFunc] := rfl
theorem ld59 : ldTy Try.prog 59 = some (Bool.false, 1) := rfl
theorem zo60 : zeroOf Try.prog 60 = some [Value.nilFunc] := rfl
theorem ld60 : ldTy Try.prog 60 = some (Bool.false, 1) := rfl
theorem zo61 : zeroOf Try.prog 61 = some [Value.int IntKind.u64 0] := rfl
theorem ld61 : ldTy Try.prog 61 = some (Bool.false, 1) := rfl
theorem zo62 : zeroOf Try.prog 62 = some [Value.nilFunc] := rfl
theorem ld62 : ldTy Try.prog 62 = some (Bool.false, 1) := rfl
theorem zo63 : zeroOf Try.prog 63 = some [Value.int IntKind.u64 0] := rfl
theorem ld63 : ldTy Try.prog 63 = some (Bool.false, 1) := rfl
theorem zo64 : zeroOf Try.prog 64 = some [Value.nilFunc] := rfl
theorem ld64 : ldTy Try.prog 64 = some (Bool.false, 1) := rfl
theorem zo65 : zeroOf Try.prog 65 = some [Value.nilFunc] := rfl
theorem ld65 : ldTy Try.prog 65 = some (Bool.false, 1) := rfl
theorem zo66 : zeroOf Try.prog 66 = some [Value.nilFunc] := rfl
theorem ld66 : ldTy Try.prog 66 = some (Bool.false, 1) := rfl
theorem st67 : structTy Try.prog 67 = some [(0, 1), (1, 1), (2, 1), (3, 1)] := rfl
theorem fd67_0 : fldTy Try.prog 67 0 = some 0 := rfl
theorem fd67_1 : fldTy Try.prog 67 1 = some 1 := rfl
theorem fd67_2 : fldTy Try.prog 67 2 = some 2 := rfl
theorem fd67_3 : fldTy Try.prog 67 3 = some 3 := rfl
theorem zo67 : zeroOf Try.prog 67 = some [Value.pointer none, Value.pointer none, Value.pointer none, Value.string { data := #[] }] := rfl
theorem ld67 : ldTy Try.prog 67 = some (Bool.true, 4) := rfl
theorem st68 : structTy Try.prog 68 = some [(0, 1), (1, 1), (2, 1), (3, 1)] := rfl
theorem fd68_0 : fldTy Try.prog 68 0 = some 0 := rfl
theorem fd68_1 : fldTy Try.prog 68 1 = some 1 := rfl
theorem fd68_2 : fldTy Try.prog 68 2 = some 2 := rfl
theorem fd68_3 : fldTy Try.prog 68 3 = some 3 := rfl
theorem zo68 : zeroOf Try.prog 68 = some [Value.pointer none, Value.pointer none, Value.pointer none, Value.string { data := #[] }] := rfl
theorem ld68 : ldTy Try.prog 68 = some (Bool.true, 4) := rfl
theorem zo69 : zeroOf Try.prog 69 = some [] := rfl
theorem ld69 : ldTy Try.prog 69 = some (Bool.true, 0) := rfl
theorem st70 : structTy Try.prog 70 = some [(0, 0)] := rfl
theorem zo70 : zeroOf Try.prog 70 = some [] := rfl
theorem ld70 : ldTy Try.prog 70 = some (Bool.true, 0) := rfl
theorem st71 : structTy Try.prog 71 = some [(0, 0)] := rfl
theorem zo71 : zeroOf Try.prog 71 = some [] := rfl
theorem ld71 : ldTy Try.prog 71 = some (Bool.true, 0) := rfl
theorem zo72 : zeroOf Try.prog 72 = some [Value.nilFunc] := rfl
theorem ld72 : ldTy Try.prog 72 = some (Bool.false, 1) := rfl
theorem zo73 : zeroOf Try.prog 73 = some [Value.int IntKind.u8 0] := rfl
theorem ld73 : ldTy Try.prog 73 = some (Bool.false, 1) := rfl
theorem zo74 : zeroOf Try.prog 74 = some [Value.int IntKind.u8 0] := rfl
theorem ld74 : ldTy Try.prog 74 = some (Bool.false, 1) := rfl
theorem zo75 : zeroOf Try.prog 75 = some [Value.nilFunc] := rfl
theorem ld75 : ldTy Try.prog 75 = some (Bool.false, 1) := rfl
theorem zo76 : zeroOf Try.prog 76 = some [Value.pointer none] := rfl
theorem ld76 : ldTy Try.prog 76 = some (Bool.false, 1) := rfl
theorem zo77 : zeroOf Try.prog 77 = some [Value.int IntKind.i32 0] := rfl
theorem ld77 : ldTy Try.prog 77 = some (Bool.false, 1) := rfl
theorem zo78 : zeroOf Try.prog 78 = some [Value.int IntKind.i32 0] := rfl
theorem ld78 : ldTy Try.prog 78 = some (Bool.false, 1) := rfl
theorem st79 : structTy Try.prog 79 = some [(0, 1), (1, 1), (2, 1), (3, 1), (4, 1), (5, 1), (6, 1), (7, 1), (8, 1), (9, 1), (10, 1)] := rfl
theorem fd79_0 : fldTy Try.prog 79 0 = some 0 := rfl
theorem fd79_1 : fldTy Try.prog 79 1 = some 1 := rfl
theorem fd79_2 : fldTy Try.prog 79 2 = some 2 := rfl
theorem fd79_3 : fldTy Try.prog 79 3 = some 3 := rfl
theorem fd79_4 : fldTy Try.prog 79 4 = some 4 := rfl
theorem fd79_5 : fldTy Try.prog 79 5 = some 5 := rfl
theorem fd79_6 : fldTy Try.prog 79 6 = some 6 := rfl
theorem fd79_7 : fldTy Try.prog 79 7 = some 7 := rfl
theorem fd79_8 : fldTy Try.prog 79 8 = some 8 := rfl
theorem fd79_9 : fldTy Try.prog 79 9 = some 9 := rfl
theorem fd79_10 : fldTy Try.prog 79 10 = some 10 := rfl
theorem zo79 : zeroOf Try.prog 79 = some [Value.int IntKind.u64 0, Value.int IntKind.u64 0, Value.int IntKind.u32 0, Value.int IntKind.u8 0, Value.int IntKind.u8 0, Value.int IntKind.u8 0, Value.int IntKind.u8 0, Value.nilFunc, Value.pointer none, Value.int IntKind.i32 0, Value.int IntKind.i32 0] := rfl
theorem ld79 : ldTy Try.prog 79 = some (Bool.true, 11) := rfl
theorem st80 : structTy Try.prog 80 = some [(0, 1), (1, 1), (2, 1), (3, 1), (4, 1), (5, 1), (6, 1), (7, 1), (8, 1), (9, 1), (10, 1)] := rfl
theorem fd80_0 : fldTy Try.prog 80 0 = some 0 := rfl
theorem fd80_1 : fldTy Try.prog 80 1 = some 1 := rfl
theorem fd80_2 : fldTy Try.prog 80 2 = some 2 := rfl
theorem fd80_3 : fldTy Try.prog 80 3 = some 3 := rfl
theorem fd80_4 : fldTy Try.prog 80 4 = some 4 := rfl
theorem fd80_5 : fldTy Try.prog 80 5 = some 5 := rfl
theorem fd80_6 : fldTy Try.prog 80 6 = some 6 := rfl
theorem fd80_7 : fldTy Try.prog 80 7 = some 7 := rfl
theorem fd80_8 : fldTy Try.prog 80 8 = some 8 := rfl
theorem fd80_9 : fldTy Try.prog 80 9 = some 9 := rfl
theorem fd80_10 : fldTy Try.prog 80 10 = some 10 := rfl
theorem zo80 : zeroOf Try.prog 80 = some [Value.int IntKind.u64 0, Value.int IntKind.u64 0, Value.int IntKind.u32 0, Value.int IntKind.u8 0, Value.int IntKind.u8 0, Value.int IntKind.u8 0, Value.int IntKind.u8 0, Value.nilFunc, Value.pointer none, Value.int IntKind.i32 0, Value.int IntKind.i32 0] := rfl
theorem ld80 : ldTy Try.prog 80 = some (Bool.true, 11) := rfl
theorem zo81 : zeroOf Try.prog 81 = some [Value.pointer none] := rfl
theorem ld81 : ldTy Try.prog 81 = some (Bool.false, 1) := rfl
abbrev itl : List (TypeId × IntKind) := [(2, .i64), (3, .i64), (5, .u8), (6, .u8), (12, .u64), (21, .i32), (26, .i64), (52, .u32), (61, .u64), (63, .u64), (73, .u8), (74, .u8), (77, .i32), (78, .i32)]
theorem it : IntTys Try.prog itl := IntTys.cons (t := 2) (k := .i64) rfl (IntTys.cons (t := 3) (k := .i64) rfl (IntTys.cons (t := 5) (k := .u8) rfl (IntTys.cons (t := 6) (k := .u8) rfl (IntTys.cons (t := 12) (k := .u64) rfl (IntTys.cons (t := 21) (k := .i32) rfl (IntTys.cons (t := 26) (k := .i64) rfl (IntTys.cons (t := 52) (k := .u32) rfl (IntTys.cons (t := 61) (k := .u64) rfl (IntTys.cons (t := 63) (k := .u64) rfl (IntTys.cons (t := 73) (k := .u8) rfl (IntTys.cons (t := 74) (k := .u8) rfl (IntTys.cons (t := 77) (k := .i32) rfl (IntTys.cons (t := 78) (k := .i32) rfl (IntTys.nil _))))))))))))))
theorem ub : Program.underlying Try.prog 4 = some TypeDesc.bool := rfl
theorem mx : Try.prog.follows .mixedOrders = true := rfl
end Go.Proofs.Ytpoonnjaobjdgaa
