/- Facts on the types and the functions of this program. Operations, reckoned one by one: what each yields, and what it asks for. -/
import Derived.Test.YtkonljmmdifnaaaGreatG4
set_option linter.unusedSimpArgs false
set_option linter.unusedVariables false
namespace Go.Proofs.YtkonljmmdifnaaaGreat.V
open Go.RowKit

@[go_sem] theorem tv1 : tv Tryz.prog 1 = some ⟨1, false, .nilFunc, 8, .other⟩ := by kernel_rfl
@[go_sem] theorem tv2 : tv Tryz.prog 2 = some ⟨1, false, .int .i64 0, 8, .other⟩ := by kernel_rfl
@[go_sem] theorem tv3 : tv Tryz.prog 3 = some ⟨1, false, .int .i64 0, 8, .other⟩ := by kernel_rfl
@[go_sem] theorem tv4 : tv Tryz.prog 4 = some ⟨1, false, .bool false, 1, .other⟩ := by kernel_rfl
@[go_sem] theorem tv5 : tv Tryz.prog 5 = some ⟨1, false, .int .u8 0, 1, .other⟩ := by kernel_rfl
@[go_sem] theorem tv6 : tv Tryz.prog 6 = some ⟨1, false, .int .u8 0, 1, .other⟩ := by kernel_rfl
@[go_sem] theorem tv7 : tv Tryz.prog 7 = some ⟨4, true, .agg #[.int .i64 0, .int .i64 0, .bool false, .int .u8 0], 24, .struct [(0, 2), (1, 3), (2, 4), (3, 6)]⟩ := by kernel_rfl
@[go_sem] theorem tv8 : tv Tryz.prog 8 = some ⟨4, true, .agg #[.int .i64 0, .int .i64 0, .bool false, .int .u8 0], 24, .struct [(0, 2), (1, 3), (2, 4), (3, 6)]⟩ := by kernel_rfl
@[go_sem] theorem tv9 : tv Tryz.prog 9 = some ⟨1, false, .string ⟨#[]⟩, 16, .other⟩ := by kernel_rfl
@[go_sem] theorem tv10 : tv Tryz.prog 10 = some ⟨1, false, .string ⟨#[]⟩, 16, .other⟩ := by kernel_rfl
@[go_sem] theorem tv11 : tv Tryz.prog 11 = some ⟨1, false, .string ⟨#[]⟩, 16, .other⟩ := by kernel_rfl
@[go_sem] theorem tv12 : tv Tryz.prog 12 = some ⟨1, false, .int .u64 0, 8, .other⟩ := by kernel_rfl
@[go_sem] theorem tv13 : tv Tryz.prog 13 = some ⟨2, true, .agg #[.string ⟨#[]⟩, .int .u64 0], 24, .struct [(0, 9), (1, 12)]⟩ := by kernel_rfl
@[go_sem] theorem tv14 : tv Tryz.prog 14 = some ⟨2, true, .agg #[.string ⟨#[]⟩, .int .u64 0], 24, .struct [(0, 9), (1, 12)]⟩ := by kernel_rfl
@[go_sem] theorem tv15 : tv Tryz.prog 15 = some ⟨1, false, .pointer none, 8, .other⟩ := by kernel_rfl
@[go_sem] theorem tv16 : tv Tryz.prog 16 = some ⟨1, false, .pointer none, 8, .other⟩ := by kernel_rfl
@[go_sem] theorem tv17 : tv Tryz.prog 17 = some ⟨1, false, .pointer none, 8, .other⟩ := by kernel_rfl
@[go_sem] theorem tv18 : tv Tryz.prog 18 = some ⟨1, true, .agg #[.pointer none], 8, .struct [(0, 17)]⟩ := by kernel_rfl
@[go_sem] theorem tv19 : tv Tryz.prog 19 = some ⟨1, true, .agg #[.pointer none], 8, .struct [(0, 17)]⟩ := by kernel_rfl
@[go_sem] theorem tv20 : tv Tryz.prog 20 = some ⟨1, false, .nilIface, 16, .other⟩ := by kernel_rfl
@[go_sem] theorem tv21 : tv Tryz.prog 21 = some ⟨1, false, .int .i32 0, 4, .other⟩ := by kernel_rfl
@[go_sem] theorem tv22 : tv Tryz.prog 22 = some ⟨2, true, .agg #[.int .i64 0, .int .i64 0], 16, .struct [(0, 3), (1, 3)]⟩ := by kernel_rfl
@[go_sem] theorem tv23 : tv Tryz.prog 23 = some ⟨2, true, .agg #[.int .i64 0, .int .i64 0], 16, .struct [(0, 3), (1, 3)]⟩ := by kernel_rfl
@[go_sem] theorem tv24 : tv Tryz.prog 24 = some ⟨4, true, .agg #[.int .i64 0, .int .i64 0, .int .i64 0, .int .i64 0], 32, .struct [(0, 3), (1, 3), (2, 3), (3, 3)]⟩ := by kernel_rfl
@[go_sem] theorem tv25 : tv Tryz.prog 25 = some ⟨4, true, .agg #[.int .i64 0, .int .i64 0, .int .i64 0, .int .i64 0], 32, .struct [(0, 3), (1, 3), (2, 3), (3, 3)]⟩ := by kernel_rfl
@[go_sem] theorem tv26 : tv Tryz.prog 26 = some ⟨1, false, .slice none 0 0, 24, .slice 90⟩ := by kernel_rfl
@[go_sem] theorem tv27 : tv Tryz.prog 27 = some ⟨7, true, .agg #[.int .i64 0, .int .i64 0, .int .i64 0, .int .i64 0, .int .i64 0, .int .i64 0, .slice none 0 0], 72, .struct [(0, 23), (2, 25), (6, 26)]⟩ := by kernel_rfl
@[go_sem] theorem tv28 : tv Tryz.prog 28 = some ⟨7, true, .agg #[.int .i64 0, .int .i64 0, .int .i64 0, .int .i64 0, .int .i64 0, .int .i64 0, .slice none 0 0], 72, .struct [(0, 23), (2, 25), (6, 26)]⟩ := by kernel_rfl
@[go_sem] theorem tv29 : tv Tryz.prog 29 = some ⟨1, false, .slice none 0 0, 24, .slice 54⟩ := by kernel_rfl
@[go_sem] theorem tv30 : tv Tryz.prog 30 = some ⟨10, true, .agg #[.int .i64 0, .int .i64 0, .int .i64 0, .int .i64 0, .int .i64 0, .int .i64 0, .int .i64 0, .int .i64 0, .slice none 0 0, .slice none 0 0], 112, .struct [(0, 3), (1, 3), (2, 28), (9, 29)]⟩ := by kernel_rfl
@[go_sem] theorem tv31 : tv Tryz.prog 31 = some ⟨10, true, .agg #[.int .i64 0, .int .i64 0, .int .i64 0, .int .i64 0, .int .i64 0, .int .i64 0, .int .i64 0, .int .i64 0, .slice none 0 0, .slice none 0 0], 112, .struct [(0, 3), (1, 3), (2, 28), (9, 29)]⟩ := by kernel_rfl
@[go_sem] theorem tv32 : tv Tryz.prog 32 = some ⟨1, false, .slice none 0 0, 24, .slice 67⟩ := by kernel_rfl
@[go_sem] theorem tv33 : tv Tryz.prog 33 = some ⟨1, true, .agg #[.slice none 0 0], 24, .struct [(0, 32)]⟩ := by kernel_rfl
@[go_sem] theorem tv34 : tv Tryz.prog 34 = some ⟨1, true, .agg #[.slice none 0 0], 24, .struct [(0, 32)]⟩ := by kernel_rfl
@[go_sem] theorem tv35 : tv Tryz.prog 35 = some ⟨1, false, .nilFunc, 8, .other⟩ := by kernel_rfl
@[go_sem] theorem tv36 : tv Tryz.prog 36 = some ⟨1, false, .nilFunc, 8, .other⟩ := by kernel_rfl
@[go_sem] theorem tv37 : tv Tryz.prog 37 = some ⟨1, false, .slice none 0 0, 24, .slice 73⟩ := by kernel_rfl
@[go_sem] theorem tv38 : tv Tryz.prog 38 = some ⟨1, false, .int .i64 0, 8, .other⟩ := by kernel_rfl
@[go_sem] theorem tv40 : tv Tryz.prog 40 = some ⟨1, false, .nilFunc, 8, .other⟩ := by kernel_rfl
@[go_sem] theorem tv41 : tv Tryz.prog 41 = some ⟨1, false, .nilFunc, 8, .other⟩ := by kernel_rfl
@[go_sem] theorem tv42 : tv Tryz.prog 42 = some ⟨1, false, .nilFunc, 8, .other⟩ := by kernel_rfl
@[go_sem] theorem tv43 : tv Tryz.prog 43 = some ⟨2, true, .agg #[.int .i64 0, .int .i64 0], 16, .array 2 3⟩ := by kernel_rfl
@[go_sem] theorem tv44 : tv Tryz.prog 44 = some ⟨1, false, .slice none 0 0, 24, .slice 23⟩ := by kernel_rfl
@[go_sem] theorem tv46 : tv Tryz.prog 46 = some ⟨1, false, .nilFunc, 8, .other⟩ := by kernel_rfl
@[go_sem] theorem tv47 : tv Tryz.prog 47 = some ⟨1, false, .nilFunc, 8, .other⟩ := by kernel_rfl
@[go_sem] theorem tv48 : tv Tryz.prog 48 = some ⟨1, false, .nilFunc, 8, .other⟩ := by kernel_rfl
@[go_sem] theorem tv49 : tv Tryz.prog 49 = some ⟨3, true, .agg #[.int .i64 0, .int .i64 0, .int .i64 0], 24, .array 3 3⟩ := by kernel_rfl
@[go_sem] theorem tv50 : tv Tryz.prog 50 = some ⟨1, false, .nilFunc, 8, .other⟩ := by kernel_rfl
@[go_sem] theorem tv51 : tv Tryz.prog 51 = some ⟨1, false, .nilFunc, 8, .other⟩ := by kernel_rfl
@[go_sem] theorem tv52 : tv Tryz.prog 52 = some ⟨1, false, .nilFunc, 8, .other⟩ := by kernel_rfl
@[go_sem] theorem tv53 : tv Tryz.prog 53 = some ⟨9, true, .agg #[.int .i64 0, .int .i64 0, .int .i64 0, .int .i64 0, .int .i64 0, .int .i64 0, .int .i64 0, .slice none 0 0, .int .i64 0], 88, .struct [(0, 3), (1, 3), (2, 3), (3, 25), (7, 26), (8, 3)]⟩ := by kernel_rfl
@[go_sem] theorem tv54 : tv Tryz.prog 54 = some ⟨9, true, .agg #[.int .i64 0, .int .i64 0, .int .i64 0, .int .i64 0, .int .i64 0, .int .i64 0, .int .i64 0, .slice none 0 0, .int .i64 0], 88, .struct [(0, 3), (1, 3), (2, 3), (3, 25), (7, 26), (8, 3)]⟩ := by kernel_rfl
@[go_sem] theorem tv55 : tv Tryz.prog 55 = some ⟨1, false, .nilFunc, 8, .other⟩ := by kernel_rfl
@[go_sem] theorem tv56 : tv Tryz.prog 56 = some ⟨1, false, .nilFunc, 8, .other⟩ := by kernel_rfl
@[go_sem] theorem tv57 : tv Tryz.prog 57 = some ⟨1, false, .nilFunc, 8, .other⟩ := by kernel_rfl
@[go_sem] theorem tv58 : tv Tryz.prog 58 = some ⟨1, false, .nilFunc, 8, .other⟩ := by kernel_rfl
@[go_sem] theorem tv60 : tv Tryz.prog 60 = some ⟨1, false, .nilFunc, 8, .other⟩ := by kernel_rfl
@[go_sem] theorem tv61 : tv Tryz.prog 61 = some ⟨1, false, .nilFunc, 8, .other⟩ := by kernel_rfl
@[go_sem] theorem tv62 : tv Tryz.prog 62 = some ⟨1, false, .nilFunc, 8, .other⟩ := by kernel_rfl
@[go_sem] theorem tv63 : tv Tryz.prog 63 = some ⟨4, true, .agg #[.int .i64 0, .int .i64 0, .int .i64 0, .int .i64 0], 32, .array 4 3⟩ := by kernel_rfl
@[go_sem] theorem tv64 : tv Tryz.prog 64 = some ⟨1, false, .slice none 0 0, 24, .slice 150⟩ := by kernel_rfl
@[go_sem] theorem tv65 : tv Tryz.prog 65 = some ⟨1, false, .slice none 0 0, 24, .slice 3⟩ := by kernel_rfl
@[go_sem] theorem tv66 : tv Tryz.prog 66 = some ⟨9, true, .agg #[.int .i64 0, .int .i64 0, .int .i64 0, .int .i64 0, .int .i64 0, .slice none 0 0, .slice none 0 0, .slice none 0 0, .int .i64 0], 120, .struct [(0, 3), (1, 63), (5, 64), (6, 65), (7, 65), (8, 3)]⟩ := by kernel_rfl
@[go_sem] theorem tv67 : tv Tryz.prog 67 = some ⟨9, true, .agg #[.int .i64 0, .int .i64 0, .int .i64 0, .int .i64 0, .int .i64 0, .slice none 0 0, .slice none 0 0, .slice none 0 0, .int .i64 0], 120, .struct [(0, 3), (1, 63), (5, 64), (6, 65), (7, 65), (8, 3)]⟩ := by kernel_rfl
@[go_sem] theorem tv69 : tv Tryz.prog 69 = some ⟨1, false, .nilFunc, 8, .other⟩ := by kernel_rfl
@[go_sem] theorem tv70 : tv Tryz.prog 70 = some ⟨1, false, .nilFunc, 8, .other⟩ := by kernel_rfl
@[go_sem] theorem tv71 : tv Tryz.prog 71 = some ⟨1, false, .nilFunc, 8, .other⟩ := by kernel_rfl
@[go_sem] theorem tv72 : tv Tryz.prog 72 = some ⟨9, true, .agg #[.int .i64 0, .int .i64 0, .bool false, .int .i64 0, .int .i64 0, .int .i64 0, .int .i64 0, .slice none 0 0, .int .i64 0], 88, .struct [(0, 23), (2, 4), (3, 25), (7, 26), (8, 3)]⟩ := by kernel_rfl
@[go_sem] theorem tv73 : tv Tryz.prog 73 = some ⟨9, true, .agg #[.int .i64 0, .int .i64 0, .bool false, .int .i64 0, .int .i64 0, .int .i64 0, .int .i64 0, .slice none 0 0, .int .i64 0], 88, .struct [(0, 23), (2, 4), (3, 25), (7, 26), (8, 3)]⟩ := by kernel_rfl
@[go_sem] theorem tv74 : tv Tryz.prog 74 = some ⟨1, false, .nilFunc, 8, .other⟩ := by kernel_rfl
@[go_sem] theorem tv76 : tv Tryz.prog 76 = some ⟨1, false, .nilFunc, 8, .other⟩ := by kernel_rfl
@[go_sem] theorem tv77 : tv Tryz.prog 77 = some ⟨1, false, .nilFunc, 8, .other⟩ := by kernel_rfl
@[go_sem] theorem tv78 : tv Tryz.prog 78 = some ⟨1, false, .nilFunc, 8, .other⟩ := by kernel_rfl
@[go_sem] theorem tv79 : tv Tryz.prog 79 = some ⟨1, false, .nilFunc, 8, .other⟩ := by kernel_rfl
@[go_sem] theorem tv80 : tv Tryz.prog 80 = some ⟨1, false, .nilFunc, 8, .other⟩ := by kernel_rfl
@[go_sem] theorem tv81 : tv Tryz.prog 81 = some ⟨1, false, .nilFunc, 8, .other⟩ := by kernel_rfl
@[go_sem] theorem tv82 : tv Tryz.prog 82 = some ⟨1, false, .nilFunc, 8, .other⟩ := by kernel_rfl
@[go_sem] theorem tv83 : tv Tryz.prog 83 = some ⟨1, false, .nilFunc, 8, .other⟩ := by kernel_rfl
@[go_sem] theorem tv84 : tv Tryz.prog 84 = some ⟨1, false, .nilFunc, 8, .other⟩ := by kernel_rfl
@[go_sem] theorem tv85 : tv Tryz.prog 85 = some ⟨1, false, .nilFunc, 8, .other⟩ := by kernel_rfl
@[go_sem] theorem tv86 : tv Tryz.prog 86 = some ⟨1, false, .nilFunc, 8, .other⟩ := by kernel_rfl
@[go_sem] theorem tv87 : tv Tryz.prog 87 = some ⟨1, false, .nilFunc, 8, .other⟩ := by kernel_rfl
@[go_sem] theorem tv88 : tv Tryz.prog 88 = some ⟨1, false, .nilFunc, 8, .other⟩ := by kernel_rfl
@[go_sem] theorem tv89 : tv Tryz.prog 89 = some ⟨5, true, .agg #[.int .i64 0, .int .i64 0, .int .i64 0, .int .i64 0, .int .i64 0], 40, .struct [(0, 3), (1, 3), (2, 3), (3, 3), (4, 3)]⟩ := by kernel_rfl
@[go_sem] theorem tv90 : tv Tryz.prog 90 = some ⟨5, true, .agg #[.int .i64 0, .int .i64 0, .int .i64 0, .int .i64 0, .int .i64 0], 40, .struct [(0, 3), (1, 3), (2, 3), (3, 3), (4, 3)]⟩ := by kernel_rfl
@[go_sem] theorem tv91 : tv Tryz.prog 91 = some ⟨1, false, .nilFunc, 8, .other⟩ := by kernel_rfl
@[go_sem] theorem tv93 : tv Tryz.prog 93 = some ⟨1, false, .nilFunc, 8, .other⟩ := by kernel_rfl
@[go_sem] theorem tv94 : tv Tryz.prog 94 = some ⟨1, false, .nilFunc, 8, .other⟩ := by kernel_rfl
@[go_sem] theorem tv96 : tv Tryz.prog 96 = some ⟨1, false, .nilFunc, 8, .other⟩ := by kernel_rfl
@[go_sem] theorem tv97 : tv Tryz.prog 97 = some ⟨1, false, .nilFunc, 8, .other⟩ := by kernel_rfl
@[go_sem] theorem tv98 : tv Tryz.prog 98 = some ⟨1, false, .nilFunc, 8, .other⟩ := by kernel_rfl
@[go_sem] theorem tv99 : tv Tryz.prog 99 = some ⟨1, false, .nilFunc, 8, .other⟩ := by kernel_rfl
@[go_sem] theorem tv100 : tv Tryz.prog 100 = some ⟨1, false, .nilFunc, 8, .other⟩ := by kernel_rfl
@[go_sem] theorem tv101 : tv Tryz.prog 101 = some ⟨1, false, .nilFunc, 8, .other⟩ := by kernel_rfl
@[go_sem] theorem tv102 : tv Tryz.prog 102 = some ⟨1, false, .nilFunc, 8, .other⟩ := by kernel_rfl
@[go_sem] theorem tv103 : tv Tryz.prog 103 = some ⟨1, false, .slice none 0 0, 24, .slice 37⟩ := by kernel_rfl
@[go_sem] theorem tv104 : tv Tryz.prog 104 = some ⟨1, false, .nilFunc, 8, .other⟩ := by kernel_rfl
@[go_sem] theorem tv105 : tv Tryz.prog 105 = some ⟨1, false, .nilFunc, 8, .other⟩ := by kernel_rfl
@[go_sem] theorem tv106 : tv Tryz.prog 106 = some ⟨1, false, .nilFunc, 8, .other⟩ := by kernel_rfl
@[go_sem] theorem tv107 : tv Tryz.prog 107 = some ⟨1, false, .nilFunc, 8, .other⟩ := by kernel_rfl
@[go_sem] theorem tv108 : tv Tryz.prog 108 = some ⟨1, false, .nilFunc, 8, .other⟩ := by kernel_rfl
@[go_sem] theorem tv109 : tv Tryz.prog 109 = some ⟨1, false, .nilFunc, 8, .other⟩ := by kernel_rfl
@[go_sem] theorem tv110 : tv Tryz.prog 110 = some ⟨1, false, .nilFunc, 8, .other⟩ := by kernel_rfl
@[go_sem] theorem tv111 : tv Tryz.prog 111 = some ⟨1, false, .int .u64 0, 8, .other⟩ := by kernel_rfl
@[go_sem] theorem tv112 : tv Tryz.prog 112 = some ⟨1, false, .nilFunc, 8, .other⟩ := by kernel_rfl
@[go_sem] theorem tv114 : tv Tryz.prog 114 = some ⟨1, false, .map none, 8, .other⟩ := by kernel_rfl
@[go_sem] theorem tv115 : tv Tryz.prog 115 = some ⟨1, false, .nilFunc, 8, .other⟩ := by kernel_rfl
@[go_sem] theorem tv116 : tv Tryz.prog 116 = some ⟨1, false, .nilFunc, 8, .other⟩ := by kernel_rfl
@[go_sem] theorem tv117 : tv Tryz.prog 117 = some ⟨1, false, .nilFunc, 8, .other⟩ := by kernel_rfl
@[go_sem] theorem tv118 : tv Tryz.prog 118 = some ⟨1, false, .nilFunc, 8, .other⟩ := by kernel_rfl
@[go_sem] theorem tv119 : tv Tryz.prog 119 = some ⟨1, false, .nilFunc, 8, .other⟩ := by kernel_rfl
@[go_sem] theorem tv120 : tv Tryz.prog 120 = some ⟨1, false, .nilFunc, 8, .other⟩ := by kernel_rfl
@[go_sem] theorem tv121 : tv Tryz.prog 121 = some ⟨1, false, .nilFunc, 8, .other⟩ := by kernel_rfl
@[go_sem] theorem tv122 : tv Tryz.prog 122 = some ⟨1, false, .nilFunc, 8, .other⟩ := by kernel_rfl
@[go_sem] theorem tv123 : tv Tryz.prog 123 = some ⟨1, false, .pointer none, 8, .other⟩ := by kernel_rfl
@[go_sem] theorem tv124 : tv Tryz.prog 124 = some ⟨1, false, .nilFunc, 8, .other⟩ := by kernel_rfl
@[go_sem] theorem tv125 : tv Tryz.prog 125 = some ⟨1, false, .nilFunc, 8, .other⟩ := by kernel_rfl
@[go_sem] theorem tv126 : tv Tryz.prog 126 = some ⟨1, false, .nilFunc, 8, .other⟩ := by kernel_rfl
@[go_sem] theorem tv128 : tv Tryz.prog 128 = some ⟨1, false, .nilFunc, 8, .other⟩ := by kernel_rfl
@[go_sem] theorem tv129 : tv Tryz.prog 129 = some ⟨1, false, .nilFunc, 8, .other⟩ := by kernel_rfl
@[go_sem] theorem tv130 : tv Tryz.prog 130 = some ⟨1, false, .nilFunc, 8, .other⟩ := by kernel_rfl
@[go_sem] theorem tv131 : tv Tryz.prog 131 = some ⟨1, false, .nilFunc, 8, .other⟩ := by kernel_rfl
@[go_sem] theorem tv132 : tv Tryz.prog 132 = some ⟨1, false, .nilFunc, 8, .other⟩ := by kernel_rfl
@[go_sem] theorem tv133 : tv Tryz.prog 133 = some ⟨1, false, .nilFunc, 8, .other⟩ := by kernel_rfl
@[go_sem] theorem tv134 : tv Tryz.prog 134 = some ⟨1, false, .int .i64 0, 8, .other⟩ := by kernel_rfl
@[go_sem] theorem tv136 : tv Tryz.prog 136 = some ⟨1, false, .nilFunc, 8, .other⟩ := by kernel_rfl
@[go_sem] theorem tv137 : tv Tryz.prog 137 = some ⟨1, false, .nilFunc, 8, .other⟩ := by kernel_rfl
@[go_sem] theorem tv138 : tv Tryz.prog 138 = some ⟨1, false, .nilFunc, 8, .other⟩ := by kernel_rfl
@[go_sem] theorem tv139 : tv Tryz.prog 139 = some ⟨1, false, .nilFunc, 8, .other⟩ := by kernel_rfl
@[go_sem] theorem tv140 : tv Tryz.prog 140 = some ⟨1, false, .nilFunc, 8, .other⟩ := by kernel_rfl
@[go_sem] theorem tv141 : tv Tryz.prog 141 = some ⟨1, false, .int .u32 0, 4, .other⟩ := by kernel_rfl
@[go_sem] theorem tv142 : tv Tryz.prog 142 = some ⟨1, false, .nilFunc, 8, .other⟩ := by kernel_rfl
@[go_sem] theorem tv143 : tv Tryz.prog 143 = some ⟨1, false, .int .u64 0, 8, .other⟩ := by kernel_rfl
@[go_sem] theorem tv144 : tv Tryz.prog 144 = some ⟨1, false, .nilFunc, 8, .other⟩ := by kernel_rfl
@[go_sem] theorem tv145 : tv Tryz.prog 145 = some ⟨1, false, .nilFunc, 8, .other⟩ := by kernel_rfl
@[go_sem] theorem tv146 : tv Tryz.prog 146 = some ⟨1, false, .nilFunc, 8, .other⟩ := by kernel_rfl
@[go_sem] theorem tv147 : tv Tryz.prog 147 = some ⟨1, false, .nilFunc, 8, .other⟩ := by kernel_rfl
@[go_sem] theorem tv148 : tv Tryz.prog 148 = some ⟨1, false, .nilFunc, 8, .other⟩ := by kernel_rfl
@[go_sem] theorem tv149 : tv Tryz.prog 149 = some ⟨2, true, .agg #[.int .i64 0, .int .i64 0], 16, .struct [(0, 3), (1, 3)]⟩ := by kernel_rfl
@[go_sem] theorem tv150 : tv Tryz.prog 150 = some ⟨2, true, .agg #[.int .i64 0, .int .i64 0], 16, .struct [(0, 3), (1, 3)]⟩ := by kernel_rfl
@[go_sem] theorem tv151 : tv Tryz.prog 151 = some ⟨1, false, .nilFunc, 8, .other⟩ := by kernel_rfl
@[go_sem] theorem tv152 : tv Tryz.prog 152 = some ⟨1, false, .nilFunc, 8, .other⟩ := by kernel_rfl
@[go_sem] theorem tv153 : tv Tryz.prog 153 = some ⟨1, false, .nilFunc, 8, .other⟩ := by kernel_rfl
@[go_sem] theorem tv154 : tv Tryz.prog 154 = some ⟨1, false, .nilFunc, 8, .other⟩ := by kernel_rfl
@[go_sem] theorem tv155 : tv Tryz.prog 155 = some ⟨5, true, .agg #[.int .i64 0, .int .i64 0, .int .i64 0, .int .i64 0, .int .i64 0], 40, .array 5 3⟩ := by kernel_rfl
@[go_sem] theorem tv156 : tv Tryz.prog 156 = some ⟨1, false, .nilFunc, 8, .other⟩ := by kernel_rfl
@[go_sem] theorem tv157 : tv Tryz.prog 157 = some ⟨1, false, .nilFunc, 8, .other⟩ := by kernel_rfl
@[go_sem] theorem tv158 : tv Tryz.prog 158 = some ⟨1, false, .nilFunc, 8, .other⟩ := by kernel_rfl
@[go_sem] theorem tv159 : tv Tryz.prog 159 = some ⟨1, false, .nilFunc, 8, .other⟩ := by kernel_rfl
@[go_sem] theorem tv160 : tv Tryz.prog 160 = some ⟨1, false, .nilFunc, 8, .other⟩ := by kernel_rfl
@[go_sem] theorem tv161 : tv Tryz.prog 161 = some ⟨1, false, .nilFunc, 8, .other⟩ := by kernel_rfl
@[go_sem] theorem tv162 : tv Tryz.prog 162 = some ⟨1, false, .nilFunc, 8, .other⟩ := by kernel_rfl
@[go_sem] theorem tv163 : tv Tryz.prog 163 = some ⟨1, false, .nilFunc, 8, .other⟩ := by kernel_rfl
@[go_sem] theorem tv164 : tv Tryz.prog 164 = some ⟨1, false, .int .u64 0, 8, .other⟩ := by kernel_rfl
@[go_sem] theorem tv165 : tv Tryz.prog 165 = some ⟨1, false, .nilFunc, 8, .other⟩ := by kernel_rfl
@[go_sem] theorem tv166 : tv Tryz.prog 166 = some ⟨1, false, .nilFunc, 8, .other⟩ := by kernel_rfl
@[go_sem] theorem tv167 : tv Tryz.prog 167 = some ⟨1, false, .nilFunc, 8, .other⟩ := by kernel_rfl
@[go_sem] theorem tv168 : tv Tryz.prog 168 = some ⟨1, false, .pointer none, 8, .other⟩ := by kernel_rfl
@[go_sem] theorem tv169 : tv Tryz.prog 169 = some ⟨1, false, .nilFunc, 8, .other⟩ := by kernel_rfl
@[go_sem] theorem tv170 : tv Tryz.prog 170 = some ⟨1, false, .slice none 0 0, 24, .slice 36⟩ := by kernel_rfl
@[go_sem] theorem tv171 : tv Tryz.prog 171 = some ⟨1, false, .nilFunc, 8, .other⟩ := by kernel_rfl
@[go_sem] theorem tv172 : tv Tryz.prog 172 = some ⟨1, false, .nilFunc, 8, .other⟩ := by kernel_rfl
@[go_sem] theorem tv173 : tv Tryz.prog 173 = some ⟨1, false, .nilFunc, 8, .other⟩ := by kernel_rfl
@[go_sem] theorem tv174 : tv Tryz.prog 174 = some ⟨1, false, .nilFunc, 8, .other⟩ := by kernel_rfl
@[go_sem] theorem tv175 : tv Tryz.prog 175 = some ⟨1, false, .nilFunc, 8, .other⟩ := by kernel_rfl
@[go_sem] theorem tv176 : tv Tryz.prog 176 = some ⟨1, false, .nilFunc, 8, .other⟩ := by kernel_rfl
@[go_sem] theorem tv177 : tv Tryz.prog 177 = some ⟨1, false, .nilFunc, 8, .other⟩ := by kernel_rfl
@[go_sem] theorem tv178 : tv Tryz.prog 178 = some ⟨1, false, .pointer none, 8, .other⟩ := by kernel_rfl
@[go_sem] theorem tv180 : tv Tryz.prog 180 = some ⟨1, false, .nilFunc, 8, .other⟩ := by kernel_rfl
@[go_sem] theorem tv181 : tv Tryz.prog 181 = some ⟨1, false, .nilFunc, 8, .other⟩ := by kernel_rfl
@[go_sem] theorem tv182 : tv Tryz.prog 182 = some ⟨1, false, .nilFunc, 8, .other⟩ := by kernel_rfl
@[go_sem] theorem tv183 : tv Tryz.prog 183 = some ⟨1, false, .nilFunc, 8, .other⟩ := by kernel_rfl
@[go_sem] theorem tv184 : tv Tryz.prog 184 = some ⟨1, false, .nilFunc, 8, .other⟩ := by kernel_rfl
@[go_sem] theorem tv185 : tv Tryz.prog 185 = some ⟨1, true, .agg #[.nilFunc], 8, .struct [(0, 184)]⟩ := by kernel_rfl
@[go_sem] theorem tv186 : tv Tryz.prog 186 = some ⟨1, true, .agg #[.nilFunc], 8, .struct [(0, 184)]⟩ := by kernel_rfl
@[go_sem] theorem tv187 : tv Tryz.prog 187 = some ⟨1, false, .nilFunc, 8, .other⟩ := by kernel_rfl
@[go_sem] theorem tv188 : tv Tryz.prog 188 = some ⟨1, false, .nilFunc, 8, .other⟩ := by kernel_rfl
@[go_sem] theorem tv190 : tv Tryz.prog 190 = some ⟨1, false, .nilFunc, 8, .other⟩ := by kernel_rfl
@[go_sem] theorem tv191 : tv Tryz.prog 191 = some ⟨1, false, .nilFunc, 8, .other⟩ := by kernel_rfl
@[go_sem] theorem tv192 : tv Tryz.prog 192 = some ⟨1, false, .nilFunc, 8, .other⟩ := by kernel_rfl
@[go_sem] theorem tv194 : tv Tryz.prog 194 = some ⟨1, false, .nilFunc, 8, .other⟩ := by kernel_rfl
@[go_sem] theorem tv195 : tv Tryz.prog 195 = some ⟨1, false, .nilFunc, 8, .other⟩ := by kernel_rfl
@[go_sem] theorem tv196 : tv Tryz.prog 196 = some ⟨1, false, .nilIface, 16, .other⟩ := by kernel_rfl
@[go_sem] theorem tv197 : tv Tryz.prog 197 = some ⟨1, false, .nilIface, 16, .other⟩ := by kernel_rfl
@[go_sem] theorem tv198 : tv Tryz.prog 198 = some ⟨1, false, .nilFunc, 8, .other⟩ := by kernel_rfl
@[go_sem] theorem tv199 : tv Tryz.prog 199 = some ⟨4, true, .agg #[.pointer none, .pointer none, .pointer none, .string ⟨#[]⟩], 40, .struct [(0, 17), (1, 17), (2, 17), (3, 9)]⟩ := by kernel_rfl
@[go_sem] theorem tv200 : tv Tryz.prog 200 = some ⟨4, true, .agg #[.pointer none, .pointer none, .pointer none, .string ⟨#[]⟩], 40, .struct [(0, 17), (1, 17), (2, 17), (3, 9)]⟩ := by kernel_rfl
@[go_sem] theorem tv201 : tv Tryz.prog 201 = some ⟨0, true, .agg #[], 0, .array 0 16⟩ := by kernel_rfl
@[go_sem] theorem tv202 : tv Tryz.prog 202 = some ⟨0, true, .agg #[], 0, .struct [(0, 201)]⟩ := by kernel_rfl
@[go_sem] theorem tv203 : tv Tryz.prog 203 = some ⟨0, true, .agg #[], 0, .struct [(0, 201)]⟩ := by kernel_rfl
@[go_sem] theorem tv204 : tv Tryz.prog 204 = some ⟨1, false, .nilFunc, 8, .other⟩ := by kernel_rfl
@[go_sem] theorem tv205 : tv Tryz.prog 205 = some ⟨1, false, .int .u8 0, 1, .other⟩ := by kernel_rfl
@[go_sem] theorem tv206 : tv Tryz.prog 206 = some ⟨1, false, .int .u8 0, 1, .other⟩ := by kernel_rfl
@[go_sem] theorem tv207 : tv Tryz.prog 207 = some ⟨1, false, .nilFunc, 8, .other⟩ := by kernel_rfl
@[go_sem] theorem tv208 : tv Tryz.prog 208 = some ⟨1, false, .pointer none, 8, .other⟩ := by kernel_rfl
@[go_sem] theorem tv209 : tv Tryz.prog 209 = some ⟨1, false, .int .i32 0, 4, .other⟩ := by kernel_rfl
@[go_sem] theorem tv210 : tv Tryz.prog 210 = some ⟨1, false, .int .i32 0, 4, .other⟩ := by kernel_rfl
@[go_sem] theorem tv211 : tv Tryz.prog 211 = some ⟨11, true, .agg #[.int .u64 0, .int .u64 0, .int .u32 0, .int .u8 0, .int .u8 0, .int .u8 0, .int .u8 0, .nilFunc, .pointer none, .int .i32 0, .int .i32 0], 48, .struct [(0, 12), (1, 12), (2, 141), (3, 205), (4, 5), (5, 5), (6, 206), (7, 207), (8, 208), (9, 209), (10, 210)]⟩ := by kernel_rfl
@[go_sem] theorem tv212 : tv Tryz.prog 212 = some ⟨11, true, .agg #[.int .u64 0, .int .u64 0, .int .u32 0, .int .u8 0, .int .u8 0, .int .u8 0, .int .u8 0, .nilFunc, .pointer none, .int .i32 0, .int .i32 0], 48, .struct [(0, 12), (1, 12), (2, 141), (3, 205), (4, 5), (5, 5), (6, 206), (7, 207), (8, 208), (9, 209), (10, 210)]⟩ := by kernel_rfl
theorem cl3 : Callable Tryz.prog 3 := callable_of Tryz.func3 (by kernel_rfl) (by kernel_rfl)
theorem cl4 : Callable Tryz.prog 4 := callable_of Tryz.func4 (by kernel_rfl) (by kernel_rfl)
theorem cl5 : Callable Tryz.prog 5 := callable_of Tryz.func5 (by kernel_rfl) (by kernel_rfl)
theorem cl6 : Callable Tryz.prog 6 := callable_of Tryz.func6 (by kernel_rfl) (by kernel_rfl)
theorem cl7 : Callable Tryz.prog 7 := callable_of Tryz.func7 (by kernel_rfl) (by kernel_rfl)
theorem cl8 : Callable Tryz.prog 8 := callable_of Tryz.func8 (by kernel_rfl) (by kernel_rfl)
theorem cl9 : Callable Tryz.prog 9 := callable_of Tryz.func9 (by kernel_rfl) (by kernel_rfl)
theorem cl10 : Callable Tryz.prog 10 := callable_of Tryz.func10 (by kernel_rfl) (by kernel_rfl)
theorem cl11 : Callable Tryz.prog 11 := callable_of Tryz.func11 (by kernel_rfl) (by kernel_rfl)
theorem cl12 : Callable Tryz.prog 12 := callable_of Tryz.func12 (by kernel_rfl) (by kernel_rfl)
theorem cl13 : Callable Tryz.prog 13 := callable_of Tryz.func13 (by kernel_rfl) (by kernel_rfl)
theorem cl14 : Callable Tryz.prog 14 := callable_of Tryz.func14 (by kernel_rfl) (by kernel_rfl)
theorem cl15 : Callable Tryz.prog 15 := callable_of Tryz.func15 (by kernel_rfl) (by kernel_rfl)
theorem cl16 : Callable Tryz.prog 16 := callable_of Tryz.func16 (by kernel_rfl) (by kernel_rfl)
theorem cl17 : Callable Tryz.prog 17 := callable_of Tryz.func17 (by kernel_rfl) (by kernel_rfl)
theorem cl18 : Callable Tryz.prog 18 := callable_of Tryz.func18 (by kernel_rfl) (by kernel_rfl)
theorem cl19 : Callable Tryz.prog 19 := callable_of Tryz.func19 (by kernel_rfl) (by kernel_rfl)
theorem cl20 : Callable Tryz.prog 20 := callable_of Tryz.func20 (by kernel_rfl) (by kernel_rfl)
theorem cl21 : Callable Tryz.prog 21 := callable_of Tryz.func21 (by kernel_rfl) (by kernel_rfl)
theorem cl22 : Callable Tryz.prog 22 := callable_of Tryz.func22 (by kernel_rfl) (by kernel_rfl)
theorem cl23 : Callable Tryz.prog 23 := callable_of Tryz.func23 (by kernel_rfl) (by kernel_rfl)
theorem cl24 : Callable Tryz.prog 24 := callable_of Tryz.func24 (by kernel_rfl) (by kernel_rfl)
theorem cl25 : Callable Tryz.prog 25 := callable_of Tryz.func25 (by kernel_rfl) (by kernel_rfl)
theorem cl26 : Callable Tryz.prog 26 := callable_of Tryz.func26 (by kernel_rfl) (by kernel_rfl)
theorem cl27 : Callable Tryz.prog 27 := callable_of Tryz.func27 (by kernel_rfl) (by kernel_rfl)
theorem cl28 : Callable Tryz.prog 28 := callable_of Tryz.func28 (by kernel_rfl) (by kernel_rfl)
theorem cl29 : Callable Tryz.prog 29 := callable_of Tryz.func29 (by kernel_rfl) (by kernel_rfl)
theorem cl30 : Callable Tryz.prog 30 := callable_of Tryz.func30 (by kernel_rfl) (by kernel_rfl)
theorem cl31 : Callable Tryz.prog 31 := callable_of Tryz.func31 (by kernel_rfl) (by kernel_rfl)
theorem cl32 : Callable Tryz.prog 32 := callable_of Tryz.func32 (by kernel_rfl) (by kernel_rfl)
theorem cl33 : Callable Tryz.prog 33 := callable_of Tryz.func33 (by kernel_rfl) (by kernel_rfl)
theorem cl34 : Callable Tryz.prog 34 := callable_of Tryz.func34 (by kernel_rfl) (by kernel_rfl)
theorem cl35 : Callable Tryz.prog 35 := callable_of Tryz.func35 (by kernel_rfl) (by kernel_rfl)
theorem cl36 : Callable Tryz.prog 36 := callable_of Tryz.func36 (by kernel_rfl) (by kernel_rfl)
theorem cl37 : Callable Tryz.prog 37 := callable_of Tryz.func37 (by kernel_rfl) (by kernel_rfl)
theorem cl38 : Callable Tryz.prog 38 := callable_of Tryz.func38 (by kernel_rfl) (by kernel_rfl)
theorem cl39 : Callable Tryz.prog 39 := callable_of Tryz.func39 (by kernel_rfl) (by kernel_rfl)
theorem cl40 : Callable Tryz.prog 40 := callable_of Tryz.func40 (by kernel_rfl) (by kernel_rfl)
theorem cl41 : Callable Tryz.prog 41 := callable_of Tryz.func41 (by kernel_rfl) (by kernel_rfl)
theorem cl42 : Callable Tryz.prog 42 := callable_of Tryz.func42 (by kernel_rfl) (by kernel_rfl)
theorem cl43 : Callable Tryz.prog 43 := callable_of Tryz.func43 (by kernel_rfl) (by kernel_rfl)
theorem cl44 : Callable Tryz.prog 44 := callable_of Tryz.func44 (by kernel_rfl) (by kernel_rfl)
theorem cl45 : Callable Tryz.prog 45 := callable_of Tryz.func45 (by kernel_rfl) (by kernel_rfl)
theorem cl46 : Callable Tryz.prog 46 := callable_of Tryz.func46 (by kernel_rfl) (by kernel_rfl)
theorem cl47 : Callable Tryz.prog 47 := callable_of Tryz.func47 (by kernel_rfl) (by kernel_rfl)
theorem cl48 : Callable Tryz.prog 48 := callable_of Tryz.func48 (by kernel_rfl) (by kernel_rfl)
theorem cl49 : Callable Tryz.prog 49 := callable_of Tryz.func49 (by kernel_rfl) (by kernel_rfl)
theorem cl50 : Callable Tryz.prog 50 := callable_of Tryz.func50 (by kernel_rfl) (by kernel_rfl)
theorem cl51 : Callable Tryz.prog 51 := callable_of Tryz.func51 (by kernel_rfl) (by kernel_rfl)
theorem cl52 : Callable Tryz.prog 52 := callable_of Tryz.func52 (by kernel_rfl) (by kernel_rfl)
theorem cl53 : Callable Tryz.prog 53 := callable_of Tryz.func53 (by kernel_rfl) (by kernel_rfl)
theorem cl54 : Callable Tryz.prog 54 := callable_of Tryz.func54 (by kernel_rfl) (by kernel_rfl)
theorem cl55 : Callable Tryz.prog 55 := callable_of Tryz.func55 (by kernel_rfl) (by kernel_rfl)
theorem cl56 : Callable Tryz.prog 56 := callable_of Tryz.func56 (by kernel_rfl) (by kernel_rfl)
theorem cl57 : Callable Tryz.prog 57 := callable_of Tryz.func57 (by kernel_rfl) (by kernel_rfl)
theorem cl58 : Callable Tryz.prog 58 := callable_of Tryz.func58 (by kernel_rfl) (by kernel_rfl)
theorem cl59 : Callable Tryz.prog 59 := callable_of Tryz.func59 (by kernel_rfl) (by kernel_rfl)
theorem cl60 : Callable Tryz.prog 60 := callable_of Tryz.func60 (by kernel_rfl) (by kernel_rfl)
theorem cl61 : Callable Tryz.prog 61 := callable_of Tryz.func61 (by kernel_rfl) (by kernel_rfl)
theorem cl62 : Callable Tryz.prog 62 := callable_of Tryz.func62 (by kernel_rfl) (by kernel_rfl)
theorem cl63 : Callable Tryz.prog 63 := callable_of Tryz.func63 (by kernel_rfl) (by kernel_rfl)
theorem cl64 : Callable Tryz.prog 64 := callable_of Tryz.func64 (by kernel_rfl) (by kernel_rfl)
theorem cl65 : Callable Tryz.prog 65 := callable_of Tryz.func65 (by kernel_rfl) (by kernel_rfl)
theorem cl66 : Callable Tryz.prog 66 := callable_of Tryz.func66 (by kernel_rfl) (by kernel_rfl)
theorem cl67 : Callable Tryz.prog 67 := callable_of Tryz.func67 (by kernel_rfl) (by kernel_rfl)
theorem cl68 : Callable Tryz.prog 68 := callable_of Tryz.func68 (by kernel_rfl) (by kernel_rfl)
theorem cl69 : Callable Tryz.prog 69 := callable_of Tryz.func69 (by kernel_rfl) (by kernel_rfl)
theorem cl70 : Callable Tryz.prog 70 := callable_of Tryz.func70 (by kernel_rfl) (by kernel_rfl)
theorem cl71 : Callable Tryz.prog 71 := callable_of Tryz.func71 (by kernel_rfl) (by kernel_rfl)
theorem cl72 : Callable Tryz.prog 72 := callable_of Tryz.func72 (by kernel_rfl) (by kernel_rfl)
theorem cl73 : Callable Tryz.prog 73 := callable_of Tryz.func73 (by kernel_rfl) (by kernel_rfl)
theorem cl74 : Callable Tryz.prog 74 := callable_of Tryz.func74 (by kernel_rfl) (by kernel_rfl)
theorem cl75 : Callable Tryz.prog 75 := callable_of Tryz.func75 (by kernel_rfl) (by kernel_rfl)
theorem cl76 : Callable Tryz.prog 76 := callable_of Tryz.func76 (by kernel_rfl) (by kernel_rfl)
theorem cl77 : Callable Tryz.prog 77 := callable_of Tryz.func77 (by kernel_rfl) (by kernel_rfl)
theorem cl78 : Callable Tryz.prog 78 := callable_of Tryz.func78 (by kernel_rfl) (by kernel_rfl)
theorem cl79 : Callable Tryz.prog 79 := callable_of Tryz.func79 (by kernel_rfl) (by kernel_rfl)
theorem cl80 : Callable Tryz.prog 80 := callable_of Tryz.func80 (by kernel_rfl) (by kernel_rfl)
theorem cl81 : Callable Tryz.prog 81 := callable_of Tryz.func81 (by kernel_rfl) (by kernel_rfl)
theorem cl82 : Callable Tryz.prog 82 := callable_of Tryz.func82 (by kernel_rfl) (by kernel_rfl)
theorem cl83 : Callable Tryz.prog 83 := callable_of Tryz.func83 (by kernel_rfl) (by kernel_rfl)
theorem cl84 : Callable Tryz.prog 84 := callable_of Tryz.func84 (by kernel_rfl) (by kernel_rfl)
theorem cl85 : Callable Tryz.prog 85 := callable_of Tryz.func85 (by kernel_rfl) (by kernel_rfl)
theorem cl86 : Callable Tryz.prog 86 := callable_of Tryz.func86 (by kernel_rfl) (by kernel_rfl)
theorem cl87 : Callable Tryz.prog 87 := callable_of Tryz.func87 (by kernel_rfl) (by kernel_rfl)
theorem cl88 : Callable Tryz.prog 88 := callable_of Tryz.func88 (by kernel_rfl) (by kernel_rfl)
theorem cl89 : Callable Tryz.prog 89 := callable_of Tryz.func89 (by kernel_rfl) (by kernel_rfl)
theorem cl90 : Callable Tryz.prog 90 := callable_of Tryz.func90 (by kernel_rfl) (by kernel_rfl)
theorem cl91 : Callable Tryz.prog 91 := callable_of Tryz.func91 (by kernel_rfl) (by kernel_rfl)
theorem cl92 : Callable Tryz.prog 92 := callable_of Tryz.func92 (by kernel_rfl) (by kernel_rfl)
theorem cl93 : Callable Tryz.prog 93 := callable_of Tryz.func93 (by kernel_rfl) (by kernel_rfl)
theorem cl94 : Callable Tryz.prog 94 := callable_of Tryz.func94 (by kernel_rfl) (by kernel_rfl)
theorem cl95 : Callable Tryz.prog 95 := callable_of Tryz.func95 (by kernel_rfl) (by kernel_rfl)
theorem cl96 : Callable Tryz.prog 96 := callable_of Tryz.func96 (by kernel_rfl) (by kernel_rfl)
theorem cl97 : Callable Tryz.prog 97 := callable_of Tryz.func97 (by kernel_rfl) (by kernel_rfl)
theorem cl98 : Callable Tryz.prog 98 := callable_of Tryz.func98 (by kernel_rfl) (by kernel_rfl)
theorem cl99 : Callable Tryz.prog 99 := callable_of Tryz.func99 (by kernel_rfl) (by kernel_rfl)
theorem cl100 : Callable Tryz.prog 100 := callable_of Tryz.func100 (by kernel_rfl) (by kernel_rfl)
theorem cl101 : Callable Tryz.prog 101 := callable_of Tryz.func101 (by kernel_rfl) (by kernel_rfl)
theorem cl102 : Callable Tryz.prog 102 := callable_of Tryz.func102 (by kernel_rfl) (by kernel_rfl)
theorem cl103 : Callable Tryz.prog 103 := callable_of Tryz.func103 (by kernel_rfl) (by kernel_rfl)
theorem cl104 : Callable Tryz.prog 104 := callable_of Tryz.func104 (by kernel_rfl) (by kernel_rfl)
theorem cl105 : Callable Tryz.prog 105 := callable_of Tryz.func105 (by kernel_rfl) (by kernel_rfl)
theorem cl106 : Callable Tryz.prog 106 := callable_of Tryz.func106 (by kernel_rfl) (by kernel_rfl)
theorem cl107 : Callable Tryz.prog 107 := callable_of Tryz.func107 (by kernel_rfl) (by kernel_rfl)
theorem cl108 : Callable Tryz.prog 108 := callable_of Tryz.func108 (by kernel_rfl) (by kernel_rfl)
theorem cl109 : Callable Tryz.prog 109 := callable_of Tryz.func109 (by kernel_rfl) (by kernel_rfl)
theorem cl110 : Callable Tryz.prog 110 := callable_of Tryz.func110 (by kernel_rfl) (by kernel_rfl)
theorem cl111 : Callable Tryz.prog 111 := callable_of Tryz.func111 (by kernel_rfl) (by kernel_rfl)
theorem cl112 : Callable Tryz.prog 112 := callable_of Tryz.func112 (by kernel_rfl) (by kernel_rfl)
theorem cl113 : Callable Tryz.prog 113 := callable_of Tryz.func113 (by kernel_rfl) (by kernel_rfl)
theorem cl114 : Callable Tryz.prog 114 := callable_of Tryz.func114 (by kernel_rfl) (by kernel_rfl)
theorem cl115 : Callable Tryz.prog 115 := callable_of Tryz.func115 (by kernel_rfl) (by kernel_rfl)
theorem cl116 : Callable Tryz.prog 116 := callable_of Tryz.func116 (by kernel_rfl) (by kernel_rfl)
theorem cl117 : Callable Tryz.prog 117 := callable_of Tryz.func117 (by kernel_rfl) (by kernel_rfl)
theorem cl118 : Callable Tryz.prog 118 := callable_of Tryz.func118 (by kernel_rfl) (by kernel_rfl)
theorem cl119 : Callable Tryz.prog 119 := callable_of Tryz.func119 (by kernel_rfl) (by kernel_rfl)
theorem cl120 : Callable Tryz.prog 120 := callable_of Tryz.func120 (by kernel_rfl) (by kernel_rfl)
theorem cl121 : Callable Tryz.prog 121 := callable_of Tryz.func121 (by kernel_rfl) (by kernel_rfl)
theorem cl122 : Callable Tryz.prog 122 := callable_of Tryz.func122 (by kernel_rfl) (by kernel_rfl)
theorem cl123 : Callable Tryz.prog 123 := callable_of Tryz.func123 (by kernel_rfl) (by kernel_rfl)
theorem cl124 : Callable Tryz.prog 124 := callable_of Tryz.func124 (by kernel_rfl) (by kernel_rfl)
theorem cl125 : Callable Tryz.prog 125 := callable_of Tryz.func125 (by kernel_rfl) (by kernel_rfl)
theorem cl126 : Callable Tryz.prog 126 := callable_of Tryz.func126 (by kernel_rfl) (by kernel_rfl)
theorem cl127 : Callable Tryz.prog 127 := callable_of Tryz.func127 (by kernel_rfl) (by kernel_rfl)
theorem cl128 : Callable Tryz.prog 128 := callable_of Tryz.func128 (by kernel_rfl) (by kernel_rfl)
theorem cl129 : Callable Tryz.prog 129 := callable_of Tryz.func129 (by kernel_rfl) (by kernel_rfl)
theorem cl130 : Callable Tryz.prog 130 := callable_of Tryz.func130 (by kernel_rfl) (by kernel_rfl)
theorem cl131 : Callable Tryz.prog 131 := callable_of Tryz.func131 (by kernel_rfl) (by kernel_rfl)
theorem cl132 : Callable Tryz.prog 132 := callable_of Tryz.func132 (by kernel_rfl) (by kernel_rfl)
theorem cl133 : Callable Tryz.prog 133 := callable_of Tryz.func133 (by kernel_rfl) (by kernel_rfl)
theorem cl134 : Callable Tryz.prog 134 := callable_of Tryz.func134 (by kernel_rfl) (by kernel_rfl)
theorem cl135 : Callable Tryz.prog 135 := callable_of Tryz.func135 (by kernel_rfl) (by kernel_rfl)
theorem cl136 : Callable Tryz.prog 136 := callable_of Tryz.func136 (by kernel_rfl) (by kernel_rfl)
theorem cl137 : Callable Tryz.prog 137 := callable_of Tryz.func137 (by kernel_rfl) (by kernel_rfl)
theorem cl138 : Callable Tryz.prog 138 := callable_of Tryz.func138 (by kernel_rfl) (by kernel_rfl)
theorem cl139 : Callable Tryz.prog 139 := callable_of Tryz.func139 (by kernel_rfl) (by kernel_rfl)
theorem cl140 : Callable Tryz.prog 140 := callable_of Tryz.func140 (by kernel_rfl) (by kernel_rfl)
theorem cl141 : Callable Tryz.prog 141 := callable_of Tryz.func141 (by kernel_rfl) (by kernel_rfl)
theorem cl142 : Callable Tryz.prog 142 := callable_of Tryz.func142 (by kernel_rfl) (by kernel_rfl)
theorem cl143 : Callable Tryz.prog 143 := callable_of Tryz.func143 (by kernel_rfl) (by kernel_rfl)
theorem cl144 : Callable Tryz.prog 144 := callable_of Tryz.func144 (by kernel_rfl) (by kernel_rfl)
theorem cl145 : Callable Tryz.prog 145 := callable_of Tryz.func145 (by kernel_rfl) (by kernel_rfl)
theorem cl146 : Callable Tryz.prog 146 := callable_of Tryz.func146 (by kernel_rfl) (by kernel_rfl)
theorem cl147 : Callable Tryz.prog 147 := callable_of Tryz.func147 (by kernel_rfl) (by kernel_rfl)
theorem cl148 : Callable Tryz.prog 148 := callable_of Tryz.func148 (by kernel_rfl) (by kernel_rfl)
theorem cl149 : Callable Tryz.prog 149 := callable_of Tryz.func149 (by kernel_rfl) (by kernel_rfl)
theorem cl150 : Callable Tryz.prog 150 := callable_of Tryz.func150 (by kernel_rfl) (by kernel_rfl)
theorem cl151 : Callable Tryz.prog 151 := callable_of Tryz.func151 (by kernel_rfl) (by kernel_rfl)
theorem cl152 : Callable Tryz.prog 152 := callable_of Tryz.func152 (by kernel_rfl) (by kernel_rfl)
theorem cl153 : Callable Tryz.prog 153 := callable_of Tryz.func153 (by kernel_rfl) (by kernel_rfl)
theorem cl154 : Callable Tryz.prog 154 := callable_of Tryz.func154 (by kernel_rfl) (by kernel_rfl)
theorem cl155 : Callable Tryz.prog 155 := callable_of Tryz.func155 (by kernel_rfl) (by kernel_rfl)
theorem cl156 : Callable Tryz.prog 156 := callable_of Tryz.func156 (by kernel_rfl) (by kernel_rfl)
theorem cl157 : Callable Tryz.prog 157 := callable_of Tryz.func157 (by kernel_rfl) (by kernel_rfl)
theorem cl158 : Callable Tryz.prog 158 := callable_of Tryz.func158 (by kernel_rfl) (by kernel_rfl)
theorem cl159 : Callable Tryz.prog 159 := callable_of Tryz.func159 (by kernel_rfl) (by kernel_rfl)
theorem cl160 : Callable Tryz.prog 160 := callable_of Tryz.func160 (by kernel_rfl) (by kernel_rfl)
theorem cl161 : Callable Tryz.prog 161 := callable_of Tryz.func161 (by kernel_rfl) (by kernel_rfl)
theorem cl162 : Callable Tryz.prog 162 := callable_of Tryz.func162 (by kernel_rfl) (by kernel_rfl)
theorem cl163 : Callable Tryz.prog 163 := callable_of Tryz.func163 (by kernel_rfl) (by kernel_rfl)
theorem cl164 : Callable Tryz.prog 164 := callable_of Tryz.func164 (by kernel_rfl) (by kernel_rfl)
theorem cl165 : Callable Tryz.prog 165 := callable_of Tryz.func165 (by kernel_rfl) (by kernel_rfl)
theorem cl166 : Callable Tryz.prog 166 := callable_of Tryz.func166 (by kernel_rfl) (by kernel_rfl)
theorem cl167 : Callable Tryz.prog 167 := callable_of Tryz.func167 (by kernel_rfl) (by kernel_rfl)
theorem cl168 : Callable Tryz.prog 168 := callable_of Tryz.func168 (by kernel_rfl) (by kernel_rfl)
theorem cl169 : Callable Tryz.prog 169 := callable_of Tryz.func169 (by kernel_rfl) (by kernel_rfl)
theorem cl170 : Callable Tryz.prog 170 := callable_of Tryz.func170 (by kernel_rfl) (by kernel_rfl)
theorem cl171 : Callable Tryz.prog 171 := callable_of Tryz.func171 (by kernel_rfl) (by kernel_rfl)
theorem cl172 : Callable Tryz.prog 172 := callable_of Tryz.func172 (by kernel_rfl) (by kernel_rfl)
theorem cl173 : Callable Tryz.prog 173 := callable_of Tryz.func173 (by kernel_rfl) (by kernel_rfl)
theorem cl174 : Callable Tryz.prog 174 := callable_of Tryz.func174 (by kernel_rfl) (by kernel_rfl)
theorem cl175 : Callable Tryz.prog 175 := callable_of Tryz.func175 (by kernel_rfl) (by kernel_rfl)
theorem cl176 : Callable Tryz.prog 176 := callable_of Tryz.func176 (by kernel_rfl) (by kernel_rfl)
theorem cl177 : Callable Tryz.prog 177 := callable_of Tryz.func177 (by kernel_rfl) (by kernel_rfl)
theorem mixed : Tryz.prog.follows .mixedOrders = true := by kernel_rfl
end Go.Proofs.YtkonljmmdifnaaaGreat.V
set_option linter.unusedSimpArgs false
set_option linter.unusedVariables false
namespace Go.Proofs.YtkonljmmdifnaaaGreat.V
open Go.RowKit

/-- What the kernel finds by itself. -/
def ByK (p : Prop) : Prop := p
theorem byK {p : Prop} (h : p) : ByK p := h

abbrev OpR := Option (OpS × Prop)

def ldR (ti : Option TI) (x : AV) (box : Boxes) (c : Prop) : OpR :=
  match ti, x with
  | some i, .ptr b off => match bget box b with
    | some bx => match ldAV i.agg i.size off bx.cs with
      | some x => some (⟨[(b, bx)], x, []⟩, c ∧ bx.cs ≠ [])
      | none => none
    | none => none
  | some i, .pp l => match ldAV i.agg i.size 0 l with
    | some x => some (⟨[], x, []⟩, c)
    | none => none
  | _, _ => none

def stR (ti : Option TI) (x u : AV) (box : Boxes) (c : Prop) : OpR :=
  match ti, x with
  | some i, .ptr b off => match bget box b with
    | some bx => some (⟨[(b, bx)], .v undef, [(b, some ⟨bx.t, splice bx.cs off u.cells⟩)]⟩, c ∧ u.flat = true ∧ u.cells.length = i.size ∧ off + i.size ≤ bx.cs.length ∧ 0 < i.size)
    | none => none
  | _, _ => none

def fldR (P : Program) (k : Option TK) (x : AV) (f : Nat) (c : Prop) : OpR :=
  match k with
  | some (.struct fs) => match fs[f]? with
    | some (fo, ft) => match tv P ft with
      | some j => match x with
        | .ptr b off => some (⟨[], .ptr b (off + fo), []⟩, c ∧ j.size ≠ 0)
        | .pp l => some (⟨[], .pp (l.drop fo), []⟩, c ∧ j.size ≠ 0)
        | _ => none
      | none => none
    | none => none
  | _ => none

def idxR (P : Program) (hyp : Prop) (k : Option TK) (x z : AV) (c : Prop) : OpR :=
  match k, z with
  | some (.slice e), .v (.int _ i) => match tv P e with
    | some j => match x with
      | .sl _ k l => some (⟨[], .pp ((l[i.toNat]?).getD []), []⟩, c ∧ k = j.size ∧ (hyp → 0 ≤ i ∧ i < l.length))
      | .osl b k off n => some (⟨[], .ptr b (off + i.toNat * k), []⟩, c ∧ k = j.size ∧ (hyp → 0 ≤ i ∧ i < n))
      | _ => none
    | none => none
  | some (.array n e), .v (.int _ i) => match tv P e with
    | some j => match x with
      | .ptr b off => some (⟨[], .ptr b (off + i.toNat * j.size), []⟩, c ∧ (hyp → 0 ≤ i ∧ i < n))
      | .pp l => some (⟨[], .pp (l.drop (i.toNat * j.size)), []⟩, c ∧ (hyp → 0 ≤ i ∧ i < n))
      | _ => none
    | none => none
  | _, _ => none

def isSlK (ti : Option TI) : Bool := match ti with
  | some i => match i.k with
    | .slice _ => true
    | _ => false
  | none => false
theorem isSlK_ok {P : Program} {t : TypeId} (h : isSlK (tv P t) = true) : ∃ e, P.underlying t = some (.slice e) := by
  unfold isSlK at h
  split at h
  · rename_i i hi
    split at h
    · rename_i e he
      exact ⟨e, tv_slice hi he⟩
    · cases h
  · cases h

def binR (P : Program) (op : BinOp) (t : TypeId) (cy : Bool) (x y : AV) (c : Prop) : OpR :=
  match x, y with
  | .v (.int k a), .v (.int k' b) => match intBin op k a b with | some z => some (⟨[], z, []⟩, c ∧ k = k') | none => none
  | .v (.bool a), .v (.bool b) => match op with
    | .eql => some (⟨[], .v (.bool (a == b)), []⟩, c ∧ ByK (P.underlying t = some .bool))
    | .neq => some (⟨[], .v (.bool (a != b)), []⟩, c ∧ ByK (P.underlying t = some .bool))
    | _ => none
  | .sl _ _ l, .v (.slice none 0 0) => some (⟨[], .bit (l = []), []⟩, c ∧ op = .eql ∧ isSlK (tv P t) = true)
  | .v (.slice A _ _), .v (.slice none 0 0) => some (⟨[], .v (.bool A.isNone), []⟩, c ∧ op = .eql ∧ isSlK (tv P t) = true)
  | .iface _ _, .v .nilIface => some (⟨[], .v (.bool false), []⟩, c ∧ op = .eql ∧ ByK (P.underlying t = some (.interface (P.methodsAt t))))
  | .v .nilIface, .v .nilIface => some (⟨[], .v (.bool true), []⟩, c ∧ op = .eql ∧ cy = true ∧ ByK (P.underlying t = some (.interface (P.methodsAt t))))
  | .agg xs, .agg ys => match xs.mapM AV.int?, ys.mapM AV.int? with
    | some us, some vs => match op with
      | .eql => some (⟨[], .v (.bool (decide (us = vs))), []⟩, c ∧ EqInts P t us.length ∧ us.length = vs.length)
      | .neq => some (⟨[], .v (.bool (!decide (us = vs))), []⟩, c ∧ EqInts P t us.length ∧ us.length = vs.length)
      | _ => none
    | _, _ => match xs.mapM AV.sc?, ys.mapM AV.sc? with
      | some us, some vs => match op with
        | .eql => some (⟨[], .v (.bool (decide (us = vs))), []⟩, c ∧ EqScs P t us vs)
        | .neq => some (⟨[], .v (.bool (!decide (us = vs))), []⟩, c ∧ EqScs P t us vs)
        | _ => none
      | _, _ => none
  | _, _ => none

def unR (op : UnOp) (x : AV) (c : Prop) : OpR :=
  match op, x with
  | .not, .v (.bool b) => some (⟨[], .v (.bool !b), []⟩, c)
  | .neg, .v (.int k n) => some (⟨[], .v (.int k (k.wrap (0 - n))), []⟩, c)
  | _, _ => none

def boxR (nm : Nat) (t : TypeId) (x : AV) (c : Prop) : OpR := some (⟨[], .ptr nm 0, [(nm, some ⟨t, x.cells⟩)]⟩, c ∧ x.flat = true)

def allocR (ti : Option TI) (nm : Nat) (t : TypeId) : OpR :=
  match ti with
  | some i => some (⟨[], .ptr nm 0, [(nm, some ⟨t, i.zero.cells.toList.map .v⟩)]⟩, i.zero.cells.all (·.oneCell') = true)
  | none => none

def buildR (P : Program) (ti : Option TI) (parts : List (Nat × AV)) (c : Prop) : OpR :=
  match ti with
  | some i => match i.k with
    | .struct fs => match afill (fun j => (placesOf P fs)[j]?) (i.zero.cells.toList.map .v) parts with
      | some l => some (⟨[], .agg l, []⟩, c ∧ i.zero.cells.all (·.oneCell') = true ∧ knownAll P fs = true)
      | none => none
    | .array _ e => match tv P e with
      | some j => match afill (fun m => some (m * j.size, j.size)) (i.zero.cells.toList.map .v) parts with
        | some l => some (⟨[], .agg l, []⟩, c ∧ i.zero.cells.all (·.oneCell') = true)
        | none => none
      | none => none
    | _ => none
  | none => none

def bslR (P : Program) (k : Option TK) (nm len : Nat) (parts : List (Nat × AV)) (c : Prop) : OpR :=
  match k with
  | some (.slice e) => match tv P e with
    | some j => match afill (fun m => some (m * j.size, j.size)) (zerosOf j.zero j.size len) parts with
      | some l => some (⟨[], .osl nm j.size 0 len, [(nm, some ⟨e, l⟩)]⟩, c ∧ j.zero.cells.size = j.size ∧ 0 < j.size ∧ j.zero.cells.all (·.oneCell') = true ∧ len * j.size ≤ 16777216)
      | none => none
    | none => none
  | _ => none

def slcR (P : Program) (k : Option TK) (x : AV) (lo hi mx : Option AV) (c : Prop) : OpR :=
  match k, x with
  | some (.slice e), .sl full k l => match tv P e, lo, hi, mx with
    | some j, none, none, none => some (⟨[], .sl full k l, []⟩, c ∧ k = j.size)
    | some j, some (.v (.int .i64 a)), none, none => some (⟨[], .sl full k (l.drop a.toNat), []⟩, c ∧ k = j.size ∧ 0 ≤ a ∧ a ≤ l.length)
    | some j, none, some (.v (.int .i64 b)), none => some (⟨[], .sl (full && decide (b.toNat = l.length)) k (l.take b.toNat), []⟩, c ∧ k = j.size ∧ 0 ≤ b ∧ b ≤ l.length)
    | some j, some (.v (.int .i64 a)), some (.v (.int .i64 b)), none => some (⟨[], .sl (full && decide (b.toNat = l.length)) k ((l.take b.toNat).drop a.toNat), []⟩, c ∧ k = j.size ∧ 0 ≤ a ∧ a ≤ b ∧ b ≤ l.length)
    | some j, none, some (.v (.int .i64 b)), some (.v (.int .i64 m)) => some (⟨[], .sl true k (l.take b.toNat), []⟩, c ∧ k = j.size ∧ 0 ≤ b ∧ b ≤ l.length ∧ m = b)
    | some j, some (.v (.int .i64 a)), some (.v (.int .i64 b)), some (.v (.int .i64 m)) => some (⟨[], .sl true k ((l.take b.toNat).drop a.toNat), []⟩, c ∧ k = j.size ∧ 0 ≤ a ∧ a ≤ b ∧ b ≤ l.length ∧ m = b)
    | _, _, _, _ => none
  | some (.slice e), .osl bx k off n => match tv P e, lo, hi, mx with
    | some j, none, none, none => some (⟨[], .osl bx k off n, []⟩, c ∧ k = j.size)
    | some j, some (.v (.int .i64 a)), none, none => some (⟨[], .osl bx k (off + a.toNat * k) (n - a.toNat), []⟩, c ∧ k = j.size ∧ 0 ≤ a ∧ a ≤ n)
    | some j, none, some (.v (.int .i64 b)), none => some (⟨[], .osl bx k off b.toNat, []⟩, c ∧ k = j.size ∧ 0 ≤ b ∧ b ≤ n)
    | some j, some (.v (.int .i64 a)), some (.v (.int .i64 b)), none => some (⟨[], .osl bx k (off + a.toNat * k) (b.toNat - a.toNat), []⟩, c ∧ k = j.size ∧ 0 ≤ a ∧ a ≤ b ∧ b ≤ n)
    | _, _, _, _ => none
  | some (.array n e), .pp l => match tv P e, lo, hi, mx with
    | some j, none, none, none => some (⟨[], .sl false 1 ((l.take n).map fun x => [x]), []⟩, c ∧ j.size = 1 ∧ n ≤ l.length ∧ n ≤ 1000000)
    | _, _, _, _ => none
  | _, _ => none

def cvR (P : Program) (s d : TypeId) (ti : Option TI) (x : AV) (c : Prop) : OpR :=
  match ti, x with
  | some i, .v (.int _ n) => match i.zero with
    | .int k _ => some (⟨[], .v (.int k (k.wrap n)), []⟩, c ∧ ByK (P.underlying d = some (.int k)) ∧ ByK ((P.underlying s).isSome = true))
    | _ => none
  | _, _ => none

def mkR (P : Program) (tk : Option TK) (nm : Nat) (x y : AV) (c : Prop) : OpR :=
  match tk, x, y with
  | some (.slice e), .v (.int .i64 n), .v (.int .i64 m) => match tv P e with
    | some j => some (⟨[], .osl nm j.size 0 n.toNat, [(nm, some ⟨e, zerosOf j.zero j.size n.toNat⟩)]⟩, c ∧ j.zero.cells.size = j.size ∧ 0 < j.size ∧ j.zero.cells.all (·.oneCell') = true ∧ 0 ≤ n ∧ n ≤ m ∧ m.toNat * j.bytes ≤ 140737488355328 ∧ m.toNat ≤ maxLen)
    | none => none
  | _, _, _ => none

def lenR (k : Option TK) (x : AV) (c : Prop) : OpR :=
  match k with
  | some (.slice _) => match x with
    | .sl _ _ l => some (⟨[], int l.length, []⟩, c)
    | .osl _ _ _ n => some (⟨[], int n, []⟩, c)
    | .v (.slice _ n _) => some (⟨[], int n, []⟩, c)
    | _ => none
  | _ => none

def appR (P : Program) (k : Option TK) (nm : Nat) (box : Boxes) (s x : AV) (c : Prop) : OpR :=
  match k with
  | some (.slice e) => match tv P e with
    | some j => match srcOf box j.size x with
      | some (fpx, m, news) => match s with
        | .osl b0 k 0 n => match bget box b0 with
          | some bx => some (⟨(b0, bx) :: fpx, .osl nm k 0 (n + m), [(b0, none), (nm, some ⟨e, bx.cs ++ news⟩)]⟩, c ∧ j.zero.cells.size = j.size ∧ 0 < j.size ∧ (fpx.all (fun p => decide (p.1 ≠ nm)) = true) ∧ (k = j.size ∧ bx.cs.length = n * k ∧ bx.t = e ∧ nm ≠ b0) ∧ (n + m ≤ maxLen ∧ (n + m) * j.bytes ≤ 140737488355328))
          | none => none
        | .sl full k l => some (⟨fpx, .osl nm k 0 (l.length + m), [(nm, some ⟨e, l.flatten ++ news⟩)]⟩, c ∧ j.zero.cells.size = j.size ∧ 0 < j.size ∧ (fpx.all (fun p => decide (p.1 ≠ nm)) = true) ∧ (full = true ∧ k = j.size) ∧ (0 < m ∨ l = []) ∧ (l.length + m ≤ maxLen ∧ (l.length + m) * j.bytes ≤ 140737488355328))
        | .v (.slice none 0 0) => some (⟨fpx, .osl nm j.size 0 m, [(nm, some ⟨e, news⟩)]⟩, c ∧ j.zero.cells.size = j.size ∧ 0 < j.size ∧ (fpx.all (fun p => decide (p.1 ≠ nm)) = true) ∧ m ≤ maxLen ∧ m * j.bytes ≤ 140737488355328)
        | _ => none
      | none => none
    | none => none
  | _ => none

def lkR (P : Program) (ti : Option TypeDesc) (x k : AV) (comma : Bool) (c : Prop) : OpR :=
  match x, k, ti with
  | .mp es _, .v (.int .i64 n), some (.map kt et) => match Instr.findNow (.int .i64) (.int .i64 n) es.toList 0 with
    | some (some (_, v)) => some (⟨[], .tup [ofV v, .v (.bool true)], []⟩, c ∧ comma = true ∧ ByK (P.underlying kt = some (.int .i64)))
    | some none => match tv P et with
      | some i => some (⟨[], .tup [.v i.zero, .v (.bool false)], []⟩, c ∧ comma = true ∧ ByK (P.underlying kt = some (.int .i64)))
      | none => none
    | none => none
  | _, _, _ => none

def taR (ti : Option TI) (t : TypeId) (x : AV) (comma : Bool) (c : Prop) : OpR :=
  match ti with
  | some i => match i.k with
    | .struct _ => match x with
      | .iface s y => match Nat.beq s t with
        | true => some (⟨[], .tup [y, .v (.bool true)], []⟩, c ∧ comma = true)
        | false => some (⟨[], .tup [.v i.zero, .v (.bool false)], []⟩, c ∧ comma = true)
      | .v .nilIface => some (⟨[], .tup [.v i.zero, .v (.bool false)], []⟩, c ∧ comma = true)
      | _ => none
    | _ => none
  | none => none

def ixR (P : Program) (hyp : Prop) (k : Option TK) (x z : AV) (c : Prop) : OpR :=
  match k, x, z with
  | some (.array n e), .agg l, .v (.int _ i) => match tv P e with
    | some j => match ldAV j.agg j.size (i.toNat * j.size) l with
      | some y => some (⟨[], y, []⟩, c ∧ (hyp → 0 ≤ i ∧ i < n))
      | none => none
    | none => none
  | _, _, _ => none

def mmR (mx : Bool) (x y : AV) (c : Prop) : OpR :=
  match x, y with
  | .v (.int k a), .v (.int k' b) => some (⟨[], .v (.int k (cond mx (max a b) (min a b))), []⟩, c ∧ k = k')
  | _, _ => none

def extR (x : AV) (i : Nat) (c : Prop) : OpR := match x with | .tup l => (match l[i]? with | some y => some (⟨[], y, []⟩, c) | none => none) | _ => none

def fieldR (P : Program) (k : Option TK) (x : AV) (f : Nat) (c : Prop) : OpR :=
  match k, x with
  | some (.struct fs), .agg l => match fs[f]? with
    | some (fo, ft) => match tv P ft with
      | some j => match ldAV j.agg j.size fo l with
        | some y => some (⟨[], y, []⟩, c)
        | none => none
      | none => none
    | none => none
  | _, _ => none

def pickR (hyp : Prop) (x p q p' q' : AV) (c : Prop) : OpR :=
  match x with
  | .v (.bool t) => some (⟨[], pickAV t p q, []⟩, c ∧ cndOK2 hyp t true p' ∧ cndOK2 hyp t false q')
  | _ => none

def cndsOK (hyp : Prop) (env : Env) : List Operand → Prop
  | [] => True
  | [y] => cndOK hyp (oeval env y)
  | y :: l => cndOK hyp (oeval env y) ∧ cndsOK hyp env l

theorem cnds_ops {hyp : Prop} {env : Env} : ∀ {l : List Operand}, cndsOK hyp env l → opsOK hyp env l
  | [], _ => trivial
  | [_], h => ⟨h, trivial⟩
  | _ :: _ :: _, h => ⟨h.1, cnds_ops h.2⟩

def sevals (env : Env) : List (Nat × Operand) → List (Nat × AV)
  | [] => []
  | (i, y) :: l => (i, seval env y) :: sevals env l
theorem sevals_eq {env : Env} : ∀ (l : List (Nat × Operand)), sevals env l = l.map fun p => (p.1, seval env p.2)
  | [] => rfl
  | (i, y) :: l => by rw [sevals, sevals_eq l]; rfl
def sevs (env : Env) : List Operand → List AV
  | [] => []
  | y :: l => seval env y :: sevs env l
theorem sevs_eq {env : Env} : ∀ (l : List Operand), sevs env l = l.map (seval env)
  | [] => rfl
  | y :: l => by rw [sevs, sevs_eq l]; rfl
def sevo (env : Env) : Option Operand → Option AV
  | none => none
  | some y => some (seval env y)
def seconds : List (Nat × Operand) → List Operand
  | [] => []
  | (_, y) :: l => y :: seconds l
theorem seconds_eq : ∀ (l : List (Nat × Operand)), seconds l = l.map (·.2)
  | [] => rfl
  | (i, y) :: l => by rw [seconds, seconds_eq l]; rfl
def kindOfT (ti : Option TI) : Option TK := match ti with | some i => some i.k | none => none
theorem kindOfT_eq (ti : Option TI) : ti.map TI.k = kindOfT ti := by cases ti <;> rfl

def ncR (x : AV) (c : Prop) : OpR := match x with | .ptr b off => some (⟨[], .ptr b off, []⟩, c) | _ => none

def opR (P : Program) (hyp : Prop) (env : Env) (box : Boxes) (nm : Nat) : Op → OpR
  | .pick c p q => pickR hyp (seval env c) (seval env p) (seval env q) (oeval env p) (oeval env q) (cndOK hyp (oeval env c))
  | .move y => some (⟨[], seval env y, []⟩, cndOK hyp (oeval env y))
  | .assign y => some (⟨[], seval env y, []⟩, cndOK hyp (oeval env y))
  | .load t y => ldR (tv P t) (seval env y) box (cndOK hyp (oeval env y))
  | .store t y u => stR (tv P t) (seval env y) (seval env u) box (cndOK hyp (oeval env y) ∧ cndOK hyp (oeval env u))
  | .fieldAddr s y f => fldR P (kindOfT (tv P s)) (seval env y) f (cndOK hyp (oeval env y))
  | .indexAddr t y z => idxR P hyp (kindOfT (tv P t)) (seval env y) (seval env z) (cndOK hyp (oeval env y) ∧ cndOK hyp (oeval env z))
  | .binOp op t x y _ => binR P op t (isConst y) (seval env x) (seval env y) (cndOK hyp (oeval env x) ∧ cndOK hyp (oeval env y))
  | .unOp op _ x => unR op (seval env x) (cndOK hyp (oeval env x))
  | .box t y => boxR nm t (seval env y) (cndOK hyp (oeval env y))
  | .alloc t => allocR (tv P t) nm t
  | .build t parts => buildR P (tv P t) (sevals env parts.toList) (cndsOK hyp env (seconds parts.toList))
  | .buildSlice t len parts => bslR P (kindOfT (tv P t)) nm len (sevals env parts.toList) (cndsOK hyp env (seconds parts.toList))
  | .slice t y lo hi mx => slcR P (kindOfT (tv P t)) (seval env y) (sevo env lo) (sevo env hi) (sevo env mx) (cndsOK hyp env ([y] ++ lo.toList ++ hi.toList ++ mx.toList))
  | .convert s d x => cvR P s d (tv P d) (seval env x) (cndOK hyp (oeval env x))
  | .makeSlice t x y => mkR P (kindOfT (tv P t)) nm (seval env x) (seval env y) (cndOK hyp (oeval env x) ∧ cndOK hyp (oeval env y))
  | .extract x i => extR (seval env x) i (cndOK hyp (oeval env x))
  | .field t x f => fieldR P (kindOfT (tv P t)) (seval env x) f (cndOK hyp (oeval env x))
  | .makeFunc f first caps => some (⟨[], .fn f (sevs env first.toList) (sevs env caps.toList), []⟩, cndsOK hyp env (first.toList ++ caps.toList))
  | .makeInterface t y => some (⟨[], .iface t (seval env y), []⟩, cndOK hyp (oeval env y) ∧ ByK (P.concrete t = true))
  | .typeAssert y _ t comma => taR (tv P t) t (seval env y) comma (cndOK hyp (oeval env y))
  | .index t y z => ixR P hyp (kindOfT (tv P t)) (seval env y) (seval env z) (cndOK hyp (oeval env y) ∧ cndOK hyp (oeval env z))
  | .lookup t m k comma => lkR P (P.underlying t) (seval env m) (seval env k) comma (cndOK hyp (oeval env m) ∧ cndOK hyp (oeval env k))
  | .call { callee := .builtin .max, args := ⟨[x, y]⟩, argTypes := _ } => mmR true (seval env x) (seval env y) (cndOK hyp (oeval env x) ∧ cndOK hyp (oeval env y))
  | .call { callee := .builtin .min, args := ⟨[x, y]⟩, argTypes := _ } => mmR false (seval env x) (seval env y) (cndOK hyp (oeval env x) ∧ cndOK hyp (oeval env y))
  | .call { callee := .builtin .len, args := ⟨[y]⟩, argTypes := ⟨[t]⟩ } => lenR (kindOfT (tv P t)) (seval env y) (cndOK hyp (oeval env y))
  | .call { callee := .builtin .append, args := ⟨[s, x]⟩, argTypes := ⟨[t, u]⟩ } => appR P (kindOfT (tv P t)) nm box (seval env s) (seval env x) (cndOK hyp (oeval env s) ∧ cndOK hyp (oeval env x) ∧ t = u)
  | .nilCheck y => ncR (seval env y) (cndOK hyp (oeval env y))
  | _ => none

section
variable {P : Program} {cx : Cx} {hyp : Prop} {env : Env} {box : Boxes} {nm : Nat} {o : Oper} {K : OpS → Prop} {S : OpS} {c d : Prop}

theorem ldR_ok {t : TypeId} {y : Operand} (h : ldR (tv P t) (seval env y) box d = some (S, c)) (hc : c) (hK : K S) : d ∧ ldW P env box t y K := by
  unfold ldR at h
  unfold ldW
  split at h
  · rename_i i b off e1 e2
    rw [e1, e2]
    simp only
    split at h
    · rename_i bx e3
      split at h
      · rename_i x e4
        injection h with h; injection h with h1 h2; subst h1 h2
        rw [e3]; simp only [e4]
        exact ⟨hc.1, hc.2, hK⟩
      · cases h
    · cases h
  · rename_i i l e1 e2
    rw [e1, e2]
    simp only
    split at h
    · rename_i x e3
      injection h with h; injection h with h1 h2; subst h1 h2
      simp only [e3]
      exact ⟨hc, hK⟩
    · cases h
  · cases h

theorem stR_ok {t : TypeId} {y u : Operand} (h : stR (tv P t) (seval env y) (seval env u) box d = some (S, c)) (hc : c) (hK : K S) : d ∧ stW P env box t y u K := by
  unfold stR at h
  unfold stW
  split at h
  · rename_i i b off e1 e2
    rw [e1, e2]
    simp only
    split at h
    · rename_i bx e3
      injection h with h; injection h with h1 h2; subst h1 h2
      rw [e3]
      exact ⟨hc.1, hc.2, hK⟩
    · cases h
  · cases h

theorem fldR_ok {s : TypeId} {y : Operand} {f : Nat} (h : fldR P (kindOfT (tv P s)) (seval env y) f d = some (S, c)) (hc : c) (hK : K S) : d ∧ fldW P env s y f K := by
  rw [← kindOfT_eq] at h
  unfold fldR at h
  unfold fldW
  split at h
  · rename_i fs e1
    rw [e1]
    simp only
    split at h
    · rename_i fo ft e2
      rw [e2]
      simp only
      split at h
      · rename_i j e3
        rw [e3]
        simp only
        split at h
        · rename_i e4
          injection h with h; injection h with h1 h2; subst h1 h2
          rw [e4]; exact ⟨hc.1, hc.2, hK⟩
        · rename_i e4
          injection h with h; injection h with h1 h2; subst h1 h2
          rw [e4]; exact ⟨hc.1, hc.2, hK⟩
        · cases h
      · cases h
    · cases h
  · cases h

theorem idxR_ok {t : TypeId} {y z : Operand} (h : idxR P hyp (kindOfT (tv P t)) (seval env y) (seval env z) d = some (S, c)) (hc : c) (hK : K S) : d ∧ idxW P hyp env t y z K := by
  rw [← kindOfT_eq] at h
  unfold idxR at h
  unfold idxW
  split at h
  · rename_i e k i e1 e2
    rw [e1, e2]
    simp only
    split at h
    · rename_i j e3
      rw [e3]
      simp only
      split at h
      · rename_i e4
        injection h with h; injection h with h1 h2; subst h1 h2
        rw [e4]; exact ⟨hc.1, hc.2.1, hc.2.2, hK⟩
      · rename_i e4
        injection h with h; injection h with h1 h2; subst h1 h2
        rw [e4]; exact ⟨hc.1, hc.2.1, hc.2.2, hK⟩
      · cases h
    · cases h
  · rename_i n e k i e1 e2
    rw [e1, e2]
    simp only
    split at h
    · rename_i j e3
      rw [e3]
      simp only
      split at h
      · rename_i e4
        injection h with h; injection h with h1 h2; subst h1 h2
        rw [e4]; exact ⟨hc.1, hc.2, hK⟩
      · rename_i e4
        injection h with h; injection h with h1 h2; subst h1 h2
        rw [e4]; exact ⟨hc.1, hc.2, hK⟩
      · cases h
    · cases h
  · cases h

theorem binR_ok {op : BinOp} {t : TypeId} {cy : Bool} {x y : AV} (h : binR P op t cy x y d = some (S, c)) (hc : c) (hK : K S) : d ∧ binW P op t cy x y K := by
  unfold binR at h
  unfold binW
  split at h
  · split at h
    · rename_i e1
      injection h with h; injection h with h1 h2; subst h1 h2
      simp only [e1]; exact ⟨hc.1, hc.2, hK⟩
    · cases h
  · split at h
    · injection h with h; injection h with h1 h2; subst h1 h2
      exact ⟨hc.1, hc.2, hK⟩
    · injection h with h; injection h with h1 h2; subst h1 h2
      exact ⟨hc.1, hc.2, hK⟩
    · cases h
  · injection h with h; injection h with h1 h2; subst h1 h2
    exact ⟨hc.1, ⟨hc.2.1, isSlK_ok hc.2.2⟩, hK⟩
  · injection h with h; injection h with h1 h2; subst h1 h2
    exact ⟨hc.1, ⟨hc.2.1, isSlK_ok hc.2.2⟩, hK⟩
  · injection h with h; injection h with h1 h2; subst h1 h2
    exact ⟨hc.1, hc.2, hK⟩
  · injection h with h; injection h with h1 h2; subst h1 h2
    exact ⟨hc.1, hc.2, hK⟩
  · split at h
    · rename_i us vs e1 e2
      simp only [e1, e2]
      split at h
      · injection h with h; injection h with h1 h2; subst h1 h2
        exact ⟨hc.1, hc.2.1, hc.2.2, hK⟩
      · injection h with h; injection h with h1 h2; subst h1 h2
        exact ⟨hc.1, hc.2.1, hc.2.2, hK⟩
      · cases h
    · rename_i e0
      split at h
      · rename_i us vs e1 e2
        dsimp only
        split
        · rename_i us' vs' f1 f2
          exact absurd f2 (e0 us' vs' f1)
        · simp only [e1, e2]
          split at h
          · injection h with h; injection h with h1 h2; subst h1 h2
            exact ⟨hc.1, hc.2, hK⟩
          · injection h with h; injection h with h1 h2; subst h1 h2
            exact ⟨hc.1, hc.2, hK⟩
          · cases h
      · cases h
  · cases h

theorem unR_ok {op : UnOp} {x : AV} (h : unR op x d = some (S, c)) (hc : c) (hK : K S) : d ∧ unW op x K := by
  unfold unR at h
  unfold unW
  split at h
  · injection h with h; injection h with h1 h2; subst h1 h2; exact ⟨hc, hK⟩
  · injection h with h; injection h with h1 h2; subst h1 h2; exact ⟨hc, hK⟩
  · cases h

theorem allocR_ok {t : TypeId} (h : allocR (tv P t) nm t = some (S, c)) (hc : c) (hK : K S) : allocW P nm t K := by
  unfold allocR at h
  unfold allocW
  split at h
  · rename_i i e1
    injection h with h; injection h with h1 h2; subst h1 h2
    rw [e1]; exact ⟨hc, hK⟩
  · cases h

theorem buildR_ok {t : TypeId} {parts : Array (Nat × Operand)} (h : buildR P (tv P t) (sevals env parts.toList) d = some (S, c)) (hc : c) (hK : K S) : d ∧ buildW P env t parts K := by
  rw [sevals_eq] at h
  unfold buildR at h
  unfold buildW
  split at h
  · rename_i i e1
    rw [e1]
    simp only
    split at h
    · rename_i fs e2
      rw [e2]
      simp only
      split at h
      · rename_i l e3
        injection h with h; injection h with h1 h2; subst h1 h2
        rw [e3]; exact ⟨hc.1, hc.2.1, hc.2.2, hK⟩
      · cases h
    · rename_i n e e2
      rw [e2]
      simp only
      split at h
      · rename_i j e3
        rw [e3]
        simp only
        split at h
        · rename_i l e4
          injection h with h; injection h with h1 h2; subst h1 h2
          rw [e4]; exact ⟨hc.1, hc.2, hK⟩
        · cases h
      · cases h
    · cases h
  · cases h

theorem bslR_ok {t : TypeId} {len : Nat} {parts : Array (Nat × Operand)} (h : bslR P (kindOfT (tv P t)) nm len (sevals env parts.toList) d = some (S, c)) (hc : c) (hK : K S) : d ∧ bslW P env nm t len parts K := by
  rw [← kindOfT_eq, sevals_eq] at h
  unfold bslR at h
  unfold bslW
  split at h
  · rename_i e e1
    rw [e1]
    simp only
    split at h
    · rename_i j e2
      rw [e2]
      simp only
      split at h
      · rename_i l e3
        injection h with h; injection h with h1 h2; subst h1 h2
        rw [e3]; exact ⟨hc.1, hc.2, hK⟩
      · cases h
    · cases h
  · cases h

theorem sevo_some {y : Option Operand} {v : AV} (h : sevo env y = some v) : ∃ z, y = some z ∧ seval env z = v := by
  cases y with
  | none => cases h
  | some z => exact ⟨z, rfl, by simpa [sevo] using h⟩
theorem sevo_none {y : Option Operand} (h : sevo env y = none) : y = none := by
  cases y with
  | none => rfl
  | some z => cases h

theorem slcR_ok {t : TypeId} {y : Operand} {lo hi mx : Option Operand} (h : slcR P (kindOfT (tv P t)) (seval env y) (sevo env lo) (sevo env hi) (sevo env mx) d = some (S, c)) (hc : c) (hK : K S) : d ∧ slcW P env t y lo hi mx K := by
  rw [← kindOfT_eq] at h
  unfold slcR at h
  unfold slcW
  split at h
  · rename_i e full k l e1 e2
    rw [e1, e2]
    simp only
    split at h
    · rename_i j e3 e4 e5 e6
      injection h with h; injection h with h1 h2; subst h1 h2
      rw [e3]
      refine ⟨hc.1, hc.2, 0, l.length, full, .inl ⟨sevo_none e4, rfl⟩, .inl ⟨sevo_none e5, rfl, sevo_none e6⟩, .inl ⟨sevo_none e6, by simp⟩, Nat.zero_le _, Nat.le_refl _, by simpa using hK⟩
    · rename_i j a e3 e4 e5 e6
      injection h with h; injection h with h1 h2; subst h1 h2
      rw [e3]
      obtain ⟨za, hza, ea⟩ := sevo_some e4
      obtain ⟨h1, h2, h3, h4⟩ := hc
      refine ⟨h1, h2, a.toNat, l.length, full, .inr ⟨za, hza, by rw [ea, Int.toNat_of_nonneg h3]⟩, .inl ⟨sevo_none e5, rfl, sevo_none e6⟩, .inl ⟨sevo_none e6, by simp⟩, by omega, Nat.le_refl _, by simpa using hK⟩
    · rename_i j b e3 e4 e5 e6
      injection h with h; injection h with h1 h2; subst h1 h2
      rw [e3]
      obtain ⟨zb, hzb, eb⟩ := sevo_some e5
      obtain ⟨h1, h2, h3, h4⟩ := hc
      refine ⟨h1, h2, 0, b.toNat, _, .inl ⟨sevo_none e4, rfl⟩, .inr ⟨zb, hzb, by rw [eb, Int.toNat_of_nonneg h3]⟩, .inl ⟨sevo_none e6, rfl⟩, Nat.zero_le _, by omega, by simpa using hK⟩
    · rename_i j a b e3 e4 e5 e6
      injection h with h; injection h with h1 h2; subst h1 h2
      rw [e3]
      obtain ⟨za, hza, ea⟩ := sevo_some e4
      obtain ⟨zb, hzb, eb⟩ := sevo_some e5
      obtain ⟨h1, h2, h3, h4, h5⟩ := hc
      refine ⟨h1, h2, a.toNat, b.toNat, _, .inr ⟨za, hza, by rw [ea, Int.toNat_of_nonneg h3]⟩, .inr ⟨zb, hzb, by rw [eb, Int.toNat_of_nonneg (by omega)]⟩, .inl ⟨sevo_none e6, rfl⟩, by omega, by omega, by simpa using hK⟩
    · rename_i j b m e3 e4 e5 e6
      injection h with h; injection h with h1 h2; subst h1 h2
      rw [e3]
      obtain ⟨zb, hzb, eb⟩ := sevo_some e5
      obtain ⟨zm, hzm, em⟩ := sevo_some e6
      obtain ⟨h1, h2, h3, h4, rfl⟩ := hc
      refine ⟨h1, h2, 0, m.toNat, true, .inl ⟨sevo_none e4, rfl⟩, .inr ⟨zb, hzb, by rw [eb, Int.toNat_of_nonneg h3]⟩, .inr ⟨rfl, zm, hzm, by rw [em, Int.toNat_of_nonneg h3]⟩, Nat.zero_le _, by omega, by simpa using hK⟩
    · rename_i j a b m e3 e4 e5 e6
      injection h with h; injection h with h1 h2; subst h1 h2
      rw [e3]
      obtain ⟨za, hza, ea⟩ := sevo_some e4
      obtain ⟨zb, hzb, eb⟩ := sevo_some e5
      obtain ⟨zm, hzm, em⟩ := sevo_some e6
      obtain ⟨h1, h2, h3, h4, h5, rfl⟩ := hc
      refine ⟨h1, h2, a.toNat, m.toNat, true, .inr ⟨za, hza, by rw [ea, Int.toNat_of_nonneg h3]⟩, .inr ⟨zb, hzb, by rw [eb, Int.toNat_of_nonneg (by omega)]⟩, .inr ⟨rfl, zm, hzm, by rw [em, Int.toNat_of_nonneg (by omega)]⟩, by omega, by omega, by simpa using hK⟩
    · cases h
  · rename_i e bx k off n e1 e2
    rw [e1, e2]
    simp only
    split at h
    · rename_i j e3 e4 e5 e6
      injection h with h; injection h with h1 h2; subst h1 h2
      rw [e3]
      refine ⟨hc.1, hc.2, 0, n, .inl ⟨sevo_none e4, rfl⟩, .inl ⟨sevo_none e5, rfl⟩, sevo_none e6, Nat.zero_le _, Nat.le_refl _, by simpa using hK⟩
    · rename_i j a e3 e4 e5 e6
      injection h with h; injection h with h1 h2; subst h1 h2
      rw [e3]
      obtain ⟨za, hza, ea⟩ := sevo_some e4
      obtain ⟨h1, h2, h3, h4⟩ := hc
      refine ⟨h1, h2, a.toNat, n, .inr ⟨za, hza, by rw [ea, Int.toNat_of_nonneg h3]⟩, .inl ⟨sevo_none e5, rfl⟩, sevo_none e6, by omega, Nat.le_refl _, by simpa using hK⟩
    · rename_i j b e3 e4 e5 e6
      injection h with h; injection h with h1 h2; subst h1 h2
      rw [e3]
      obtain ⟨zb, hzb, eb⟩ := sevo_some e5
      obtain ⟨h1, h2, h3, h4⟩ := hc
      refine ⟨h1, h2, 0, b.toNat, .inl ⟨sevo_none e4, rfl⟩, .inr ⟨zb, hzb, by rw [eb, Int.toNat_of_nonneg h3]⟩, sevo_none e6, Nat.zero_le _, by omega, by simpa using hK⟩
    · rename_i j a b e3 e4 e5 e6
      injection h with h; injection h with h1 h2; subst h1 h2
      rw [e3]
      obtain ⟨za, hza, ea⟩ := sevo_some e4
      obtain ⟨zb, hzb, eb⟩ := sevo_some e5
      obtain ⟨h1, h2, h3, h4, h5⟩ := hc
      refine ⟨h1, h2, a.toNat, b.toNat, .inr ⟨za, hza, by rw [ea, Int.toNat_of_nonneg h3]⟩, .inr ⟨zb, hzb, by rw [eb, Int.toNat_of_nonneg (by omega)]⟩, sevo_none e6, by omega, by omega, by simpa using hK⟩
    · cases h
  · rename_i n e l e1 e2
    rw [e1, e2]
    simp only
    split at h
    · rename_i j e3 e4 e5 e6
      injection h with h; injection h with h1 h2; subst h1 h2
      rw [e3]
      obtain ⟨h1, h2, h3, h4⟩ := hc
      exact ⟨h1, sevo_none e4, sevo_none e5, sevo_none e6, h2, h3, by simp [maxLen]; omega, hK⟩
    · cases h
  · cases h

theorem cvR_ok {s t : TypeId} {x : AV} (h : cvR P s t (tv P t) x d = some (S, c)) (hc : c) (hK : K S) : d ∧ cvW P s t x K := by
  unfold cvR at h
  unfold cvW
  split at h
  · split at h
    · injection h with h; injection h with h1 h2; subst h1 h2
      obtain ⟨g1, g2, g3⟩ := hc
      rw [g2]
      exact ⟨g1, g3, hK⟩
    · cases h
  · cases h

theorem mkR_ok {t : TypeId} {x y : AV} (h : mkR P (kindOfT (tv P t)) nm x y d = some (S, c)) (hc : c) (hK : K S) : d ∧ mkW P nm t x y K := by
  rw [← kindOfT_eq] at h
  unfold mkR at h
  unfold mkW
  split at h
  · rename_i e n m e1
    simp only [e1]
    split at h
    · rename_i j e2
      injection h with h; injection h with h1 h2; subst h1 h2
      simp only [e2]
      exact ⟨hc.1, hc.2, hK⟩
    · cases h
  · cases h

theorem lenR_ok {t : TypeId} {x : AV} (h : lenR (kindOfT (tv P t)) x d = some (S, c)) (hc : c) (hK : K S) : d ∧ lenW P t x K := by
  rw [← kindOfT_eq] at h
  unfold lenR at h
  unfold lenW
  split at h
  · rename_i e e1
    rw [e1]
    simp only
    split at h <;> first | (injection h with h; injection h with h1 h2; subst h1 h2; exact ⟨hc, hK⟩) | cases h
  · cases h

theorem appR_ok {t : TypeId} {s x : Operand} (h : appR P (kindOfT (tv P t)) nm box (seval env s) (seval env x) d = some (S, c)) (hc : c) (hK : K S) : d ∧ appW P env box nm t s x K := by
  rw [← kindOfT_eq] at h
  unfold appR at h
  unfold appW
  split at h
  · rename_i e e1
    rw [e1]
    simp only
    split at h
    · rename_i j e2
      rw [e2]
      simp only
      split at h
      · rename_i fpx m news e3
        rw [e3]
        simp only
        split at h
        · rename_i b0 k n e4
          rw [e4]
          simp only
          split at h
          · rename_i bx e5
            rw [e5]
            simp only
            injection h with h; injection h with h1 h2; subst h1 h2
            obtain ⟨q1, q2, q3, q4, q5, q6⟩ := hc
            exact ⟨q1, ⟨q2, q3⟩, q4, q5, q6, hK⟩
          · cases h
        · rename_i full k l e4
          rw [e4]
          simp only
          injection h with h; injection h with h1 h2; subst h1 h2
          obtain ⟨q1, q2, q3, q4, q5, q6, q7⟩ := hc
          exact ⟨q1, ⟨q2, q3⟩, q4, q5, q6, q7, hK⟩
        · rename_i e4
          rw [e4]
          simp only
          injection h with h; injection h with h1 h2; subst h1 h2
          obtain ⟨q1, q2, q3, q4, q5⟩ := hc
          exact ⟨q1, ⟨q2, q3⟩, q4, q5, hK⟩
        · cases h
      · cases h
    · cases h
  · cases h

theorem extR_ok {x : AV} {i : Nat} (h : extR x i d = some (S, c)) (hc : c) (hK : K S) : d ∧ extW x i K := by
  unfold extR at h
  unfold extW
  split at h
  · split at h
    · rename_i e1
      injection h with h; injection h with h1 h2; subst h1 h2
      simp only [e1]; exact ⟨hc, hK⟩
    · cases h
  · cases h

theorem fieldR_ok {t : TypeId} {x : AV} {f : Nat} (h : fieldR P (kindOfT (tv P t)) x f d = some (S, c)) (hc : c) (hK : K S) : d ∧ fieldW P t x f K := by
  rw [← kindOfT_eq] at h
  unfold fieldR at h
  unfold fieldW
  split at h
  · rename_i fs l e1
    rw [e1]
    simp only
    split at h
    · rename_i fo ft e2
      rw [e2]
      simp only
      split at h
      · rename_i j e3
        rw [e3]
        simp only
        split at h
        · rename_i y e4
          injection h with h; injection h with h1 h2; subst h1 h2
          rw [e4]; exact ⟨hc, hK⟩
        · cases h
      · cases h
    · cases h
  · cases h

theorem pickR_ok {a p q : Operand} (h : pickR hyp (seval env a) (seval env p) (seval env q) (oeval env p) (oeval env q) (cndOK hyp (oeval env a)) = some (S, c)) (hc : c) (hK : K S) : pickW hyp env a p q K := by
  unfold pickR at h
  unfold pickW
  split at h
  · rename_i t e1
    injection h with h; injection h with h1 h2; subst h1 h2
    rw [e1]; exact ⟨hc, hK⟩
  · cases h

theorem lkR_ok {t : TypeId} {x k : AV} {comma : Bool} (h : lkR P (P.underlying t) x k comma d = some (S, c)) (hc : c) (hK : K S) : d ∧ lkW P t x k comma K := by
  unfold lkR at h
  unfold lkW
  split at h
  · rename_i es q n kt et e1
    rw [e1]
    simp only
    split at h
    · rename_i e2
      injection h with h; injection h with h1 h2; subst h1 h2
      rw [e2]; exact ⟨hc.1, hc.2, hK⟩
    · rename_i e2
      split at h
      · rename_i e3
        injection h with h; injection h with h1 h2; subst h1 h2
        rw [e2]; simp only [e3]; exact ⟨hc.1, hc.2, hK⟩
      · cases h
    · cases h
  · cases h

theorem taR_ok {t : TypeId} {x : AV} {comma : Bool} (h : taR (tv P t) t x comma d = some (S, c)) (hc : c) (hK : K S) : d ∧ taW P t x comma K := by
  unfold taR at h
  unfold taW
  split at h
  · rename_i i e1
    rw [e1]
    simp only
    split at h
    · rename_i fs e2
      rw [e2]
      simp only
      split at h
      · split at h
        · rename_i e3
          injection h with h; injection h with h1 h2; subst h1 h2
          simp only [e3]; exact ⟨hc.1, hc.2, hK⟩
        · rename_i e3
          injection h with h; injection h with h1 h2; subst h1 h2
          simp only [e3]; exact ⟨hc.1, hc.2, hK⟩
      · injection h with h; injection h with h1 h2; subst h1 h2
        exact ⟨hc.1, hc.2, hK⟩
      · cases h
    · cases h
  · cases h

theorem ixR_ok {t : TypeId} {x z : AV} (h : ixR P hyp (kindOfT (tv P t)) x z d = some (S, c)) (hc : c) (hK : K S) : d ∧ ixW P hyp t x z K := by
  rw [← kindOfT_eq] at h
  unfold ixR at h
  unfold ixW
  split at h
  · rename_i n e l k i e1
    rw [e1]
    simp only
    split at h
    · rename_i j e2
      rw [e2]
      simp only
      split at h
      · rename_i y e3
        injection h with h; injection h with h1 h2; subst h1 h2
        rw [e3]; exact ⟨hc.1, hc.2, hK⟩
      · cases h
    · cases h
  · cases h

theorem mmR_ok {mx : Bool} {x y : AV} (h : mmR mx x y d = some (S, c)) (hc : c) (hK : K S) : d ∧ mmW mx x y K := by
  unfold mmR at h
  unfold mmW
  split at h
  · injection h with h; injection h with h1 h2; subst h1 h2
    exact ⟨hc.1, hc.2, hK⟩
  · cases h

theorem ops1 {y : Operand} {op : Op} (ho : op.operands = #[y]) (h : cndOK hyp (oeval env y)) : opsOK hyp env op.operands.toList := by rw [ho]; exact ⟨h, trivial⟩
theorem ops2 {y z : Operand} {op : Op} (ho : op.operands = #[y, z]) (h : cndOK hyp (oeval env y) ∧ cndOK hyp (oeval env z)) : opsOK hyp env op.operands.toList := by rw [ho]; exact ⟨h.1, h.2, trivial⟩

theorem opR_ok (h : opR P hyp env box nm o.op = some (S, c)) (hc : c) (hK : K S) : opW P cx hyp env box nm o K := by
  unfold opW
  generalize ho : o.op = op at h
  unfold opR at h
  split at h
  · exact pickR_ok h hc hK
  · injection h with h; injection h with h1 h2; subst h1 h2
    refine ⟨ops1 rfl hc, ?_⟩
    unfold restW; simp only [ho]; exact hK
  · injection h with h; injection h with h1 h2; subst h1 h2
    refine ⟨ops1 rfl hc, ?_⟩
    unfold restW; simp only [ho]; exact hK
  · obtain ⟨h1, h2⟩ := ldR_ok h hc hK
    refine ⟨ops1 rfl h1, ?_⟩
    unfold restW; simp only [ho]; exact h2
  · obtain ⟨h1, h2⟩ := stR_ok h hc hK
    refine ⟨ops2 rfl h1, ?_⟩
    unfold restW; simp only [ho]; exact h2
  · obtain ⟨h1, h2⟩ := fldR_ok h hc hK
    refine ⟨ops1 rfl h1, ?_⟩
    unfold restW; simp only [ho]; exact h2
  · obtain ⟨h1, h2⟩ := idxR_ok h hc hK
    refine ⟨ops2 rfl h1, ?_⟩
    unfold restW; simp only [ho]; exact h2
  · obtain ⟨h1, h2⟩ := binR_ok h hc hK
    refine ⟨ops2 rfl h1, ?_⟩
    unfold restW; simp only [ho]; exact h2
  · obtain ⟨h1, h2⟩ := unR_ok h hc hK
    refine ⟨ops1 rfl h1, ?_⟩
    unfold restW; simp only [ho]; exact h2
  · unfold boxR at h
    injection h with h; injection h with h1 h2; subst h1 h2
    refine ⟨ops1 rfl hc.1, ?_⟩
    unfold restW; simp only [ho]; exact ⟨hc.2, hK⟩
  · refine ⟨trivial, ?_⟩
    unfold restW; simp only [ho]; exact allocR_ok h hc hK
  · obtain ⟨h1, h2⟩ := buildR_ok h hc hK
    refine ⟨?_, ?_⟩
    · rw [seconds_eq] at h1
      exact cnds_ops (by simpa [Op.operands] using h1)
    · unfold restW; simp only [ho]; exact h2
  · obtain ⟨h1, h2⟩ := bslR_ok h hc hK
    refine ⟨?_, ?_⟩
    · rw [seconds_eq] at h1
      exact cnds_ops (by simpa [Op.operands] using h1)
    · unfold restW; simp only [ho]; exact h2
  · rename_i t y lo hi mx
    obtain ⟨h1, h2⟩ := slcR_ok h hc hK
    refine ⟨cnds_ops ?_, ?_⟩
    · cases lo <;> cases hi <;> cases mx <;> simpa [Op.operands] using h1
    · unfold restW; simp only [ho]; exact h2
  · obtain ⟨h1, h2⟩ := cvR_ok h hc hK
    refine ⟨ops1 rfl h1, ?_⟩
    unfold restW; simp only [ho]; exact h2
  · obtain ⟨h1, h2⟩ := mkR_ok h hc hK
    refine ⟨ops2 rfl h1, ?_⟩
    unfold restW; simp only [ho]; exact h2
  · obtain ⟨h1, h2⟩ := extR_ok h hc hK
    refine ⟨ops1 rfl h1, ?_⟩
    unfold restW; simp only [ho]; exact h2
  · obtain ⟨h1, h2⟩ := fieldR_ok h hc hK
    refine ⟨ops1 rfl h1, ?_⟩
    unfold restW; simp only [ho]; exact h2
  · rw [sevs_eq, sevs_eq] at h
    injection h with h; injection h with h1 h2; subst h1 h2
    refine ⟨cnds_ops (by simpa [Op.operands] using hc), ?_⟩
    unfold restW; simp only [ho]; exact hK
  · injection h with h; injection h with h1 h2; subst h1 h2
    refine ⟨ops1 rfl hc.1, ?_⟩
    unfold restW; simp only [ho]; exact ⟨hc.2, hK⟩
  · obtain ⟨h1, h2⟩ := taR_ok h hc hK
    refine ⟨ops1 rfl h1, ?_⟩
    unfold restW; simp only [ho]; exact h2
  · obtain ⟨h1, h2⟩ := ixR_ok h hc hK
    refine ⟨ops2 rfl h1, ?_⟩
    unfold restW; simp only [ho]; exact h2
  · obtain ⟨h1, h2⟩ := lkR_ok h hc hK
    refine ⟨ops2 rfl h1, ?_⟩
    unfold restW; simp only [ho]; exact h2
  · obtain ⟨h1, h2⟩ := mmR_ok h hc hK
    refine ⟨ops2 (by simp [Op.operands, Call.operands]) h1, ?_⟩
    unfold restW; simp only [ho]; exact h2
  · obtain ⟨h1, h2⟩ := mmR_ok h hc hK
    refine ⟨ops2 (by simp [Op.operands, Call.operands]) h1, ?_⟩
    unfold restW; simp only [ho]; exact h2
  · obtain ⟨h1, h2⟩ := lenR_ok h hc hK
    refine ⟨ops1 (by simp [Op.operands, Call.operands]) h1, ?_⟩
    unfold restW; simp only [ho]; exact h2
  · obtain ⟨⟨q1, q2, q3⟩, h2⟩ := appR_ok h hc hK
    refine ⟨ops2 (by simp [Op.operands, Call.operands]) ⟨q1, q2⟩, ?_⟩
    unfold restW; simp only [ho]; exact ⟨q3, h2⟩
  · unfold ncR at h
    split at h
    · rename_i b off e1
      injection h with h; injection h with h1 h2; subst h1 h2
      refine ⟨ops1 rfl hc, ?_⟩
      unfold restW; simp only [ho]
      unfold ncW
      rw [e1]
      exact hK
    · cases h
  · cases h
end
end Go.Proofs.YtkonljmmdifnaaaGreat.V
