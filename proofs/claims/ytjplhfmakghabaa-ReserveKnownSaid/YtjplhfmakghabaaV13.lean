/- Facts on the types and the functions of this program. -/
import Derived.Test.YtjplhfmakghabaaVC
set_option linter.unusedSimpArgs false
set_option linter.unusedVariables false
namespace Go.Proofs.Ytjplhfmakghabaa.V
open Go.RowKit

@[go_sem] theorem tv1 : tv Try.prog 1 = some ⟨1, false, .nilFunc, 8, .other⟩ := by kernel_rfl
@[go_sem] theorem tv2 : tv Try.prog 2 = some ⟨1, false, .int .i64 0, 8, .other⟩ := by kernel_rfl
@[go_sem] theorem tv3 : tv Try.prog 3 = some ⟨1, false, .int .i64 0, 8, .other⟩ := by kernel_rfl
@[go_sem] theorem tv4 : tv Try.prog 4 = some ⟨1, false, .bool false, 1, .other⟩ := by kernel_rfl
@[go_sem] theorem tv5 : tv Try.prog 5 = some ⟨1, false, .int .u8 0, 1, .other⟩ := by kernel_rfl
@[go_sem] theorem tv6 : tv Try.prog 6 = some ⟨1, false, .int .u8 0, 1, .other⟩ := by kernel_rfl
@[go_sem] theorem tv7 : tv Try.prog 7 = some ⟨4, true, .agg #[.int .i64 0, .int .i64 0, .bool false, .int .u8 0], 24, .struct [(0, 2), (1, 3), (2, 4), (3, 6)]⟩ := by kernel_rfl
@[go_sem] theorem tv8 : tv Try.prog 8 = some ⟨4, true, .agg #[.int .i64 0, .int .i64 0, .bool false, .int .u8 0], 24, .struct [(0, 2), (1, 3), (2, 4), (3, 6)]⟩ := by kernel_rfl
@[go_sem] theorem tv9 : tv Try.prog 9 = some ⟨1, false, .string ⟨#[]⟩, 16, .other⟩ := by kernel_rfl
@[go_sem] theorem tv10 : tv Try.prog 10 = some ⟨1, false, .string ⟨#[]⟩, 16, .other⟩ := by kernel_rfl
@[go_sem] theorem tv11 : tv Try.prog 11 = some ⟨1, false, .string ⟨#[]⟩, 16, .other⟩ := by kernel_rfl
@[go_sem] theorem tv12 : tv Try.prog 12 = some ⟨1, false, .int .u64 0, 8, .other⟩ := by kernel_rfl
@[go_sem] theorem tv13 : tv Try.prog 13 = some ⟨2, true, .agg #[.string ⟨#[]⟩, .int .u64 0], 24, .struct [(0, 9), (1, 12)]⟩ := by kernel_rfl
@[go_sem] theorem tv14 : tv Try.prog 14 = some ⟨2, true, .agg #[.string ⟨#[]⟩, .int .u64 0], 24, .struct [(0, 9), (1, 12)]⟩ := by kernel_rfl
@[go_sem] theorem tv15 : tv Try.prog 15 = some ⟨1, false, .pointer none, 8, .other⟩ := by kernel_rfl
@[go_sem] theorem tv16 : tv Try.prog 16 = some ⟨1, false, .pointer none, 8, .other⟩ := by kernel_rfl
@[go_sem] theorem tv17 : tv Try.prog 17 = some ⟨1, false, .pointer none, 8, .other⟩ := by kernel_rfl
@[go_sem] theorem tv18 : tv Try.prog 18 = some ⟨1, true, .agg #[.pointer none], 8, .struct [(0, 17)]⟩ := by kernel_rfl
@[go_sem] theorem tv19 : tv Try.prog 19 = some ⟨1, true, .agg #[.pointer none], 8, .struct [(0, 17)]⟩ := by kernel_rfl
@[go_sem] theorem tv20 : tv Try.prog 20 = some ⟨1, false, .nilIface, 16, .other⟩ := by kernel_rfl
@[go_sem] theorem tv21 : tv Try.prog 21 = some ⟨1, false, .int .i32 0, 4, .other⟩ := by kernel_rfl
@[go_sem] theorem tv22 : tv Try.prog 22 = some ⟨5, true, .agg #[.int .i64 0, .int .i64 0, .int .i64 0, .int .i64 0, .int .i64 0], 40, .struct [(0, 3), (1, 3), (2, 3), (3, 3), (4, 3)]⟩ := by kernel_rfl
@[go_sem] theorem tv23 : tv Try.prog 23 = some ⟨5, true, .agg #[.int .i64 0, .int .i64 0, .int .i64 0, .int .i64 0, .int .i64 0], 40, .struct [(0, 3), (1, 3), (2, 3), (3, 3), (4, 3)]⟩ := by kernel_rfl
@[go_sem] theorem tv24 : tv Try.prog 24 = some ⟨1, false, .slice none 0 0, 24, .slice 44⟩ := by kernel_rfl
@[go_sem] theorem tv25 : tv Try.prog 25 = some ⟨1, false, .nilFunc, 8, .other⟩ := by kernel_rfl
@[go_sem] theorem tv26 : tv Try.prog 26 = some ⟨1, false, .nilFunc, 8, .other⟩ := by kernel_rfl
@[go_sem] theorem tv27 : tv Try.prog 27 = some ⟨1, false, .slice none 0 0, 24, .slice 48⟩ := by kernel_rfl
@[go_sem] theorem tv28 : tv Try.prog 28 = some ⟨1, false, .int .i64 0, 8, .other⟩ := by kernel_rfl
@[go_sem] theorem tv30 : tv Try.prog 30 = some ⟨1, false, .nilFunc, 8, .other⟩ := by kernel_rfl
@[go_sem] theorem tv31 : tv Try.prog 31 = some ⟨1, false, .nilFunc, 8, .other⟩ := by kernel_rfl
@[go_sem] theorem tv32 : tv Try.prog 32 = some ⟨1, false, .nilFunc, 8, .other⟩ := by kernel_rfl
@[go_sem] theorem tv33 : tv Try.prog 33 = some ⟨1, false, .slice none 0 0, 24, .slice 38⟩ := by kernel_rfl
@[go_sem] theorem tv35 : tv Try.prog 35 = some ⟨1, false, .nilFunc, 8, .other⟩ := by kernel_rfl
@[go_sem] theorem tv36 : tv Try.prog 36 = some ⟨1, false, .nilFunc, 8, .other⟩ := by kernel_rfl
@[go_sem] theorem tv37 : tv Try.prog 37 = some ⟨6, true, .agg #[.int .i64 0, .int .i64 0, .int .i64 0, .int .i64 0, .int .i64 0, .bool false], 48, .struct [(0, 3), (1, 3), (2, 3), (3, 3), (4, 3), (5, 4)]⟩ := by kernel_rfl
@[go_sem] theorem tv38 : tv Try.prog 38 = some ⟨6, true, .agg #[.int .i64 0, .int .i64 0, .int .i64 0, .int .i64 0, .int .i64 0, .bool false], 48, .struct [(0, 3), (1, 3), (2, 3), (3, 3), (4, 3), (5, 4)]⟩ := by kernel_rfl
@[go_sem] theorem tv39 : tv Try.prog 39 = some ⟨1, false, .nilFunc, 8, .other⟩ := by kernel_rfl
@[go_sem] theorem tv40 : tv Try.prog 40 = some ⟨6, true, .agg #[.int .i64 0, .int .i64 0, .int .i64 0, .int .i64 0, .int .i64 0, .int .i64 0], 48, .struct [(0, 3), (1, 3), (2, 3), (3, 3), (4, 3), (5, 3)]⟩ := by kernel_rfl
@[go_sem] theorem tv41 : tv Try.prog 41 = some ⟨6, true, .agg #[.int .i64 0, .int .i64 0, .int .i64 0, .int .i64 0, .int .i64 0, .int .i64 0], 48, .struct [(0, 3), (1, 3), (2, 3), (3, 3), (4, 3), (5, 3)]⟩ := by kernel_rfl
@[go_sem] theorem tv42 : tv Try.prog 42 = some ⟨1, false, .slice none 0 0, 24, .slice 50⟩ := by kernel_rfl
@[go_sem] theorem tv43 : tv Try.prog 43 = some ⟨7, true, .agg #[.int .i64 0, .int .i64 0, .int .i64 0, .int .i64 0, .int .i64 0, .int .i64 0, .slice none 0 0], 72, .struct [(0, 41), (6, 42)]⟩ := by kernel_rfl
@[go_sem] theorem tv44 : tv Try.prog 44 = some ⟨7, true, .agg #[.int .i64 0, .int .i64 0, .int .i64 0, .int .i64 0, .int .i64 0, .int .i64 0, .slice none 0 0], 72, .struct [(0, 41), (6, 42)]⟩ := by kernel_rfl
@[go_sem] theorem tv45 : tv Try.prog 45 = some ⟨1, false, .nilFunc, 8, .other⟩ := by kernel_rfl
@[go_sem] theorem tv46 : tv Try.prog 46 = some ⟨1, false, .nilFunc, 8, .other⟩ := by kernel_rfl
@[go_sem] theorem tv47 : tv Try.prog 47 = some ⟨1, false, .slice none 0 0, 24, .slice 3⟩ := by kernel_rfl
@[go_sem] theorem tv48 : tv Try.prog 48 = some ⟨3, true, .agg #[.int .i64 0, .int .i64 0, .int .i64 0], 24, .array 3 3⟩ := by kernel_rfl
@[go_sem] theorem tv49 : tv Try.prog 49 = some ⟨3, true, .agg #[.int .i64 0, .int .i64 0, .int .i64 0], 24, .struct [(0, 3), (1, 3), (2, 3)]⟩ := by kernel_rfl
@[go_sem] theorem tv50 : tv Try.prog 50 = some ⟨3, true, .agg #[.int .i64 0, .int .i64 0, .int .i64 0], 24, .struct [(0, 3), (1, 3), (2, 3)]⟩ := by kernel_rfl
@[go_sem] theorem tv52 : tv Try.prog 52 = some ⟨1, false, .nilFunc, 8, .other⟩ := by kernel_rfl
@[go_sem] theorem tv53 : tv Try.prog 53 = some ⟨1, false, .nilFunc, 8, .other⟩ := by kernel_rfl
@[go_sem] theorem tv54 : tv Try.prog 54 = some ⟨1, false, .nilFunc, 8, .other⟩ := by kernel_rfl
@[go_sem] theorem tv55 : tv Try.prog 55 = some ⟨1, false, .nilFunc, 8, .other⟩ := by kernel_rfl
@[go_sem] theorem tv57 : tv Try.prog 57 = some ⟨1, false, .nilFunc, 8, .other⟩ := by kernel_rfl
@[go_sem] theorem tv58 : tv Try.prog 58 = some ⟨1, false, .nilFunc, 8, .other⟩ := by kernel_rfl
@[go_sem] theorem tv59 : tv Try.prog 59 = some ⟨1, false, .nilFunc, 8, .other⟩ := by kernel_rfl
@[go_sem] theorem tv60 : tv Try.prog 60 = some ⟨2, true, .agg #[.slice none 0 0, .slice none 0 0], 48, .struct [(0, 47), (1, 47)]⟩ := by kernel_rfl
@[go_sem] theorem tv61 : tv Try.prog 61 = some ⟨2, true, .agg #[.slice none 0 0, .slice none 0 0], 48, .struct [(0, 47), (1, 47)]⟩ := by kernel_rfl
@[go_sem] theorem tv63 : tv Try.prog 63 = some ⟨1, false, .nilFunc, 8, .other⟩ := by kernel_rfl
@[go_sem] theorem tv64 : tv Try.prog 64 = some ⟨1, false, .nilFunc, 8, .other⟩ := by kernel_rfl
@[go_sem] theorem tv65 : tv Try.prog 65 = some ⟨1, false, .nilFunc, 8, .other⟩ := by kernel_rfl
@[go_sem] theorem tv66 : tv Try.prog 66 = some ⟨1, false, .nilFunc, 8, .other⟩ := by kernel_rfl
@[go_sem] theorem tv67 : tv Try.prog 67 = some ⟨1, false, .nilFunc, 8, .other⟩ := by kernel_rfl
@[go_sem] theorem tv68 : tv Try.prog 68 = some ⟨1, false, .nilFunc, 8, .other⟩ := by kernel_rfl
@[go_sem] theorem tv69 : tv Try.prog 69 = some ⟨1, false, .nilFunc, 8, .other⟩ := by kernel_rfl
@[go_sem] theorem tv70 : tv Try.prog 70 = some ⟨1, false, .nilFunc, 8, .other⟩ := by kernel_rfl
@[go_sem] theorem tv71 : tv Try.prog 71 = some ⟨1, false, .nilFunc, 8, .other⟩ := by kernel_rfl
@[go_sem] theorem tv72 : tv Try.prog 72 = some ⟨1, false, .slice none 0 0, 24, .slice 74⟩ := by kernel_rfl
@[go_sem] theorem tv73 : tv Try.prog 73 = some ⟨4, true, .agg #[.int .i64 0, .int .i64 0, .int .i64 0, .int .i64 0], 32, .struct [(0, 3), (1, 50)]⟩ := by kernel_rfl
@[go_sem] theorem tv74 : tv Try.prog 74 = some ⟨4, true, .agg #[.int .i64 0, .int .i64 0, .int .i64 0, .int .i64 0], 32, .struct [(0, 3), (1, 50)]⟩ := by kernel_rfl
@[go_sem] theorem tv75 : tv Try.prog 75 = some ⟨1, false, .nilFunc, 8, .other⟩ := by kernel_rfl
@[go_sem] theorem tv76 : tv Try.prog 76 = some ⟨1, false, .nilFunc, 8, .other⟩ := by kernel_rfl
@[go_sem] theorem tv77 : tv Try.prog 77 = some ⟨1, false, .nilFunc, 8, .other⟩ := by kernel_rfl
@[go_sem] theorem tv78 : tv Try.prog 78 = some ⟨1, false, .nilFunc, 8, .other⟩ := by kernel_rfl
@[go_sem] theorem tv79 : tv Try.prog 79 = some ⟨1, false, .nilFunc, 8, .other⟩ := by kernel_rfl
@[go_sem] theorem tv80 : tv Try.prog 80 = some ⟨1, false, .nilFunc, 8, .other⟩ := by kernel_rfl
@[go_sem] theorem tv81 : tv Try.prog 81 = some ⟨1, false, .nilFunc, 8, .other⟩ := by kernel_rfl
@[go_sem] theorem tv82 : tv Try.prog 82 = some ⟨1, false, .nilFunc, 8, .other⟩ := by kernel_rfl
@[go_sem] theorem tv83 : tv Try.prog 83 = some ⟨1, false, .nilFunc, 8, .other⟩ := by kernel_rfl
@[go_sem] theorem tv84 : tv Try.prog 84 = some ⟨1, false, .nilFunc, 8, .other⟩ := by kernel_rfl
@[go_sem] theorem tv85 : tv Try.prog 85 = some ⟨5, true, .agg #[.int .i64 0, .int .i64 0, .int .i64 0, .int .i64 0, .int .i64 0], 40, .struct [(0, 3), (1, 3), (2, 3), (3, 3), (4, 3)]⟩ := by kernel_rfl
@[go_sem] theorem tv86 : tv Try.prog 86 = some ⟨1, false, .slice none 0 0, 24, .slice 84⟩ := by kernel_rfl
@[go_sem] theorem tv87 : tv Try.prog 87 = some ⟨1, false, .nilFunc, 8, .other⟩ := by kernel_rfl
@[go_sem] theorem tv88 : tv Try.prog 88 = some ⟨6, true, .agg #[.int .i64 0, .int .i64 0, .int .i64 0, .int .i64 0, .int .i64 0, .bool false], 48, .struct [(0, 3), (1, 3), (2, 3), (3, 3), (4, 3), (5, 4)]⟩ := by kernel_rfl
@[go_sem] theorem tv89 : tv Try.prog 89 = some ⟨1, false, .nilFunc, 8, .other⟩ := by kernel_rfl
@[go_sem] theorem tv90 : tv Try.prog 90 = some ⟨1, false, .nilFunc, 8, .other⟩ := by kernel_rfl
@[go_sem] theorem tv91 : tv Try.prog 91 = some ⟨1, false, .nilFunc, 8, .other⟩ := by kernel_rfl
@[go_sem] theorem tv92 : tv Try.prog 92 = some ⟨1, false, .nilFunc, 8, .other⟩ := by kernel_rfl
@[go_sem] theorem tv93 : tv Try.prog 93 = some ⟨1, false, .nilFunc, 8, .other⟩ := by kernel_rfl
@[go_sem] theorem tv94 : tv Try.prog 94 = some ⟨1, false, .nilFunc, 8, .other⟩ := by kernel_rfl
@[go_sem] theorem tv95 : tv Try.prog 95 = some ⟨1, false, .nilFunc, 8, .other⟩ := by kernel_rfl
@[go_sem] theorem tv96 : tv Try.prog 96 = some ⟨1, false, .nilFunc, 8, .other⟩ := by kernel_rfl
@[go_sem] theorem tv97 : tv Try.prog 97 = some ⟨1, false, .nilFunc, 8, .other⟩ := by kernel_rfl
@[go_sem] theorem tv98 : tv Try.prog 98 = some ⟨1, false, .pointer none, 8, .other⟩ := by kernel_rfl
@[go_sem] theorem tv99 : tv Try.prog 99 = some ⟨1, false, .nilFunc, 8, .other⟩ := by kernel_rfl
@[go_sem] theorem tv100 : tv Try.prog 100 = some ⟨1, false, .nilFunc, 8, .other⟩ := by kernel_rfl
@[go_sem] theorem tv101 : tv Try.prog 101 = some ⟨1, false, .nilFunc, 8, .other⟩ := by kernel_rfl
@[go_sem] theorem tv102 : tv Try.prog 102 = some ⟨1, false, .nilFunc, 8, .other⟩ := by kernel_rfl
@[go_sem] theorem tv103 : tv Try.prog 103 = some ⟨1, false, .nilFunc, 8, .other⟩ := by kernel_rfl
@[go_sem] theorem tv104 : tv Try.prog 104 = some ⟨1, false, .nilFunc, 8, .other⟩ := by kernel_rfl
@[go_sem] theorem tv105 : tv Try.prog 105 = some ⟨1, false, .nilFunc, 8, .other⟩ := by kernel_rfl
@[go_sem] theorem tv106 : tv Try.prog 106 = some ⟨1, false, .nilFunc, 8, .other⟩ := by kernel_rfl
@[go_sem] theorem tv107 : tv Try.prog 107 = some ⟨1, false, .nilFunc, 8, .other⟩ := by kernel_rfl
@[go_sem] theorem tv109 : tv Try.prog 109 = some ⟨1, false, .nilFunc, 8, .other⟩ := by kernel_rfl
@[go_sem] theorem tv110 : tv Try.prog 110 = some ⟨1, false, .nilFunc, 8, .other⟩ := by kernel_rfl
@[go_sem] theorem tv111 : tv Try.prog 111 = some ⟨1, false, .nilFunc, 8, .other⟩ := by kernel_rfl
@[go_sem] theorem tv112 : tv Try.prog 112 = some ⟨1, false, .pointer none, 8, .other⟩ := by kernel_rfl
@[go_sem] theorem tv113 : tv Try.prog 113 = some ⟨6, true, .agg #[.nilFunc, .nilFunc, .nilFunc, .nilFunc, .nilFunc, .nilFunc], 48, .array 6 110⟩ := by kernel_rfl
@[go_sem] theorem tv114 : tv Try.prog 114 = some ⟨1, false, .nilFunc, 8, .other⟩ := by kernel_rfl
@[go_sem] theorem tv115 : tv Try.prog 115 = some ⟨1, false, .map none, 8, .other⟩ := by kernel_rfl
@[go_sem] theorem tv116 : tv Try.prog 116 = some ⟨1, false, .nilFunc, 8, .other⟩ := by kernel_rfl
@[go_sem] theorem tv118 : tv Try.prog 118 = some ⟨1, false, .nilFunc, 8, .other⟩ := by kernel_rfl
@[go_sem] theorem tv119 : tv Try.prog 119 = some ⟨1, false, .nilFunc, 8, .other⟩ := by kernel_rfl
@[go_sem] theorem tv120 : tv Try.prog 120 = some ⟨1, false, .nilFunc, 8, .other⟩ := by kernel_rfl
@[go_sem] theorem tv121 : tv Try.prog 121 = some ⟨1, false, .nilFunc, 8, .other⟩ := by kernel_rfl
@[go_sem] theorem tv122 : tv Try.prog 122 = some ⟨1, false, .nilFunc, 8, .other⟩ := by kernel_rfl
@[go_sem] theorem tv123 : tv Try.prog 123 = some ⟨1, false, .nilFunc, 8, .other⟩ := by kernel_rfl
@[go_sem] theorem tv124 : tv Try.prog 124 = some ⟨1, false, .nilFunc, 8, .other⟩ := by kernel_rfl
@[go_sem] theorem tv125 : tv Try.prog 125 = some ⟨1, false, .int .u64 0, 8, .other⟩ := by kernel_rfl
@[go_sem] theorem tv126 : tv Try.prog 126 = some ⟨1, false, .nilFunc, 8, .other⟩ := by kernel_rfl
@[go_sem] theorem tv127 : tv Try.prog 127 = some ⟨1, true, .agg #[.nilFunc], 8, .struct [(0, 126)]⟩ := by kernel_rfl
@[go_sem] theorem tv128 : tv Try.prog 128 = some ⟨1, true, .agg #[.nilFunc], 8, .struct [(0, 126)]⟩ := by kernel_rfl
@[go_sem] theorem tv129 : tv Try.prog 129 = some ⟨1, false, .nilFunc, 8, .other⟩ := by kernel_rfl
@[go_sem] theorem tv130 : tv Try.prog 130 = some ⟨1, false, .nilFunc, 8, .other⟩ := by kernel_rfl
@[go_sem] theorem tv131 : tv Try.prog 131 = some ⟨1, false, .int .i64 0, 8, .other⟩ := by kernel_rfl
@[go_sem] theorem tv133 : tv Try.prog 133 = some ⟨1, false, .nilFunc, 8, .other⟩ := by kernel_rfl
@[go_sem] theorem tv134 : tv Try.prog 134 = some ⟨1, false, .nilFunc, 8, .other⟩ := by kernel_rfl
@[go_sem] theorem tv135 : tv Try.prog 135 = some ⟨1, false, .nilFunc, 8, .other⟩ := by kernel_rfl
@[go_sem] theorem tv136 : tv Try.prog 136 = some ⟨1, false, .nilFunc, 8, .other⟩ := by kernel_rfl
@[go_sem] theorem tv137 : tv Try.prog 137 = some ⟨1, false, .nilFunc, 8, .other⟩ := by kernel_rfl
@[go_sem] theorem tv138 : tv Try.prog 138 = some ⟨1, false, .int .u32 0, 4, .other⟩ := by kernel_rfl
@[go_sem] theorem tv139 : tv Try.prog 139 = some ⟨1, false, .nilFunc, 8, .other⟩ := by kernel_rfl
@[go_sem] theorem tv140 : tv Try.prog 140 = some ⟨1, false, .int .u64 0, 8, .other⟩ := by kernel_rfl
@[go_sem] theorem tv142 : tv Try.prog 142 = some ⟨1, false, .nilFunc, 8, .other⟩ := by kernel_rfl
@[go_sem] theorem tv143 : tv Try.prog 143 = some ⟨1, false, .nilFunc, 8, .other⟩ := by kernel_rfl
@[go_sem] theorem tv144 : tv Try.prog 144 = some ⟨1, false, .int .u64 0, 8, .other⟩ := by kernel_rfl
@[go_sem] theorem tv145 : tv Try.prog 145 = some ⟨1, false, .nilFunc, 8, .other⟩ := by kernel_rfl
@[go_sem] theorem tv146 : tv Try.prog 146 = some ⟨1, false, .nilFunc, 8, .other⟩ := by kernel_rfl
@[go_sem] theorem tv147 : tv Try.prog 147 = some ⟨1, false, .nilFunc, 8, .other⟩ := by kernel_rfl
@[go_sem] theorem tv148 : tv Try.prog 148 = some ⟨1, false, .pointer none, 8, .other⟩ := by kernel_rfl
@[go_sem] theorem tv149 : tv Try.prog 149 = some ⟨1, false, .nilFunc, 8, .other⟩ := by kernel_rfl
@[go_sem] theorem tv150 : tv Try.prog 150 = some ⟨1, false, .nilIface, 16, .other⟩ := by kernel_rfl
@[go_sem] theorem tv151 : tv Try.prog 151 = some ⟨1, false, .nilIface, 16, .other⟩ := by kernel_rfl
@[go_sem] theorem tv152 : tv Try.prog 152 = some ⟨1, false, .pointer none, 8, .other⟩ := by kernel_rfl
@[go_sem] theorem tv154 : tv Try.prog 154 = some ⟨1, false, .nilFunc, 8, .other⟩ := by kernel_rfl
@[go_sem] theorem tv155 : tv Try.prog 155 = some ⟨1, false, .nilFunc, 8, .other⟩ := by kernel_rfl
@[go_sem] theorem tv156 : tv Try.prog 156 = some ⟨4, true, .agg #[.pointer none, .pointer none, .pointer none, .string ⟨#[]⟩], 40, .struct [(0, 17), (1, 17), (2, 17), (3, 9)]⟩ := by kernel_rfl
@[go_sem] theorem tv157 : tv Try.prog 157 = some ⟨4, true, .agg #[.pointer none, .pointer none, .pointer none, .string ⟨#[]⟩], 40, .struct [(0, 17), (1, 17), (2, 17), (3, 9)]⟩ := by kernel_rfl
@[go_sem] theorem tv158 : tv Try.prog 158 = some ⟨0, true, .agg #[], 0, .array 0 16⟩ := by kernel_rfl
@[go_sem] theorem tv159 : tv Try.prog 159 = some ⟨0, true, .agg #[], 0, .struct [(0, 158)]⟩ := by kernel_rfl
@[go_sem] theorem tv160 : tv Try.prog 160 = some ⟨0, true, .agg #[], 0, .struct [(0, 158)]⟩ := by kernel_rfl
@[go_sem] theorem tv161 : tv Try.prog 161 = some ⟨1, false, .nilFunc, 8, .other⟩ := by kernel_rfl
@[go_sem] theorem tv162 : tv Try.prog 162 = some ⟨1, false, .int .u8 0, 1, .other⟩ := by kernel_rfl
@[go_sem] theorem tv163 : tv Try.prog 163 = some ⟨1, false, .int .u8 0, 1, .other⟩ := by kernel_rfl
@[go_sem] theorem tv164 : tv Try.prog 164 = some ⟨1, false, .nilFunc, 8, .other⟩ := by kernel_rfl
@[go_sem] theorem tv165 : tv Try.prog 165 = some ⟨1, false, .pointer none, 8, .other⟩ := by kernel_rfl
@[go_sem] theorem tv166 : tv Try.prog 166 = some ⟨1, false, .int .i32 0, 4, .other⟩ := by kernel_rfl
@[go_sem] theorem tv167 : tv Try.prog 167 = some ⟨1, false, .int .i32 0, 4, .other⟩ := by kernel_rfl
@[go_sem] theorem tv168 : tv Try.prog 168 = some ⟨11, true, .agg #[.int .u64 0, .int .u64 0, .int .u32 0, .int .u8 0, .int .u8 0, .int .u8 0, .int .u8 0, .nilFunc, .pointer none, .int .i32 0, .int .i32 0], 48, .struct [(0, 12), (1, 12), (2, 138), (3, 162), (4, 5), (5, 5), (6, 163), (7, 164), (8, 165), (9, 166), (10, 167)]⟩ := by kernel_rfl
@[go_sem] theorem tv169 : tv Try.prog 169 = some ⟨11, true, .agg #[.int .u64 0, .int .u64 0, .int .u32 0, .int .u8 0, .int .u8 0, .int .u8 0, .int .u8 0, .nilFunc, .pointer none, .int .i32 0, .int .i32 0], 48, .struct [(0, 12), (1, 12), (2, 138), (3, 162), (4, 5), (5, 5), (6, 163), (7, 164), (8, 165), (9, 166), (10, 167)]⟩ := by kernel_rfl
theorem cl2 : Callable Try.prog 2 := callable_of Try.func2 (by kernel_rfl) (by kernel_rfl)
theorem cl3 : Callable Try.prog 3 := callable_of Try.func3 (by kernel_rfl) (by kernel_rfl)
theorem cl4 : Callable Try.prog 4 := callable_of Try.func4 (by kernel_rfl) (by kernel_rfl)
theorem cl5 : Callable Try.prog 5 := callable_of Try.func5 (by kernel_rfl) (by kernel_rfl)
theorem cl6 : Callable Try.prog 6 := callable_of Try.func6 (by kernel_rfl) (by kernel_rfl)
theorem cl7 : Callable Try.prog 7 := callable_of Try.func7 (by kernel_rfl) (by kernel_rfl)
theorem cl8 : Callable Try.prog 8 := callable_of Try.func8 (by kernel_rfl) (by kernel_rfl)
theorem cl9 : Callable Try.prog 9 := callable_of Try.func9 (by kernel_rfl) (by kernel_rfl)
theorem cl10 : Callable Try.prog 10 := callable_of Try.func10 (by kernel_rfl) (by kernel_rfl)
theorem cl11 : Callable Try.prog 11 := callable_of Try.func11 (by kernel_rfl) (by kernel_rfl)
theorem cl12 : Callable Try.prog 12 := callable_of Try.func12 (by kernel_rfl) (by kernel_rfl)
theorem cl13 : Callable Try.prog 13 := callable_of Try.func13 (by kernel_rfl) (by kernel_rfl)
theorem cl14 : Callable Try.prog 14 := callable_of Try.func14 (by kernel_rfl) (by kernel_rfl)
theorem cl15 : Callable Try.prog 15 := callable_of Try.func15 (by kernel_rfl) (by kernel_rfl)
theorem cl16 : Callable Try.prog 16 := callable_of Try.func16 (by kernel_rfl) (by kernel_rfl)
theorem cl17 : Callable Try.prog 17 := callable_of Try.func17 (by kernel_rfl) (by kernel_rfl)
theorem cl18 : Callable Try.prog 18 := callable_of Try.func18 (by kernel_rfl) (by kernel_rfl)
theorem cl19 : Callable Try.prog 19 := callable_of Try.func19 (by kernel_rfl) (by kernel_rfl)
theorem cl20 : Callable Try.prog 20 := callable_of Try.func20 (by kernel_rfl) (by kernel_rfl)
theorem cl21 : Callable Try.prog 21 := callable_of Try.func21 (by kernel_rfl) (by kernel_rfl)
theorem cl22 : Callable Try.prog 22 := callable_of Try.func22 (by kernel_rfl) (by kernel_rfl)
theorem cl23 : Callable Try.prog 23 := callable_of Try.func23 (by kernel_rfl) (by kernel_rfl)
theorem cl24 : Callable Try.prog 24 := callable_of Try.func24 (by kernel_rfl) (by kernel_rfl)
theorem cl25 : Callable Try.prog 25 := callable_of Try.func25 (by kernel_rfl) (by kernel_rfl)
theorem cl26 : Callable Try.prog 26 := callable_of Try.func26 (by kernel_rfl) (by kernel_rfl)
theorem cl27 : Callable Try.prog 27 := callable_of Try.func27 (by kernel_rfl) (by kernel_rfl)
theorem cl28 : Callable Try.prog 28 := callable_of Try.func28 (by kernel_rfl) (by kernel_rfl)
theorem cl29 : Callable Try.prog 29 := callable_of Try.func29 (by kernel_rfl) (by kernel_rfl)
theorem cl30 : Callable Try.prog 30 := callable_of Try.func30 (by kernel_rfl) (by kernel_rfl)
theorem cl31 : Callable Try.prog 31 := callable_of Try.func31 (by kernel_rfl) (by kernel_rfl)
theorem cl32 : Callable Try.prog 32 := callable_of Try.func32 (by kernel_rfl) (by kernel_rfl)
theorem cl33 : Callable Try.prog 33 := callable_of Try.func33 (by kernel_rfl) (by kernel_rfl)
theorem cl34 : Callable Try.prog 34 := callable_of Try.func34 (by kernel_rfl) (by kernel_rfl)
theorem cl35 : Callable Try.prog 35 := callable_of Try.func35 (by kernel_rfl) (by kernel_rfl)
theorem cl36 : Callable Try.prog 36 := callable_of Try.func36 (by kernel_rfl) (by kernel_rfl)
theorem cl37 : Callable Try.prog 37 := callable_of Try.func37 (by kernel_rfl) (by kernel_rfl)
theorem cl38 : Callable Try.prog 38 := callable_of Try.func38 (by kernel_rfl) (by kernel_rfl)
theorem cl39 : Callable Try.prog 39 := callable_of Try.func39 (by kernel_rfl) (by kernel_rfl)
theorem cl40 : Callable Try.prog 40 := callable_of Try.func40 (by kernel_rfl) (by kernel_rfl)
theorem cl41 : Callable Try.prog 41 := callable_of Try.func41 (by kernel_rfl) (by kernel_rfl)
theorem cl42 : Callable Try.prog 42 := callable_of Try.func42 (by kernel_rfl) (by kernel_rfl)
theorem cl43 : Callable Try.prog 43 := callable_of Try.func43 (by kernel_rfl) (by kernel_rfl)
theorem cl44 : Callable Try.prog 44 := callable_of Try.func44 (by kernel_rfl) (by kernel_rfl)
theorem cl45 : Callable Try.prog 45 := callable_of Try.func45 (by kernel_rfl) (by kernel_rfl)
theorem cl46 : Callable Try.prog 46 := callable_of Try.func46 (by kernel_rfl) (by kernel_rfl)
theorem cl47 : Callable Try.prog 47 := callable_of Try.func47 (by kernel_rfl) (by kernel_rfl)
theorem cl48 : Callable Try.prog 48 := callable_of Try.func48 (by kernel_rfl) (by kernel_rfl)
theorem cl49 : Callable Try.prog 49 := callable_of Try.func49 (by kernel_rfl) (by kernel_rfl)
theorem cl50 : Callable Try.prog 50 := callable_of Try.func50 (by kernel_rfl) (by kernel_rfl)
theorem cl51 : Callable Try.prog 51 := callable_of Try.func51 (by kernel_rfl) (by kernel_rfl)
theorem cl52 : Callable Try.prog 52 := callable_of Try.func52 (by kernel_rfl) (by kernel_rfl)
theorem cl53 : Callable Try.prog 53 := callable_of Try.func53 (by kernel_rfl) (by kernel_rfl)
theorem cl54 : Callable Try.prog 54 := callable_of Try.func54 (by kernel_rfl) (by kernel_rfl)
theorem cl55 : Callable Try.prog 55 := callable_of Try.func55 (by kernel_rfl) (by kernel_rfl)
theorem cl56 : Callable Try.prog 56 := callable_of Try.func56 (by kernel_rfl) (by kernel_rfl)
theorem cl57 : Callable Try.prog 57 := callable_of Try.func57 (by kernel_rfl) (by kernel_rfl)
theorem cl58 : Callable Try.prog 58 := callable_of Try.func58 (by kernel_rfl) (by kernel_rfl)
theorem cl59 : Callable Try.prog 59 := callable_of Try.func59 (by kernel_rfl) (by kernel_rfl)
theorem cl60 : Callable Try.prog 60 := callable_of Try.func60 (by kernel_rfl) (by kernel_rfl)
theorem cl61 : Callable Try.prog 61 := callable_of Try.func61 (by kernel_rfl) (by kernel_rfl)
theorem cl62 : Callable Try.prog 62 := callable_of Try.func62 (by kernel_rfl) (by kernel_rfl)
theorem cl63 : Callable Try.prog 63 := callable_of Try.func63 (by kernel_rfl) (by kernel_rfl)
theorem cl64 : Callable Try.prog 64 := callable_of Try.func64 (by kernel_rfl) (by kernel_rfl)
theorem cl65 : Callable Try.prog 65 := callable_of Try.func65 (by kernel_rfl) (by kernel_rfl)
theorem cl66 : Callable Try.prog 66 := callable_of Try.func66 (by kernel_rfl) (by kernel_rfl)
theorem cl67 : Callable Try.prog 67 := callable_of Try.func67 (by kernel_rfl) (by kernel_rfl)
theorem cl68 : Callable Try.prog 68 := callable_of Try.func68 (by kernel_rfl) (by kernel_rfl)
theorem cl69 : Callable Try.prog 69 := callable_of Try.func69 (by kernel_rfl) (by kernel_rfl)
theorem cl70 : Callable Try.prog 70 := callable_of Try.func70 (by kernel_rfl) (by kernel_rfl)
theorem cl71 : Callable Try.prog 71 := callable_of Try.func71 (by kernel_rfl) (by kernel_rfl)
theorem cl72 : Callable Try.prog 72 := callable_of Try.func72 (by kernel_rfl) (by kernel_rfl)
theorem cl73 : Callable Try.prog 73 := callable_of Try.func73 (by kernel_rfl) (by kernel_rfl)
theorem cl74 : Callable Try.prog 74 := callable_of Try.func74 (by kernel_rfl) (by kernel_rfl)
theorem cl75 : Callable Try.prog 75 := callable_of Try.func75 (by kernel_rfl) (by kernel_rfl)
theorem cl76 : Callable Try.prog 76 := callable_of Try.func76 (by kernel_rfl) (by kernel_rfl)
theorem cl77 : Callable Try.prog 77 := callable_of Try.func77 (by kernel_rfl) (by kernel_rfl)
theorem cl78 : Callable Try.prog 78 := callable_of Try.func78 (by kernel_rfl) (by kernel_rfl)
theorem cl79 : Callable Try.prog 79 := callable_of Try.func79 (by kernel_rfl) (by kernel_rfl)
theorem cl80 : Callable Try.prog 80 := callable_of Try.func80 (by kernel_rfl) (by kernel_rfl)
theorem cl81 : Callable Try.prog 81 := callable_of Try.func81 (by kernel_rfl) (by kernel_rfl)
theorem cl82 : Callable Try.prog 82 := callable_of Try.func82 (by kernel_rfl) (by kernel_rfl)
theorem cl83 : Callable Try.prog 83 := callable_of Try.func83 (by kernel_rfl) (by kernel_rfl)
theorem cl84 : Callable Try.prog 84 := callable_of Try.func84 (by kernel_rfl) (by kernel_rfl)
theorem cl85 : Callable Try.prog 85 := callable_of Try.func85 (by kernel_rfl) (by kernel_rfl)
theorem cl86 : Callable Try.prog 86 := callable_of Try.func86 (by kernel_rfl) (by kernel_rfl)
theorem cl87 : Callable Try.prog 87 := callable_of Try.func87 (by kernel_rfl) (by kernel_rfl)
theorem cl88 : Callable Try.prog 88 := callable_of Try.func88 (by kernel_rfl) (by kernel_rfl)
theorem cl89 : Callable Try.prog 89 := callable_of Try.func89 (by kernel_rfl) (by kernel_rfl)
theorem cl90 : Callable Try.prog 90 := callable_of Try.func90 (by kernel_rfl) (by kernel_rfl)
theorem cl91 : Callable Try.prog 91 := callable_of Try.func91 (by kernel_rfl) (by kernel_rfl)
theorem cl92 : Callable Try.prog 92 := callable_of Try.func92 (by kernel_rfl) (by kernel_rfl)
theorem cl93 : Callable Try.prog 93 := callable_of Try.func93 (by kernel_rfl) (by kernel_rfl)
theorem cl94 : Callable Try.prog 94 := callable_of Try.func94 (by kernel_rfl) (by kernel_rfl)
theorem cl95 : Callable Try.prog 95 := callable_of Try.func95 (by kernel_rfl) (by kernel_rfl)
theorem cl96 : Callable Try.prog 96 := callable_of Try.func96 (by kernel_rfl) (by kernel_rfl)
theorem cl97 : Callable Try.prog 97 := callable_of Try.func97 (by kernel_rfl) (by kernel_rfl)
theorem cl98 : Callable Try.prog 98 := callable_of Try.func98 (by kernel_rfl) (by kernel_rfl)
theorem cl99 : Callable Try.prog 99 := callable_of Try.func99 (by kernel_rfl) (by kernel_rfl)
theorem cl100 : Callable Try.prog 100 := callable_of Try.func100 (by kernel_rfl) (by kernel_rfl)
theorem cl101 : Callable Try.prog 101 := callable_of Try.func101 (by kernel_rfl) (by kernel_rfl)
theorem cl102 : Callable Try.prog 102 := callable_of Try.func102 (by kernel_rfl) (by kernel_rfl)
theorem cl103 : Callable Try.prog 103 := callable_of Try.func103 (by kernel_rfl) (by kernel_rfl)
theorem cl104 : Callable Try.prog 104 := callable_of Try.func104 (by kernel_rfl) (by kernel_rfl)
theorem cl105 : Callable Try.prog 105 := callable_of Try.func105 (by kernel_rfl) (by kernel_rfl)
theorem cl106 : Callable Try.prog 106 := callable_of Try.func106 (by kernel_rfl) (by kernel_rfl)
theorem cl107 : Callable Try.prog 107 := callable_of Try.func107 (by kernel_rfl) (by kernel_rfl)
theorem cl108 : Callable Try.prog 108 := callable_of Try.func108 (by kernel_rfl) (by kernel_rfl)
theorem cl109 : Callable Try.prog 109 := callable_of Try.func109 (by kernel_rfl) (by kernel_rfl)
theorem cl110 : Callable Try.prog 110 := callable_of Try.func110 (by kernel_rfl) (by kernel_rfl)
theorem cl111 : Callable Try.prog 111 := callable_of Try.func111 (by kernel_rfl) (by kernel_rfl)
theorem cl112 : Callable Try.prog 112 := callable_of Try.func112 (by kernel_rfl) (by kernel_rfl)
theorem cl113 : Callable Try.prog 113 := callable_of Try.func113 (by kernel_rfl) (by kernel_rfl)
theorem cl114 : Callable Try.prog 114 := callable_of Try.func114 (by kernel_rfl) (by kernel_rfl)
theorem cl115 : Callable Try.prog 115 := callable_of Try.func115 (by kernel_rfl) (by kernel_rfl)
theorem cl116 : Callable Try.prog 116 := callable_of Try.func116 (by kernel_rfl) (by kernel_rfl)
theorem cl117 : Callable Try.prog 117 := callable_of Try.func117 (by kernel_rfl) (by kernel_rfl)
theorem cl118 : Callable Try.prog 118 := callable_of Try.func118 (by kernel_rfl) (by kernel_rfl)
theorem cl119 : Callable Try.prog 119 := callable_of Try.func119 (by kernel_rfl) (by kernel_rfl)
theorem cl120 : Callable Try.prog 120 := callable_of Try.func120 (by kernel_rfl) (by kernel_rfl)
theorem cl121 : Callable Try.prog 121 := callable_of Try.func121 (by kernel_rfl) (by kernel_rfl)
theorem cl122 : Callable Try.prog 122 := callable_of Try.func122 (by kernel_rfl) (by kernel_rfl)
theorem cl123 : Callable Try.prog 123 := callable_of Try.func123 (by kernel_rfl) (by kernel_rfl)
theorem cl124 : Callable Try.prog 124 := callable_of Try.func124 (by kernel_rfl) (by kernel_rfl)
theorem cl125 : Callable Try.prog 125 := callable_of Try.func125 (by kernel_rfl) (by kernel_rfl)
theorem mixed : Try.prog.follows .mixedOrders = true := by kernel_rfl
end Go.Proofs.Ytjplhfmakghabaa.V
