/- The types of the program, as the engine has them. -/
import Derived.Test.YtpaooephkpjkfaaKE3
import Derived.Test.YtpaooephkpjkfaaChecked
import Derived.ProofKit
set_option linter.unusedSimpArgs false
set_option linter.unusedVariables false
set_option linter.unnecessarySimpa false
namespace Go.Proofs.Ytpaooephkpjkfaa
open Go.RowKit
@[go_sem] theorem tin1 : tin Try.prog 1 = some ⟨.func, 1, 8, some .nilFunc⟩ := by kernel_rfl
@[go_sem] theorem tin2 : tin Try.prog 2 = some ⟨(.int .i64), 1, 8, some (.int .i64 0)⟩ := by kernel_rfl
@[go_sem] theorem tin3 : tin Try.prog 3 = some ⟨(.int .i64), 1, 8, some (.int .i64 0)⟩ := by kernel_rfl
@[go_sem] theorem tin4 : tin Try.prog 4 = some ⟨.bool, 1, 1, some (.bool false)⟩ := by kernel_rfl
@[go_sem] theorem tin5 : tin Try.prog 5 = some ⟨(.int .u8), 1, 1, some (.int .u8 0)⟩ := by kernel_rfl
@[go_sem] theorem tin6 : tin Try.prog 6 = some ⟨(.int .u8), 1, 1, some (.int .u8 0)⟩ := by kernel_rfl
@[go_sem] theorem tin7 : tin Try.prog 7 = some ⟨(.st [(2, 0), (3, 1), (4, 2), (6, 3)]), 4, 24, some (.agg #[(.int .i64 0), (.int .i64 0), (.bool false), (.int .u8 0)])⟩ := by kernel_rfl
@[go_sem] theorem tin8 : tin Try.prog 8 = some ⟨(.st [(2, 0), (3, 1), (4, 2), (6, 3)]), 4, 24, some (.agg #[(.int .i64 0), (.int .i64 0), (.bool false), (.int .u8 0)])⟩ := by kernel_rfl
@[go_sem] theorem tin9 : tin Try.prog 9 = some ⟨.str, 1, 16, some (.string ByteArray.empty)⟩ := by kernel_rfl
@[go_sem] theorem tin10 : tin Try.prog 10 = some ⟨.str, 1, 16, some (.string ByteArray.empty)⟩ := by kernel_rfl
@[go_sem] theorem tin11 : tin Try.prog 11 = some ⟨.str, 1, 16, some (.string ByteArray.empty)⟩ := by kernel_rfl
@[go_sem] theorem tin12 : tin Try.prog 12 = some ⟨(.int .u64), 1, 8, some (.int .u64 0)⟩ := by kernel_rfl
@[go_sem] theorem tin13 : tin Try.prog 13 = some ⟨(.st [(9, 0), (12, 1)]), 2, 24, some (.agg #[(.string ByteArray.empty), (.int .u64 0)])⟩ := by kernel_rfl
@[go_sem] theorem tin14 : tin Try.prog 14 = some ⟨(.st [(9, 0), (12, 1)]), 2, 24, some (.agg #[(.string ByteArray.empty), (.int .u64 0)])⟩ := by kernel_rfl
@[go_sem] theorem tin15 : tin Try.prog 15 = some ⟨(.ptr 126), 1, 8, some (.pointer none)⟩ := by kernel_rfl
@[go_sem] theorem tin16 : tin Try.prog 16 = some ⟨(.ptr 129), 1, 8, some (.pointer none)⟩ := by kernel_rfl
@[go_sem] theorem tin17 : tin Try.prog 17 = some ⟨(.ptr 138), 1, 8, some (.pointer none)⟩ := by kernel_rfl
@[go_sem] theorem tin18 : tin Try.prog 18 = some ⟨(.st [(17, 0)]), 1, 8, some (.agg #[(.pointer none)])⟩ := by kernel_rfl
@[go_sem] theorem tin19 : tin Try.prog 19 = some ⟨(.st [(17, 0)]), 1, 8, some (.agg #[(.pointer none)])⟩ := by kernel_rfl
@[go_sem] theorem tin20 : tin Try.prog 20 = some ⟨.other, 1, 16, some .nilIface⟩ := by kernel_rfl
@[go_sem] theorem tin21 : tin Try.prog 21 = some ⟨(.int .i32), 1, 4, some (.int .i32 0)⟩ := by kernel_rfl
@[go_sem] theorem tin22 : tin Try.prog 22 = some ⟨(.sl 37), 1, 24, some (.slice none 0 0)⟩ := by kernel_rfl
@[go_sem] theorem tin23 : tin Try.prog 23 = some ⟨.func, 1, 8, some .nilFunc⟩ := by kernel_rfl
@[go_sem] theorem tin24 : tin Try.prog 24 = some ⟨(.sl 41), 1, 24, some (.slice none 0 0)⟩ := by kernel_rfl
@[go_sem] theorem tin25 : tin Try.prog 25 = some ⟨(.st [(2, 0), (2, 1), (24, 2), (2, 3)]), 4, 48, some (.agg #[(.int .i64 0), (.int .i64 0), (.slice none 0 0), (.int .i64 0)])⟩ := by kernel_rfl
@[go_sem] theorem tin26 : tin Try.prog 26 = some ⟨(.st [(2, 0), (2, 1), (24, 2), (2, 3)]), 4, 48, some (.agg #[(.int .i64 0), (.int .i64 0), (.slice none 0 0), (.int .i64 0)])⟩ := by kernel_rfl
@[go_sem] theorem tin27 : tin Try.prog 27 = some ⟨.func, 1, 8, some .nilFunc⟩ := by kernel_rfl
@[go_sem] theorem tin28 : tin Try.prog 28 = some ⟨.func, 1, 8, some .nilFunc⟩ := by kernel_rfl
@[go_sem] theorem tin29 : tin Try.prog 29 = some ⟨.func, 1, 8, some .nilFunc⟩ := by kernel_rfl
@[go_sem] theorem tin30 : tin Try.prog 30 = some ⟨.func, 1, 8, some .nilFunc⟩ := by kernel_rfl
@[go_sem] theorem tin31 : tin Try.prog 31 = some ⟨.func, 1, 8, some .nilFunc⟩ := by kernel_rfl
@[go_sem] theorem tin32 : tin Try.prog 32 = some ⟨.func, 1, 8, some .nilFunc⟩ := by kernel_rfl
@[go_sem] theorem tin33 : tin Try.prog 33 = some ⟨.func, 1, 8, some .nilFunc⟩ := by kernel_rfl
@[go_sem] theorem tin34 : tin Try.prog 34 = some ⟨.func, 1, 8, some .nilFunc⟩ := by kernel_rfl
@[go_sem] theorem tin35 : tin Try.prog 35 = some ⟨(.sl 67), 1, 24, some (.slice none 0 0)⟩ := by kernel_rfl
@[go_sem] theorem tin36 : tin Try.prog 36 = some ⟨(.st [(2, 0), (2, 1), (35, 2)]), 3, 40, some (.agg #[(.int .i64 0), (.int .i64 0), (.slice none 0 0)])⟩ := by kernel_rfl
@[go_sem] theorem tin37 : tin Try.prog 37 = some ⟨(.st [(2, 0), (2, 1), (35, 2)]), 3, 40, some (.agg #[(.int .i64 0), (.int .i64 0), (.slice none 0 0)])⟩ := by kernel_rfl
@[go_sem] theorem tin38 : tin Try.prog 38 = some ⟨(.sl 2), 1, 24, some (.slice none 0 0)⟩ := by kernel_rfl
@[go_sem] theorem tin39 : tin Try.prog 39 = some ⟨(.sl 50), 1, 24, some (.slice none 0 0)⟩ := by kernel_rfl
@[go_sem] theorem tin40 : tin Try.prog 40 = some ⟨(.st [(2, 0), (2, 1), (39, 2)]), 3, 40, some (.agg #[(.int .i64 0), (.int .i64 0), (.slice none 0 0)])⟩ := by kernel_rfl
@[go_sem] theorem tin41 : tin Try.prog 41 = some ⟨(.st [(2, 0), (2, 1), (39, 2)]), 3, 40, some (.agg #[(.int .i64 0), (.int .i64 0), (.slice none 0 0)])⟩ := by kernel_rfl
@[go_sem] theorem tin42 : tin Try.prog 42 = some ⟨.func, 1, 8, some .nilFunc⟩ := by kernel_rfl
@[go_sem] theorem tin43 : tin Try.prog 43 = some ⟨.func, 1, 8, some .nilFunc⟩ := by kernel_rfl
@[go_sem] theorem tin44 : tin Try.prog 44 = some ⟨.func, 1, 8, some .nilFunc⟩ := by kernel_rfl
@[go_sem] theorem tin45 : tin Try.prog 45 = some ⟨.func, 1, 8, some .nilFunc⟩ := by kernel_rfl
@[go_sem] theorem tin46 : tin Try.prog 46 = some ⟨.func, 1, 8, some .nilFunc⟩ := by kernel_rfl
@[go_sem] theorem tin47 : tin Try.prog 47 = some ⟨.func, 1, 8, some .nilFunc⟩ := by kernel_rfl
@[go_sem] theorem tin48 : tin Try.prog 48 = some ⟨.func, 1, 8, some .nilFunc⟩ := by kernel_rfl
@[go_sem] theorem tin49 : tin Try.prog 49 = some ⟨(.st [(2, 0), (2, 1), (9, 2), (9, 3), (2, 4)]), 5, 56, some (.agg #[(.int .i64 0), (.int .i64 0), (.string ByteArray.empty), (.string ByteArray.empty), (.int .i64 0)])⟩ := by kernel_rfl
@[go_sem] theorem tin50 : tin Try.prog 50 = some ⟨(.st [(2, 0), (2, 1), (9, 2), (9, 3), (2, 4)]), 5, 56, some (.agg #[(.int .i64 0), (.int .i64 0), (.string ByteArray.empty), (.string ByteArray.empty), (.int .i64 0)])⟩ := by kernel_rfl
@[go_sem] theorem tin51 : tin Try.prog 51 = some ⟨.func, 1, 8, some .nilFunc⟩ := by kernel_rfl
@[go_sem] theorem tin52 : tin Try.prog 52 = some ⟨.func, 1, 8, some .nilFunc⟩ := by kernel_rfl
@[go_sem] theorem tin53 : tin Try.prog 53 = some ⟨.func, 1, 8, some .nilFunc⟩ := by kernel_rfl
@[go_sem] theorem tin54 : tin Try.prog 54 = some ⟨.func, 1, 8, some .nilFunc⟩ := by kernel_rfl
@[go_sem] theorem tin55 : tin Try.prog 55 = some ⟨.func, 1, 8, some .nilFunc⟩ := by kernel_rfl
@[go_sem] theorem tin56 : tin Try.prog 56 = some ⟨.func, 1, 8, some .nilFunc⟩ := by kernel_rfl
@[go_sem] theorem tin58 : tin Try.prog 58 = some ⟨.func, 1, 8, some .nilFunc⟩ := by kernel_rfl
@[go_sem] theorem tin59 : tin Try.prog 59 = some ⟨.func, 1, 8, some .nilFunc⟩ := by kernel_rfl
@[go_sem] theorem tin60 : tin Try.prog 60 = some ⟨.func, 1, 8, some .nilFunc⟩ := by kernel_rfl
@[go_sem] theorem tin61 : tin Try.prog 61 = some ⟨.func, 1, 8, some .nilFunc⟩ := by kernel_rfl
@[go_sem] theorem tin62 : tin Try.prog 62 = some ⟨.func, 1, 8, some .nilFunc⟩ := by kernel_rfl
@[go_sem] theorem tin63 : tin Try.prog 63 = some ⟨.func, 1, 8, some .nilFunc⟩ := by kernel_rfl
@[go_sem] theorem tin64 : tin Try.prog 64 = some ⟨.func, 1, 8, some .nilFunc⟩ := by kernel_rfl
@[go_sem] theorem tin65 : tin Try.prog 65 = some ⟨.func, 1, 8, some .nilFunc⟩ := by kernel_rfl
@[go_sem] theorem tin66 : tin Try.prog 66 = some ⟨.func, 1, 8, some .nilFunc⟩ := by kernel_rfl
@[go_sem] theorem tin67 : tin Try.prog 67 = some ⟨(.st [(2, 0), (2, 1), (9, 2), (9, 3), (2, 4)]), 5, 56, some (.agg #[(.int .i64 0), (.int .i64 0), (.string ByteArray.empty), (.string ByteArray.empty), (.int .i64 0)])⟩ := by kernel_rfl
@[go_sem] theorem tin69 : tin Try.prog 69 = some ⟨.func, 1, 8, some .nilFunc⟩ := by kernel_rfl
@[go_sem] theorem tin70 : tin Try.prog 70 = some ⟨.func, 1, 8, some .nilFunc⟩ := by kernel_rfl
@[go_sem] theorem tin72 : tin Try.prog 72 = some ⟨.func, 1, 8, some .nilFunc⟩ := by kernel_rfl
@[go_sem] theorem tin73 : tin Try.prog 73 = some ⟨.func, 1, 8, some .nilFunc⟩ := by kernel_rfl
@[go_sem] theorem tin74 : tin Try.prog 74 = some ⟨(.sl 9), 1, 24, some (.slice none 0 0)⟩ := by kernel_rfl
@[go_sem] theorem tin75 : tin Try.prog 75 = some ⟨(.sl 77), 1, 24, some (.slice none 0 0)⟩ := by kernel_rfl
@[go_sem] theorem tin76 : tin Try.prog 76 = some ⟨(.st [(2, 0), (2, 1), (9, 2), (74, 3), (75, 4)]), 5, 80, some (.agg #[(.int .i64 0), (.int .i64 0), (.string ByteArray.empty), (.slice none 0 0), (.slice none 0 0)])⟩ := by kernel_rfl
@[go_sem] theorem tin77 : tin Try.prog 77 = some ⟨(.st [(2, 0), (2, 1), (9, 2), (74, 3), (75, 4)]), 5, 80, some (.agg #[(.int .i64 0), (.int .i64 0), (.string ByteArray.empty), (.slice none 0 0), (.slice none 0 0)])⟩ := by kernel_rfl
@[go_sem] theorem tin79 : tin Try.prog 79 = some ⟨.func, 1, 8, some .nilFunc⟩ := by kernel_rfl
@[go_sem] theorem tin80 : tin Try.prog 80 = some ⟨.func, 1, 8, some .nilFunc⟩ := by kernel_rfl
@[go_sem] theorem tin81 : tin Try.prog 81 = some ⟨.func, 1, 8, some .nilFunc⟩ := by kernel_rfl
@[go_sem] theorem tin82 : tin Try.prog 82 = some ⟨.func, 1, 8, some .nilFunc⟩ := by kernel_rfl
@[go_sem] theorem tin83 : tin Try.prog 83 = some ⟨.func, 1, 8, some .nilFunc⟩ := by kernel_rfl
@[go_sem] theorem tin84 : tin Try.prog 84 = some ⟨.func, 1, 8, some .nilFunc⟩ := by kernel_rfl
@[go_sem] theorem tin85 : tin Try.prog 85 = some ⟨(.int .u64), 1, 8, some (.int .u64 0)⟩ := by kernel_rfl
@[go_sem] theorem tin86 : tin Try.prog 86 = some ⟨.func, 1, 8, some .nilFunc⟩ := by kernel_rfl
@[go_sem] theorem tin87 : tin Try.prog 87 = some ⟨.func, 1, 8, some .nilFunc⟩ := by kernel_rfl
@[go_sem] theorem tin88 : tin Try.prog 88 = some ⟨(.sl 5), 1, 24, some (.slice none 0 0)⟩ := by kernel_rfl
@[go_sem] theorem tin89 : tin Try.prog 89 = some ⟨.func, 1, 8, some .nilFunc⟩ := by kernel_rfl
@[go_sem] theorem tin91 : tin Try.prog 91 = some ⟨.func, 1, 8, some .nilFunc⟩ := by kernel_rfl
@[go_sem] theorem tin93 : tin Try.prog 93 = some ⟨.func, 1, 8, some .nilFunc⟩ := by kernel_rfl
@[go_sem] theorem tin94 : tin Try.prog 94 = some ⟨.func, 1, 8, some .nilFunc⟩ := by kernel_rfl
@[go_sem] theorem tin96 : tin Try.prog 96 = some ⟨.func, 1, 8, some .nilFunc⟩ := by kernel_rfl
@[go_sem] theorem tin97 : tin Try.prog 97 = some ⟨.func, 1, 8, some .nilFunc⟩ := by kernel_rfl
@[go_sem] theorem tin98 : tin Try.prog 98 = some ⟨(.int .i64), 1, 8, some (.int .i64 0)⟩ := by kernel_rfl
@[go_sem] theorem tin100 : tin Try.prog 100 = some ⟨.func, 1, 8, some .nilFunc⟩ := by kernel_rfl
@[go_sem] theorem tin101 : tin Try.prog 101 = some ⟨.func, 1, 8, some .nilFunc⟩ := by kernel_rfl
@[go_sem] theorem tin102 : tin Try.prog 102 = some ⟨.func, 1, 8, some .nilFunc⟩ := by kernel_rfl
@[go_sem] theorem tin103 : tin Try.prog 103 = some ⟨.func, 1, 8, some .nilFunc⟩ := by kernel_rfl
@[go_sem] theorem tin105 : tin Try.prog 105 = some ⟨.func, 1, 8, some .nilFunc⟩ := by kernel_rfl
@[go_sem] theorem tin106 : tin Try.prog 106 = some ⟨.func, 1, 8, some .nilFunc⟩ := by kernel_rfl
@[go_sem] theorem tin107 : tin Try.prog 107 = some ⟨(.int .u32), 1, 4, some (.int .u32 0)⟩ := by kernel_rfl
@[go_sem] theorem tin108 : tin Try.prog 108 = some ⟨.func, 1, 8, some .nilFunc⟩ := by kernel_rfl
@[go_sem] theorem tin109 : tin Try.prog 109 = some ⟨(.int .u64), 1, 8, some (.int .u64 0)⟩ := by kernel_rfl
@[go_sem] theorem tin110 : tin Try.prog 110 = some ⟨.func, 1, 8, some .nilFunc⟩ := by kernel_rfl
@[go_sem] theorem tin111 : tin Try.prog 111 = some ⟨.func, 1, 8, some .nilFunc⟩ := by kernel_rfl
@[go_sem] theorem tin113 : tin Try.prog 113 = some ⟨.func, 1, 8, some .nilFunc⟩ := by kernel_rfl
@[go_sem] theorem tin115 : tin Try.prog 115 = some ⟨.func, 1, 8, some .nilFunc⟩ := by kernel_rfl
@[go_sem] theorem tin116 : tin Try.prog 116 = some ⟨(.int .u64), 1, 8, some (.int .u64 0)⟩ := by kernel_rfl
@[go_sem] theorem tin117 : tin Try.prog 117 = some ⟨.func, 1, 8, some .nilFunc⟩ := by kernel_rfl
@[go_sem] theorem tin118 : tin Try.prog 118 = some ⟨.func, 1, 8, some .nilFunc⟩ := by kernel_rfl
@[go_sem] theorem tin119 : tin Try.prog 119 = some ⟨.func, 1, 8, some .nilFunc⟩ := by kernel_rfl
@[go_sem] theorem tin120 : tin Try.prog 120 = some ⟨(.ptr 3), 1, 8, some (.pointer none)⟩ := by kernel_rfl
@[go_sem] theorem tin121 : tin Try.prog 121 = some ⟨.func, 1, 8, some .nilFunc⟩ := by kernel_rfl
@[go_sem] theorem tin122 : tin Try.prog 122 = some ⟨(.ptr 116), 1, 8, some (.pointer none)⟩ := by kernel_rfl
@[go_sem] theorem tin123 : tin Try.prog 123 = some ⟨.func, 1, 8, some .nilFunc⟩ := by kernel_rfl
@[go_sem] theorem tin124 : tin Try.prog 124 = some ⟨.func, 1, 8, some .nilFunc⟩ := by kernel_rfl
@[go_sem] theorem tin125 : tin Try.prog 125 = some ⟨(.st [(17, 0), (17, 1), (17, 2), (9, 3)]), 4, 40, some (.agg #[(.pointer none), (.pointer none), (.pointer none), (.string ByteArray.empty)])⟩ := by kernel_rfl
@[go_sem] theorem tin126 : tin Try.prog 126 = some ⟨(.st [(17, 0), (17, 1), (17, 2), (9, 3)]), 4, 40, some (.agg #[(.pointer none), (.pointer none), (.pointer none), (.string ByteArray.empty)])⟩ := by kernel_rfl
@[go_sem] theorem tin127 : tin Try.prog 127 = some ⟨.arr, 0, 0, some (.agg #[])⟩ := by kernel_rfl
@[go_sem] theorem tin128 : tin Try.prog 128 = some ⟨(.st [(127, 0)]), 0, 0, some (.agg #[])⟩ := by kernel_rfl
@[go_sem] theorem tin129 : tin Try.prog 129 = some ⟨(.st [(127, 0)]), 0, 0, some (.agg #[])⟩ := by kernel_rfl
@[go_sem] theorem tin130 : tin Try.prog 130 = some ⟨.func, 1, 8, some .nilFunc⟩ := by kernel_rfl
@[go_sem] theorem tin131 : tin Try.prog 131 = some ⟨(.int .u8), 1, 1, some (.int .u8 0)⟩ := by kernel_rfl
@[go_sem] theorem tin132 : tin Try.prog 132 = some ⟨(.int .u8), 1, 1, some (.int .u8 0)⟩ := by kernel_rfl
@[go_sem] theorem tin133 : tin Try.prog 133 = some ⟨.func, 1, 8, some .nilFunc⟩ := by kernel_rfl
@[go_sem] theorem tin134 : tin Try.prog 134 = some ⟨(.ptr 5), 1, 8, some (.pointer none)⟩ := by kernel_rfl
@[go_sem] theorem tin135 : tin Try.prog 135 = some ⟨(.int .i32), 1, 4, some (.int .i32 0)⟩ := by kernel_rfl
@[go_sem] theorem tin136 : tin Try.prog 136 = some ⟨(.int .i32), 1, 4, some (.int .i32 0)⟩ := by kernel_rfl
@[go_sem] theorem tin137 : tin Try.prog 137 = some ⟨(.st [(12, 0), (12, 1), (107, 2), (131, 3), (5, 4), (5, 5), (132, 6), (133, 7), (134, 8), (135, 9), (136, 10)]), 11, 48, some (.agg #[(.int .u64 0), (.int .u64 0), (.int .u32 0), (.int .u8 0), (.int .u8 0), (.int .u8 0), (.int .u8 0), .nilFunc, (.pointer none), (.int .i32 0), (.int .i32 0)])⟩ := by kernel_rfl
@[go_sem] theorem tin138 : tin Try.prog 138 = some ⟨(.st [(12, 0), (12, 1), (107, 2), (131, 3), (5, 4), (5, 5), (132, 6), (133, 7), (134, 8), (135, 9), (136, 10)]), 11, 48, some (.agg #[(.int .u64 0), (.int .u64 0), (.int .u32 0), (.int .u8 0), (.int .u8 0), (.int .u8 0), (.int .u8 0), .nilFunc, (.pointer none), (.int .i32 0), (.int .i32 0)])⟩ := by kernel_rfl
@[go_sem] theorem tin139 : tin Try.prog 139 = some ⟨.other, 1, 8, some (.pointer none)⟩ := by kernel_rfl
@[go_sem] theorem callable2 : callable Try.prog 2 = true := by kernel_rfl
@[go_sem] theorem callable3 : callable Try.prog 3 = true := by kernel_rfl
@[go_sem] theorem callable4 : callable Try.prog 4 = true := by kernel_rfl
@[go_sem] theorem callable5 : callable Try.prog 5 = true := by kernel_rfl
@[go_sem] theorem callable6 : callable Try.prog 6 = true := by kernel_rfl
@[go_sem] theorem callable7 : callable Try.prog 7 = true := by kernel_rfl
@[go_sem] theorem callable8 : callable Try.prog 8 = true := by kernel_rfl
@[go_sem] theorem callable9 : callable Try.prog 9 = true := by kernel_rfl
@[go_sem] theorem callable10 : callable Try.prog 10 = true := by kernel_rfl
@[go_sem] theorem callable11 : callable Try.prog 11 = true := by kernel_rfl
@[go_sem] theorem callable12 : callable Try.prog 12 = true := by kernel_rfl
@[go_sem] theorem callable13 : callable Try.prog 13 = true := by kernel_rfl
@[go_sem] theorem callable14 : callable Try.prog 14 = true := by kernel_rfl
@[go_sem] theorem callable15 : callable Try.prog 15 = true := by kernel_rfl
@[go_sem] theorem callable16 : callable Try.prog 16 = true := by kernel_rfl
@[go_sem] theorem callable17 : callable Try.prog 17 = true := by kernel_rfl
@[go_sem] theorem callable18 : callable Try.prog 18 = true := by kernel_rfl
@[go_sem] theorem callable19 : callable Try.prog 19 = true := by kernel_rfl
@[go_sem] theorem callable20 : callable Try.prog 20 = true := by kernel_rfl
@[go_sem] theorem callable21 : callable Try.prog 21 = true := by kernel_rfl
@[go_sem] theorem callable22 : callable Try.prog 22 = true := by kernel_rfl
@[go_sem] theorem callable23 : callable Try.prog 23 = true := by kernel_rfl
@[go_sem] theorem callable24 : callable Try.prog 24 = true := by kernel_rfl
@[go_sem] theorem callable25 : callable Try.prog 25 = true := by kernel_rfl
@[go_sem] theorem callable26 : callable Try.prog 26 = true := by kernel_rfl
@[go_sem] theorem callable27 : callable Try.prog 27 = true := by kernel_rfl
@[go_sem] theorem callable28 : callable Try.prog 28 = true := by kernel_rfl
@[go_sem] theorem callable29 : callable Try.prog 29 = true := by kernel_rfl
@[go_sem] theorem callable30 : callable Try.prog 30 = true := by kernel_rfl
@[go_sem] theorem callable31 : callable Try.prog 31 = true := by kernel_rfl
@[go_sem] theorem callable32 : callable Try.prog 32 = true := by kernel_rfl
@[go_sem] theorem callable33 : callable Try.prog 33 = true := by kernel_rfl
@[go_sem] theorem callable34 : callable Try.prog 34 = true := by kernel_rfl
@[go_sem] theorem callable35 : callable Try.prog 35 = true := by kernel_rfl
@[go_sem] theorem callable36 : callable Try.prog 36 = true := by kernel_rfl
@[go_sem] theorem callable37 : callable Try.prog 37 = true := by kernel_rfl
@[go_sem] theorem callable38 : callable Try.prog 38 = true := by kernel_rfl
@[go_sem] theorem callable39 : callable Try.prog 39 = true := by kernel_rfl
@[go_sem] theorem callable40 : callable Try.prog 40 = true := by kernel_rfl
@[go_sem] theorem callable41 : callable Try.prog 41 = true := by kernel_rfl
@[go_sem] theorem callable42 : callable Try.prog 42 = true := by kernel_rfl
@[go_sem] theorem callable43 : callable Try.prog 43 = true := by kernel_rfl
@[go_sem] theorem callable44 : callable Try.prog 44 = true := by kernel_rfl
@[go_sem] theorem callable45 : callable Try.prog 45 = true := by kernel_rfl
@[go_sem] theorem callable46 : callable Try.prog 46 = true := by kernel_rfl
@[go_sem] theorem callable47 : callable Try.prog 47 = true := by kernel_rfl
@[go_sem] theorem callable48 : callable Try.prog 48 = true := by kernel_rfl
@[go_sem] theorem callable49 : callable Try.prog 49 = true := by kernel_rfl
@[go_sem] theorem callable50 : callable Try.prog 50 = true := by kernel_rfl
@[go_sem] theorem callable51 : callable Try.prog 51 = true := by kernel_rfl
@[go_sem] theorem callable52 : callable Try.prog 52 = true := by kernel_rfl
@[go_sem] theorem callable53 : callable Try.prog 53 = true := by kernel_rfl
@[go_sem] theorem callable54 : callable Try.prog 54 = true := by kernel_rfl
@[go_sem] theorem callable55 : callable Try.prog 55 = true := by kernel_rfl
@[go_sem] theorem callable56 : callable Try.prog 56 = true := by kernel_rfl
@[go_sem] theorem callable57 : callable Try.prog 57 = true := by kernel_rfl
@[go_sem] theorem callable58 : callable Try.prog 58 = true := by kernel_rfl
@[go_sem] theorem callable59 : callable Try.prog 59 = true := by kernel_rfl
@[go_sem] theorem callable60 : callable Try.prog 60 = true := by kernel_rfl
@[go_sem] theorem callable61 : callable Try.prog 61 = true := by kernel_rfl
@[go_sem] theorem callable62 : callable Try.prog 62 = true := by kernel_rfl
@[go_sem] theorem callable63 : callable Try.prog 63 = true := by kernel_rfl
@[go_sem] theorem callable64 : callable Try.prog 64 = true := by kernel_rfl
@[go_sem] theorem callable65 : callable Try.prog 65 = true := by kernel_rfl
@[go_sem] theorem callable66 : callable Try.prog 66 = true := by kernel_rfl
@[go_sem] theorem callable67 : callable Try.prog 67 = true := by kernel_rfl
@[go_sem] theorem callable68 : callable Try.prog 68 = true := by kernel_rfl
@[go_sem] theorem callable69 : callable Try.prog 69 = true := by kernel_rfl
@[go_sem] theorem callable70 : callable Try.prog 70 = true := by kernel_rfl
@[go_sem] theorem callable71 : callable Try.prog 71 = true := by kernel_rfl
@[go_sem] theorem callable72 : callable Try.prog 72 = true := by kernel_rfl
@[go_sem] theorem callable73 : callable Try.prog 73 = true := by kernel_rfl
@[go_sem] theorem callable74 : callable Try.prog 74 = true := by kernel_rfl
@[go_sem] theorem callable75 : callable Try.prog 75 = true := by kernel_rfl
@[go_sem] theorem callable76 : callable Try.prog 76 = true := by kernel_rfl
@[go_sem] theorem callable77 : callable Try.prog 77 = true := by kernel_rfl
@[go_sem] theorem callable78 : callable Try.prog 78 = true := by kernel_rfl
@[go_sem] theorem callable79 : callable Try.prog 79 = true := by kernel_rfl
@[go_sem] theorem callable80 : callable Try.prog 80 = true := by kernel_rfl
@[go_sem] theorem callable81 : callable Try.prog 81 = true := by kernel_rfl
@[go_sem] theorem callable82 : callable Try.prog 82 = true := by kernel_rfl
@[go_sem] theorem callable83 : callable Try.prog 83 = true := by kernel_rfl
@[go_sem] theorem callable84 : callable Try.prog 84 = true := by kernel_rfl
@[go_sem] theorem callable85 : callable Try.prog 85 = true := by kernel_rfl
@[go_sem] theorem callable86 : callable Try.prog 86 = true := by kernel_rfl
@[go_sem] theorem callable87 : callable Try.prog 87 = true := by kernel_rfl
@[go_sem] theorem callable88 : callable Try.prog 88 = true := by kernel_rfl
theorem follows_mixed : Try.prog.follows .mixedOrders = true := by kernel_rfl
end Go.Proofs.Ytpaooephkpjkfaa
