/- The types of the program, as the engine has them. -/
import Derived.Test.YtfmnoljflcpbgaaGreatDoorKE3
import Derived.Test.YtfmnoljflcpbgaaGreatDoorChecked
import Derived.ProofKit
set_option linter.unusedSimpArgs false
set_option linter.unusedVariables false
set_option linter.unnecessarySimpa false
namespace Go.Proofs.YtfmnoljflcpbgaaGreatDoor
open Go.RowKit
@[go_sem] theorem tin1 : tin Tryz.prog 1 = some ⟨.func, 1, 8, some .nilFunc⟩ := by kernel_rfl
@[go_sem] theorem tin2 : tin Tryz.prog 2 = some ⟨(.int .i64), 1, 8, some (.int .i64 0)⟩ := by kernel_rfl
@[go_sem] theorem tin3 : tin Tryz.prog 3 = some ⟨(.int .i64), 1, 8, some (.int .i64 0)⟩ := by kernel_rfl
@[go_sem] theorem tin4 : tin Tryz.prog 4 = some ⟨.bool, 1, 1, some (.bool false)⟩ := by kernel_rfl
@[go_sem] theorem tin5 : tin Tryz.prog 5 = some ⟨(.int .u8), 1, 1, some (.int .u8 0)⟩ := by kernel_rfl
@[go_sem] theorem tin6 : tin Tryz.prog 6 = some ⟨(.int .u8), 1, 1, some (.int .u8 0)⟩ := by kernel_rfl
@[go_sem] theorem tin7 : tin Tryz.prog 7 = some ⟨(.st [(2, 0), (3, 1), (4, 2), (6, 3)]), 4, 24, some (.agg #[(.int .i64 0), (.int .i64 0), (.bool false), (.int .u8 0)])⟩ := by kernel_rfl
@[go_sem] theorem tin8 : tin Tryz.prog 8 = some ⟨(.st [(2, 0), (3, 1), (4, 2), (6, 3)]), 4, 24, some (.agg #[(.int .i64 0), (.int .i64 0), (.bool false), (.int .u8 0)])⟩ := by kernel_rfl
@[go_sem] theorem tin9 : tin Tryz.prog 9 = some ⟨.str, 1, 16, some (.string ByteArray.empty)⟩ := by kernel_rfl
@[go_sem] theorem tin10 : tin Tryz.prog 10 = some ⟨.str, 1, 16, some (.string ByteArray.empty)⟩ := by kernel_rfl
@[go_sem] theorem tin11 : tin Tryz.prog 11 = some ⟨.str, 1, 16, some (.string ByteArray.empty)⟩ := by kernel_rfl
@[go_sem] theorem tin12 : tin Tryz.prog 12 = some ⟨(.int .u64), 1, 8, some (.int .u64 0)⟩ := by kernel_rfl
@[go_sem] theorem tin13 : tin Tryz.prog 13 = some ⟨(.st [(9, 0), (12, 1)]), 2, 24, some (.agg #[(.string ByteArray.empty), (.int .u64 0)])⟩ := by kernel_rfl
@[go_sem] theorem tin14 : tin Tryz.prog 14 = some ⟨(.st [(9, 0), (12, 1)]), 2, 24, some (.agg #[(.string ByteArray.empty), (.int .u64 0)])⟩ := by kernel_rfl
@[go_sem] theorem tin15 : tin Tryz.prog 15 = some ⟨(.ptr 300), 1, 8, some (.pointer none)⟩ := by kernel_rfl
@[go_sem] theorem tin16 : tin Tryz.prog 16 = some ⟨(.ptr 303), 1, 8, some (.pointer none)⟩ := by kernel_rfl
@[go_sem] theorem tin17 : tin Tryz.prog 17 = some ⟨(.ptr 310), 1, 8, some (.pointer none)⟩ := by kernel_rfl
@[go_sem] theorem tin18 : tin Tryz.prog 18 = some ⟨(.st [(17, 0)]), 1, 8, some (.agg #[(.pointer none)])⟩ := by kernel_rfl
@[go_sem] theorem tin19 : tin Tryz.prog 19 = some ⟨(.st [(17, 0)]), 1, 8, some (.agg #[(.pointer none)])⟩ := by kernel_rfl
@[go_sem] theorem tin20 : tin Tryz.prog 20 = some ⟨.other, 1, 16, some .nilIface⟩ := by kernel_rfl
@[go_sem] theorem tin21 : tin Tryz.prog 21 = some ⟨(.int .i32), 1, 4, some (.int .i32 0)⟩ := by kernel_rfl
@[go_sem] theorem tin22 : tin Tryz.prog 22 = some ⟨(.sl 65), 1, 24, some (.slice none 0 0)⟩ := by kernel_rfl
@[go_sem] theorem tin23 : tin Tryz.prog 23 = some ⟨.func, 1, 8, some .nilFunc⟩ := by kernel_rfl
@[go_sem] theorem tin24 : tin Tryz.prog 24 = some ⟨(.st [(2, 0), (9, 1)]), 2, 24, some (.agg #[(.int .i64 0), (.string ByteArray.empty)])⟩ := by kernel_rfl
@[go_sem] theorem tin25 : tin Tryz.prog 25 = some ⟨(.st [(2, 0), (9, 1)]), 2, 24, some (.agg #[(.int .i64 0), (.string ByteArray.empty)])⟩ := by kernel_rfl
@[go_sem] theorem tin26 : tin Tryz.prog 26 = some ⟨.func, 1, 8, some .nilFunc⟩ := by kernel_rfl
@[go_sem] theorem tin27 : tin Tryz.prog 27 = some ⟨(.sl 69), 1, 24, some (.slice none 0 0)⟩ := by kernel_rfl
@[go_sem] theorem tin28 : tin Tryz.prog 28 = some ⟨.func, 1, 8, some .nilFunc⟩ := by kernel_rfl
@[go_sem] theorem tin29 : tin Tryz.prog 29 = some ⟨.func, 1, 8, some .nilFunc⟩ := by kernel_rfl
@[go_sem] theorem tin30 : tin Tryz.prog 30 = some ⟨.func, 1, 8, some .nilFunc⟩ := by kernel_rfl
@[go_sem] theorem tin31 : tin Tryz.prog 31 = some ⟨.func, 1, 8, some .nilFunc⟩ := by kernel_rfl
@[go_sem] theorem tin32 : tin Tryz.prog 32 = some ⟨.func, 1, 8, some .nilFunc⟩ := by kernel_rfl
@[go_sem] theorem tin33 : tin Tryz.prog 33 = some ⟨.func, 1, 8, some .nilFunc⟩ := by kernel_rfl
@[go_sem] theorem tin34 : tin Tryz.prog 34 = some ⟨(.st [(2, 0), (2, 1)]), 2, 16, some (.agg #[(.int .i64 0), (.int .i64 0)])⟩ := by kernel_rfl
@[go_sem] theorem tin35 : tin Tryz.prog 35 = some ⟨(.st [(2, 0), (2, 1)]), 2, 16, some (.agg #[(.int .i64 0), (.int .i64 0)])⟩ := by kernel_rfl
@[go_sem] theorem tin36 : tin Tryz.prog 36 = some ⟨.func, 1, 8, some .nilFunc⟩ := by kernel_rfl
@[go_sem] theorem tin37 : tin Tryz.prog 37 = some ⟨.func, 1, 8, some .nilFunc⟩ := by kernel_rfl
@[go_sem] theorem tin38 : tin Tryz.prog 38 = some ⟨(.sl 87), 1, 24, some (.slice none 0 0)⟩ := by kernel_rfl
@[go_sem] theorem tin39 : tin Tryz.prog 39 = some ⟨.func, 1, 8, some .nilFunc⟩ := by kernel_rfl
@[go_sem] theorem tin40 : tin Tryz.prog 40 = some ⟨.func, 1, 8, some .nilFunc⟩ := by kernel_rfl
@[go_sem] theorem tin41 : tin Tryz.prog 41 = some ⟨(.sl 91), 1, 24, some (.slice none 0 0)⟩ := by kernel_rfl
@[go_sem] theorem tin42 : tin Tryz.prog 42 = some ⟨.func, 1, 8, some .nilFunc⟩ := by kernel_rfl
@[go_sem] theorem tin43 : tin Tryz.prog 43 = some ⟨.func, 1, 8, some .nilFunc⟩ := by kernel_rfl
@[go_sem] theorem tin44 : tin Tryz.prog 44 = some ⟨.func, 1, 8, some .nilFunc⟩ := by kernel_rfl
@[go_sem] theorem tin45 : tin Tryz.prog 45 = some ⟨(.sl 104), 1, 24, some (.slice none 0 0)⟩ := by kernel_rfl
@[go_sem] theorem tin46 : tin Tryz.prog 46 = some ⟨.func, 1, 8, some .nilFunc⟩ := by kernel_rfl
@[go_sem] theorem tin47 : tin Tryz.prog 47 = some ⟨.func, 1, 8, some .nilFunc⟩ := by kernel_rfl
@[go_sem] theorem tin48 : tin Tryz.prog 48 = some ⟨(.sl 110), 1, 24, some (.slice none 0 0)⟩ := by kernel_rfl
@[go_sem] theorem tin49 : tin Tryz.prog 49 = some ⟨.func, 1, 8, some .nilFunc⟩ := by kernel_rfl
@[go_sem] theorem tin50 : tin Tryz.prog 50 = some ⟨.func, 1, 8, some .nilFunc⟩ := by kernel_rfl
@[go_sem] theorem tin51 : tin Tryz.prog 51 = some ⟨.func, 1, 8, some .nilFunc⟩ := by kernel_rfl
@[go_sem] theorem tin52 : tin Tryz.prog 52 = some ⟨(.sl 5), 1, 24, some (.slice none 0 0)⟩ := by kernel_rfl
@[go_sem] theorem tin53 : tin Tryz.prog 53 = some ⟨.func, 1, 8, some .nilFunc⟩ := by kernel_rfl
@[go_sem] theorem tin54 : tin Tryz.prog 54 = some ⟨.func, 1, 8, some .nilFunc⟩ := by kernel_rfl
@[go_sem] theorem tin55 : tin Tryz.prog 55 = some ⟨(.sl 27), 1, 24, some (.slice none 0 0)⟩ := by kernel_rfl
@[go_sem] theorem tin56 : tin Tryz.prog 56 = some ⟨(.st [(2, 0), (55, 1)]), 2, 32, some (.agg #[(.int .i64 0), (.slice none 0 0)])⟩ := by kernel_rfl
@[go_sem] theorem tin57 : tin Tryz.prog 57 = some ⟨(.st [(2, 0), (55, 1)]), 2, 32, some (.agg #[(.int .i64 0), (.slice none 0 0)])⟩ := by kernel_rfl
@[go_sem] theorem tin58 : tin Tryz.prog 58 = some ⟨.func, 1, 8, some .nilFunc⟩ := by kernel_rfl
@[go_sem] theorem tin59 : tin Tryz.prog 59 = some ⟨(.st [(2, 0), (27, 1)]), 2, 32, some (.agg #[(.int .i64 0), (.slice none 0 0)])⟩ := by kernel_rfl
@[go_sem] theorem tin60 : tin Tryz.prog 60 = some ⟨(.st [(2, 0), (27, 1)]), 2, 32, some (.agg #[(.int .i64 0), (.slice none 0 0)])⟩ := by kernel_rfl
@[go_sem] theorem tin61 : tin Tryz.prog 61 = some ⟨.func, 1, 8, some .nilFunc⟩ := by kernel_rfl
@[go_sem] theorem tin62 : tin Tryz.prog 62 = some ⟨.func, 1, 8, some .nilFunc⟩ := by kernel_rfl
@[go_sem] theorem tin63 : tin Tryz.prog 63 = some ⟨.func, 1, 8, some .nilFunc⟩ := by kernel_rfl
@[go_sem] theorem tin64 : tin Tryz.prog 64 = some ⟨(.st [(2, 0), (2, 1), (9, 2), (9, 3), (2, 4)]), 5, 56, some (.agg #[(.int .i64 0), (.int .i64 0), (.string ByteArray.empty), (.string ByteArray.empty), (.int .i64 0)])⟩ := by kernel_rfl
@[go_sem] theorem tin65 : tin Tryz.prog 65 = some ⟨(.st [(2, 0), (2, 1), (9, 2), (9, 3), (2, 4)]), 5, 56, some (.agg #[(.int .i64 0), (.int .i64 0), (.string ByteArray.empty), (.string ByteArray.empty), (.int .i64 0)])⟩ := by kernel_rfl
@[go_sem] theorem tin66 : tin Tryz.prog 66 = some ⟨.func, 1, 8, some .nilFunc⟩ := by kernel_rfl
@[go_sem] theorem tin67 : tin Tryz.prog 67 = some ⟨.func, 1, 8, some .nilFunc⟩ := by kernel_rfl
@[go_sem] theorem tin68 : tin Tryz.prog 68 = some ⟨.func, 1, 8, some .nilFunc⟩ := by kernel_rfl
@[go_sem] theorem tin69 : tin Tryz.prog 69 = some ⟨(.st [(2, 0), (2, 1), (9, 2), (9, 3), (2, 4)]), 5, 56, some (.agg #[(.int .i64 0), (.int .i64 0), (.string ByteArray.empty), (.string ByteArray.empty), (.int .i64 0)])⟩ := by kernel_rfl
@[go_sem] theorem tin70 : tin Tryz.prog 70 = some ⟨.func, 1, 8, some .nilFunc⟩ := by kernel_rfl
@[go_sem] theorem tin71 : tin Tryz.prog 71 = some ⟨(.sl 80), 1, 24, some (.slice none 0 0)⟩ := by kernel_rfl
@[go_sem] theorem tin73 : tin Tryz.prog 73 = some ⟨.func, 1, 8, some .nilFunc⟩ := by kernel_rfl
@[go_sem] theorem tin74 : tin Tryz.prog 74 = some ⟨.func, 1, 8, some .nilFunc⟩ := by kernel_rfl
@[go_sem] theorem tin75 : tin Tryz.prog 75 = some ⟨.func, 1, 8, some .nilFunc⟩ := by kernel_rfl
@[go_sem] theorem tin76 : tin Tryz.prog 76 = some ⟨.func, 1, 8, some .nilFunc⟩ := by kernel_rfl
@[go_sem] theorem tin77 : tin Tryz.prog 77 = some ⟨.func, 1, 8, some .nilFunc⟩ := by kernel_rfl
@[go_sem] theorem tin78 : tin Tryz.prog 78 = some ⟨(.sl 9), 1, 24, some (.slice none 0 0)⟩ := by kernel_rfl
@[go_sem] theorem tin79 : tin Tryz.prog 79 = some ⟨(.st [(2, 0), (2, 1), (9, 2), (78, 3), (71, 4)]), 5, 80, some (.agg #[(.int .i64 0), (.int .i64 0), (.string ByteArray.empty), (.slice none 0 0), (.slice none 0 0)])⟩ := by kernel_rfl
@[go_sem] theorem tin80 : tin Tryz.prog 80 = some ⟨(.st [(2, 0), (2, 1), (9, 2), (78, 3), (71, 4)]), 5, 80, some (.agg #[(.int .i64 0), (.int .i64 0), (.string ByteArray.empty), (.slice none 0 0), (.slice none 0 0)])⟩ := by kernel_rfl
@[go_sem] theorem tin82 : tin Tryz.prog 82 = some ⟨.func, 1, 8, some .nilFunc⟩ := by kernel_rfl
@[go_sem] theorem tin83 : tin Tryz.prog 83 = some ⟨.func, 1, 8, some .nilFunc⟩ := by kernel_rfl
@[go_sem] theorem tin84 : tin Tryz.prog 84 = some ⟨.func, 1, 8, some .nilFunc⟩ := by kernel_rfl
@[go_sem] theorem tin85 : tin Tryz.prog 85 = some ⟨.func, 1, 8, some .nilFunc⟩ := by kernel_rfl
@[go_sem] theorem tin86 : tin Tryz.prog 86 = some ⟨(.st [(2, 0), (22, 1), (22, 2)]), 3, 56, some (.agg #[(.int .i64 0), (.slice none 0 0), (.slice none 0 0)])⟩ := by kernel_rfl
@[go_sem] theorem tin87 : tin Tryz.prog 87 = some ⟨(.st [(2, 0), (22, 1), (22, 2)]), 3, 56, some (.agg #[(.int .i64 0), (.slice none 0 0), (.slice none 0 0)])⟩ := by kernel_rfl
@[go_sem] theorem tin88 : tin Tryz.prog 88 = some ⟨.func, 1, 8, some .nilFunc⟩ := by kernel_rfl
@[go_sem] theorem tin89 : tin Tryz.prog 89 = some ⟨.func, 1, 8, some .nilFunc⟩ := by kernel_rfl
@[go_sem] theorem tin90 : tin Tryz.prog 90 = some ⟨(.st [(2, 0), (27, 1), (27, 2)]), 3, 56, some (.agg #[(.int .i64 0), (.slice none 0 0), (.slice none 0 0)])⟩ := by kernel_rfl
@[go_sem] theorem tin91 : tin Tryz.prog 91 = some ⟨(.st [(2, 0), (27, 1), (27, 2)]), 3, 56, some (.agg #[(.int .i64 0), (.slice none 0 0), (.slice none 0 0)])⟩ := by kernel_rfl
@[go_sem] theorem tin92 : tin Tryz.prog 92 = some ⟨.func, 1, 8, some .nilFunc⟩ := by kernel_rfl
@[go_sem] theorem tin93 : tin Tryz.prog 93 = some ⟨(.ptr 95), 1, 8, some (.pointer none)⟩ := by kernel_rfl
@[go_sem] theorem tin94 : tin Tryz.prog 94 = some ⟨(.st [(93, 0), (52, 1)]), 2, 32, some (.agg #[(.pointer none), (.slice none 0 0)])⟩ := by kernel_rfl
@[go_sem] theorem tin96 : tin Tryz.prog 96 = some ⟨.other, 1, 16, some .nilIface⟩ := by kernel_rfl
@[go_sem] theorem tin97 : tin Tryz.prog 97 = some ⟨.other, 1, 16, some .nilIface⟩ := by kernel_rfl
@[go_sem] theorem tin99 : tin Tryz.prog 99 = some ⟨.func, 1, 8, some .nilFunc⟩ := by kernel_rfl
@[go_sem] theorem tin100 : tin Tryz.prog 100 = some ⟨.func, 1, 8, some .nilFunc⟩ := by kernel_rfl
@[go_sem] theorem tin101 : tin Tryz.prog 101 = some ⟨.func, 1, 8, some .nilFunc⟩ := by kernel_rfl
@[go_sem] theorem tin102 : tin Tryz.prog 102 = some ⟨.func, 1, 8, some .nilFunc⟩ := by kernel_rfl
@[go_sem] theorem tin103 : tin Tryz.prog 103 = some ⟨(.st [(2, 0), (2, 1), (22, 2)]), 3, 40, some (.agg #[(.int .i64 0), (.int .i64 0), (.slice none 0 0)])⟩ := by kernel_rfl
@[go_sem] theorem tin104 : tin Tryz.prog 104 = some ⟨(.st [(2, 0), (2, 1), (22, 2)]), 3, 40, some (.agg #[(.int .i64 0), (.int .i64 0), (.slice none 0 0)])⟩ := by kernel_rfl
@[go_sem] theorem tin105 : tin Tryz.prog 105 = some ⟨(.st [(2, 0), (2, 1), (48, 2), (2, 3)]), 4, 48, some (.agg #[(.int .i64 0), (.int .i64 0), (.slice none 0 0), (.int .i64 0)])⟩ := by kernel_rfl
@[go_sem] theorem tin106 : tin Tryz.prog 106 = some ⟨(.st [(2, 0), (2, 1), (48, 2), (2, 3)]), 4, 48, some (.agg #[(.int .i64 0), (.int .i64 0), (.slice none 0 0), (.int .i64 0)])⟩ := by kernel_rfl
@[go_sem] theorem tin107 : tin Tryz.prog 107 = some ⟨.func, 1, 8, some .nilFunc⟩ := by kernel_rfl
@[go_sem] theorem tin108 : tin Tryz.prog 108 = some ⟨.func, 1, 8, some .nilFunc⟩ := by kernel_rfl
@[go_sem] theorem tin109 : tin Tryz.prog 109 = some ⟨(.st [(2, 0), (2, 1), (27, 2)]), 3, 40, some (.agg #[(.int .i64 0), (.int .i64 0), (.slice none 0 0)])⟩ := by kernel_rfl
@[go_sem] theorem tin110 : tin Tryz.prog 110 = some ⟨(.st [(2, 0), (2, 1), (27, 2)]), 3, 40, some (.agg #[(.int .i64 0), (.int .i64 0), (.slice none 0 0)])⟩ := by kernel_rfl
@[go_sem] theorem tin111 : tin Tryz.prog 111 = some ⟨.func, 1, 8, some .nilFunc⟩ := by kernel_rfl
@[go_sem] theorem tin113 : tin Tryz.prog 113 = some ⟨.func, 1, 8, some .nilFunc⟩ := by kernel_rfl
@[go_sem] theorem tin114 : tin Tryz.prog 114 = some ⟨.func, 1, 8, some .nilFunc⟩ := by kernel_rfl
@[go_sem] theorem tin115 : tin Tryz.prog 115 = some ⟨.func, 1, 8, some .nilFunc⟩ := by kernel_rfl
@[go_sem] theorem tin116 : tin Tryz.prog 116 = some ⟨.func, 1, 8, some .nilFunc⟩ := by kernel_rfl
@[go_sem] theorem tin117 : tin Tryz.prog 117 = some ⟨.func, 1, 8, some .nilFunc⟩ := by kernel_rfl
@[go_sem] theorem tin118 : tin Tryz.prog 118 = some ⟨.func, 1, 8, some .nilFunc⟩ := by kernel_rfl
@[go_sem] theorem tin119 : tin Tryz.prog 119 = some ⟨.func, 1, 8, some .nilFunc⟩ := by kernel_rfl
@[go_sem] theorem tin120 : tin Tryz.prog 120 = some ⟨.func, 1, 8, some .nilFunc⟩ := by kernel_rfl
@[go_sem] theorem tin121 : tin Tryz.prog 121 = some ⟨.func, 1, 8, some .nilFunc⟩ := by kernel_rfl
@[go_sem] theorem tin122 : tin Tryz.prog 122 = some ⟨(.ptr 166), 1, 8, some (.pointer none)⟩ := by kernel_rfl
@[go_sem] theorem tin123 : tin Tryz.prog 123 = some ⟨.func, 1, 8, some .nilFunc⟩ := by kernel_rfl
@[go_sem] theorem tin124 : tin Tryz.prog 124 = some ⟨.func, 1, 8, some .nilFunc⟩ := by kernel_rfl
@[go_sem] theorem tin125 : tin Tryz.prog 125 = some ⟨(.sl 154), 1, 24, some (.slice none 0 0)⟩ := by kernel_rfl
@[go_sem] theorem tin126 : tin Tryz.prog 126 = some ⟨.func, 1, 8, some .nilFunc⟩ := by kernel_rfl
@[go_sem] theorem tin127 : tin Tryz.prog 127 = some ⟨.func, 1, 8, some .nilFunc⟩ := by kernel_rfl
@[go_sem] theorem tin128 : tin Tryz.prog 128 = some ⟨.func, 1, 8, some .nilFunc⟩ := by kernel_rfl
@[go_sem] theorem tin129 : tin Tryz.prog 129 = some ⟨.func, 1, 8, some .nilFunc⟩ := by kernel_rfl
@[go_sem] theorem tin130 : tin Tryz.prog 130 = some ⟨.func, 1, 8, some .nilFunc⟩ := by kernel_rfl
@[go_sem] theorem tin131 : tin Tryz.prog 131 = some ⟨.func, 1, 8, some .nilFunc⟩ := by kernel_rfl
@[go_sem] theorem tin132 : tin Tryz.prog 132 = some ⟨.func, 1, 8, some .nilFunc⟩ := by kernel_rfl
@[go_sem] theorem tin133 : tin Tryz.prog 133 = some ⟨.func, 1, 8, some .nilFunc⟩ := by kernel_rfl
@[go_sem] theorem tin134 : tin Tryz.prog 134 = some ⟨.func, 1, 8, some .nilFunc⟩ := by kernel_rfl
@[go_sem] theorem tin135 : tin Tryz.prog 135 = some ⟨(.sl 2), 1, 24, some (.slice none 0 0)⟩ := by kernel_rfl
@[go_sem] theorem tin136 : tin Tryz.prog 136 = some ⟨.func, 1, 8, some .nilFunc⟩ := by kernel_rfl
@[go_sem] theorem tin137 : tin Tryz.prog 137 = some ⟨.func, 1, 8, some .nilFunc⟩ := by kernel_rfl
@[go_sem] theorem tin138 : tin Tryz.prog 138 = some ⟨.func, 1, 8, some .nilFunc⟩ := by kernel_rfl
@[go_sem] theorem tin139 : tin Tryz.prog 139 = some ⟨.func, 1, 8, some .nilFunc⟩ := by kernel_rfl
@[go_sem] theorem tin140 : tin Tryz.prog 140 = some ⟨.func, 1, 8, some .nilFunc⟩ := by kernel_rfl
@[go_sem] theorem tin141 : tin Tryz.prog 141 = some ⟨.func, 1, 8, some .nilFunc⟩ := by kernel_rfl
@[go_sem] theorem tin142 : tin Tryz.prog 142 = some ⟨.func, 1, 8, some .nilFunc⟩ := by kernel_rfl
@[go_sem] theorem tin144 : tin Tryz.prog 144 = some ⟨.func, 1, 8, some .nilFunc⟩ := by kernel_rfl
@[go_sem] theorem tin146 : tin Tryz.prog 146 = some ⟨.func, 1, 8, some .nilFunc⟩ := by kernel_rfl
@[go_sem] theorem tin147 : tin Tryz.prog 147 = some ⟨.func, 1, 8, some .nilFunc⟩ := by kernel_rfl
@[go_sem] theorem tin148 : tin Tryz.prog 148 = some ⟨.func, 1, 8, some .nilFunc⟩ := by kernel_rfl
@[go_sem] theorem tin149 : tin Tryz.prog 149 = some ⟨.func, 1, 8, some .nilFunc⟩ := by kernel_rfl
@[go_sem] theorem tin150 : tin Tryz.prog 150 = some ⟨(.ptr 5), 1, 8, some (.pointer none)⟩ := by kernel_rfl
@[go_sem] theorem tin151 : tin Tryz.prog 151 = some ⟨.func, 1, 8, some .nilFunc⟩ := by kernel_rfl
@[go_sem] theorem tin152 : tin Tryz.prog 152 = some ⟨.func, 1, 8, some .nilFunc⟩ := by kernel_rfl
@[go_sem] theorem tin153 : tin Tryz.prog 153 = some ⟨(.st [(71, 0), (80, 1)]), 6, 104, some (.agg #[(.slice none 0 0), (.int .i64 0), (.int .i64 0), (.string ByteArray.empty), (.slice none 0 0), (.slice none 0 0)])⟩ := by kernel_rfl
@[go_sem] theorem tin154 : tin Tryz.prog 154 = some ⟨(.st [(71, 0), (80, 1)]), 6, 104, some (.agg #[(.slice none 0 0), (.int .i64 0), (.int .i64 0), (.string ByteArray.empty), (.slice none 0 0), (.slice none 0 0)])⟩ := by kernel_rfl
@[go_sem] theorem tin155 : tin Tryz.prog 155 = some ⟨.func, 1, 8, some .nilFunc⟩ := by kernel_rfl
@[go_sem] theorem tin157 : tin Tryz.prog 157 = some ⟨.func, 1, 8, some .nilFunc⟩ := by kernel_rfl
@[go_sem] theorem tin158 : tin Tryz.prog 158 = some ⟨.func, 1, 8, some .nilFunc⟩ := by kernel_rfl
@[go_sem] theorem tin159 : tin Tryz.prog 159 = some ⟨.func, 1, 8, some .nilFunc⟩ := by kernel_rfl
@[go_sem] theorem tin160 : tin Tryz.prog 160 = some ⟨.func, 1, 8, some .nilFunc⟩ := by kernel_rfl
@[go_sem] theorem tin161 : tin Tryz.prog 161 = some ⟨.func, 1, 8, some .nilFunc⟩ := by kernel_rfl
@[go_sem] theorem tin162 : tin Tryz.prog 162 = some ⟨.func, 1, 8, some .nilFunc⟩ := by kernel_rfl
@[go_sem] theorem tin163 : tin Tryz.prog 163 = some ⟨.func, 1, 8, some .nilFunc⟩ := by kernel_rfl
@[go_sem] theorem tin164 : tin Tryz.prog 164 = some ⟨.func, 1, 8, some .nilFunc⟩ := by kernel_rfl
@[go_sem] theorem tin165 : tin Tryz.prog 165 = some ⟨(.st [(52, 0), (2, 1)]), 2, 32, some (.agg #[(.slice none 0 0), (.int .i64 0)])⟩ := by kernel_rfl
@[go_sem] theorem tin166 : tin Tryz.prog 166 = some ⟨(.st [(52, 0), (2, 1)]), 2, 32, some (.agg #[(.slice none 0 0), (.int .i64 0)])⟩ := by kernel_rfl
@[go_sem] theorem tin167 : tin Tryz.prog 167 = some ⟨.func, 1, 8, some .nilFunc⟩ := by kernel_rfl
@[go_sem] theorem tin168 : tin Tryz.prog 168 = some ⟨.func, 1, 8, some .nilFunc⟩ := by kernel_rfl
@[go_sem] theorem tin169 : tin Tryz.prog 169 = some ⟨.func, 1, 8, some .nilFunc⟩ := by kernel_rfl
@[go_sem] theorem tin170 : tin Tryz.prog 170 = some ⟨.func, 1, 8, some .nilFunc⟩ := by kernel_rfl
@[go_sem] theorem tin171 : tin Tryz.prog 171 = some ⟨(.sl 55), 1, 24, some (.slice none 0 0)⟩ := by kernel_rfl
@[go_sem] theorem tin172 : tin Tryz.prog 172 = some ⟨.func, 1, 8, some .nilFunc⟩ := by kernel_rfl
@[go_sem] theorem tin173 : tin Tryz.prog 173 = some ⟨.func, 1, 8, some .nilFunc⟩ := by kernel_rfl
@[go_sem] theorem tin174 : tin Tryz.prog 174 = some ⟨.func, 1, 8, some .nilFunc⟩ := by kernel_rfl
@[go_sem] theorem tin175 : tin Tryz.prog 175 = some ⟨.func, 1, 8, some .nilFunc⟩ := by kernel_rfl
@[go_sem] theorem tin176 : tin Tryz.prog 176 = some ⟨.func, 1, 8, some .nilFunc⟩ := by kernel_rfl
@[go_sem] theorem tin177 : tin Tryz.prog 177 = some ⟨(.st [(2, 0), (80, 1)]), 6, 88, some (.agg #[(.int .i64 0), (.int .i64 0), (.int .i64 0), (.string ByteArray.empty), (.slice none 0 0), (.slice none 0 0)])⟩ := by kernel_rfl
@[go_sem] theorem tin178 : tin Tryz.prog 178 = some ⟨(.st [(2, 0), (80, 1)]), 6, 88, some (.agg #[(.int .i64 0), (.int .i64 0), (.int .i64 0), (.string ByteArray.empty), (.slice none 0 0), (.slice none 0 0)])⟩ := by kernel_rfl
@[go_sem] theorem tin179 : tin Tryz.prog 179 = some ⟨.func, 1, 8, some .nilFunc⟩ := by kernel_rfl
@[go_sem] theorem tin180 : tin Tryz.prog 180 = some ⟨.func, 1, 8, some .nilFunc⟩ := by kernel_rfl
@[go_sem] theorem tin181 : tin Tryz.prog 181 = some ⟨.func, 1, 8, some .nilFunc⟩ := by kernel_rfl
@[go_sem] theorem tin182 : tin Tryz.prog 182 = some ⟨.func, 1, 8, some .nilFunc⟩ := by kernel_rfl
@[go_sem] theorem tin183 : tin Tryz.prog 183 = some ⟨.func, 1, 8, some .nilFunc⟩ := by kernel_rfl
@[go_sem] theorem tin184 : tin Tryz.prog 184 = some ⟨(.ptr 236), 1, 8, some (.pointer none)⟩ := by kernel_rfl
@[go_sem] theorem tin185 : tin Tryz.prog 185 = some ⟨.func, 1, 8, some .nilFunc⟩ := by kernel_rfl
@[go_sem] theorem tin186 : tin Tryz.prog 186 = some ⟨.func, 1, 8, some .nilFunc⟩ := by kernel_rfl
@[go_sem] theorem tin187 : tin Tryz.prog 187 = some ⟨.func, 1, 8, some .nilFunc⟩ := by kernel_rfl
@[go_sem] theorem tin188 : tin Tryz.prog 188 = some ⟨(.int .u64), 1, 8, some (.int .u64 0)⟩ := by kernel_rfl
@[go_sem] theorem tin190 : tin Tryz.prog 190 = some ⟨.func, 1, 8, some .nilFunc⟩ := by kernel_rfl
@[go_sem] theorem tin191 : tin Tryz.prog 191 = some ⟨.func, 1, 8, some .nilFunc⟩ := by kernel_rfl
@[go_sem] theorem tin192 : tin Tryz.prog 192 = some ⟨.func, 1, 8, some .nilFunc⟩ := by kernel_rfl
@[go_sem] theorem tin193 : tin Tryz.prog 193 = some ⟨.other, 1, 8, some (.pointer none)⟩ := by kernel_rfl
@[go_sem] theorem tin194 : tin Tryz.prog 194 = some ⟨.func, 1, 8, some .nilFunc⟩ := by kernel_rfl
@[go_sem] theorem tin196 : tin Tryz.prog 196 = some ⟨.func, 1, 8, some .nilFunc⟩ := by kernel_rfl
@[go_sem] theorem tin197 : tin Tryz.prog 197 = some ⟨.func, 1, 8, some .nilFunc⟩ := by kernel_rfl
@[go_sem] theorem tin198 : tin Tryz.prog 198 = some ⟨.func, 1, 8, some .nilFunc⟩ := by kernel_rfl
@[go_sem] theorem tin199 : tin Tryz.prog 199 = some ⟨.func, 1, 8, some .nilFunc⟩ := by kernel_rfl
@[go_sem] theorem tin200 : tin Tryz.prog 200 = some ⟨.arr, 24, 24, some (.agg #[(.int .u8 0), (.int .u8 0), (.int .u8 0), (.int .u8 0), (.int .u8 0), (.int .u8 0), (.int .u8 0), (.int .u8 0), (.int .u8 0), (.int .u8 0), (.int .u8 0), (.int .u8 0), (.int .u8 0), (.int .u8 0), (.int .u8 0), (.int .u8 0), (.int .u8 0), (.int .u8 0), (.int .u8 0), (.int .u8 0), (.int .u8 0), (.int .u8 0), (.int .u8 0), (.int .u8 0)])⟩ := by kernel_rfl
@[go_sem] theorem tin201 : tin Tryz.prog 201 = some ⟨(.int .u64), 1, 8, some (.int .u64 0)⟩ := by kernel_rfl
@[go_sem] theorem tin202 : tin Tryz.prog 202 = some ⟨.func, 1, 8, some .nilFunc⟩ := by kernel_rfl
@[go_sem] theorem tin203 : tin Tryz.prog 203 = some ⟨.func, 1, 8, some .nilFunc⟩ := by kernel_rfl
@[go_sem] theorem tin205 : tin Tryz.prog 205 = some ⟨.func, 1, 8, some .nilFunc⟩ := by kernel_rfl
@[go_sem] theorem tin206 : tin Tryz.prog 206 = some ⟨.func, 1, 8, some .nilFunc⟩ := by kernel_rfl
@[go_sem] theorem tin207 : tin Tryz.prog 207 = some ⟨.func, 1, 8, some .nilFunc⟩ := by kernel_rfl
@[go_sem] theorem tin208 : tin Tryz.prog 208 = some ⟨.func, 1, 8, some .nilFunc⟩ := by kernel_rfl
@[go_sem] theorem tin209 : tin Tryz.prog 209 = some ⟨.func, 1, 8, some .nilFunc⟩ := by kernel_rfl
@[go_sem] theorem tin210 : tin Tryz.prog 210 = some ⟨.func, 1, 8, some .nilFunc⟩ := by kernel_rfl
@[go_sem] theorem tin211 : tin Tryz.prog 211 = some ⟨.func, 1, 8, some .nilFunc⟩ := by kernel_rfl
@[go_sem] theorem tin212 : tin Tryz.prog 212 = some ⟨.func, 1, 8, some .nilFunc⟩ := by kernel_rfl
@[go_sem] theorem tin213 : tin Tryz.prog 213 = some ⟨.func, 1, 8, some .nilFunc⟩ := by kernel_rfl
@[go_sem] theorem tin214 : tin Tryz.prog 214 = some ⟨.func, 1, 8, some .nilFunc⟩ := by kernel_rfl
@[go_sem] theorem tin215 : tin Tryz.prog 215 = some ⟨.func, 1, 8, some .nilFunc⟩ := by kernel_rfl
@[go_sem] theorem tin216 : tin Tryz.prog 216 = some ⟨.func, 1, 8, some .nilFunc⟩ := by kernel_rfl
@[go_sem] theorem tin217 : tin Tryz.prog 217 = some ⟨.func, 1, 8, some .nilFunc⟩ := by kernel_rfl
@[go_sem] theorem tin218 : tin Tryz.prog 218 = some ⟨.func, 1, 8, some .nilFunc⟩ := by kernel_rfl
@[go_sem] theorem tin219 : tin Tryz.prog 219 = some ⟨.func, 1, 8, some .nilFunc⟩ := by kernel_rfl
@[go_sem] theorem tin220 : tin Tryz.prog 220 = some ⟨.func, 1, 8, some .nilFunc⟩ := by kernel_rfl
@[go_sem] theorem tin221 : tin Tryz.prog 221 = some ⟨(.st []), 0, 0, some (.agg #[])⟩ := by kernel_rfl
@[go_sem] theorem tin222 : tin Tryz.prog 222 = some ⟨(.st []), 0, 0, some (.agg #[])⟩ := by kernel_rfl
@[go_sem] theorem tin223 : tin Tryz.prog 223 = some ⟨(.st []), 0, 0, some (.agg #[])⟩ := by kernel_rfl
@[go_sem] theorem tin224 : tin Tryz.prog 224 = some ⟨(.int .u32), 1, 4, some (.int .u32 0)⟩ := by kernel_rfl
@[go_sem] theorem tin225 : tin Tryz.prog 225 = some ⟨(.st [(223, 0), (224, 0)]), 1, 4, some (.agg #[(.int .u32 0)])⟩ := by kernel_rfl
@[go_sem] theorem tin226 : tin Tryz.prog 226 = some ⟨(.st [(223, 0), (224, 0)]), 1, 4, some (.agg #[(.int .u32 0)])⟩ := by kernel_rfl
@[go_sem] theorem tin227 : tin Tryz.prog 227 = some ⟨(.st [(21, 0), (224, 1)]), 2, 8, some (.agg #[(.int .i32 0), (.int .u32 0)])⟩ := by kernel_rfl
@[go_sem] theorem tin228 : tin Tryz.prog 228 = some ⟨(.st [(21, 0), (224, 1)]), 2, 8, some (.agg #[(.int .i32 0), (.int .u32 0)])⟩ := by kernel_rfl
@[go_sem] theorem tin229 : tin Tryz.prog 229 = some ⟨(.st [(222, 0), (228, 0)]), 2, 8, some (.agg #[(.int .i32 0), (.int .u32 0)])⟩ := by kernel_rfl
@[go_sem] theorem tin230 : tin Tryz.prog 230 = some ⟨(.st [(222, 0), (228, 0)]), 2, 8, some (.agg #[(.int .i32 0), (.int .u32 0)])⟩ := by kernel_rfl
@[go_sem] theorem tin231 : tin Tryz.prog 231 = some ⟨(.st [(222, 0), (226, 0), (230, 1)]), 3, 12, some (.agg #[(.int .u32 0), (.int .i32 0), (.int .u32 0)])⟩ := by kernel_rfl
@[go_sem] theorem tin232 : tin Tryz.prog 232 = some ⟨(.st [(222, 0), (226, 0), (230, 1)]), 3, 12, some (.agg #[(.int .u32 0), (.int .i32 0), (.int .u32 0)])⟩ := by kernel_rfl
@[go_sem] theorem tin233 : tin Tryz.prog 233 = some ⟨.other, 1, 16, some .nilIface⟩ := by kernel_rfl
@[go_sem] theorem tin234 : tin Tryz.prog 234 = some ⟨.other, 1, 16, some .nilIface⟩ := by kernel_rfl
@[go_sem] theorem tin235 : tin Tryz.prog 235 = some ⟨(.st [(232, 0), (234, 3), (78, 4)]), 5, 56, some (.agg #[(.int .u32 0), (.int .i32 0), (.int .u32 0), .nilIface, (.slice none 0 0)])⟩ := by kernel_rfl
@[go_sem] theorem tin236 : tin Tryz.prog 236 = some ⟨(.st [(232, 0), (234, 3), (78, 4)]), 5, 56, some (.agg #[(.int .u32 0), (.int .i32 0), (.int .u32 0), .nilIface, (.slice none 0 0)])⟩ := by kernel_rfl
@[go_sem] theorem tin237 : tin Tryz.prog 237 = some ⟨.func, 1, 8, some .nilFunc⟩ := by kernel_rfl
@[go_sem] theorem tin239 : tin Tryz.prog 239 = some ⟨.func, 1, 8, some .nilFunc⟩ := by kernel_rfl
@[go_sem] theorem tin241 : tin Tryz.prog 241 = some ⟨.func, 1, 8, some .nilFunc⟩ := by kernel_rfl
@[go_sem] theorem tin242 : tin Tryz.prog 242 = some ⟨.func, 1, 8, some .nilFunc⟩ := by kernel_rfl
@[go_sem] theorem tin243 : tin Tryz.prog 243 = some ⟨.func, 1, 8, some .nilFunc⟩ := by kernel_rfl
@[go_sem] theorem tin244 : tin Tryz.prog 244 = some ⟨.func, 1, 8, some .nilFunc⟩ := by kernel_rfl
@[go_sem] theorem tin245 : tin Tryz.prog 245 = some ⟨.arr, 20, 160, some (.agg #[(.int .u64 0), (.int .u64 0), (.int .u64 0), (.int .u64 0), (.int .u64 0), (.int .u64 0), (.int .u64 0), (.int .u64 0), (.int .u64 0), (.int .u64 0), (.int .u64 0), (.int .u64 0), (.int .u64 0), (.int .u64 0), (.int .u64 0), (.int .u64 0), (.int .u64 0), (.int .u64 0), (.int .u64 0), (.int .u64 0)])⟩ := by kernel_rfl
@[go_sem] theorem tin246 : tin Tryz.prog 246 = some ⟨.arr, 65, 65, some (.agg #[(.int .u8 0), (.int .u8 0), (.int .u8 0), (.int .u8 0), (.int .u8 0), (.int .u8 0), (.int .u8 0), (.int .u8 0), (.int .u8 0), (.int .u8 0), (.int .u8 0), (.int .u8 0), (.int .u8 0), (.int .u8 0), (.int .u8 0), (.int .u8 0), (.int .u8 0), (.int .u8 0), (.int .u8 0), (.int .u8 0), (.int .u8 0), (.int .u8 0), (.int .u8 0), (.int .u8 0), (.int .u8 0), (.int .u8 0), (.int .u8 0), (.int .u8 0), (.int .u8 0), (.int .u8 0), (.int .u8 0), (.int .u8 0), (.int .u8 0), (.int .u8 0), (.int .u8 0), (.int .u8 0), (.int .u8 0), (.int .u8 0), (.int .u8 0), (.int .u8 0), (.int .u8 0), (.int .u8 0), (.int .u8 0), (.int .u8 0), (.int .u8 0), (.int .u8 0), (.int .u8 0), (.int .u8 0), (.int .u8 0), (.int .u8 0), (.int .u8 0), (.int .u8 0), (.int .u8 0), (.int .u8 0), (.int .u8 0), (.int .u8 0), (.int .u8 0), (.int .u8 0), (.int .u8 0), (.int .u8 0), (.int .u8 0), (.int .u8 0), (.int .u8 0), (.int .u8 0), (.int .u8 0)])⟩ := by kernel_rfl
@[go_sem] theorem tin247 : tin Tryz.prog 247 = some ⟨.func, 1, 8, some .nilFunc⟩ := by kernel_rfl
@[go_sem] theorem tin248 : tin Tryz.prog 248 = some ⟨.func, 1, 8, some .nilFunc⟩ := by kernel_rfl
@[go_sem] theorem tin249 : tin Tryz.prog 249 = some ⟨.func, 1, 8, some .nilFunc⟩ := by kernel_rfl
@[go_sem] theorem tin250 : tin Tryz.prog 250 = some ⟨.func, 1, 8, some .nilFunc⟩ := by kernel_rfl
@[go_sem] theorem tin251 : tin Tryz.prog 251 = some ⟨(.sl 3), 1, 24, some (.slice none 0 0)⟩ := by kernel_rfl
@[go_sem] theorem tin252 : tin Tryz.prog 252 = some ⟨(.ptr 232), 1, 8, some (.pointer none)⟩ := by kernel_rfl
@[go_sem] theorem tin253 : tin Tryz.prog 253 = some ⟨.func, 1, 8, some .nilFunc⟩ := by kernel_rfl
@[go_sem] theorem tin254 : tin Tryz.prog 254 = some ⟨.func, 1, 8, some .nilFunc⟩ := by kernel_rfl
@[go_sem] theorem tin256 : tin Tryz.prog 256 = some ⟨.func, 1, 8, some .nilFunc⟩ := by kernel_rfl
@[go_sem] theorem tin257 : tin Tryz.prog 257 = some ⟨(.ptr 226), 1, 8, some (.pointer none)⟩ := by kernel_rfl
@[go_sem] theorem tin258 : tin Tryz.prog 258 = some ⟨.func, 1, 8, some .nilFunc⟩ := by kernel_rfl
@[go_sem] theorem tin259 : tin Tryz.prog 259 = some ⟨(.ptr 224), 1, 8, some (.pointer none)⟩ := by kernel_rfl
@[go_sem] theorem tin260 : tin Tryz.prog 260 = some ⟨.func, 1, 8, some .nilFunc⟩ := by kernel_rfl
@[go_sem] theorem tin261 : tin Tryz.prog 261 = some ⟨(.ptr 280), 1, 8, some (.pointer none)⟩ := by kernel_rfl
@[go_sem] theorem tin262 : tin Tryz.prog 262 = some ⟨.func, 1, 8, some .nilFunc⟩ := by kernel_rfl
@[go_sem] theorem tin263 : tin Tryz.prog 263 = some ⟨(.ptr 286), 1, 8, some (.pointer none)⟩ := by kernel_rfl
@[go_sem] theorem tin264 : tin Tryz.prog 264 = some ⟨.func, 1, 8, some .nilFunc⟩ := by kernel_rfl
@[go_sem] theorem tin265 : tin Tryz.prog 265 = some ⟨.arr, 256, 256, some (.agg #[(.int .u8 0), (.int .u8 0), (.int .u8 0), (.int .u8 0), (.int .u8 0), (.int .u8 0), (.int .u8 0), (.int .u8 0), (.int .u8 0), (.int .u8 0), (.int .u8 0), (.int .u8 0), (.int .u8 0), (.int .u8 0), (.int .u8 0), (.int .u8 0), (.int .u8 0), (.int .u8 0), (.int .u8 0), (.int .u8 0), (.int .u8 0), (.int .u8 0), (.int .u8 0), (.int .u8 0), (.int .u8 0), (.int .u8 0), (.int .u8 0), (.int .u8 0), (.int .u8 0), (.int .u8 0), (.int .u8 0), (.int .u8 0), (.int .u8 0), (.int .u8 0), (.int .u8 0), (.int .u8 0), (.int .u8 0), (.int .u8 0), (.int .u8 0), (.int .u8 0), (.int .u8 0), (.int .u8 0), (.int .u8 0), (.int .u8 0), (.int .u8 0), (.int .u8 0), (.int .u8 0), (.int .u8 0), (.int .u8 0), (.int .u8 0), (.int .u8 0), (.int .u8 0), (.int .u8 0), (.int .u8 0), (.int .u8 0), (.int .u8 0), (.int .u8 0), (.int .u8 0), (.int .u8 0), (.int .u8 0), (.int .u8 0), (.int .u8 0), (.int .u8 0), (.int .u8 0), (.int .u8 0), (.int .u8 0), (.int .u8 0), (.int .u8 0), (.int .u8 0), (.int .u8 0), (.int .u8 0), (.int .u8 0), (.int .u8 0), (.int .u8 0), (.int .u8 0), (.int .u8 0), (.int .u8 0), (.int .u8 0), (.int .u8 0), (.int .u8 0), (.int .u8 0), (.int .u8 0), (.int .u8 0), (.int .u8 0), (.int .u8 0), (.int .u8 0), (.int .u8 0), (.int .u8 0), (.int .u8 0), (.int .u8 0), (.int .u8 0), (.int .u8 0), (.int .u8 0), (.int .u8 0), (.int .u8 0), (.int .u8 0), (.int .u8 0), (.int .u8 0), (.int .u8 0), (.int .u8 0), (.int .u8 0), (.int .u8 0), (.int .u8 0), (.int .u8 0), (.int .u8 0), (.int .u8 0), (.int .u8 0), (.int .u8 0), (.int .u8 0), (.int .u8 0), (.int .u8 0), (.int .u8 0), (.int .u8 0), (.int .u8 0), (.int .u8 0), (.int .u8 0), (.int .u8 0), (.int .u8 0), (.int .u8 0), (.int .u8 0), (.int .u8 0), (.int .u8 0), (.int .u8 0), (.int .u8 0), (.int .u8 0), (.int .u8 0), (.int .u8 0), (.int .u8 0), (.int .u8 0), (.int .u8 0), (.int .u8 0), (.int .u8 0), (.int .u8 0), (.int .u8 0), (.int .u8 0), (.int .u8 0), (.int .u8 0), (.int .u8 0), (.int .u8 0), (.int .u8 0), (.int .u8 0), (.int .u8 0), (.int .u8 0), (.int .u8 0), (.int .u8 0), (.int .u8 0), (.int .u8 0), (.int .u8 0), (.int .u8 0), (.int .u8 0), (.int .u8 0), (.int .u8 0), (.int .u8 0), (.int .u8 0), (.int .u8 0), (.int .u8 0), (.int .u8 0), (.int .u8 0), (.int .u8 0), (.int .u8 0), (.int .u8 0), (.int .u8 0), (.int .u8 0), (.int .u8 0), (.int .u8 0), (.int .u8 0), (.int .u8 0), (.int .u8 0), (.int .u8 0), (.int .u8 0), (.int .u8 0), (.int .u8 0), (.int .u8 0), (.int .u8 0), (.int .u8 0), (.int .u8 0), (.int .u8 0), (.int .u8 0), (.int .u8 0), (.int .u8 0), (.int .u8 0), (.int .u8 0), (.int .u8 0), (.int .u8 0), (.int .u8 0), (.int .u8 0), (.int .u8 0), (.int .u8 0), (.int .u8 0), (.int .u8 0), (.int .u8 0), (.int .u8 0), (.int .u8 0), (.int .u8 0), (.int .u8 0), (.int .u8 0), (.int .u8 0), (.int .u8 0), (.int .u8 0), (.int .u8 0), (.int .u8 0), (.int .u8 0), (.int .u8 0), (.int .u8 0), (.int .u8 0), (.int .u8 0), (.int .u8 0), (.int .u8 0), (.int .u8 0), (.int .u8 0), (.int .u8 0), (.int .u8 0), (.int .u8 0), (.int .u8 0), (.int .u8 0), (.int .u8 0), (.int .u8 0), (.int .u8 0), (.int .u8 0), (.int .u8 0), (.int .u8 0), (.int .u8 0), (.int .u8 0), (.int .u8 0), (.int .u8 0), (.int .u8 0), (.int .u8 0), (.int .u8 0), (.int .u8 0), (.int .u8 0), (.int .u8 0), (.int .u8 0), (.int .u8 0), (.int .u8 0), (.int .u8 0), (.int .u8 0), (.int .u8 0), (.int .u8 0), (.int .u8 0), (.int .u8 0), (.int .u8 0), (.int .u8 0), (.int .u8 0), (.int .u8 0), (.int .u8 0), (.int .u8 0), (.int .u8 0), (.int .u8 0), (.int .u8 0), (.int .u8 0), (.int .u8 0), (.int .u8 0), (.int .u8 0), (.int .u8 0), (.int .u8 0), (.int .u8 0)])⟩ := by kernel_rfl
@[go_sem] theorem tin266 : tin Tryz.prog 266 = some ⟨.arr, 256, 256, some (.agg #[(.int .u8 0), (.int .u8 0), (.int .u8 0), (.int .u8 0), (.int .u8 0), (.int .u8 0), (.int .u8 0), (.int .u8 0), (.int .u8 0), (.int .u8 0), (.int .u8 0), (.int .u8 0), (.int .u8 0), (.int .u8 0), (.int .u8 0), (.int .u8 0), (.int .u8 0), (.int .u8 0), (.int .u8 0), (.int .u8 0), (.int .u8 0), (.int .u8 0), (.int .u8 0), (.int .u8 0), (.int .u8 0), (.int .u8 0), (.int .u8 0), (.int .u8 0), (.int .u8 0), (.int .u8 0), (.int .u8 0), (.int .u8 0), (.int .u8 0), (.int .u8 0), (.int .u8 0), (.int .u8 0), (.int .u8 0), (.int .u8 0), (.int .u8 0), (.int .u8 0), (.int .u8 0), (.int .u8 0), (.int .u8 0), (.int .u8 0), (.int .u8 0), (.int .u8 0), (.int .u8 0), (.int .u8 0), (.int .u8 0), (.int .u8 0), (.int .u8 0), (.int .u8 0), (.int .u8 0), (.int .u8 0), (.int .u8 0), (.int .u8 0), (.int .u8 0), (.int .u8 0), (.int .u8 0), (.int .u8 0), (.int .u8 0), (.int .u8 0), (.int .u8 0), (.int .u8 0), (.int .u8 0), (.int .u8 0), (.int .u8 0), (.int .u8 0), (.int .u8 0), (.int .u8 0), (.int .u8 0), (.int .u8 0), (.int .u8 0), (.int .u8 0), (.int .u8 0), (.int .u8 0), (.int .u8 0), (.int .u8 0), (.int .u8 0), (.int .u8 0), (.int .u8 0), (.int .u8 0), (.int .u8 0), (.int .u8 0), (.int .u8 0), (.int .u8 0), (.int .u8 0), (.int .u8 0), (.int .u8 0), (.int .u8 0), (.int .u8 0), (.int .u8 0), (.int .u8 0), (.int .u8 0), (.int .u8 0), (.int .u8 0), (.int .u8 0), (.int .u8 0), (.int .u8 0), (.int .u8 0), (.int .u8 0), (.int .u8 0), (.int .u8 0), (.int .u8 0), (.int .u8 0), (.int .u8 0), (.int .u8 0), (.int .u8 0), (.int .u8 0), (.int .u8 0), (.int .u8 0), (.int .u8 0), (.int .u8 0), (.int .u8 0), (.int .u8 0), (.int .u8 0), (.int .u8 0), (.int .u8 0), (.int .u8 0), (.int .u8 0), (.int .u8 0), (.int .u8 0), (.int .u8 0), (.int .u8 0), (.int .u8 0), (.int .u8 0), (.int .u8 0), (.int .u8 0), (.int .u8 0), (.int .u8 0), (.int .u8 0), (.int .u8 0), (.int .u8 0), (.int .u8 0), (.int .u8 0), (.int .u8 0), (.int .u8 0), (.int .u8 0), (.int .u8 0), (.int .u8 0), (.int .u8 0), (.int .u8 0), (.int .u8 0), (.int .u8 0), (.int .u8 0), (.int .u8 0), (.int .u8 0), (.int .u8 0), (.int .u8 0), (.int .u8 0), (.int .u8 0), (.int .u8 0), (.int .u8 0), (.int .u8 0), (.int .u8 0), (.int .u8 0), (.int .u8 0), (.int .u8 0), (.int .u8 0), (.int .u8 0), (.int .u8 0), (.int .u8 0), (.int .u8 0), (.int .u8 0), (.int .u8 0), (.int .u8 0), (.int .u8 0), (.int .u8 0), (.int .u8 0), (.int .u8 0), (.int .u8 0), (.int .u8 0), (.int .u8 0), (.int .u8 0), (.int .u8 0), (.int .u8 0), (.int .u8 0), (.int .u8 0), (.int .u8 0), (.int .u8 0), (.int .u8 0), (.int .u8 0), (.int .u8 0), (.int .u8 0), (.int .u8 0), (.int .u8 0), (.int .u8 0), (.int .u8 0), (.int .u8 0), (.int .u8 0), (.int .u8 0), (.int .u8 0), (.int .u8 0), (.int .u8 0), (.int .u8 0), (.int .u8 0), (.int .u8 0), (.int .u8 0), (.int .u8 0), (.int .u8 0), (.int .u8 0), (.int .u8 0), (.int .u8 0), (.int .u8 0), (.int .u8 0), (.int .u8 0), (.int .u8 0), (.int .u8 0), (.int .u8 0), (.int .u8 0), (.int .u8 0), (.int .u8 0), (.int .u8 0), (.int .u8 0), (.int .u8 0), (.int .u8 0), (.int .u8 0), (.int .u8 0), (.int .u8 0), (.int .u8 0), (.int .u8 0), (.int .u8 0), (.int .u8 0), (.int .u8 0), (.int .u8 0), (.int .u8 0), (.int .u8 0), (.int .u8 0), (.int .u8 0), (.int .u8 0), (.int .u8 0), (.int .u8 0), (.int .u8 0), (.int .u8 0), (.int .u8 0), (.int .u8 0), (.int .u8 0), (.int .u8 0), (.int .u8 0), (.int .u8 0), (.int .u8 0), (.int .u8 0), (.int .u8 0), (.int .u8 0), (.int .u8 0), (.int .u8 0), (.int .u8 0), (.int .u8 0), (.int .u8 0), (.int .u8 0), (.int .u8 0), (.int .u8 0), (.int .u8 0), (.int .u8 0), (.int .u8 0), (.int .u8 0)])⟩ := by kernel_rfl
@[go_sem] theorem tin267 : tin Tryz.prog 267 = some ⟨(.ptr 266), 1, 8, some (.pointer none)⟩ := by kernel_rfl
@[go_sem] theorem tin268 : tin Tryz.prog 268 = some ⟨.arr, 256, 6144, some (.agg #[(.slice none 0 0), (.slice none 0 0), (.slice none 0 0), (.slice none 0 0), (.slice none 0 0), (.slice none 0 0), (.slice none 0 0), (.slice none 0 0), (.slice none 0 0), (.slice none 0 0), (.slice none 0 0), (.slice none 0 0), (.slice none 0 0), (.slice none 0 0), (.slice none 0 0), (.slice none 0 0), (.slice none 0 0), (.slice none 0 0), (.slice none 0 0), (.slice none 0 0), (.slice none 0 0), (.slice none 0 0), (.slice none 0 0), (.slice none 0 0), (.slice none 0 0), (.slice none 0 0), (.slice none 0 0), (.slice none 0 0), (.slice none 0 0), (.slice none 0 0), (.slice none 0 0), (.slice none 0 0), (.slice none 0 0), (.slice none 0 0), (.slice none 0 0), (.slice none 0 0), (.slice none 0 0), (.slice none 0 0), (.slice none 0 0), (.slice none 0 0), (.slice none 0 0), (.slice none 0 0), (.slice none 0 0), (.slice none 0 0), (.slice none 0 0), (.slice none 0 0), (.slice none 0 0), (.slice none 0 0), (.slice none 0 0), (.slice none 0 0), (.slice none 0 0), (.slice none 0 0), (.slice none 0 0), (.slice none 0 0), (.slice none 0 0), (.slice none 0 0), (.slice none 0 0), (.slice none 0 0), (.slice none 0 0), (.slice none 0 0), (.slice none 0 0), (.slice none 0 0), (.slice none 0 0), (.slice none 0 0), (.slice none 0 0), (.slice none 0 0), (.slice none 0 0), (.slice none 0 0), (.slice none 0 0), (.slice none 0 0), (.slice none 0 0), (.slice none 0 0), (.slice none 0 0), (.slice none 0 0), (.slice none 0 0), (.slice none 0 0), (.slice none 0 0), (.slice none 0 0), (.slice none 0 0), (.slice none 0 0), (.slice none 0 0), (.slice none 0 0), (.slice none 0 0), (.slice none 0 0), (.slice none 0 0), (.slice none 0 0), (.slice none 0 0), (.slice none 0 0), (.slice none 0 0), (.slice none 0 0), (.slice none 0 0), (.slice none 0 0), (.slice none 0 0), (.slice none 0 0), (.slice none 0 0), (.slice none 0 0), (.slice none 0 0), (.slice none 0 0), (.slice none 0 0), (.slice none 0 0), (.slice none 0 0), (.slice none 0 0), (.slice none 0 0), (.slice none 0 0), (.slice none 0 0), (.slice none 0 0), (.slice none 0 0), (.slice none 0 0), (.slice none 0 0), (.slice none 0 0), (.slice none 0 0), (.slice none 0 0), (.slice none 0 0), (.slice none 0 0), (.slice none 0 0), (.slice none 0 0), (.slice none 0 0), (.slice none 0 0), (.slice none 0 0), (.slice none 0 0), (.slice none 0 0), (.slice none 0 0), (.slice none 0 0), (.slice none 0 0), (.slice none 0 0), (.slice none 0 0), (.slice none 0 0), (.slice none 0 0), (.slice none 0 0), (.slice none 0 0), (.slice none 0 0), (.slice none 0 0), (.slice none 0 0), (.slice none 0 0), (.slice none 0 0), (.slice none 0 0), (.slice none 0 0), (.slice none 0 0), (.slice none 0 0), (.slice none 0 0), (.slice none 0 0), (.slice none 0 0), (.slice none 0 0), (.slice none 0 0), (.slice none 0 0), (.slice none 0 0), (.slice none 0 0), (.slice none 0 0), (.slice none 0 0), (.slice none 0 0), (.slice none 0 0), (.slice none 0 0), (.slice none 0 0), (.slice none 0 0), (.slice none 0 0), (.slice none 0 0), (.slice none 0 0), (.slice none 0 0), (.slice none 0 0), (.slice none 0 0), (.slice none 0 0), (.slice none 0 0), (.slice none 0 0), (.slice none 0 0), (.slice none 0 0), (.slice none 0 0), (.slice none 0 0), (.slice none 0 0), (.slice none 0 0), (.slice none 0 0), (.slice none 0 0), (.slice none 0 0), (.slice none 0 0), (.slice none 0 0), (.slice none 0 0), (.slice none 0 0), (.slice none 0 0), (.slice none 0 0), (.slice none 0 0), (.slice none 0 0), (.slice none 0 0), (.slice none 0 0), (.slice none 0 0), (.slice none 0 0), (.slice none 0 0), (.slice none 0 0), (.slice none 0 0), (.slice none 0 0), (.slice none 0 0), (.slice none 0 0), (.slice none 0 0), (.slice none 0 0), (.slice none 0 0), (.slice none 0 0), (.slice none 0 0), (.slice none 0 0), (.slice none 0 0), (.slice none 0 0), (.slice none 0 0), (.slice none 0 0), (.slice none 0 0), (.slice none 0 0), (.slice none 0 0), (.slice none 0 0), (.slice none 0 0), (.slice none 0 0), (.slice none 0 0), (.slice none 0 0), (.slice none 0 0), (.slice none 0 0), (.slice none 0 0), (.slice none 0 0), (.slice none 0 0), (.slice none 0 0), (.slice none 0 0), (.slice none 0 0), (.slice none 0 0), (.slice none 0 0), (.slice none 0 0), (.slice none 0 0), (.slice none 0 0), (.slice none 0 0), (.slice none 0 0), (.slice none 0 0), (.slice none 0 0), (.slice none 0 0), (.slice none 0 0), (.slice none 0 0), (.slice none 0 0), (.slice none 0 0), (.slice none 0 0), (.slice none 0 0), (.slice none 0 0), (.slice none 0 0), (.slice none 0 0), (.slice none 0 0), (.slice none 0 0), (.slice none 0 0), (.slice none 0 0), (.slice none 0 0), (.slice none 0 0), (.slice none 0 0), (.slice none 0 0), (.slice none 0 0), (.slice none 0 0), (.slice none 0 0), (.slice none 0 0), (.slice none 0 0), (.slice none 0 0), (.slice none 0 0), (.slice none 0 0), (.slice none 0 0), (.slice none 0 0), (.slice none 0 0), (.slice none 0 0), (.slice none 0 0)])⟩ := by kernel_rfl
@[go_sem] theorem tin269 : tin Tryz.prog 269 = some ⟨(.st [(268, 0), (78, 256)]), 257, 6168, some (.agg #[(.slice none 0 0), (.slice none 0 0), (.slice none 0 0), (.slice none 0 0), (.slice none 0 0), (.slice none 0 0), (.slice none 0 0), (.slice none 0 0), (.slice none 0 0), (.slice none 0 0), (.slice none 0 0), (.slice none 0 0), (.slice none 0 0), (.slice none 0 0), (.slice none 0 0), (.slice none 0 0), (.slice none 0 0), (.slice none 0 0), (.slice none 0 0), (.slice none 0 0), (.slice none 0 0), (.slice none 0 0), (.slice none 0 0), (.slice none 0 0), (.slice none 0 0), (.slice none 0 0), (.slice none 0 0), (.slice none 0 0), (.slice none 0 0), (.slice none 0 0), (.slice none 0 0), (.slice none 0 0), (.slice none 0 0), (.slice none 0 0), (.slice none 0 0), (.slice none 0 0), (.slice none 0 0), (.slice none 0 0), (.slice none 0 0), (.slice none 0 0), (.slice none 0 0), (.slice none 0 0), (.slice none 0 0), (.slice none 0 0), (.slice none 0 0), (.slice none 0 0), (.slice none 0 0), (.slice none 0 0), (.slice none 0 0), (.slice none 0 0), (.slice none 0 0), (.slice none 0 0), (.slice none 0 0), (.slice none 0 0), (.slice none 0 0), (.slice none 0 0), (.slice none 0 0), (.slice none 0 0), (.slice none 0 0), (.slice none 0 0), (.slice none 0 0), (.slice none 0 0), (.slice none 0 0), (.slice none 0 0), (.slice none 0 0), (.slice none 0 0), (.slice none 0 0), (.slice none 0 0), (.slice none 0 0), (.slice none 0 0), (.slice none 0 0), (.slice none 0 0), (.slice none 0 0), (.slice none 0 0), (.slice none 0 0), (.slice none 0 0), (.slice none 0 0), (.slice none 0 0), (.slice none 0 0), (.slice none 0 0), (.slice none 0 0), (.slice none 0 0), (.slice none 0 0), (.slice none 0 0), (.slice none 0 0), (.slice none 0 0), (.slice none 0 0), (.slice none 0 0), (.slice none 0 0), (.slice none 0 0), (.slice none 0 0), (.slice none 0 0), (.slice none 0 0), (.slice none 0 0), (.slice none 0 0), (.slice none 0 0), (.slice none 0 0), (.slice none 0 0), (.slice none 0 0), (.slice none 0 0), (.slice none 0 0), (.slice none 0 0), (.slice none 0 0), (.slice none 0 0), (.slice none 0 0), (.slice none 0 0), (.slice none 0 0), (.slice none 0 0), (.slice none 0 0), (.slice none 0 0), (.slice none 0 0), (.slice none 0 0), (.slice none 0 0), (.slice none 0 0), (.slice none 0 0), (.slice none 0 0), (.slice none 0 0), (.slice none 0 0), (.slice none 0 0), (.slice none 0 0), (.slice none 0 0), (.slice none 0 0), (.slice none 0 0), (.slice none 0 0), (.slice none 0 0), (.slice none 0 0), (.slice none 0 0), (.slice none 0 0), (.slice none 0 0), (.slice none 0 0), (.slice none 0 0), (.slice none 0 0), (.slice none 0 0), (.slice none 0 0), (.slice none 0 0), (.slice none 0 0), (.slice none 0 0), (.slice none 0 0), (.slice none 0 0), (.slice none 0 0), (.slice none 0 0), (.slice none 0 0), (.slice none 0 0), (.slice none 0 0), (.slice none 0 0), (.slice none 0 0), (.slice none 0 0), (.slice none 0 0), (.slice none 0 0), (.slice none 0 0), (.slice none 0 0), (.slice none 0 0), (.slice none 0 0), (.slice none 0 0), (.slice none 0 0), (.slice none 0 0), (.slice none 0 0), (.slice none 0 0), (.slice none 0 0), (.slice none 0 0), (.slice none 0 0), (.slice none 0 0), (.slice none 0 0), (.slice none 0 0), (.slice none 0 0), (.slice none 0 0), (.slice none 0 0), (.slice none 0 0), (.slice none 0 0), (.slice none 0 0), (.slice none 0 0), (.slice none 0 0), (.slice none 0 0), (.slice none 0 0), (.slice none 0 0), (.slice none 0 0), (.slice none 0 0), (.slice none 0 0), (.slice none 0 0), (.slice none 0 0), (.slice none 0 0), (.slice none 0 0), (.slice none 0 0), (.slice none 0 0), (.slice none 0 0), (.slice none 0 0), (.slice none 0 0), (.slice none 0 0), (.slice none 0 0), (.slice none 0 0), (.slice none 0 0), (.slice none 0 0), (.slice none 0 0), (.slice none 0 0), (.slice none 0 0), (.slice none 0 0), (.slice none 0 0), (.slice none 0 0), (.slice none 0 0), (.slice none 0 0), (.slice none 0 0), (.slice none 0 0), (.slice none 0 0), (.slice none 0 0), (.slice none 0 0), (.slice none 0 0), (.slice none 0 0), (.slice none 0 0), (.slice none 0 0), (.slice none 0 0), (.slice none 0 0), (.slice none 0 0), (.slice none 0 0), (.slice none 0 0), (.slice none 0 0), (.slice none 0 0), (.slice none 0 0), (.slice none 0 0), (.slice none 0 0), (.slice none 0 0), (.slice none 0 0), (.slice none 0 0), (.slice none 0 0), (.slice none 0 0), (.slice none 0 0), (.slice none 0 0), (.slice none 0 0), (.slice none 0 0), (.slice none 0 0), (.slice none 0 0), (.slice none 0 0), (.slice none 0 0), (.slice none 0 0), (.slice none 0 0), (.slice none 0 0), (.slice none 0 0), (.slice none 0 0), (.slice none 0 0), (.slice none 0 0), (.slice none 0 0), (.slice none 0 0), (.slice none 0 0), (.slice none 0 0), (.slice none 0 0), (.slice none 0 0), (.slice none 0 0), (.slice none 0 0), (.slice none 0 0), (.slice none 0 0), (.slice none 0 0), (.slice none 0 0), (.slice none 0 0), (.slice none 0 0), (.slice none 0 0), (.slice none 0 0), (.slice none 0 0), (.slice none 0 0)])⟩ := by kernel_rfl
@[go_sem] theorem tin270 : tin Tryz.prog 270 = some ⟨(.st [(268, 0), (78, 256)]), 257, 6168, some (.agg #[(.slice none 0 0), (.slice none 0 0), (.slice none 0 0), (.slice none 0 0), (.slice none 0 0), (.slice none 0 0), (.slice none 0 0), (.slice none 0 0), (.slice none 0 0), (.slice none 0 0), (.slice none 0 0), (.slice none 0 0), (.slice none 0 0), (.slice none 0 0), (.slice none 0 0), (.slice none 0 0), (.slice none 0 0), (.slice none 0 0), (.slice none 0 0), (.slice none 0 0), (.slice none 0 0), (.slice none 0 0), (.slice none 0 0), (.slice none 0 0), (.slice none 0 0), (.slice none 0 0), (.slice none 0 0), (.slice none 0 0), (.slice none 0 0), (.slice none 0 0), (.slice none 0 0), (.slice none 0 0), (.slice none 0 0), (.slice none 0 0), (.slice none 0 0), (.slice none 0 0), (.slice none 0 0), (.slice none 0 0), (.slice none 0 0), (.slice none 0 0), (.slice none 0 0), (.slice none 0 0), (.slice none 0 0), (.slice none 0 0), (.slice none 0 0), (.slice none 0 0), (.slice none 0 0), (.slice none 0 0), (.slice none 0 0), (.slice none 0 0), (.slice none 0 0), (.slice none 0 0), (.slice none 0 0), (.slice none 0 0), (.slice none 0 0), (.slice none 0 0), (.slice none 0 0), (.slice none 0 0), (.slice none 0 0), (.slice none 0 0), (.slice none 0 0), (.slice none 0 0), (.slice none 0 0), (.slice none 0 0), (.slice none 0 0), (.slice none 0 0), (.slice none 0 0), (.slice none 0 0), (.slice none 0 0), (.slice none 0 0), (.slice none 0 0), (.slice none 0 0), (.slice none 0 0), (.slice none 0 0), (.slice none 0 0), (.slice none 0 0), (.slice none 0 0), (.slice none 0 0), (.slice none 0 0), (.slice none 0 0), (.slice none 0 0), (.slice none 0 0), (.slice none 0 0), (.slice none 0 0), (.slice none 0 0), (.slice none 0 0), (.slice none 0 0), (.slice none 0 0), (.slice none 0 0), (.slice none 0 0), (.slice none 0 0), (.slice none 0 0), (.slice none 0 0), (.slice none 0 0), (.slice none 0 0), (.slice none 0 0), (.slice none 0 0), (.slice none 0 0), (.slice none 0 0), (.slice none 0 0), (.slice none 0 0), (.slice none 0 0), (.slice none 0 0), (.slice none 0 0), (.slice none 0 0), (.slice none 0 0), (.slice none 0 0), (.slice none 0 0), (.slice none 0 0), (.slice none 0 0), (.slice none 0 0), (.slice none 0 0), (.slice none 0 0), (.slice none 0 0), (.slice none 0 0), (.slice none 0 0), (.slice none 0 0), (.slice none 0 0), (.slice none 0 0), (.slice none 0 0), (.slice none 0 0), (.slice none 0 0), (.slice none 0 0), (.slice none 0 0), (.slice none 0 0), (.slice none 0 0), (.slice none 0 0), (.slice none 0 0), (.slice none 0 0), (.slice none 0 0), (.slice none 0 0), (.slice none 0 0), (.slice none 0 0), (.slice none 0 0), (.slice none 0 0), (.slice none 0 0), (.slice none 0 0), (.slice none 0 0), (.slice none 0 0), (.slice none 0 0), (.slice none 0 0), (.slice none 0 0), (.slice none 0 0), (.slice none 0 0), (.slice none 0 0), (.slice none 0 0), (.slice none 0 0), (.slice none 0 0), (.slice none 0 0), (.slice none 0 0), (.slice none 0 0), (.slice none 0 0), (.slice none 0 0), (.slice none 0 0), (.slice none 0 0), (.slice none 0 0), (.slice none 0 0), (.slice none 0 0), (.slice none 0 0), (.slice none 0 0), (.slice none 0 0), (.slice none 0 0), (.slice none 0 0), (.slice none 0 0), (.slice none 0 0), (.slice none 0 0), (.slice none 0 0), (.slice none 0 0), (.slice none 0 0), (.slice none 0 0), (.slice none 0 0), (.slice none 0 0), (.slice none 0 0), (.slice none 0 0), (.slice none 0 0), (.slice none 0 0), (.slice none 0 0), (.slice none 0 0), (.slice none 0 0), (.slice none 0 0), (.slice none 0 0), (.slice none 0 0), (.slice none 0 0), (.slice none 0 0), (.slice none 0 0), (.slice none 0 0), (.slice none 0 0), (.slice none 0 0), (.slice none 0 0), (.slice none 0 0), (.slice none 0 0), (.slice none 0 0), (.slice none 0 0), (.slice none 0 0), (.slice none 0 0), (.slice none 0 0), (.slice none 0 0), (.slice none 0 0), (.slice none 0 0), (.slice none 0 0), (.slice none 0 0), (.slice none 0 0), (.slice none 0 0), (.slice none 0 0), (.slice none 0 0), (.slice none 0 0), (.slice none 0 0), (.slice none 0 0), (.slice none 0 0), (.slice none 0 0), (.slice none 0 0), (.slice none 0 0), (.slice none 0 0), (.slice none 0 0), (.slice none 0 0), (.slice none 0 0), (.slice none 0 0), (.slice none 0 0), (.slice none 0 0), (.slice none 0 0), (.slice none 0 0), (.slice none 0 0), (.slice none 0 0), (.slice none 0 0), (.slice none 0 0), (.slice none 0 0), (.slice none 0 0), (.slice none 0 0), (.slice none 0 0), (.slice none 0 0), (.slice none 0 0), (.slice none 0 0), (.slice none 0 0), (.slice none 0 0), (.slice none 0 0), (.slice none 0 0), (.slice none 0 0), (.slice none 0 0), (.slice none 0 0), (.slice none 0 0), (.slice none 0 0), (.slice none 0 0), (.slice none 0 0), (.slice none 0 0), (.slice none 0 0), (.slice none 0 0), (.slice none 0 0), (.slice none 0 0), (.slice none 0 0), (.slice none 0 0), (.slice none 0 0), (.slice none 0 0), (.slice none 0 0), (.slice none 0 0), (.slice none 0 0), (.slice none 0 0), (.slice none 0 0)])⟩ := by kernel_rfl
@[go_sem] theorem tin271 : tin Tryz.prog 271 = some ⟨(.ptr 270), 1, 8, some (.pointer none)⟩ := by kernel_rfl
@[go_sem] theorem tin272 : tin Tryz.prog 272 = some ⟨.arr, 32, 32, some (.agg #[(.int .u8 0), (.int .u8 0), (.int .u8 0), (.int .u8 0), (.int .u8 0), (.int .u8 0), (.int .u8 0), (.int .u8 0), (.int .u8 0), (.int .u8 0), (.int .u8 0), (.int .u8 0), (.int .u8 0), (.int .u8 0), (.int .u8 0), (.int .u8 0), (.int .u8 0), (.int .u8 0), (.int .u8 0), (.int .u8 0), (.int .u8 0), (.int .u8 0), (.int .u8 0), (.int .u8 0), (.int .u8 0), (.int .u8 0), (.int .u8 0), (.int .u8 0), (.int .u8 0), (.int .u8 0), (.int .u8 0), (.int .u8 0)])⟩ := by kernel_rfl
@[go_sem] theorem tin273 : tin Tryz.prog 273 = some ⟨.arr, 64, 64, some (.agg #[(.int .u8 0), (.int .u8 0), (.int .u8 0), (.int .u8 0), (.int .u8 0), (.int .u8 0), (.int .u8 0), (.int .u8 0), (.int .u8 0), (.int .u8 0), (.int .u8 0), (.int .u8 0), (.int .u8 0), (.int .u8 0), (.int .u8 0), (.int .u8 0), (.int .u8 0), (.int .u8 0), (.int .u8 0), (.int .u8 0), (.int .u8 0), (.int .u8 0), (.int .u8 0), (.int .u8 0), (.int .u8 0), (.int .u8 0), (.int .u8 0), (.int .u8 0), (.int .u8 0), (.int .u8 0), (.int .u8 0), (.int .u8 0), (.int .u8 0), (.int .u8 0), (.int .u8 0), (.int .u8 0), (.int .u8 0), (.int .u8 0), (.int .u8 0), (.int .u8 0), (.int .u8 0), (.int .u8 0), (.int .u8 0), (.int .u8 0), (.int .u8 0), (.int .u8 0), (.int .u8 0), (.int .u8 0), (.int .u8 0), (.int .u8 0), (.int .u8 0), (.int .u8 0), (.int .u8 0), (.int .u8 0), (.int .u8 0), (.int .u8 0), (.int .u8 0), (.int .u8 0), (.int .u8 0), (.int .u8 0), (.int .u8 0), (.int .u8 0), (.int .u8 0), (.int .u8 0)])⟩ := by kernel_rfl
@[go_sem] theorem tin274 : tin Tryz.prog 274 = some ⟨(.ptr 230), 1, 8, some (.pointer none)⟩ := by kernel_rfl
@[go_sem] theorem tin275 : tin Tryz.prog 275 = some ⟨.func, 1, 8, some .nilFunc⟩ := by kernel_rfl
@[go_sem] theorem tin276 : tin Tryz.prog 276 = some ⟨.func, 1, 8, some .nilFunc⟩ := by kernel_rfl
@[go_sem] theorem tin277 : tin Tryz.prog 277 = some ⟨(.ptr 296), 1, 8, some (.pointer none)⟩ := by kernel_rfl
@[go_sem] theorem tin278 : tin Tryz.prog 278 = some ⟨.func, 1, 8, some .nilFunc⟩ := by kernel_rfl
@[go_sem] theorem tin279 : tin Tryz.prog 279 = some ⟨(.st [(277, 0), (9, 1)]), 2, 24, some (.agg #[(.pointer none), (.string ByteArray.empty)])⟩ := by kernel_rfl
@[go_sem] theorem tin280 : tin Tryz.prog 280 = some ⟨(.st [(277, 0), (9, 1)]), 2, 24, some (.agg #[(.pointer none), (.string ByteArray.empty)])⟩ := by kernel_rfl
@[go_sem] theorem tin281 : tin Tryz.prog 281 = some ⟨(.ptr 284), 1, 8, some (.pointer none)⟩ := by kernel_rfl
@[go_sem] theorem tin282 : tin Tryz.prog 282 = some ⟨(.sl 281), 1, 24, some (.slice none 0 0)⟩ := by kernel_rfl
@[go_sem] theorem tin283 : tin Tryz.prog 283 = some ⟨(.st [(9, 0), (3, 1), (9, 2), (281, 3), (282, 4)]), 5, 72, some (.agg #[(.string ByteArray.empty), (.int .i64 0), (.string ByteArray.empty), (.pointer none), (.slice none 0 0)])⟩ := by kernel_rfl
@[go_sem] theorem tin284 : tin Tryz.prog 284 = some ⟨(.st [(9, 0), (3, 1), (9, 2), (281, 3), (282, 4)]), 5, 72, some (.agg #[(.string ByteArray.empty), (.int .i64 0), (.string ByteArray.empty), (.pointer none), (.slice none 0 0)])⟩ := by kernel_rfl
@[go_sem] theorem tin285 : tin Tryz.prog 285 = some ⟨(.st [(284, 0), (3, 5), (265, 6)]), 262, 336, some (.agg #[(.string ByteArray.empty), (.int .i64 0), (.string ByteArray.empty), (.pointer none), (.slice none 0 0), (.int .i64 0), (.int .u8 0), (.int .u8 0), (.int .u8 0), (.int .u8 0), (.int .u8 0), (.int .u8 0), (.int .u8 0), (.int .u8 0), (.int .u8 0), (.int .u8 0), (.int .u8 0), (.int .u8 0), (.int .u8 0), (.int .u8 0), (.int .u8 0), (.int .u8 0), (.int .u8 0), (.int .u8 0), (.int .u8 0), (.int .u8 0), (.int .u8 0), (.int .u8 0), (.int .u8 0), (.int .u8 0), (.int .u8 0), (.int .u8 0), (.int .u8 0), (.int .u8 0), (.int .u8 0), (.int .u8 0), (.int .u8 0), (.int .u8 0), (.int .u8 0), (.int .u8 0), (.int .u8 0), (.int .u8 0), (.int .u8 0), (.int .u8 0), (.int .u8 0), (.int .u8 0), (.int .u8 0), (.int .u8 0), (.int .u8 0), (.int .u8 0), (.int .u8 0), (.int .u8 0), (.int .u8 0), (.int .u8 0), (.int .u8 0), (.int .u8 0), (.int .u8 0), (.int .u8 0), (.int .u8 0), (.int .u8 0), (.int .u8 0), (.int .u8 0), (.int .u8 0), (.int .u8 0), (.int .u8 0), (.int .u8 0), (.int .u8 0), (.int .u8 0), (.int .u8 0), (.int .u8 0), (.int .u8 0), (.int .u8 0), (.int .u8 0), (.int .u8 0), (.int .u8 0), (.int .u8 0), (.int .u8 0), (.int .u8 0), (.int .u8 0), (.int .u8 0), (.int .u8 0), (.int .u8 0), (.int .u8 0), (.int .u8 0), (.int .u8 0), (.int .u8 0), (.int .u8 0), (.int .u8 0), (.int .u8 0), (.int .u8 0), (.int .u8 0), (.int .u8 0), (.int .u8 0), (.int .u8 0), (.int .u8 0), (.int .u8 0), (.int .u8 0), (.int .u8 0), (.int .u8 0), (.int .u8 0), (.int .u8 0), (.int .u8 0), (.int .u8 0), (.int .u8 0), (.int .u8 0), (.int .u8 0), (.int .u8 0), (.int .u8 0), (.int .u8 0), (.int .u8 0), (.int .u8 0), (.int .u8 0), (.int .u8 0), (.int .u8 0), (.int .u8 0), (.int .u8 0), (.int .u8 0), (.int .u8 0), (.int .u8 0), (.int .u8 0), (.int .u8 0), (.int .u8 0), (.int .u8 0), (.int .u8 0), (.int .u8 0), (.int .u8 0), (.int .u8 0), (.int .u8 0), (.int .u8 0), (.int .u8 0), (.int .u8 0), (.int .u8 0), (.int .u8 0), (.int .u8 0), (.int .u8 0), (.int .u8 0), (.int .u8 0), (.int .u8 0), (.int .u8 0), (.int .u8 0), (.int .u8 0), (.int .u8 0), (.int .u8 0), (.int .u8 0), (.int .u8 0), (.int .u8 0), (.int .u8 0), (.int .u8 0), (.int .u8 0), (.int .u8 0), (.int .u8 0), (.int .u8 0), (.int .u8 0), (.int .u8 0), (.int .u8 0), (.int .u8 0), (.int .u8 0), (.int .u8 0), (.int .u8 0), (.int .u8 0), (.int .u8 0), (.int .u8 0), (.int .u8 0), (.int .u8 0), (.int .u8 0), (.int .u8 0), (.int .u8 0), (.int .u8 0), (.int .u8 0), (.int .u8 0), (.int .u8 0), (.int .u8 0), (.int .u8 0), (.int .u8 0), (.int .u8 0), (.int .u8 0), (.int .u8 0), (.int .u8 0), (.int .u8 0), (.int .u8 0), (.int .u8 0), (.int .u8 0), (.int .u8 0), (.int .u8 0), (.int .u8 0), (.int .u8 0), (.int .u8 0), (.int .u8 0), (.int .u8 0), (.int .u8 0), (.int .u8 0), (.int .u8 0), (.int .u8 0), (.int .u8 0), (.int .u8 0), (.int .u8 0), (.int .u8 0), (.int .u8 0), (.int .u8 0), (.int .u8 0), (.int .u8 0), (.int .u8 0), (.int .u8 0), (.int .u8 0), (.int .u8 0), (.int .u8 0), (.int .u8 0), (.int .u8 0), (.int .u8 0), (.int .u8 0), (.int .u8 0), (.int .u8 0), (.int .u8 0), (.int .u8 0), (.int .u8 0), (.int .u8 0), (.int .u8 0), (.int .u8 0), (.int .u8 0), (.int .u8 0), (.int .u8 0), (.int .u8 0), (.int .u8 0), (.int .u8 0), (.int .u8 0), (.int .u8 0), (.int .u8 0), (.int .u8 0), (.int .u8 0), (.int .u8 0), (.int .u8 0), (.int .u8 0), (.int .u8 0), (.int .u8 0), (.int .u8 0), (.int .u8 0), (.int .u8 0), (.int .u8 0), (.int .u8 0), (.int .u8 0), (.int .u8 0), (.int .u8 0), (.int .u8 0), (.int .u8 0), (.int .u8 0), (.int .u8 0), (.int .u8 0), (.int .u8 0), (.int .u8 0), (.int .u8 0), (.int .u8 0), (.int .u8 0), (.int .u8 0), (.int .u8 0), (.int .u8 0), (.int .u8 0), (.int .u8 0), (.int .u8 0), (.int .u8 0), (.int .u8 0), (.int .u8 0), (.int .u8 0)])⟩ := by kernel_rfl
@[go_sem] theorem tin286 : tin Tryz.prog 286 = some ⟨(.st [(284, 0), (3, 5), (265, 6)]), 262, 336, some (.agg #[(.string ByteArray.empty), (.int .i64 0), (.string ByteArray.empty), (.pointer none), (.slice none 0 0), (.int .i64 0), (.int .u8 0), (.int .u8 0), (.int .u8 0), (.int .u8 0), (.int .u8 0), (.int .u8 0), (.int .u8 0), (.int .u8 0), (.int .u8 0), (.int .u8 0), (.int .u8 0), (.int .u8 0), (.int .u8 0), (.int .u8 0), (.int .u8 0), (.int .u8 0), (.int .u8 0), (.int .u8 0), (.int .u8 0), (.int .u8 0), (.int .u8 0), (.int .u8 0), (.int .u8 0), (.int .u8 0), (.int .u8 0), (.int .u8 0), (.int .u8 0), (.int .u8 0), (.int .u8 0), (.int .u8 0), (.int .u8 0), (.int .u8 0), (.int .u8 0), (.int .u8 0), (.int .u8 0), (.int .u8 0), (.int .u8 0), (.int .u8 0), (.int .u8 0), (.int .u8 0), (.int .u8 0), (.int .u8 0), (.int .u8 0), (.int .u8 0), (.int .u8 0), (.int .u8 0), (.int .u8 0), (.int .u8 0), (.int .u8 0), (.int .u8 0), (.int .u8 0), (.int .u8 0), (.int .u8 0), (.int .u8 0), (.int .u8 0), (.int .u8 0), (.int .u8 0), (.int .u8 0), (.int .u8 0), (.int .u8 0), (.int .u8 0), (.int .u8 0), (.int .u8 0), (.int .u8 0), (.int .u8 0), (.int .u8 0), (.int .u8 0), (.int .u8 0), (.int .u8 0), (.int .u8 0), (.int .u8 0), (.int .u8 0), (.int .u8 0), (.int .u8 0), (.int .u8 0), (.int .u8 0), (.int .u8 0), (.int .u8 0), (.int .u8 0), (.int .u8 0), (.int .u8 0), (.int .u8 0), (.int .u8 0), (.int .u8 0), (.int .u8 0), (.int .u8 0), (.int .u8 0), (.int .u8 0), (.int .u8 0), (.int .u8 0), (.int .u8 0), (.int .u8 0), (.int .u8 0), (.int .u8 0), (.int .u8 0), (.int .u8 0), (.int .u8 0), (.int .u8 0), (.int .u8 0), (.int .u8 0), (.int .u8 0), (.int .u8 0), (.int .u8 0), (.int .u8 0), (.int .u8 0), (.int .u8 0), (.int .u8 0), (.int .u8 0), (.int .u8 0), (.int .u8 0), (.int .u8 0), (.int .u8 0), (.int .u8 0), (.int .u8 0), (.int .u8 0), (.int .u8 0), (.int .u8 0), (.int .u8 0), (.int .u8 0), (.int .u8 0), (.int .u8 0), (.int .u8 0), (.int .u8 0), (.int .u8 0), (.int .u8 0), (.int .u8 0), (.int .u8 0), (.int .u8 0), (.int .u8 0), (.int .u8 0), (.int .u8 0), (.int .u8 0), (.int .u8 0), (.int .u8 0), (.int .u8 0), (.int .u8 0), (.int .u8 0), (.int .u8 0), (.int .u8 0), (.int .u8 0), (.int .u8 0), (.int .u8 0), (.int .u8 0), (.int .u8 0), (.int .u8 0), (.int .u8 0), (.int .u8 0), (.int .u8 0), (.int .u8 0), (.int .u8 0), (.int .u8 0), (.int .u8 0), (.int .u8 0), (.int .u8 0), (.int .u8 0), (.int .u8 0), (.int .u8 0), (.int .u8 0), (.int .u8 0), (.int .u8 0), (.int .u8 0), (.int .u8 0), (.int .u8 0), (.int .u8 0), (.int .u8 0), (.int .u8 0), (.int .u8 0), (.int .u8 0), (.int .u8 0), (.int .u8 0), (.int .u8 0), (.int .u8 0), (.int .u8 0), (.int .u8 0), (.int .u8 0), (.int .u8 0), (.int .u8 0), (.int .u8 0), (.int .u8 0), (.int .u8 0), (.int .u8 0), (.int .u8 0), (.int .u8 0), (.int .u8 0), (.int .u8 0), (.int .u8 0), (.int .u8 0), (.int .u8 0), (.int .u8 0), (.int .u8 0), (.int .u8 0), (.int .u8 0), (.int .u8 0), (.int .u8 0), (.int .u8 0), (.int .u8 0), (.int .u8 0), (.int .u8 0), (.int .u8 0), (.int .u8 0), (.int .u8 0), (.int .u8 0), (.int .u8 0), (.int .u8 0), (.int .u8 0), (.int .u8 0), (.int .u8 0), (.int .u8 0), (.int .u8 0), (.int .u8 0), (.int .u8 0), (.int .u8 0), (.int .u8 0), (.int .u8 0), (.int .u8 0), (.int .u8 0), (.int .u8 0), (.int .u8 0), (.int .u8 0), (.int .u8 0), (.int .u8 0), (.int .u8 0), (.int .u8 0), (.int .u8 0), (.int .u8 0), (.int .u8 0), (.int .u8 0), (.int .u8 0), (.int .u8 0), (.int .u8 0), (.int .u8 0), (.int .u8 0), (.int .u8 0), (.int .u8 0), (.int .u8 0), (.int .u8 0), (.int .u8 0), (.int .u8 0), (.int .u8 0), (.int .u8 0), (.int .u8 0), (.int .u8 0), (.int .u8 0), (.int .u8 0), (.int .u8 0), (.int .u8 0), (.int .u8 0), (.int .u8 0), (.int .u8 0), (.int .u8 0), (.int .u8 0), (.int .u8 0), (.int .u8 0), (.int .u8 0), (.int .u8 0), (.int .u8 0)])⟩ := by kernel_rfl
@[go_sem] theorem tin287 : tin Tryz.prog 287 = some ⟨.func, 1, 8, some .nilFunc⟩ := by kernel_rfl
@[go_sem] theorem tin288 : tin Tryz.prog 288 = some ⟨(.ptr 228), 1, 8, some (.pointer none)⟩ := by kernel_rfl
@[go_sem] theorem tin289 : tin Tryz.prog 289 = some ⟨.func, 1, 8, some .nilFunc⟩ := by kernel_rfl
@[go_sem] theorem tin290 : tin Tryz.prog 290 = some ⟨(.ptr 21), 1, 8, some (.pointer none)⟩ := by kernel_rfl
@[go_sem] theorem tin291 : tin Tryz.prog 291 = some ⟨.func, 1, 8, some .nilFunc⟩ := by kernel_rfl
@[go_sem] theorem tin292 : tin Tryz.prog 292 = some ⟨.func, 1, 8, some .nilFunc⟩ := by kernel_rfl
@[go_sem] theorem tin293 : tin Tryz.prog 293 = some ⟨.func, 1, 8, some .nilFunc⟩ := by kernel_rfl
@[go_sem] theorem tin294 : tin Tryz.prog 294 = some ⟨.arr, 256, 2048, some (.agg #[(.int .i64 0), (.int .i64 0), (.int .i64 0), (.int .i64 0), (.int .i64 0), (.int .i64 0), (.int .i64 0), (.int .i64 0), (.int .i64 0), (.int .i64 0), (.int .i64 0), (.int .i64 0), (.int .i64 0), (.int .i64 0), (.int .i64 0), (.int .i64 0), (.int .i64 0), (.int .i64 0), (.int .i64 0), (.int .i64 0), (.int .i64 0), (.int .i64 0), (.int .i64 0), (.int .i64 0), (.int .i64 0), (.int .i64 0), (.int .i64 0), (.int .i64 0), (.int .i64 0), (.int .i64 0), (.int .i64 0), (.int .i64 0), (.int .i64 0), (.int .i64 0), (.int .i64 0), (.int .i64 0), (.int .i64 0), (.int .i64 0), (.int .i64 0), (.int .i64 0), (.int .i64 0), (.int .i64 0), (.int .i64 0), (.int .i64 0), (.int .i64 0), (.int .i64 0), (.int .i64 0), (.int .i64 0), (.int .i64 0), (.int .i64 0), (.int .i64 0), (.int .i64 0), (.int .i64 0), (.int .i64 0), (.int .i64 0), (.int .i64 0), (.int .i64 0), (.int .i64 0), (.int .i64 0), (.int .i64 0), (.int .i64 0), (.int .i64 0), (.int .i64 0), (.int .i64 0), (.int .i64 0), (.int .i64 0), (.int .i64 0), (.int .i64 0), (.int .i64 0), (.int .i64 0), (.int .i64 0), (.int .i64 0), (.int .i64 0), (.int .i64 0), (.int .i64 0), (.int .i64 0), (.int .i64 0), (.int .i64 0), (.int .i64 0), (.int .i64 0), (.int .i64 0), (.int .i64 0), (.int .i64 0), (.int .i64 0), (.int .i64 0), (.int .i64 0), (.int .i64 0), (.int .i64 0), (.int .i64 0), (.int .i64 0), (.int .i64 0), (.int .i64 0), (.int .i64 0), (.int .i64 0), (.int .i64 0), (.int .i64 0), (.int .i64 0), (.int .i64 0), (.int .i64 0), (.int .i64 0), (.int .i64 0), (.int .i64 0), (.int .i64 0), (.int .i64 0), (.int .i64 0), (.int .i64 0), (.int .i64 0), (.int .i64 0), (.int .i64 0), (.int .i64 0), (.int .i64 0), (.int .i64 0), (.int .i64 0), (.int .i64 0), (.int .i64 0), (.int .i64 0), (.int .i64 0), (.int .i64 0), (.int .i64 0), (.int .i64 0), (.int .i64 0), (.int .i64 0), (.int .i64 0), (.int .i64 0), (.int .i64 0), (.int .i64 0), (.int .i64 0), (.int .i64 0), (.int .i64 0), (.int .i64 0), (.int .i64 0), (.int .i64 0), (.int .i64 0), (.int .i64 0), (.int .i64 0), (.int .i64 0), (.int .i64 0), (.int .i64 0), (.int .i64 0), (.int .i64 0), (.int .i64 0), (.int .i64 0), (.int .i64 0), (.int .i64 0), (.int .i64 0), (.int .i64 0), (.int .i64 0), (.int .i64 0), (.int .i64 0), (.int .i64 0), (.int .i64 0), (.int .i64 0), (.int .i64 0), (.int .i64 0), (.int .i64 0), (.int .i64 0), (.int .i64 0), (.int .i64 0), (.int .i64 0), (.int .i64 0), (.int .i64 0), (.int .i64 0), (.int .i64 0), (.int .i64 0), (.int .i64 0), (.int .i64 0), (.int .i64 0), (.int .i64 0), (.int .i64 0), (.int .i64 0), (.int .i64 0), (.int .i64 0), (.int .i64 0), (.int .i64 0), (.int .i64 0), (.int .i64 0), (.int .i64 0), (.int .i64 0), (.int .i64 0), (.int .i64 0), (.int .i64 0), (.int .i64 0), (.int .i64 0), (.int .i64 0), (.int .i64 0), (.int .i64 0), (.int .i64 0), (.int .i64 0), (.int .i64 0), (.int .i64 0), (.int .i64 0), (.int .i64 0), (.int .i64 0), (.int .i64 0), (.int .i64 0), (.int .i64 0), (.int .i64 0), (.int .i64 0), (.int .i64 0), (.int .i64 0), (.int .i64 0), (.int .i64 0), (.int .i64 0), (.int .i64 0), (.int .i64 0), (.int .i64 0), (.int .i64 0), (.int .i64 0), (.int .i64 0), (.int .i64 0), (.int .i64 0), (.int .i64 0), (.int .i64 0), (.int .i64 0), (.int .i64 0), (.int .i64 0), (.int .i64 0), (.int .i64 0), (.int .i64 0), (.int .i64 0), (.int .i64 0), (.int .i64 0), (.int .i64 0), (.int .i64 0), (.int .i64 0), (.int .i64 0), (.int .i64 0), (.int .i64 0), (.int .i64 0), (.int .i64 0), (.int .i64 0), (.int .i64 0), (.int .i64 0), (.int .i64 0), (.int .i64 0), (.int .i64 0), (.int .i64 0), (.int .i64 0), (.int .i64 0), (.int .i64 0), (.int .i64 0), (.int .i64 0), (.int .i64 0), (.int .i64 0), (.int .i64 0), (.int .i64 0), (.int .i64 0), (.int .i64 0), (.int .i64 0), (.int .i64 0), (.int .i64 0), (.int .i64 0), (.int .i64 0), (.int .i64 0), (.int .i64 0), (.int .i64 0)])⟩ := by kernel_rfl
@[go_sem] theorem tin295 : tin Tryz.prog 295 = some ⟨(.st [(9, 0), (294, 1), (251, 257)]), 258, 2088, some (.agg #[(.string ByteArray.empty), (.int .i64 0), (.int .i64 0), (.int .i64 0), (.int .i64 0), (.int .i64 0), (.int .i64 0), (.int .i64 0), (.int .i64 0), (.int .i64 0), (.int .i64 0), (.int .i64 0), (.int .i64 0), (.int .i64 0), (.int .i64 0), (.int .i64 0), (.int .i64 0), (.int .i64 0), (.int .i64 0), (.int .i64 0), (.int .i64 0), (.int .i64 0), (.int .i64 0), (.int .i64 0), (.int .i64 0), (.int .i64 0), (.int .i64 0), (.int .i64 0), (.int .i64 0), (.int .i64 0), (.int .i64 0), (.int .i64 0), (.int .i64 0), (.int .i64 0), (.int .i64 0), (.int .i64 0), (.int .i64 0), (.int .i64 0), (.int .i64 0), (.int .i64 0), (.int .i64 0), (.int .i64 0), (.int .i64 0), (.int .i64 0), (.int .i64 0), (.int .i64 0), (.int .i64 0), (.int .i64 0), (.int .i64 0), (.int .i64 0), (.int .i64 0), (.int .i64 0), (.int .i64 0), (.int .i64 0), (.int .i64 0), (.int .i64 0), (.int .i64 0), (.int .i64 0), (.int .i64 0), (.int .i64 0), (.int .i64 0), (.int .i64 0), (.int .i64 0), (.int .i64 0), (.int .i64 0), (.int .i64 0), (.int .i64 0), (.int .i64 0), (.int .i64 0), (.int .i64 0), (.int .i64 0), (.int .i64 0), (.int .i64 0), (.int .i64 0), (.int .i64 0), (.int .i64 0), (.int .i64 0), (.int .i64 0), (.int .i64 0), (.int .i64 0), (.int .i64 0), (.int .i64 0), (.int .i64 0), (.int .i64 0), (.int .i64 0), (.int .i64 0), (.int .i64 0), (.int .i64 0), (.int .i64 0), (.int .i64 0), (.int .i64 0), (.int .i64 0), (.int .i64 0), (.int .i64 0), (.int .i64 0), (.int .i64 0), (.int .i64 0), (.int .i64 0), (.int .i64 0), (.int .i64 0), (.int .i64 0), (.int .i64 0), (.int .i64 0), (.int .i64 0), (.int .i64 0), (.int .i64 0), (.int .i64 0), (.int .i64 0), (.int .i64 0), (.int .i64 0), (.int .i64 0), (.int .i64 0), (.int .i64 0), (.int .i64 0), (.int .i64 0), (.int .i64 0), (.int .i64 0), (.int .i64 0), (.int .i64 0), (.int .i64 0), (.int .i64 0), (.int .i64 0), (.int .i64 0), (.int .i64 0), (.int .i64 0), (.int .i64 0), (.int .i64 0), (.int .i64 0), (.int .i64 0), (.int .i64 0), (.int .i64 0), (.int .i64 0), (.int .i64 0), (.int .i64 0), (.int .i64 0), (.int .i64 0), (.int .i64 0), (.int .i64 0), (.int .i64 0), (.int .i64 0), (.int .i64 0), (.int .i64 0), (.int .i64 0), (.int .i64 0), (.int .i64 0), (.int .i64 0), (.int .i64 0), (.int .i64 0), (.int .i64 0), (.int .i64 0), (.int .i64 0), (.int .i64 0), (.int .i64 0), (.int .i64 0), (.int .i64 0), (.int .i64 0), (.int .i64 0), (.int .i64 0), (.int .i64 0), (.int .i64 0), (.int .i64 0), (.int .i64 0), (.int .i64 0), (.int .i64 0), (.int .i64 0), (.int .i64 0), (.int .i64 0), (.int .i64 0), (.int .i64 0), (.int .i64 0), (.int .i64 0), (.int .i64 0), (.int .i64 0), (.int .i64 0), (.int .i64 0), (.int .i64 0), (.int .i64 0), (.int .i64 0), (.int .i64 0), (.int .i64 0), (.int .i64 0), (.int .i64 0), (.int .i64 0), (.int .i64 0), (.int .i64 0), (.int .i64 0), (.int .i64 0), (.int .i64 0), (.int .i64 0), (.int .i64 0), (.int .i64 0), (.int .i64 0), (.int .i64 0), (.int .i64 0), (.int .i64 0), (.int .i64 0), (.int .i64 0), (.int .i64 0), (.int .i64 0), (.int .i64 0), (.int .i64 0), (.int .i64 0), (.int .i64 0), (.int .i64 0), (.int .i64 0), (.int .i64 0), (.int .i64 0), (.int .i64 0), (.int .i64 0), (.int .i64 0), (.int .i64 0), (.int .i64 0), (.int .i64 0), (.int .i64 0), (.int .i64 0), (.int .i64 0), (.int .i64 0), (.int .i64 0), (.int .i64 0), (.int .i64 0), (.int .i64 0), (.int .i64 0), (.int .i64 0), (.int .i64 0), (.int .i64 0), (.int .i64 0), (.int .i64 0), (.int .i64 0), (.int .i64 0), (.int .i64 0), (.int .i64 0), (.int .i64 0), (.int .i64 0), (.int .i64 0), (.int .i64 0), (.int .i64 0), (.int .i64 0), (.int .i64 0), (.int .i64 0), (.int .i64 0), (.int .i64 0), (.int .i64 0), (.int .i64 0), (.int .i64 0), (.int .i64 0), (.int .i64 0), (.int .i64 0), (.int .i64 0), (.int .i64 0), (.int .i64 0), (.int .i64 0), (.int .i64 0), (.int .i64 0), (.int .i64 0), (.int .i64 0), (.int .i64 0), (.int .i64 0), (.slice none 0 0)])⟩ := by kernel_rfl
@[go_sem] theorem tin296 : tin Tryz.prog 296 = some ⟨(.st [(9, 0), (294, 1), (251, 257)]), 258, 2088, some (.agg #[(.string ByteArray.empty), (.int .i64 0), (.int .i64 0), (.int .i64 0), (.int .i64 0), (.int .i64 0), (.int .i64 0), (.int .i64 0), (.int .i64 0), (.int .i64 0), (.int .i64 0), (.int .i64 0), (.int .i64 0), (.int .i64 0), (.int .i64 0), (.int .i64 0), (.int .i64 0), (.int .i64 0), (.int .i64 0), (.int .i64 0), (.int .i64 0), (.int .i64 0), (.int .i64 0), (.int .i64 0), (.int .i64 0), (.int .i64 0), (.int .i64 0), (.int .i64 0), (.int .i64 0), (.int .i64 0), (.int .i64 0), (.int .i64 0), (.int .i64 0), (.int .i64 0), (.int .i64 0), (.int .i64 0), (.int .i64 0), (.int .i64 0), (.int .i64 0), (.int .i64 0), (.int .i64 0), (.int .i64 0), (.int .i64 0), (.int .i64 0), (.int .i64 0), (.int .i64 0), (.int .i64 0), (.int .i64 0), (.int .i64 0), (.int .i64 0), (.int .i64 0), (.int .i64 0), (.int .i64 0), (.int .i64 0), (.int .i64 0), (.int .i64 0), (.int .i64 0), (.int .i64 0), (.int .i64 0), (.int .i64 0), (.int .i64 0), (.int .i64 0), (.int .i64 0), (.int .i64 0), (.int .i64 0), (.int .i64 0), (.int .i64 0), (.int .i64 0), (.int .i64 0), (.int .i64 0), (.int .i64 0), (.int .i64 0), (.int .i64 0), (.int .i64 0), (.int .i64 0), (.int .i64 0), (.int .i64 0), (.int .i64 0), (.int .i64 0), (.int .i64 0), (.int .i64 0), (.int .i64 0), (.int .i64 0), (.int .i64 0), (.int .i64 0), (.int .i64 0), (.int .i64 0), (.int .i64 0), (.int .i64 0), (.int .i64 0), (.int .i64 0), (.int .i64 0), (.int .i64 0), (.int .i64 0), (.int .i64 0), (.int .i64 0), (.int .i64 0), (.int .i64 0), (.int .i64 0), (.int .i64 0), (.int .i64 0), (.int .i64 0), (.int .i64 0), (.int .i64 0), (.int .i64 0), (.int .i64 0), (.int .i64 0), (.int .i64 0), (.int .i64 0), (.int .i64 0), (.int .i64 0), (.int .i64 0), (.int .i64 0), (.int .i64 0), (.int .i64 0), (.int .i64 0), (.int .i64 0), (.int .i64 0), (.int .i64 0), (.int .i64 0), (.int .i64 0), (.int .i64 0), (.int .i64 0), (.int .i64 0), (.int .i64 0), (.int .i64 0), (.int .i64 0), (.int .i64 0), (.int .i64 0), (.int .i64 0), (.int .i64 0), (.int .i64 0), (.int .i64 0), (.int .i64 0), (.int .i64 0), (.int .i64 0), (.int .i64 0), (.int .i64 0), (.int .i64 0), (.int .i64 0), (.int .i64 0), (.int .i64 0), (.int .i64 0), (.int .i64 0), (.int .i64 0), (.int .i64 0), (.int .i64 0), (.int .i64 0), (.int .i64 0), (.int .i64 0), (.int .i64 0), (.int .i64 0), (.int .i64 0), (.int .i64 0), (.int .i64 0), (.int .i64 0), (.int .i64 0), (.int .i64 0), (.int .i64 0), (.int .i64 0), (.int .i64 0), (.int .i64 0), (.int .i64 0), (.int .i64 0), (.int .i64 0), (.int .i64 0), (.int .i64 0), (.int .i64 0), (.int .i64 0), (.int .i64 0), (.int .i64 0), (.int .i64 0), (.int .i64 0), (.int .i64 0), (.int .i64 0), (.int .i64 0), (.int .i64 0), (.int .i64 0), (.int .i64 0), (.int .i64 0), (.int .i64 0), (.int .i64 0), (.int .i64 0), (.int .i64 0), (.int .i64 0), (.int .i64 0), (.int .i64 0), (.int .i64 0), (.int .i64 0), (.int .i64 0), (.int .i64 0), (.int .i64 0), (.int .i64 0), (.int .i64 0), (.int .i64 0), (.int .i64 0), (.int .i64 0), (.int .i64 0), (.int .i64 0), (.int .i64 0), (.int .i64 0), (.int .i64 0), (.int .i64 0), (.int .i64 0), (.int .i64 0), (.int .i64 0), (.int .i64 0), (.int .i64 0), (.int .i64 0), (.int .i64 0), (.int .i64 0), (.int .i64 0), (.int .i64 0), (.int .i64 0), (.int .i64 0), (.int .i64 0), (.int .i64 0), (.int .i64 0), (.int .i64 0), (.int .i64 0), (.int .i64 0), (.int .i64 0), (.int .i64 0), (.int .i64 0), (.int .i64 0), (.int .i64 0), (.int .i64 0), (.int .i64 0), (.int .i64 0), (.int .i64 0), (.int .i64 0), (.int .i64 0), (.int .i64 0), (.int .i64 0), (.int .i64 0), (.int .i64 0), (.int .i64 0), (.int .i64 0), (.int .i64 0), (.int .i64 0), (.int .i64 0), (.int .i64 0), (.int .i64 0), (.int .i64 0), (.int .i64 0), (.int .i64 0), (.int .i64 0), (.int .i64 0), (.int .i64 0), (.int .i64 0), (.int .i64 0), (.int .i64 0), (.int .i64 0), (.int .i64 0), (.int .i64 0), (.int .i64 0), (.int .i64 0), (.slice none 0 0)])⟩ := by kernel_rfl
@[go_sem] theorem tin297 : tin Tryz.prog 297 = some ⟨.func, 1, 8, some .nilFunc⟩ := by kernel_rfl
@[go_sem] theorem tin298 : tin Tryz.prog 298 = some ⟨.func, 1, 8, some .nilFunc⟩ := by kernel_rfl
@[go_sem] theorem tin299 : tin Tryz.prog 299 = some ⟨(.st [(17, 0), (17, 1), (17, 2), (9, 3)]), 4, 40, some (.agg #[(.pointer none), (.pointer none), (.pointer none), (.string ByteArray.empty)])⟩ := by kernel_rfl
@[go_sem] theorem tin300 : tin Tryz.prog 300 = some ⟨(.st [(17, 0), (17, 1), (17, 2), (9, 3)]), 4, 40, some (.agg #[(.pointer none), (.pointer none), (.pointer none), (.string ByteArray.empty)])⟩ := by kernel_rfl
@[go_sem] theorem tin301 : tin Tryz.prog 301 = some ⟨.arr, 0, 0, some (.agg #[])⟩ := by kernel_rfl
@[go_sem] theorem tin302 : tin Tryz.prog 302 = some ⟨(.st [(301, 0)]), 0, 0, some (.agg #[])⟩ := by kernel_rfl
@[go_sem] theorem tin303 : tin Tryz.prog 303 = some ⟨(.st [(301, 0)]), 0, 0, some (.agg #[])⟩ := by kernel_rfl
@[go_sem] theorem tin304 : tin Tryz.prog 304 = some ⟨(.int .u8), 1, 1, some (.int .u8 0)⟩ := by kernel_rfl
@[go_sem] theorem tin305 : tin Tryz.prog 305 = some ⟨(.int .u8), 1, 1, some (.int .u8 0)⟩ := by kernel_rfl
@[go_sem] theorem tin306 : tin Tryz.prog 306 = some ⟨.func, 1, 8, some .nilFunc⟩ := by kernel_rfl
@[go_sem] theorem tin307 : tin Tryz.prog 307 = some ⟨(.int .i32), 1, 4, some (.int .i32 0)⟩ := by kernel_rfl
@[go_sem] theorem tin308 : tin Tryz.prog 308 = some ⟨(.int .i32), 1, 4, some (.int .i32 0)⟩ := by kernel_rfl
@[go_sem] theorem tin309 : tin Tryz.prog 309 = some ⟨(.st [(12, 0), (12, 1), (224, 2), (304, 3), (5, 4), (5, 5), (305, 6), (306, 7), (150, 8), (307, 9), (308, 10)]), 11, 48, some (.agg #[(.int .u64 0), (.int .u64 0), (.int .u32 0), (.int .u8 0), (.int .u8 0), (.int .u8 0), (.int .u8 0), .nilFunc, (.pointer none), (.int .i32 0), (.int .i32 0)])⟩ := by kernel_rfl
@[go_sem] theorem tin310 : tin Tryz.prog 310 = some ⟨(.st [(12, 0), (12, 1), (224, 2), (304, 3), (5, 4), (5, 5), (305, 6), (306, 7), (150, 8), (307, 9), (308, 10)]), 11, 48, some (.agg #[(.int .u64 0), (.int .u64 0), (.int .u32 0), (.int .u8 0), (.int .u8 0), (.int .u8 0), (.int .u8 0), .nilFunc, (.pointer none), (.int .i32 0), (.int .i32 0)])⟩ := by kernel_rfl
@[go_sem] theorem tin311 : tin Tryz.prog 311 = some ⟨.func, 1, 8, some .nilFunc⟩ := by kernel_rfl
@[go_sem] theorem tin312 : tin Tryz.prog 312 = some ⟨.func, 1, 8, some .nilFunc⟩ := by kernel_rfl
@[go_sem] theorem tin313 : tin Tryz.prog 313 = some ⟨.func, 1, 8, some .nilFunc⟩ := by kernel_rfl
@[go_sem] theorem tin314 : tin Tryz.prog 314 = some ⟨(.sl 5), 1, 24, some (.slice none 0 0)⟩ := by kernel_rfl
@[go_sem] theorem tin315 : tin Tryz.prog 315 = some ⟨(.ptr 314), 1, 8, some (.pointer none)⟩ := by kernel_rfl
@[go_sem] theorem tin316 : tin Tryz.prog 316 = some ⟨.other, 1, 16, some .nilIface⟩ := by kernel_rfl
@[go_sem] theorem tin317 : tin Tryz.prog 317 = some ⟨.other, 1, 16, some .nilIface⟩ := by kernel_rfl
@[go_sem] theorem tin318 : tin Tryz.prog 318 = some ⟨.other, 1, 16, some .nilIface⟩ := by kernel_rfl
@[go_sem] theorem tin319 : tin Tryz.prog 319 = some ⟨.other, 1, 16, some .nilIface⟩ := by kernel_rfl
@[go_sem] theorem tin320 : tin Tryz.prog 320 = some ⟨.func, 1, 8, some .nilFunc⟩ := by kernel_rfl
@[go_sem] theorem tin322 : tin Tryz.prog 322 = some ⟨.func, 1, 8, some .nilFunc⟩ := by kernel_rfl
@[go_sem] theorem tin324 : tin Tryz.prog 324 = some ⟨(.st [(317, 0)]), 1, 16, some (.agg #[.nilIface])⟩ := by kernel_rfl
@[go_sem] theorem tin325 : tin Tryz.prog 325 = some ⟨(.st [(317, 0)]), 1, 16, some (.agg #[.nilIface])⟩ := by kernel_rfl
@[go_sem] theorem tin326 : tin Tryz.prog 326 = some ⟨.func, 1, 8, some .nilFunc⟩ := by kernel_rfl
@[go_sem] theorem tin327 : tin Tryz.prog 327 = some ⟨.func, 1, 8, some .nilFunc⟩ := by kernel_rfl
@[go_sem] theorem tin328 : tin Tryz.prog 328 = some ⟨.func, 1, 8, some .nilFunc⟩ := by kernel_rfl
@[go_sem] theorem tin329 : tin Tryz.prog 329 = some ⟨(.st [(71, 0), (2, 1)]), 2, 32, some (.agg #[(.slice none 0 0), (.int .i64 0)])⟩ := by kernel_rfl
@[go_sem] theorem tin330 : tin Tryz.prog 330 = some ⟨(.st [(71, 0), (2, 1)]), 2, 32, some (.agg #[(.slice none 0 0), (.int .i64 0)])⟩ := by kernel_rfl
@[go_sem] theorem tin331 : tin Tryz.prog 331 = some ⟨.func, 1, 8, some .nilFunc⟩ := by kernel_rfl
@[go_sem] theorem tin332 : tin Tryz.prog 332 = some ⟨.func, 1, 8, some .nilFunc⟩ := by kernel_rfl
@[go_sem] theorem callable2 : callable Tryz.prog 2 = true := by kernel_rfl
@[go_sem] theorem callable3 : callable Tryz.prog 3 = true := by kernel_rfl
@[go_sem] theorem callable4 : callable Tryz.prog 4 = true := by kernel_rfl
@[go_sem] theorem callable5 : callable Tryz.prog 5 = true := by kernel_rfl
@[go_sem] theorem callable6 : callable Tryz.prog 6 = true := by kernel_rfl
@[go_sem] theorem callable7 : callable Tryz.prog 7 = true := by kernel_rfl
@[go_sem] theorem callable8 : callable Tryz.prog 8 = true := by kernel_rfl
@[go_sem] theorem callable9 : callable Tryz.prog 9 = true := by kernel_rfl
@[go_sem] theorem callable10 : callable Tryz.prog 10 = true := by kernel_rfl
@[go_sem] theorem callable11 : callable Tryz.prog 11 = true := by kernel_rfl
@[go_sem] theorem callable12 : callable Tryz.prog 12 = true := by kernel_rfl
@[go_sem] theorem callable13 : callable Tryz.prog 13 = true := by kernel_rfl
@[go_sem] theorem callable14 : callable Tryz.prog 14 = true := by kernel_rfl
@[go_sem] theorem callable15 : callable Tryz.prog 15 = true := by kernel_rfl
@[go_sem] theorem callable16 : callable Tryz.prog 16 = true := by kernel_rfl
@[go_sem] theorem callable17 : callable Tryz.prog 17 = true := by kernel_rfl
@[go_sem] theorem callable18 : callable Tryz.prog 18 = true := by kernel_rfl
@[go_sem] theorem callable19 : callable Tryz.prog 19 = true := by kernel_rfl
@[go_sem] theorem callable20 : callable Tryz.prog 20 = true := by kernel_rfl
@[go_sem] theorem callable21 : callable Tryz.prog 21 = true := by kernel_rfl
@[go_sem] theorem callable22 : callable Tryz.prog 22 = true := by kernel_rfl
@[go_sem] theorem callable23 : callable Tryz.prog 23 = true := by kernel_rfl
@[go_sem] theorem callable24 : callable Tryz.prog 24 = true := by kernel_rfl
@[go_sem] theorem callable25 : callable Tryz.prog 25 = true := by kernel_rfl
@[go_sem] theorem callable26 : callable Tryz.prog 26 = true := by kernel_rfl
@[go_sem] theorem callable27 : callable Tryz.prog 27 = true := by kernel_rfl
@[go_sem] theorem callable28 : callable Tryz.prog 28 = true := by kernel_rfl
@[go_sem] theorem callable29 : callable Tryz.prog 29 = true := by kernel_rfl
@[go_sem] theorem callable30 : callable Tryz.prog 30 = true := by kernel_rfl
@[go_sem] theorem callable31 : callable Tryz.prog 31 = true := by kernel_rfl
@[go_sem] theorem callable32 : callable Tryz.prog 32 = true := by kernel_rfl
@[go_sem] theorem callable33 : callable Tryz.prog 33 = true := by kernel_rfl
@[go_sem] theorem callable34 : callable Tryz.prog 34 = true := by kernel_rfl
@[go_sem] theorem callable35 : callable Tryz.prog 35 = true := by kernel_rfl
@[go_sem] theorem callable36 : callable Tryz.prog 36 = true := by kernel_rfl
@[go_sem] theorem callable37 : callable Tryz.prog 37 = true := by kernel_rfl
@[go_sem] theorem callable38 : callable Tryz.prog 38 = true := by kernel_rfl
@[go_sem] theorem callable39 : callable Tryz.prog 39 = true := by kernel_rfl
@[go_sem] theorem callable40 : callable Tryz.prog 40 = true := by kernel_rfl
@[go_sem] theorem callable41 : callable Tryz.prog 41 = true := by kernel_rfl
@[go_sem] theorem callable42 : callable Tryz.prog 42 = true := by kernel_rfl
@[go_sem] theorem callable43 : callable Tryz.prog 43 = true := by kernel_rfl
@[go_sem] theorem callable44 : callable Tryz.prog 44 = true := by kernel_rfl
@[go_sem] theorem callable45 : callable Tryz.prog 45 = true := by kernel_rfl
@[go_sem] theorem callable46 : callable Tryz.prog 46 = true := by kernel_rfl
@[go_sem] theorem callable47 : callable Tryz.prog 47 = true := by kernel_rfl
@[go_sem] theorem callable48 : callable Tryz.prog 48 = true := by kernel_rfl
@[go_sem] theorem callable49 : callable Tryz.prog 49 = true := by kernel_rfl
@[go_sem] theorem callable50 : callable Tryz.prog 50 = true := by kernel_rfl
@[go_sem] theorem callable51 : callable Tryz.prog 51 = true := by kernel_rfl
@[go_sem] theorem callable52 : callable Tryz.prog 52 = true := by kernel_rfl
@[go_sem] theorem callable53 : callable Tryz.prog 53 = true := by kernel_rfl
@[go_sem] theorem callable54 : callable Tryz.prog 54 = true := by kernel_rfl
@[go_sem] theorem callable55 : callable Tryz.prog 55 = true := by kernel_rfl
@[go_sem] theorem callable56 : callable Tryz.prog 56 = true := by kernel_rfl
@[go_sem] theorem callable57 : callable Tryz.prog 57 = true := by kernel_rfl
@[go_sem] theorem callable58 : callable Tryz.prog 58 = true := by kernel_rfl
@[go_sem] theorem callable59 : callable Tryz.prog 59 = true := by kernel_rfl
@[go_sem] theorem callable60 : callable Tryz.prog 60 = true := by kernel_rfl
@[go_sem] theorem callable61 : callable Tryz.prog 61 = true := by kernel_rfl
@[go_sem] theorem callable62 : callable Tryz.prog 62 = true := by kernel_rfl
@[go_sem] theorem callable63 : callable Tryz.prog 63 = true := by kernel_rfl
@[go_sem] theorem callable64 : callable Tryz.prog 64 = true := by kernel_rfl
@[go_sem] theorem callable65 : callable Tryz.prog 65 = true := by kernel_rfl
@[go_sem] theorem callable66 : callable Tryz.prog 66 = true := by kernel_rfl
@[go_sem] theorem callable67 : callable Tryz.prog 67 = true := by kernel_rfl
@[go_sem] theorem callable68 : callable Tryz.prog 68 = true := by kernel_rfl
@[go_sem] theorem callable69 : callable Tryz.prog 69 = true := by kernel_rfl
@[go_sem] theorem callable70 : callable Tryz.prog 70 = true := by kernel_rfl
@[go_sem] theorem callable71 : callable Tryz.prog 71 = true := by kernel_rfl
@[go_sem] theorem callable72 : callable Tryz.prog 72 = true := by kernel_rfl
@[go_sem] theorem callable73 : callable Tryz.prog 73 = true := by kernel_rfl
@[go_sem] theorem callable74 : callable Tryz.prog 74 = true := by kernel_rfl
@[go_sem] theorem callable75 : callable Tryz.prog 75 = true := by kernel_rfl
@[go_sem] theorem callable76 : callable Tryz.prog 76 = true := by kernel_rfl
@[go_sem] theorem callable77 : callable Tryz.prog 77 = true := by kernel_rfl
@[go_sem] theorem callable78 : callable Tryz.prog 78 = true := by kernel_rfl
@[go_sem] theorem callable79 : callable Tryz.prog 79 = true := by kernel_rfl
@[go_sem] theorem callable80 : callable Tryz.prog 80 = true := by kernel_rfl
@[go_sem] theorem callable81 : callable Tryz.prog 81 = true := by kernel_rfl
@[go_sem] theorem callable82 : callable Tryz.prog 82 = true := by kernel_rfl
@[go_sem] theorem callable83 : callable Tryz.prog 83 = true := by kernel_rfl
@[go_sem] theorem callable84 : callable Tryz.prog 84 = true := by kernel_rfl
@[go_sem] theorem callable85 : callable Tryz.prog 85 = true := by kernel_rfl
@[go_sem] theorem callable86 : callable Tryz.prog 86 = true := by kernel_rfl
@[go_sem] theorem callable87 : callable Tryz.prog 87 = true := by kernel_rfl
@[go_sem] theorem callable88 : callable Tryz.prog 88 = true := by kernel_rfl
@[go_sem] theorem callable89 : callable Tryz.prog 89 = true := by kernel_rfl
@[go_sem] theorem callable90 : callable Tryz.prog 90 = true := by kernel_rfl
@[go_sem] theorem callable91 : callable Tryz.prog 91 = true := by kernel_rfl
@[go_sem] theorem callable92 : callable Tryz.prog 92 = true := by kernel_rfl
@[go_sem] theorem callable93 : callable Tryz.prog 93 = true := by kernel_rfl
@[go_sem] theorem callable94 : callable Tryz.prog 94 = true := by kernel_rfl
@[go_sem] theorem callable95 : callable Tryz.prog 95 = true := by kernel_rfl
@[go_sem] theorem callable96 : callable Tryz.prog 96 = true := by kernel_rfl
@[go_sem] theorem callable97 : callable Tryz.prog 97 = true := by kernel_rfl
@[go_sem] theorem callable98 : callable Tryz.prog 98 = true := by kernel_rfl
@[go_sem] theorem callable99 : callable Tryz.prog 99 = true := by kernel_rfl
@[go_sem] theorem callable100 : callable Tryz.prog 100 = true := by kernel_rfl
@[go_sem] theorem callable101 : callable Tryz.prog 101 = true := by kernel_rfl
@[go_sem] theorem callable102 : callable Tryz.prog 102 = true := by kernel_rfl
@[go_sem] theorem callable103 : callable Tryz.prog 103 = true := by kernel_rfl
@[go_sem] theorem callable104 : callable Tryz.prog 104 = true := by kernel_rfl
@[go_sem] theorem callable105 : callable Tryz.prog 105 = true := by kernel_rfl
@[go_sem] theorem callable106 : callable Tryz.prog 106 = true := by kernel_rfl
@[go_sem] theorem callable107 : callable Tryz.prog 107 = true := by kernel_rfl
@[go_sem] theorem callable108 : callable Tryz.prog 108 = true := by kernel_rfl
@[go_sem] theorem callable109 : callable Tryz.prog 109 = true := by kernel_rfl
@[go_sem] theorem callable110 : callable Tryz.prog 110 = true := by kernel_rfl
@[go_sem] theorem callable111 : callable Tryz.prog 111 = true := by kernel_rfl
@[go_sem] theorem callable112 : callable Tryz.prog 112 = true := by kernel_rfl
@[go_sem] theorem callable113 : callable Tryz.prog 113 = true := by kernel_rfl
@[go_sem] theorem callable114 : callable Tryz.prog 114 = true := by kernel_rfl
@[go_sem] theorem callable115 : callable Tryz.prog 115 = true := by kernel_rfl
@[go_sem] theorem callable116 : callable Tryz.prog 116 = true := by kernel_rfl
@[go_sem] theorem callable117 : callable Tryz.prog 117 = true := by kernel_rfl
@[go_sem] theorem callable118 : callable Tryz.prog 118 = true := by kernel_rfl
@[go_sem] theorem callable119 : callable Tryz.prog 119 = true := by kernel_rfl
@[go_sem] theorem callable120 : callable Tryz.prog 120 = true := by kernel_rfl
@[go_sem] theorem callable121 : callable Tryz.prog 121 = true := by kernel_rfl
@[go_sem] theorem callable122 : callable Tryz.prog 122 = true := by kernel_rfl
@[go_sem] theorem callable123 : callable Tryz.prog 123 = true := by kernel_rfl
@[go_sem] theorem callable124 : callable Tryz.prog 124 = true := by kernel_rfl
@[go_sem] theorem callable125 : callable Tryz.prog 125 = true := by kernel_rfl
@[go_sem] theorem callable126 : callable Tryz.prog 126 = true := by kernel_rfl
@[go_sem] theorem callable127 : callable Tryz.prog 127 = true := by kernel_rfl
@[go_sem] theorem callable128 : callable Tryz.prog 128 = true := by kernel_rfl
@[go_sem] theorem callable129 : callable Tryz.prog 129 = true := by kernel_rfl
@[go_sem] theorem callable130 : callable Tryz.prog 130 = true := by kernel_rfl
@[go_sem] theorem callable131 : callable Tryz.prog 131 = true := by kernel_rfl
@[go_sem] theorem callable132 : callable Tryz.prog 132 = true := by kernel_rfl
@[go_sem] theorem callable133 : callable Tryz.prog 133 = true := by kernel_rfl
@[go_sem] theorem callable134 : callable Tryz.prog 134 = true := by kernel_rfl
@[go_sem] theorem callable135 : callable Tryz.prog 135 = true := by kernel_rfl
@[go_sem] theorem callable136 : callable Tryz.prog 136 = true := by kernel_rfl
@[go_sem] theorem callable137 : callable Tryz.prog 137 = true := by kernel_rfl
@[go_sem] theorem callable138 : callable Tryz.prog 138 = true := by kernel_rfl
@[go_sem] theorem callable139 : callable Tryz.prog 139 = true := by kernel_rfl
@[go_sem] theorem callable140 : callable Tryz.prog 140 = true := by kernel_rfl
@[go_sem] theorem callable141 : callable Tryz.prog 141 = true := by kernel_rfl
@[go_sem] theorem callable142 : callable Tryz.prog 142 = true := by kernel_rfl
@[go_sem] theorem callable143 : callable Tryz.prog 143 = true := by kernel_rfl
@[go_sem] theorem callable144 : callable Tryz.prog 144 = true := by kernel_rfl
@[go_sem] theorem callable145 : callable Tryz.prog 145 = true := by kernel_rfl
@[go_sem] theorem callable146 : callable Tryz.prog 146 = true := by kernel_rfl
@[go_sem] theorem callable147 : callable Tryz.prog 147 = true := by kernel_rfl
@[go_sem] theorem callable148 : callable Tryz.prog 148 = true := by kernel_rfl
@[go_sem] theorem callable149 : callable Tryz.prog 149 = true := by kernel_rfl
@[go_sem] theorem callable150 : callable Tryz.prog 150 = true := by kernel_rfl
@[go_sem] theorem callable151 : callable Tryz.prog 151 = true := by kernel_rfl
@[go_sem] theorem callable152 : callable Tryz.prog 152 = true := by kernel_rfl
@[go_sem] theorem callable153 : callable Tryz.prog 153 = true := by kernel_rfl
@[go_sem] theorem callable154 : callable Tryz.prog 154 = true := by kernel_rfl
@[go_sem] theorem callable155 : callable Tryz.prog 155 = true := by kernel_rfl
@[go_sem] theorem callable156 : callable Tryz.prog 156 = true := by kernel_rfl
@[go_sem] theorem callable157 : callable Tryz.prog 157 = true := by kernel_rfl
@[go_sem] theorem callable158 : callable Tryz.prog 158 = true := by kernel_rfl
@[go_sem] theorem callable159 : callable Tryz.prog 159 = true := by kernel_rfl
@[go_sem] theorem callable160 : callable Tryz.prog 160 = true := by kernel_rfl
@[go_sem] theorem callable162 : callable Tryz.prog 162 = true := by kernel_rfl
@[go_sem] theorem callable163 : callable Tryz.prog 163 = true := by kernel_rfl
@[go_sem] theorem callable164 : callable Tryz.prog 164 = true := by kernel_rfl
@[go_sem] theorem callable165 : callable Tryz.prog 165 = true := by kernel_rfl
@[go_sem] theorem callable166 : callable Tryz.prog 166 = true := by kernel_rfl
@[go_sem] theorem callable167 : callable Tryz.prog 167 = true := by kernel_rfl
@[go_sem] theorem callable168 : callable Tryz.prog 168 = true := by kernel_rfl
@[go_sem] theorem callable169 : callable Tryz.prog 169 = true := by kernel_rfl
@[go_sem] theorem callable170 : callable Tryz.prog 170 = true := by kernel_rfl
@[go_sem] theorem callable171 : callable Tryz.prog 171 = true := by kernel_rfl
@[go_sem] theorem callable172 : callable Tryz.prog 172 = true := by kernel_rfl
@[go_sem] theorem callable173 : callable Tryz.prog 173 = true := by kernel_rfl
@[go_sem] theorem callable174 : callable Tryz.prog 174 = true := by kernel_rfl
@[go_sem] theorem callable175 : callable Tryz.prog 175 = true := by kernel_rfl
@[go_sem] theorem callable176 : callable Tryz.prog 176 = true := by kernel_rfl
@[go_sem] theorem callable177 : callable Tryz.prog 177 = true := by kernel_rfl
@[go_sem] theorem callable178 : callable Tryz.prog 178 = true := by kernel_rfl
@[go_sem] theorem callable179 : callable Tryz.prog 179 = true := by kernel_rfl
@[go_sem] theorem callable180 : callable Tryz.prog 180 = true := by kernel_rfl
@[go_sem] theorem callable181 : callable Tryz.prog 181 = true := by kernel_rfl
@[go_sem] theorem callable182 : callable Tryz.prog 182 = true := by kernel_rfl
@[go_sem] theorem callable183 : callable Tryz.prog 183 = true := by kernel_rfl
@[go_sem] theorem callable184 : callable Tryz.prog 184 = true := by kernel_rfl
@[go_sem] theorem callable185 : callable Tryz.prog 185 = true := by kernel_rfl
@[go_sem] theorem callable186 : callable Tryz.prog 186 = true := by kernel_rfl
@[go_sem] theorem callable187 : callable Tryz.prog 187 = true := by kernel_rfl
@[go_sem] theorem callable188 : callable Tryz.prog 188 = true := by kernel_rfl
@[go_sem] theorem callable189 : callable Tryz.prog 189 = true := by kernel_rfl
@[go_sem] theorem callable190 : callable Tryz.prog 190 = true := by kernel_rfl
@[go_sem] theorem callable191 : callable Tryz.prog 191 = true := by kernel_rfl
@[go_sem] theorem callable192 : callable Tryz.prog 192 = true := by kernel_rfl
@[go_sem] theorem callable193 : callable Tryz.prog 193 = true := by kernel_rfl
@[go_sem] theorem callable194 : callable Tryz.prog 194 = true := by kernel_rfl
@[go_sem] theorem callable195 : callable Tryz.prog 195 = true := by kernel_rfl
@[go_sem] theorem callable196 : callable Tryz.prog 196 = true := by kernel_rfl
@[go_sem] theorem callable197 : callable Tryz.prog 197 = true := by kernel_rfl
@[go_sem] theorem callable198 : callable Tryz.prog 198 = true := by kernel_rfl
@[go_sem] theorem callable199 : callable Tryz.prog 199 = true := by kernel_rfl
@[go_sem] theorem callable200 : callable Tryz.prog 200 = true := by kernel_rfl
@[go_sem] theorem callable201 : callable Tryz.prog 201 = true := by kernel_rfl
@[go_sem] theorem callable202 : callable Tryz.prog 202 = true := by kernel_rfl
@[go_sem] theorem callable204 : callable Tryz.prog 204 = true := by kernel_rfl
@[go_sem] theorem callable205 : callable Tryz.prog 205 = true := by kernel_rfl
@[go_sem] theorem callable206 : callable Tryz.prog 206 = true := by kernel_rfl
@[go_sem] theorem callable207 : callable Tryz.prog 207 = true := by kernel_rfl
@[go_sem] theorem callable208 : callable Tryz.prog 208 = true := by kernel_rfl
@[go_sem] theorem callable209 : callable Tryz.prog 209 = true := by kernel_rfl
@[go_sem] theorem callable210 : callable Tryz.prog 210 = true := by kernel_rfl
@[go_sem] theorem callable211 : callable Tryz.prog 211 = true := by kernel_rfl
@[go_sem] theorem callable212 : callable Tryz.prog 212 = true := by kernel_rfl
@[go_sem] theorem callable213 : callable Tryz.prog 213 = true := by kernel_rfl
@[go_sem] theorem callable214 : callable Tryz.prog 214 = true := by kernel_rfl
@[go_sem] theorem callable215 : callable Tryz.prog 215 = true := by kernel_rfl
@[go_sem] theorem callable216 : callable Tryz.prog 216 = true := by kernel_rfl
@[go_sem] theorem callable217 : callable Tryz.prog 217 = true := by kernel_rfl
@[go_sem] theorem callable219 : callable Tryz.prog 219 = true := by kernel_rfl
@[go_sem] theorem callable221 : callable Tryz.prog 221 = true := by kernel_rfl
@[go_sem] theorem callable222 : callable Tryz.prog 222 = true := by kernel_rfl
@[go_sem] theorem callable223 : callable Tryz.prog 223 = true := by kernel_rfl
@[go_sem] theorem callable224 : callable Tryz.prog 224 = true := by kernel_rfl
@[go_sem] theorem callable225 : callable Tryz.prog 225 = true := by kernel_rfl
@[go_sem] theorem callable226 : callable Tryz.prog 226 = true := by kernel_rfl
@[go_sem] theorem callable227 : callable Tryz.prog 227 = true := by kernel_rfl
@[go_sem] theorem callable228 : callable Tryz.prog 228 = true := by kernel_rfl
@[go_sem] theorem callable229 : callable Tryz.prog 229 = true := by kernel_rfl
@[go_sem] theorem callable231 : callable Tryz.prog 231 = true := by kernel_rfl
@[go_sem] theorem callable232 : callable Tryz.prog 232 = true := by kernel_rfl
@[go_sem] theorem callable233 : callable Tryz.prog 233 = true := by kernel_rfl
@[go_sem] theorem callable238 : callable Tryz.prog 238 = true := by kernel_rfl
@[go_sem] theorem callable241 : callable Tryz.prog 241 = true := by kernel_rfl
@[go_sem] theorem callable242 : callable Tryz.prog 242 = true := by kernel_rfl
@[go_sem] theorem callable267 : callable Tryz.prog 267 = true := by kernel_rfl
@[go_sem] theorem callable268 : callable Tryz.prog 268 = true := by kernel_rfl
@[go_sem] theorem callable269 : callable Tryz.prog 269 = true := by kernel_rfl
@[go_sem] theorem callable270 : callable Tryz.prog 270 = true := by kernel_rfl
@[go_sem] theorem callable271 : callable Tryz.prog 271 = true := by kernel_rfl
@[go_sem] theorem callable272 : callable Tryz.prog 272 = true := by kernel_rfl
@[go_sem] theorem callable273 : callable Tryz.prog 273 = true := by kernel_rfl
@[go_sem] theorem callable274 : callable Tryz.prog 274 = true := by kernel_rfl
@[go_sem] theorem callable275 : callable Tryz.prog 275 = true := by kernel_rfl
@[go_sem] theorem callable276 : callable Tryz.prog 276 = true := by kernel_rfl
@[go_sem] theorem callable277 : callable Tryz.prog 277 = true := by kernel_rfl
@[go_sem] theorem callable278 : callable Tryz.prog 278 = true := by kernel_rfl
@[go_sem] theorem callable279 : callable Tryz.prog 279 = true := by kernel_rfl
@[go_sem] theorem callable281 : callable Tryz.prog 281 = true := by kernel_rfl
@[go_sem] theorem callable282 : callable Tryz.prog 282 = true := by kernel_rfl
@[go_sem] theorem callable283 : callable Tryz.prog 283 = true := by kernel_rfl
@[go_sem] theorem callable285 : callable Tryz.prog 285 = true := by kernel_rfl
@[go_sem] theorem callable286 : callable Tryz.prog 286 = true := by kernel_rfl
@[go_sem] theorem callable288 : callable Tryz.prog 288 = true := by kernel_rfl
@[go_sem] theorem callable290 : callable Tryz.prog 290 = true := by kernel_rfl
@[go_sem] theorem callable291 : callable Tryz.prog 291 = true := by kernel_rfl
@[go_sem] theorem callable292 : callable Tryz.prog 292 = true := by kernel_rfl
@[go_sem] theorem callable294 : callable Tryz.prog 294 = true := by kernel_rfl
@[go_sem] theorem callable295 : callable Tryz.prog 295 = true := by kernel_rfl
@[go_sem] theorem callable301 : callable Tryz.prog 301 = true := by kernel_rfl
theorem follows_mixed : Tryz.prog.follows .mixedOrders = true := by kernel_rfl
end Go.Proofs.YtfmnoljflcpbgaaGreatDoor
