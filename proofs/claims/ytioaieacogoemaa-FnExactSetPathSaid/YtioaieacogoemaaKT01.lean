/- The types of the program, as the engine has them. -/
import Derived.Test.YtioaieacogoemaaKE3
import Derived.Test.YtioaieacogoemaaChecked
import Derived.ProofKit
set_option linter.unusedSimpArgs false
set_option linter.unusedVariables false
set_option linter.unnecessarySimpa false
namespace Go.Proofs.Ytioaieacogoemaa
open Go.RowKit
@[go_sem] theorem tin1 : tin Try.prog 1 = some ⟨.func, 1, 8, some .nilFunc⟩ := by kernel_rfl
@[go_sem] theorem tin2 : tin Try.prog 2 = some ⟨(.int .i64), 1, 8, some (.int .i64 0)⟩ := by kernel_rfl
@[go_sem] theorem tin3 : tin Try.prog 3 = some ⟨(.int .i64), 1, 8, some (.int .i64 0)⟩ := by kernel_rfl
@[go_sem] theorem tin4 : tin Try.prog 4 = some ⟨.bool, 1, 1, some (.bool false)⟩ := by kernel_rfl
@[go_sem] theorem tin5 : tin Try.prog 5 = some ⟨(.int .u8), 1, 1, some (.int .u8 0)⟩ := by kernel_rfl
@[go_sem] theorem tin6 : tin Try.prog 6 = some ⟨(.int .u8), 1, 1, some (.int .u8 0)⟩ := by kernel_rfl
@[go_sem] theorem tin7 : tin Try.prog 7 = some ⟨(.st [(2, 0), (3, 1), (4, 2), (6, 3)]), 4, 24, some (.agg #[(.int .i64 0), (.int .i64 0), (.bool false), (.int .u8 0)])⟩ := by kernel_rfl
@[go_sem] theorem tin8 : tin Try.prog 8 = some ⟨(.st [(2, 0), (3, 1), (4, 2), (6, 3)]), 4, 24, some (.agg #[(.int .i64 0), (.int .i64 0), (.bool false), (.int .u8 0)])⟩ := by kernel_rfl
@[go_sem] theorem tin9 : tin Try.prog 9 = some ⟨.str, 1, 16, some (.string ByteArray.empty)⟩ := by kernel_rfl
@[go_sem] theorem tin10 : tin Try.prog 10 = some ⟨.str, 1, 16, some (.string ByteArray.empty)⟩ := by kernel_rfl
@[go_sem] theorem tin11 : tin Try.prog 11 = some ⟨.str, 1, 16, some (.string ByteArray.empty)⟩ := by kernel_rfl
@[go_sem] theorem tin12 : tin Try.prog 12 = some ⟨(.int .u64), 1, 8, some (.int .u64 0)⟩ := by kernel_rfl
@[go_sem] theorem tin13 : tin Try.prog 13 = some ⟨(.st [(9, 0), (12, 1)]), 2, 24, some (.agg #[(.string ByteArray.empty), (.int .u64 0)])⟩ := by kernel_rfl
@[go_sem] theorem tin14 : tin Try.prog 14 = some ⟨(.st [(9, 0), (12, 1)]), 2, 24, some (.agg #[(.string ByteArray.empty), (.int .u64 0)])⟩ := by kernel_rfl
@[go_sem] theorem tin15 : tin Try.prog 15 = some ⟨(.ptr 230), 1, 8, some (.pointer none)⟩ := by kernel_rfl
@[go_sem] theorem tin16 : tin Try.prog 16 = some ⟨(.ptr 233), 1, 8, some (.pointer none)⟩ := by kernel_rfl
@[go_sem] theorem tin17 : tin Try.prog 17 = some ⟨(.ptr 242), 1, 8, some (.pointer none)⟩ := by kernel_rfl
@[go_sem] theorem tin18 : tin Try.prog 18 = some ⟨(.st [(17, 0)]), 1, 8, some (.agg #[(.pointer none)])⟩ := by kernel_rfl
@[go_sem] theorem tin19 : tin Try.prog 19 = some ⟨(.st [(17, 0)]), 1, 8, some (.agg #[(.pointer none)])⟩ := by kernel_rfl
@[go_sem] theorem tin20 : tin Try.prog 20 = some ⟨.other, 1, 16, some .nilIface⟩ := by kernel_rfl
@[go_sem] theorem tin21 : tin Try.prog 21 = some ⟨(.int .i32), 1, 4, some (.int .i32 0)⟩ := by kernel_rfl
@[go_sem] theorem tin22 : tin Try.prog 22 = some ⟨(.sl 60), 1, 24, some (.slice none 0 0)⟩ := by kernel_rfl
@[go_sem] theorem tin23 : tin Try.prog 23 = some ⟨.func, 1, 8, some .nilFunc⟩ := by kernel_rfl
@[go_sem] theorem tin24 : tin Try.prog 24 = some ⟨(.st [(2, 0), (2, 1)]), 2, 16, some (.agg #[(.int .i64 0), (.int .i64 0)])⟩ := by kernel_rfl
@[go_sem] theorem tin25 : tin Try.prog 25 = some ⟨(.st [(2, 0), (2, 1)]), 2, 16, some (.agg #[(.int .i64 0), (.int .i64 0)])⟩ := by kernel_rfl
@[go_sem] theorem tin26 : tin Try.prog 26 = some ⟨.func, 1, 8, some .nilFunc⟩ := by kernel_rfl
@[go_sem] theorem tin27 : tin Try.prog 27 = some ⟨(.sl 66), 1, 24, some (.slice none 0 0)⟩ := by kernel_rfl
@[go_sem] theorem tin28 : tin Try.prog 28 = some ⟨.func, 1, 8, some .nilFunc⟩ := by kernel_rfl
@[go_sem] theorem tin29 : tin Try.prog 29 = some ⟨.func, 1, 8, some .nilFunc⟩ := by kernel_rfl
@[go_sem] theorem tin30 : tin Try.prog 30 = some ⟨.func, 1, 8, some .nilFunc⟩ := by kernel_rfl
@[go_sem] theorem tin31 : tin Try.prog 31 = some ⟨.func, 1, 8, some .nilFunc⟩ := by kernel_rfl
@[go_sem] theorem tin32 : tin Try.prog 32 = some ⟨(.st [(2, 0), (27, 1)]), 2, 32, some (.agg #[(.int .i64 0), (.slice none 0 0)])⟩ := by kernel_rfl
@[go_sem] theorem tin33 : tin Try.prog 33 = some ⟨(.st [(2, 0), (27, 1)]), 2, 32, some (.agg #[(.int .i64 0), (.slice none 0 0)])⟩ := by kernel_rfl
@[go_sem] theorem tin34 : tin Try.prog 34 = some ⟨.func, 1, 8, some .nilFunc⟩ := by kernel_rfl
@[go_sem] theorem tin35 : tin Try.prog 35 = some ⟨.func, 1, 8, some .nilFunc⟩ := by kernel_rfl
@[go_sem] theorem tin36 : tin Try.prog 36 = some ⟨.func, 1, 8, some .nilFunc⟩ := by kernel_rfl
@[go_sem] theorem tin37 : tin Try.prog 37 = some ⟨.func, 1, 8, some .nilFunc⟩ := by kernel_rfl
@[go_sem] theorem tin38 : tin Try.prog 38 = some ⟨.func, 1, 8, some .nilFunc⟩ := by kernel_rfl
@[go_sem] theorem tin39 : tin Try.prog 39 = some ⟨.func, 1, 8, some .nilFunc⟩ := by kernel_rfl
@[go_sem] theorem tin40 : tin Try.prog 40 = some ⟨(.sl 101), 1, 24, some (.slice none 0 0)⟩ := by kernel_rfl
@[go_sem] theorem tin41 : tin Try.prog 41 = some ⟨.func, 1, 8, some .nilFunc⟩ := by kernel_rfl
@[go_sem] theorem tin42 : tin Try.prog 42 = some ⟨(.sl 2), 1, 24, some (.slice none 0 0)⟩ := by kernel_rfl
@[go_sem] theorem tin43 : tin Try.prog 43 = some ⟨(.st [(2, 0), (42, 1)]), 2, 32, some (.agg #[(.int .i64 0), (.slice none 0 0)])⟩ := by kernel_rfl
@[go_sem] theorem tin44 : tin Try.prog 44 = some ⟨(.st [(2, 0), (42, 1)]), 2, 32, some (.agg #[(.int .i64 0), (.slice none 0 0)])⟩ := by kernel_rfl
@[go_sem] theorem tin45 : tin Try.prog 45 = some ⟨.func, 1, 8, some .nilFunc⟩ := by kernel_rfl
@[go_sem] theorem tin46 : tin Try.prog 46 = some ⟨(.sl 105), 1, 24, some (.slice none 0 0)⟩ := by kernel_rfl
@[go_sem] theorem tin47 : tin Try.prog 47 = some ⟨.func, 1, 8, some .nilFunc⟩ := by kernel_rfl
@[go_sem] theorem tin48 : tin Try.prog 48 = some ⟨.func, 1, 8, some .nilFunc⟩ := by kernel_rfl
@[go_sem] theorem tin49 : tin Try.prog 49 = some ⟨.func, 1, 8, some .nilFunc⟩ := by kernel_rfl
@[go_sem] theorem tin50 : tin Try.prog 50 = some ⟨.func, 1, 8, some .nilFunc⟩ := by kernel_rfl
@[go_sem] theorem tin51 : tin Try.prog 51 = some ⟨.func, 1, 8, some .nilFunc⟩ := by kernel_rfl
@[go_sem] theorem tin52 : tin Try.prog 52 = some ⟨.func, 1, 8, some .nilFunc⟩ := by kernel_rfl
@[go_sem] theorem tin53 : tin Try.prog 53 = some ⟨(.st [(2, 0), (2, 1), (46, 2), (2, 3)]), 4, 48, some (.agg #[(.int .i64 0), (.int .i64 0), (.slice none 0 0), (.int .i64 0)])⟩ := by kernel_rfl
@[go_sem] theorem tin54 : tin Try.prog 54 = some ⟨(.st [(2, 0), (2, 1), (46, 2), (2, 3)]), 4, 48, some (.agg #[(.int .i64 0), (.int .i64 0), (.slice none 0 0), (.int .i64 0)])⟩ := by kernel_rfl
@[go_sem] theorem tin55 : tin Try.prog 55 = some ⟨.func, 1, 8, some .nilFunc⟩ := by kernel_rfl
@[go_sem] theorem tin56 : tin Try.prog 56 = some ⟨.func, 1, 8, some .nilFunc⟩ := by kernel_rfl
@[go_sem] theorem tin57 : tin Try.prog 57 = some ⟨.func, 1, 8, some .nilFunc⟩ := by kernel_rfl
@[go_sem] theorem tin58 : tin Try.prog 58 = some ⟨.func, 1, 8, some .nilFunc⟩ := by kernel_rfl
@[go_sem] theorem tin59 : tin Try.prog 59 = some ⟨(.st [(2, 0), (2, 1), (9, 2), (9, 3), (2, 4)]), 5, 56, some (.agg #[(.int .i64 0), (.int .i64 0), (.string ByteArray.empty), (.string ByteArray.empty), (.int .i64 0)])⟩ := by kernel_rfl
@[go_sem] theorem tin60 : tin Try.prog 60 = some ⟨(.st [(2, 0), (2, 1), (9, 2), (9, 3), (2, 4)]), 5, 56, some (.agg #[(.int .i64 0), (.int .i64 0), (.string ByteArray.empty), (.string ByteArray.empty), (.int .i64 0)])⟩ := by kernel_rfl
@[go_sem] theorem tin61 : tin Try.prog 61 = some ⟨.func, 1, 8, some .nilFunc⟩ := by kernel_rfl
@[go_sem] theorem tin62 : tin Try.prog 62 = some ⟨(.sl 65), 1, 24, some (.slice none 0 0)⟩ := by kernel_rfl
@[go_sem] theorem tin63 : tin Try.prog 63 = some ⟨.func, 1, 8, some .nilFunc⟩ := by kernel_rfl
@[go_sem] theorem tin64 : tin Try.prog 64 = some ⟨.func, 1, 8, some .nilFunc⟩ := by kernel_rfl
@[go_sem] theorem tin65 : tin Try.prog 65 = some ⟨(.sl 27), 1, 24, some (.slice none 0 0)⟩ := by kernel_rfl
@[go_sem] theorem tin66 : tin Try.prog 66 = some ⟨(.st [(2, 0), (2, 1), (9, 2), (9, 3), (2, 4)]), 5, 56, some (.agg #[(.int .i64 0), (.int .i64 0), (.string ByteArray.empty), (.string ByteArray.empty), (.int .i64 0)])⟩ := by kernel_rfl
@[go_sem] theorem tin67 : tin Try.prog 67 = some ⟨.func, 1, 8, some .nilFunc⟩ := by kernel_rfl
@[go_sem] theorem tin68 : tin Try.prog 68 = some ⟨(.sl 74), 1, 24, some (.slice none 0 0)⟩ := by kernel_rfl
@[go_sem] theorem tin70 : tin Try.prog 70 = some ⟨.func, 1, 8, some .nilFunc⟩ := by kernel_rfl
@[go_sem] theorem tin71 : tin Try.prog 71 = some ⟨(.sl 77), 1, 24, some (.slice none 0 0)⟩ := by kernel_rfl
@[go_sem] theorem tin72 : tin Try.prog 72 = some ⟨(.sl 9), 1, 24, some (.slice none 0 0)⟩ := by kernel_rfl
@[go_sem] theorem tin73 : tin Try.prog 73 = some ⟨(.st [(2, 0), (2, 1), (9, 2), (72, 3), (68, 4)]), 5, 80, some (.agg #[(.int .i64 0), (.int .i64 0), (.string ByteArray.empty), (.slice none 0 0), (.slice none 0 0)])⟩ := by kernel_rfl
@[go_sem] theorem tin74 : tin Try.prog 74 = some ⟨(.st [(2, 0), (2, 1), (9, 2), (72, 3), (68, 4)]), 5, 80, some (.agg #[(.int .i64 0), (.int .i64 0), (.string ByteArray.empty), (.slice none 0 0), (.slice none 0 0)])⟩ := by kernel_rfl
@[go_sem] theorem tin75 : tin Try.prog 75 = some ⟨.func, 1, 8, some .nilFunc⟩ := by kernel_rfl
@[go_sem] theorem tin76 : tin Try.prog 76 = some ⟨(.st [(68, 0), (74, 1)]), 6, 104, some (.agg #[(.slice none 0 0), (.int .i64 0), (.int .i64 0), (.string ByteArray.empty), (.slice none 0 0), (.slice none 0 0)])⟩ := by kernel_rfl
@[go_sem] theorem tin77 : tin Try.prog 77 = some ⟨(.st [(68, 0), (74, 1)]), 6, 104, some (.agg #[(.slice none 0 0), (.int .i64 0), (.int .i64 0), (.string ByteArray.empty), (.slice none 0 0), (.slice none 0 0)])⟩ := by kernel_rfl
@[go_sem] theorem tin78 : tin Try.prog 78 = some ⟨(.st [(2, 0), (74, 1)]), 6, 88, some (.agg #[(.int .i64 0), (.int .i64 0), (.int .i64 0), (.string ByteArray.empty), (.slice none 0 0), (.slice none 0 0)])⟩ := by kernel_rfl
@[go_sem] theorem tin79 : tin Try.prog 79 = some ⟨(.st [(2, 0), (74, 1)]), 6, 88, some (.agg #[(.int .i64 0), (.int .i64 0), (.int .i64 0), (.string ByteArray.empty), (.slice none 0 0), (.slice none 0 0)])⟩ := by kernel_rfl
@[go_sem] theorem tin80 : tin Try.prog 80 = some ⟨.func, 1, 8, some .nilFunc⟩ := by kernel_rfl
@[go_sem] theorem tin81 : tin Try.prog 81 = some ⟨.func, 1, 8, some .nilFunc⟩ := by kernel_rfl
@[go_sem] theorem tin82 : tin Try.prog 82 = some ⟨.func, 1, 8, some .nilFunc⟩ := by kernel_rfl
@[go_sem] theorem tin83 : tin Try.prog 83 = some ⟨.func, 1, 8, some .nilFunc⟩ := by kernel_rfl
@[go_sem] theorem tin84 : tin Try.prog 84 = some ⟨.func, 1, 8, some .nilFunc⟩ := by kernel_rfl
@[go_sem] theorem tin85 : tin Try.prog 85 = some ⟨.func, 1, 8, some .nilFunc⟩ := by kernel_rfl
@[go_sem] theorem tin86 : tin Try.prog 86 = some ⟨.func, 1, 8, some .nilFunc⟩ := by kernel_rfl
@[go_sem] theorem tin87 : tin Try.prog 87 = some ⟨.func, 1, 8, some .nilFunc⟩ := by kernel_rfl
@[go_sem] theorem tin88 : tin Try.prog 88 = some ⟨.func, 1, 8, some .nilFunc⟩ := by kernel_rfl
@[go_sem] theorem tin89 : tin Try.prog 89 = some ⟨.func, 1, 8, some .nilFunc⟩ := by kernel_rfl
@[go_sem] theorem tin90 : tin Try.prog 90 = some ⟨.func, 1, 8, some .nilFunc⟩ := by kernel_rfl
@[go_sem] theorem tin91 : tin Try.prog 91 = some ⟨.func, 1, 8, some .nilFunc⟩ := by kernel_rfl
@[go_sem] theorem tin92 : tin Try.prog 92 = some ⟨.func, 1, 8, some .nilFunc⟩ := by kernel_rfl
@[go_sem] theorem tin93 : tin Try.prog 93 = some ⟨.func, 1, 8, some .nilFunc⟩ := by kernel_rfl
@[go_sem] theorem tin94 : tin Try.prog 94 = some ⟨.func, 1, 8, some .nilFunc⟩ := by kernel_rfl
@[go_sem] theorem tin96 : tin Try.prog 96 = some ⟨.func, 1, 8, some .nilFunc⟩ := by kernel_rfl
@[go_sem] theorem tin97 : tin Try.prog 97 = some ⟨.func, 1, 8, some .nilFunc⟩ := by kernel_rfl
@[go_sem] theorem tin98 : tin Try.prog 98 = some ⟨.func, 1, 8, some .nilFunc⟩ := by kernel_rfl
@[go_sem] theorem tin99 : tin Try.prog 99 = some ⟨.func, 1, 8, some .nilFunc⟩ := by kernel_rfl
@[go_sem] theorem tin100 : tin Try.prog 100 = some ⟨(.st [(2, 0), (2, 1), (22, 2)]), 3, 40, some (.agg #[(.int .i64 0), (.int .i64 0), (.slice none 0 0)])⟩ := by kernel_rfl
@[go_sem] theorem tin101 : tin Try.prog 101 = some ⟨(.st [(2, 0), (2, 1), (22, 2)]), 3, 40, some (.agg #[(.int .i64 0), (.int .i64 0), (.slice none 0 0)])⟩ := by kernel_rfl
@[go_sem] theorem tin103 : tin Try.prog 103 = some ⟨.func, 1, 8, some .nilFunc⟩ := by kernel_rfl
@[go_sem] theorem tin104 : tin Try.prog 104 = some ⟨(.st [(2, 0), (2, 1), (27, 2)]), 3, 40, some (.agg #[(.int .i64 0), (.int .i64 0), (.slice none 0 0)])⟩ := by kernel_rfl
@[go_sem] theorem tin105 : tin Try.prog 105 = some ⟨(.st [(2, 0), (2, 1), (27, 2)]), 3, 40, some (.agg #[(.int .i64 0), (.int .i64 0), (.slice none 0 0)])⟩ := by kernel_rfl
@[go_sem] theorem tin106 : tin Try.prog 106 = some ⟨.func, 1, 8, some .nilFunc⟩ := by kernel_rfl
@[go_sem] theorem tin107 : tin Try.prog 107 = some ⟨.func, 1, 8, some .nilFunc⟩ := by kernel_rfl
@[go_sem] theorem tin108 : tin Try.prog 108 = some ⟨.func, 1, 8, some .nilFunc⟩ := by kernel_rfl
@[go_sem] theorem tin109 : tin Try.prog 109 = some ⟨.func, 1, 8, some .nilFunc⟩ := by kernel_rfl
@[go_sem] theorem tin110 : tin Try.prog 110 = some ⟨.func, 1, 8, some .nilFunc⟩ := by kernel_rfl
@[go_sem] theorem tin111 : tin Try.prog 111 = some ⟨.func, 1, 8, some .nilFunc⟩ := by kernel_rfl
@[go_sem] theorem tin112 : tin Try.prog 112 = some ⟨.func, 1, 8, some .nilFunc⟩ := by kernel_rfl
@[go_sem] theorem tin113 : tin Try.prog 113 = some ⟨.func, 1, 8, some .nilFunc⟩ := by kernel_rfl
@[go_sem] theorem tin114 : tin Try.prog 114 = some ⟨.func, 1, 8, some .nilFunc⟩ := by kernel_rfl
@[go_sem] theorem tin115 : tin Try.prog 115 = some ⟨.func, 1, 8, some .nilFunc⟩ := by kernel_rfl
@[go_sem] theorem tin116 : tin Try.prog 116 = some ⟨.func, 1, 8, some .nilFunc⟩ := by kernel_rfl
@[go_sem] theorem tin117 : tin Try.prog 117 = some ⟨.func, 1, 8, some .nilFunc⟩ := by kernel_rfl
@[go_sem] theorem tin118 : tin Try.prog 118 = some ⟨.func, 1, 8, some .nilFunc⟩ := by kernel_rfl
@[go_sem] theorem tin119 : tin Try.prog 119 = some ⟨.func, 1, 8, some .nilFunc⟩ := by kernel_rfl
@[go_sem] theorem tin120 : tin Try.prog 120 = some ⟨.func, 1, 8, some .nilFunc⟩ := by kernel_rfl
@[go_sem] theorem tin121 : tin Try.prog 121 = some ⟨.func, 1, 8, some .nilFunc⟩ := by kernel_rfl
@[go_sem] theorem tin122 : tin Try.prog 122 = some ⟨.func, 1, 8, some .nilFunc⟩ := by kernel_rfl
@[go_sem] theorem tin123 : tin Try.prog 123 = some ⟨.func, 1, 8, some .nilFunc⟩ := by kernel_rfl
@[go_sem] theorem tin124 : tin Try.prog 124 = some ⟨.func, 1, 8, some .nilFunc⟩ := by kernel_rfl
@[go_sem] theorem tin125 : tin Try.prog 125 = some ⟨.func, 1, 8, some .nilFunc⟩ := by kernel_rfl
@[go_sem] theorem tin126 : tin Try.prog 126 = some ⟨.func, 1, 8, some .nilFunc⟩ := by kernel_rfl
@[go_sem] theorem tin127 : tin Try.prog 127 = some ⟨.func, 1, 8, some .nilFunc⟩ := by kernel_rfl
@[go_sem] theorem tin128 : tin Try.prog 128 = some ⟨.func, 1, 8, some .nilFunc⟩ := by kernel_rfl
@[go_sem] theorem tin129 : tin Try.prog 129 = some ⟨.func, 1, 8, some .nilFunc⟩ := by kernel_rfl
@[go_sem] theorem tin130 : tin Try.prog 130 = some ⟨.func, 1, 8, some .nilFunc⟩ := by kernel_rfl
@[go_sem] theorem tin131 : tin Try.prog 131 = some ⟨.func, 1, 8, some .nilFunc⟩ := by kernel_rfl
@[go_sem] theorem tin132 : tin Try.prog 132 = some ⟨.func, 1, 8, some .nilFunc⟩ := by kernel_rfl
@[go_sem] theorem tin133 : tin Try.prog 133 = some ⟨.func, 1, 8, some .nilFunc⟩ := by kernel_rfl
@[go_sem] theorem tin134 : tin Try.prog 134 = some ⟨.func, 1, 8, some .nilFunc⟩ := by kernel_rfl
@[go_sem] theorem tin135 : tin Try.prog 135 = some ⟨.func, 1, 8, some .nilFunc⟩ := by kernel_rfl
@[go_sem] theorem tin136 : tin Try.prog 136 = some ⟨.func, 1, 8, some .nilFunc⟩ := by kernel_rfl
@[go_sem] theorem tin137 : tin Try.prog 137 = some ⟨.func, 1, 8, some .nilFunc⟩ := by kernel_rfl
@[go_sem] theorem tin138 : tin Try.prog 138 = some ⟨.func, 1, 8, some .nilFunc⟩ := by kernel_rfl
@[go_sem] theorem tin139 : tin Try.prog 139 = some ⟨.func, 1, 8, some .nilFunc⟩ := by kernel_rfl
@[go_sem] theorem tin140 : tin Try.prog 140 = some ⟨.func, 1, 8, some .nilFunc⟩ := by kernel_rfl
@[go_sem] theorem tin141 : tin Try.prog 141 = some ⟨.func, 1, 8, some .nilFunc⟩ := by kernel_rfl
@[go_sem] theorem tin142 : tin Try.prog 142 = some ⟨(.sl 5), 1, 24, some (.slice none 0 0)⟩ := by kernel_rfl
@[go_sem] theorem tin143 : tin Try.prog 143 = some ⟨.func, 1, 8, some .nilFunc⟩ := by kernel_rfl
@[go_sem] theorem tin145 : tin Try.prog 145 = some ⟨.func, 1, 8, some .nilFunc⟩ := by kernel_rfl
@[go_sem] theorem tin146 : tin Try.prog 146 = some ⟨.func, 1, 8, some .nilFunc⟩ := by kernel_rfl
@[go_sem] theorem tin147 : tin Try.prog 147 = some ⟨.func, 1, 8, some .nilFunc⟩ := by kernel_rfl
@[go_sem] theorem tin148 : tin Try.prog 148 = some ⟨.func, 1, 8, some .nilFunc⟩ := by kernel_rfl
@[go_sem] theorem tin149 : tin Try.prog 149 = some ⟨.func, 1, 8, some .nilFunc⟩ := by kernel_rfl
@[go_sem] theorem tin150 : tin Try.prog 150 = some ⟨.func, 1, 8, some .nilFunc⟩ := by kernel_rfl
@[go_sem] theorem tin151 : tin Try.prog 151 = some ⟨.func, 1, 8, some .nilFunc⟩ := by kernel_rfl
@[go_sem] theorem tin153 : tin Try.prog 153 = some ⟨.func, 1, 8, some .nilFunc⟩ := by kernel_rfl
@[go_sem] theorem tin154 : tin Try.prog 154 = some ⟨.func, 1, 8, some .nilFunc⟩ := by kernel_rfl
@[go_sem] theorem tin155 : tin Try.prog 155 = some ⟨.func, 1, 8, some .nilFunc⟩ := by kernel_rfl
@[go_sem] theorem tin157 : tin Try.prog 157 = some ⟨.func, 1, 8, some .nilFunc⟩ := by kernel_rfl
@[go_sem] theorem tin158 : tin Try.prog 158 = some ⟨.func, 1, 8, some .nilFunc⟩ := by kernel_rfl
@[go_sem] theorem tin159 : tin Try.prog 159 = some ⟨.func, 1, 8, some .nilFunc⟩ := by kernel_rfl
@[go_sem] theorem tin160 : tin Try.prog 160 = some ⟨.func, 1, 8, some .nilFunc⟩ := by kernel_rfl
@[go_sem] theorem tin162 : tin Try.prog 162 = some ⟨.func, 1, 8, some .nilFunc⟩ := by kernel_rfl
@[go_sem] theorem tin163 : tin Try.prog 163 = some ⟨.func, 1, 8, some .nilFunc⟩ := by kernel_rfl
@[go_sem] theorem tin164 : tin Try.prog 164 = some ⟨.func, 1, 8, some .nilFunc⟩ := by kernel_rfl
@[go_sem] theorem tin165 : tin Try.prog 165 = some ⟨.func, 1, 8, some .nilFunc⟩ := by kernel_rfl
@[go_sem] theorem tin166 : tin Try.prog 166 = some ⟨.func, 1, 8, some .nilFunc⟩ := by kernel_rfl
@[go_sem] theorem tin167 : tin Try.prog 167 = some ⟨.func, 1, 8, some .nilFunc⟩ := by kernel_rfl
@[go_sem] theorem tin168 : tin Try.prog 168 = some ⟨.func, 1, 8, some .nilFunc⟩ := by kernel_rfl
@[go_sem] theorem tin169 : tin Try.prog 169 = some ⟨(.sl 3), 1, 24, some (.slice none 0 0)⟩ := by kernel_rfl
@[go_sem] theorem tin170 : tin Try.prog 170 = some ⟨.func, 1, 8, some .nilFunc⟩ := by kernel_rfl
@[go_sem] theorem tin171 : tin Try.prog 171 = some ⟨.func, 1, 8, some .nilFunc⟩ := by kernel_rfl
@[go_sem] theorem tin172 : tin Try.prog 172 = some ⟨.other, 1, 8, some (.map none)⟩ := by kernel_rfl
@[go_sem] theorem tin173 : tin Try.prog 173 = some ⟨.func, 1, 8, some .nilFunc⟩ := by kernel_rfl
@[go_sem] theorem tin175 : tin Try.prog 175 = some ⟨.func, 1, 8, some .nilFunc⟩ := by kernel_rfl
@[go_sem] theorem tin176 : tin Try.prog 176 = some ⟨.func, 1, 8, some .nilFunc⟩ := by kernel_rfl
@[go_sem] theorem tin177 : tin Try.prog 177 = some ⟨.func, 1, 8, some .nilFunc⟩ := by kernel_rfl
@[go_sem] theorem tin178 : tin Try.prog 178 = some ⟨.func, 1, 8, some .nilFunc⟩ := by kernel_rfl
@[go_sem] theorem tin179 : tin Try.prog 179 = some ⟨.func, 1, 8, some .nilFunc⟩ := by kernel_rfl
@[go_sem] theorem tin180 : tin Try.prog 180 = some ⟨.func, 1, 8, some .nilFunc⟩ := by kernel_rfl
@[go_sem] theorem tin181 : tin Try.prog 181 = some ⟨.func, 1, 8, some .nilFunc⟩ := by kernel_rfl
@[go_sem] theorem tin182 : tin Try.prog 182 = some ⟨.func, 1, 8, some .nilFunc⟩ := by kernel_rfl
@[go_sem] theorem tin183 : tin Try.prog 183 = some ⟨.func, 1, 8, some .nilFunc⟩ := by kernel_rfl
@[go_sem] theorem tin184 : tin Try.prog 184 = some ⟨.func, 1, 8, some .nilFunc⟩ := by kernel_rfl
@[go_sem] theorem tin185 : tin Try.prog 185 = some ⟨.func, 1, 8, some .nilFunc⟩ := by kernel_rfl
@[go_sem] theorem tin186 : tin Try.prog 186 = some ⟨.func, 1, 8, some .nilFunc⟩ := by kernel_rfl
@[go_sem] theorem tin187 : tin Try.prog 187 = some ⟨(.int .u64), 1, 8, some (.int .u64 0)⟩ := by kernel_rfl
@[go_sem] theorem tin189 : tin Try.prog 189 = some ⟨.func, 1, 8, some .nilFunc⟩ := by kernel_rfl
@[go_sem] theorem tin190 : tin Try.prog 190 = some ⟨.func, 1, 8, some .nilFunc⟩ := by kernel_rfl
@[go_sem] theorem tin191 : tin Try.prog 191 = some ⟨.func, 1, 8, some .nilFunc⟩ := by kernel_rfl
@[go_sem] theorem tin192 : tin Try.prog 192 = some ⟨.func, 1, 8, some .nilFunc⟩ := by kernel_rfl
@[go_sem] theorem tin193 : tin Try.prog 193 = some ⟨.func, 1, 8, some .nilFunc⟩ := by kernel_rfl
@[go_sem] theorem tin194 : tin Try.prog 194 = some ⟨.func, 1, 8, some .nilFunc⟩ := by kernel_rfl
@[go_sem] theorem tin195 : tin Try.prog 195 = some ⟨.func, 1, 8, some .nilFunc⟩ := by kernel_rfl
@[go_sem] theorem tin196 : tin Try.prog 196 = some ⟨(.int .u32), 1, 4, some (.int .u32 0)⟩ := by kernel_rfl
@[go_sem] theorem tin198 : tin Try.prog 198 = some ⟨.func, 1, 8, some .nilFunc⟩ := by kernel_rfl
@[go_sem] theorem tin199 : tin Try.prog 199 = some ⟨(.int .u64), 1, 8, some (.int .u64 0)⟩ := by kernel_rfl
@[go_sem] theorem tin201 : tin Try.prog 201 = some ⟨.func, 1, 8, some .nilFunc⟩ := by kernel_rfl
@[go_sem] theorem tin202 : tin Try.prog 202 = some ⟨.func, 1, 8, some .nilFunc⟩ := by kernel_rfl
@[go_sem] theorem tin203 : tin Try.prog 203 = some ⟨(.int .i64), 1, 8, some (.int .i64 0)⟩ := by kernel_rfl
@[go_sem] theorem tin205 : tin Try.prog 205 = some ⟨.func, 1, 8, some .nilFunc⟩ := by kernel_rfl
@[go_sem] theorem tin206 : tin Try.prog 206 = some ⟨.func, 1, 8, some .nilFunc⟩ := by kernel_rfl
@[go_sem] theorem tin207 : tin Try.prog 207 = some ⟨.func, 1, 8, some .nilFunc⟩ := by kernel_rfl
@[go_sem] theorem tin208 : tin Try.prog 208 = some ⟨.func, 1, 8, some .nilFunc⟩ := by kernel_rfl
@[go_sem] theorem tin209 : tin Try.prog 209 = some ⟨.func, 1, 8, some .nilFunc⟩ := by kernel_rfl
@[go_sem] theorem tin210 : tin Try.prog 210 = some ⟨.func, 1, 8, some .nilFunc⟩ := by kernel_rfl
@[go_sem] theorem tin211 : tin Try.prog 211 = some ⟨.func, 1, 8, some .nilFunc⟩ := by kernel_rfl
@[go_sem] theorem tin212 : tin Try.prog 212 = some ⟨.func, 1, 8, some .nilFunc⟩ := by kernel_rfl
@[go_sem] theorem tin213 : tin Try.prog 213 = some ⟨.func, 1, 8, some .nilFunc⟩ := by kernel_rfl
@[go_sem] theorem tin214 : tin Try.prog 214 = some ⟨.func, 1, 8, some .nilFunc⟩ := by kernel_rfl
@[go_sem] theorem tin215 : tin Try.prog 215 = some ⟨.func, 1, 8, some .nilFunc⟩ := by kernel_rfl
@[go_sem] theorem tin216 : tin Try.prog 216 = some ⟨.func, 1, 8, some .nilFunc⟩ := by kernel_rfl
@[go_sem] theorem tin217 : tin Try.prog 217 = some ⟨(.int .u64), 1, 8, some (.int .u64 0)⟩ := by kernel_rfl
@[go_sem] theorem tin218 : tin Try.prog 218 = some ⟨.func, 1, 8, some .nilFunc⟩ := by kernel_rfl
@[go_sem] theorem tin219 : tin Try.prog 219 = some ⟨.func, 1, 8, some .nilFunc⟩ := by kernel_rfl
@[go_sem] theorem tin220 : tin Try.prog 220 = some ⟨.func, 1, 8, some .nilFunc⟩ := by kernel_rfl
@[go_sem] theorem tin221 : tin Try.prog 221 = some ⟨(.ptr 3), 1, 8, some (.pointer none)⟩ := by kernel_rfl
@[go_sem] theorem tin222 : tin Try.prog 222 = some ⟨.func, 1, 8, some .nilFunc⟩ := by kernel_rfl
@[go_sem] theorem tin223 : tin Try.prog 223 = some ⟨.func, 1, 8, some .nilFunc⟩ := by kernel_rfl
@[go_sem] theorem tin224 : tin Try.prog 224 = some ⟨.func, 1, 8, some .nilFunc⟩ := by kernel_rfl
@[go_sem] theorem tin225 : tin Try.prog 225 = some ⟨(.ptr 217), 1, 8, some (.pointer none)⟩ := by kernel_rfl
@[go_sem] theorem tin226 : tin Try.prog 226 = some ⟨.func, 1, 8, some .nilFunc⟩ := by kernel_rfl
@[go_sem] theorem tin227 : tin Try.prog 227 = some ⟨.func, 1, 8, some .nilFunc⟩ := by kernel_rfl
@[go_sem] theorem tin228 : tin Try.prog 228 = some ⟨.func, 1, 8, some .nilFunc⟩ := by kernel_rfl
@[go_sem] theorem tin229 : tin Try.prog 229 = some ⟨(.st [(17, 0), (17, 1), (17, 2), (9, 3)]), 4, 40, some (.agg #[(.pointer none), (.pointer none), (.pointer none), (.string ByteArray.empty)])⟩ := by kernel_rfl
@[go_sem] theorem tin230 : tin Try.prog 230 = some ⟨(.st [(17, 0), (17, 1), (17, 2), (9, 3)]), 4, 40, some (.agg #[(.pointer none), (.pointer none), (.pointer none), (.string ByteArray.empty)])⟩ := by kernel_rfl
@[go_sem] theorem tin231 : tin Try.prog 231 = some ⟨.arr, 0, 0, some (.agg #[])⟩ := by kernel_rfl
@[go_sem] theorem tin232 : tin Try.prog 232 = some ⟨(.st [(231, 0)]), 0, 0, some (.agg #[])⟩ := by kernel_rfl
@[go_sem] theorem tin233 : tin Try.prog 233 = some ⟨(.st [(231, 0)]), 0, 0, some (.agg #[])⟩ := by kernel_rfl
@[go_sem] theorem tin234 : tin Try.prog 234 = some ⟨.func, 1, 8, some .nilFunc⟩ := by kernel_rfl
@[go_sem] theorem tin235 : tin Try.prog 235 = some ⟨(.int .u8), 1, 1, some (.int .u8 0)⟩ := by kernel_rfl
@[go_sem] theorem tin236 : tin Try.prog 236 = some ⟨(.int .u8), 1, 1, some (.int .u8 0)⟩ := by kernel_rfl
@[go_sem] theorem tin237 : tin Try.prog 237 = some ⟨.func, 1, 8, some .nilFunc⟩ := by kernel_rfl
@[go_sem] theorem tin238 : tin Try.prog 238 = some ⟨(.ptr 5), 1, 8, some (.pointer none)⟩ := by kernel_rfl
@[go_sem] theorem tin239 : tin Try.prog 239 = some ⟨(.int .i32), 1, 4, some (.int .i32 0)⟩ := by kernel_rfl
@[go_sem] theorem tin240 : tin Try.prog 240 = some ⟨(.int .i32), 1, 4, some (.int .i32 0)⟩ := by kernel_rfl
@[go_sem] theorem tin241 : tin Try.prog 241 = some ⟨(.st [(12, 0), (12, 1), (196, 2), (235, 3), (5, 4), (5, 5), (236, 6), (237, 7), (238, 8), (239, 9), (240, 10)]), 11, 48, some (.agg #[(.int .u64 0), (.int .u64 0), (.int .u32 0), (.int .u8 0), (.int .u8 0), (.int .u8 0), (.int .u8 0), .nilFunc, (.pointer none), (.int .i32 0), (.int .i32 0)])⟩ := by kernel_rfl
@[go_sem] theorem tin242 : tin Try.prog 242 = some ⟨(.st [(12, 0), (12, 1), (196, 2), (235, 3), (5, 4), (5, 5), (236, 6), (237, 7), (238, 8), (239, 9), (240, 10)]), 11, 48, some (.agg #[(.int .u64 0), (.int .u64 0), (.int .u32 0), (.int .u8 0), (.int .u8 0), (.int .u8 0), (.int .u8 0), .nilFunc, (.pointer none), (.int .i32 0), (.int .i32 0)])⟩ := by kernel_rfl
@[go_sem] theorem tin243 : tin Try.prog 243 = some ⟨.func, 1, 8, some .nilFunc⟩ := by kernel_rfl
@[go_sem] theorem tin244 : tin Try.prog 244 = some ⟨.other, 1, 8, some (.pointer none)⟩ := by kernel_rfl
@[go_sem] theorem tin245 : tin Try.prog 245 = some ⟨(.st [(68, 0), (2, 1)]), 2, 32, some (.agg #[(.slice none 0 0), (.int .i64 0)])⟩ := by kernel_rfl
@[go_sem] theorem tin246 : tin Try.prog 246 = some ⟨(.st [(68, 0), (2, 1)]), 2, 32, some (.agg #[(.slice none 0 0), (.int .i64 0)])⟩ := by kernel_rfl
@[go_sem] theorem tin247 : tin Try.prog 247 = some ⟨.func, 1, 8, some .nilFunc⟩ := by kernel_rfl
@[go_sem] theorem tin248 : tin Try.prog 248 = some ⟨.func, 1, 8, some .nilFunc⟩ := by kernel_rfl
@[go_sem] theorem callable2 : callable Try.prog 2 = true := by kernel_rfl
@[go_sem] theorem callable3 : callable Try.prog 3 = true := by kernel_rfl
@[go_sem] theorem callable4 : callable Try.prog 4 = true := by kernel_rfl
@[go_sem] theorem callable5 : callable Try.prog 5 = true := by kernel_rfl
@[go_sem] theorem callable6 : callable Try.prog 6 = true := by kernel_rfl
@[go_sem] theorem callable7 : callable Try.prog 7 = true := by kernel_rfl
@[go_sem] theorem callable8 : callable Try.prog 8 = true := by kernel_rfl
@[go_sem] theorem callable9 : callable Try.prog 9 = true := by kernel_rfl
@[go_sem] theorem callable10 : callable Try.prog 10 = true := by kernel_rfl
@[go_sem] theorem callable11 : callable Try.prog 11 = true := by kernel_rfl
@[go_sem] theorem callable12 : callable Try.prog 12 = true := by kernel_rfl
@[go_sem] theorem callable13 : callable Try.prog 13 = true := by kernel_rfl
@[go_sem] theorem callable14 : callable Try.prog 14 = true := by kernel_rfl
@[go_sem] theorem callable15 : callable Try.prog 15 = true := by kernel_rfl
@[go_sem] theorem callable16 : callable Try.prog 16 = true := by kernel_rfl
@[go_sem] theorem callable17 : callable Try.prog 17 = true := by kernel_rfl
@[go_sem] theorem callable18 : callable Try.prog 18 = true := by kernel_rfl
@[go_sem] theorem callable19 : callable Try.prog 19 = true := by kernel_rfl
@[go_sem] theorem callable20 : callable Try.prog 20 = true := by kernel_rfl
@[go_sem] theorem callable21 : callable Try.prog 21 = true := by kernel_rfl
@[go_sem] theorem callable22 : callable Try.prog 22 = true := by kernel_rfl
@[go_sem] theorem callable23 : callable Try.prog 23 = true := by kernel_rfl
@[go_sem] theorem callable24 : callable Try.prog 24 = true := by kernel_rfl
@[go_sem] theorem callable25 : callable Try.prog 25 = true := by kernel_rfl
@[go_sem] theorem callable26 : callable Try.prog 26 = true := by kernel_rfl
@[go_sem] theorem callable27 : callable Try.prog 27 = true := by kernel_rfl
@[go_sem] theorem callable28 : callable Try.prog 28 = true := by kernel_rfl
@[go_sem] theorem callable29 : callable Try.prog 29 = true := by kernel_rfl
@[go_sem] theorem callable30 : callable Try.prog 30 = true := by kernel_rfl
@[go_sem] theorem callable31 : callable Try.prog 31 = true := by kernel_rfl
@[go_sem] theorem callable32 : callable Try.prog 32 = true := by kernel_rfl
@[go_sem] theorem callable33 : callable Try.prog 33 = true := by kernel_rfl
@[go_sem] theorem callable34 : callable Try.prog 34 = true := by kernel_rfl
@[go_sem] theorem callable35 : callable Try.prog 35 = true := by kernel_rfl
@[go_sem] theorem callable36 : callable Try.prog 36 = true := by kernel_rfl
@[go_sem] theorem callable37 : callable Try.prog 37 = true := by kernel_rfl
@[go_sem] theorem callable38 : callable Try.prog 38 = true := by kernel_rfl
@[go_sem] theorem callable39 : callable Try.prog 39 = true := by kernel_rfl
@[go_sem] theorem callable40 : callable Try.prog 40 = true := by kernel_rfl
@[go_sem] theorem callable41 : callable Try.prog 41 = true := by kernel_rfl
@[go_sem] theorem callable42 : callable Try.prog 42 = true := by kernel_rfl
@[go_sem] theorem callable43 : callable Try.prog 43 = true := by kernel_rfl
@[go_sem] theorem callable44 : callable Try.prog 44 = true := by kernel_rfl
@[go_sem] theorem callable45 : callable Try.prog 45 = true := by kernel_rfl
@[go_sem] theorem callable46 : callable Try.prog 46 = true := by kernel_rfl
@[go_sem] theorem callable47 : callable Try.prog 47 = true := by kernel_rfl
@[go_sem] theorem callable48 : callable Try.prog 48 = true := by kernel_rfl
@[go_sem] theorem callable49 : callable Try.prog 49 = true := by kernel_rfl
@[go_sem] theorem callable50 : callable Try.prog 50 = true := by kernel_rfl
@[go_sem] theorem callable51 : callable Try.prog 51 = true := by kernel_rfl
@[go_sem] theorem callable52 : callable Try.prog 52 = true := by kernel_rfl
@[go_sem] theorem callable53 : callable Try.prog 53 = true := by kernel_rfl
@[go_sem] theorem callable54 : callable Try.prog 54 = true := by kernel_rfl
@[go_sem] theorem callable55 : callable Try.prog 55 = true := by kernel_rfl
@[go_sem] theorem callable56 : callable Try.prog 56 = true := by kernel_rfl
@[go_sem] theorem callable57 : callable Try.prog 57 = true := by kernel_rfl
@[go_sem] theorem callable58 : callable Try.prog 58 = true := by kernel_rfl
@[go_sem] theorem callable59 : callable Try.prog 59 = true := by kernel_rfl
@[go_sem] theorem callable60 : callable Try.prog 60 = true := by kernel_rfl
@[go_sem] theorem callable61 : callable Try.prog 61 = true := by kernel_rfl
@[go_sem] theorem callable62 : callable Try.prog 62 = true := by kernel_rfl
@[go_sem] theorem callable63 : callable Try.prog 63 = true := by kernel_rfl
@[go_sem] theorem callable64 : callable Try.prog 64 = true := by kernel_rfl
@[go_sem] theorem callable65 : callable Try.prog 65 = true := by kernel_rfl
@[go_sem] theorem callable66 : callable Try.prog 66 = true := by kernel_rfl
@[go_sem] theorem callable67 : callable Try.prog 67 = true := by kernel_rfl
@[go_sem] theorem callable68 : callable Try.prog 68 = true := by kernel_rfl
@[go_sem] theorem callable69 : callable Try.prog 69 = true := by kernel_rfl
@[go_sem] theorem callable70 : callable Try.prog 70 = true := by kernel_rfl
@[go_sem] theorem callable71 : callable Try.prog 71 = true := by kernel_rfl
@[go_sem] theorem callable72 : callable Try.prog 72 = true := by kernel_rfl
@[go_sem] theorem callable73 : callable Try.prog 73 = true := by kernel_rfl
@[go_sem] theorem callable74 : callable Try.prog 74 = true := by kernel_rfl
@[go_sem] theorem callable75 : callable Try.prog 75 = true := by kernel_rfl
@[go_sem] theorem callable76 : callable Try.prog 76 = true := by kernel_rfl
@[go_sem] theorem callable77 : callable Try.prog 77 = true := by kernel_rfl
@[go_sem] theorem callable78 : callable Try.prog 78 = true := by kernel_rfl
@[go_sem] theorem callable79 : callable Try.prog 79 = true := by kernel_rfl
@[go_sem] theorem callable80 : callable Try.prog 80 = true := by kernel_rfl
@[go_sem] theorem callable81 : callable Try.prog 81 = true := by kernel_rfl
@[go_sem] theorem callable82 : callable Try.prog 82 = true := by kernel_rfl
@[go_sem] theorem callable83 : callable Try.prog 83 = true := by kernel_rfl
@[go_sem] theorem callable84 : callable Try.prog 84 = true := by kernel_rfl
@[go_sem] theorem callable85 : callable Try.prog 85 = true := by kernel_rfl
@[go_sem] theorem callable86 : callable Try.prog 86 = true := by kernel_rfl
@[go_sem] theorem callable87 : callable Try.prog 87 = true := by kernel_rfl
@[go_sem] theorem callable88 : callable Try.prog 88 = true := by kernel_rfl
@[go_sem] theorem callable89 : callable Try.prog 89 = true := by kernel_rfl
@[go_sem] theorem callable90 : callable Try.prog 90 = true := by kernel_rfl
@[go_sem] theorem callable91 : callable Try.prog 91 = true := by kernel_rfl
@[go_sem] theorem callable92 : callable Try.prog 92 = true := by kernel_rfl
@[go_sem] theorem callable93 : callable Try.prog 93 = true := by kernel_rfl
@[go_sem] theorem callable94 : callable Try.prog 94 = true := by kernel_rfl
@[go_sem] theorem callable95 : callable Try.prog 95 = true := by kernel_rfl
@[go_sem] theorem callable96 : callable Try.prog 96 = true := by kernel_rfl
@[go_sem] theorem callable97 : callable Try.prog 97 = true := by kernel_rfl
@[go_sem] theorem callable98 : callable Try.prog 98 = true := by kernel_rfl
@[go_sem] theorem callable99 : callable Try.prog 99 = true := by kernel_rfl
@[go_sem] theorem callable100 : callable Try.prog 100 = true := by kernel_rfl
@[go_sem] theorem callable101 : callable Try.prog 101 = true := by kernel_rfl
@[go_sem] theorem callable102 : callable Try.prog 102 = true := by kernel_rfl
@[go_sem] theorem callable103 : callable Try.prog 103 = true := by kernel_rfl
@[go_sem] theorem callable104 : callable Try.prog 104 = true := by kernel_rfl
@[go_sem] theorem callable105 : callable Try.prog 105 = true := by kernel_rfl
@[go_sem] theorem callable106 : callable Try.prog 106 = true := by kernel_rfl
@[go_sem] theorem callable107 : callable Try.prog 107 = true := by kernel_rfl
@[go_sem] theorem callable108 : callable Try.prog 108 = true := by kernel_rfl
@[go_sem] theorem callable109 : callable Try.prog 109 = true := by kernel_rfl
@[go_sem] theorem callable110 : callable Try.prog 110 = true := by kernel_rfl
@[go_sem] theorem callable111 : callable Try.prog 111 = true := by kernel_rfl
@[go_sem] theorem callable112 : callable Try.prog 112 = true := by kernel_rfl
@[go_sem] theorem callable113 : callable Try.prog 113 = true := by kernel_rfl
@[go_sem] theorem callable114 : callable Try.prog 114 = true := by kernel_rfl
@[go_sem] theorem callable115 : callable Try.prog 115 = true := by kernel_rfl
@[go_sem] theorem callable116 : callable Try.prog 116 = true := by kernel_rfl
@[go_sem] theorem callable117 : callable Try.prog 117 = true := by kernel_rfl
@[go_sem] theorem callable118 : callable Try.prog 118 = true := by kernel_rfl
@[go_sem] theorem callable119 : callable Try.prog 119 = true := by kernel_rfl
@[go_sem] theorem callable120 : callable Try.prog 120 = true := by kernel_rfl
@[go_sem] theorem callable121 : callable Try.prog 121 = true := by kernel_rfl
@[go_sem] theorem callable122 : callable Try.prog 122 = true := by kernel_rfl
@[go_sem] theorem callable123 : callable Try.prog 123 = true := by kernel_rfl
@[go_sem] theorem callable124 : callable Try.prog 124 = true := by kernel_rfl
@[go_sem] theorem callable125 : callable Try.prog 125 = true := by kernel_rfl
@[go_sem] theorem callable126 : callable Try.prog 126 = true := by kernel_rfl
@[go_sem] theorem callable127 : callable Try.prog 127 = true := by kernel_rfl
@[go_sem] theorem callable128 : callable Try.prog 128 = true := by kernel_rfl
@[go_sem] theorem callable129 : callable Try.prog 129 = true := by kernel_rfl
@[go_sem] theorem callable130 : callable Try.prog 130 = true := by kernel_rfl
@[go_sem] theorem callable131 : callable Try.prog 131 = true := by kernel_rfl
@[go_sem] theorem callable132 : callable Try.prog 132 = true := by kernel_rfl
@[go_sem] theorem callable133 : callable Try.prog 133 = true := by kernel_rfl
@[go_sem] theorem callable134 : callable Try.prog 134 = true := by kernel_rfl
@[go_sem] theorem callable135 : callable Try.prog 135 = true := by kernel_rfl
@[go_sem] theorem callable136 : callable Try.prog 136 = true := by kernel_rfl
@[go_sem] theorem callable137 : callable Try.prog 137 = true := by kernel_rfl
@[go_sem] theorem callable138 : callable Try.prog 138 = true := by kernel_rfl
@[go_sem] theorem callable139 : callable Try.prog 139 = true := by kernel_rfl
@[go_sem] theorem callable140 : callable Try.prog 140 = true := by kernel_rfl
@[go_sem] theorem callable141 : callable Try.prog 141 = true := by kernel_rfl
@[go_sem] theorem callable142 : callable Try.prog 142 = true := by kernel_rfl
@[go_sem] theorem callable143 : callable Try.prog 143 = true := by kernel_rfl
@[go_sem] theorem callable144 : callable Try.prog 144 = true := by kernel_rfl
@[go_sem] theorem callable145 : callable Try.prog 145 = true := by kernel_rfl
@[go_sem] theorem callable146 : callable Try.prog 146 = true := by kernel_rfl
@[go_sem] theorem callable147 : callable Try.prog 147 = true := by kernel_rfl
@[go_sem] theorem callable148 : callable Try.prog 148 = true := by kernel_rfl
@[go_sem] theorem callable149 : callable Try.prog 149 = true := by kernel_rfl
@[go_sem] theorem callable150 : callable Try.prog 150 = true := by kernel_rfl
@[go_sem] theorem callable151 : callable Try.prog 151 = true := by kernel_rfl
@[go_sem] theorem callable152 : callable Try.prog 152 = true := by kernel_rfl
@[go_sem] theorem callable153 : callable Try.prog 153 = true := by kernel_rfl
@[go_sem] theorem callable154 : callable Try.prog 154 = true := by kernel_rfl
@[go_sem] theorem callable155 : callable Try.prog 155 = true := by kernel_rfl
@[go_sem] theorem callable156 : callable Try.prog 156 = true := by kernel_rfl
@[go_sem] theorem callable157 : callable Try.prog 157 = true := by kernel_rfl
@[go_sem] theorem callable158 : callable Try.prog 158 = true := by kernel_rfl
@[go_sem] theorem callable159 : callable Try.prog 159 = true := by kernel_rfl
@[go_sem] theorem callable160 : callable Try.prog 160 = true := by kernel_rfl
@[go_sem] theorem callable161 : callable Try.prog 161 = true := by kernel_rfl
@[go_sem] theorem callable162 : callable Try.prog 162 = true := by kernel_rfl
@[go_sem] theorem callable163 : callable Try.prog 163 = true := by kernel_rfl
@[go_sem] theorem callable164 : callable Try.prog 164 = true := by kernel_rfl
@[go_sem] theorem callable165 : callable Try.prog 165 = true := by kernel_rfl
@[go_sem] theorem callable166 : callable Try.prog 166 = true := by kernel_rfl
@[go_sem] theorem callable167 : callable Try.prog 167 = true := by kernel_rfl
@[go_sem] theorem callable168 : callable Try.prog 168 = true := by kernel_rfl
@[go_sem] theorem callable169 : callable Try.prog 169 = true := by kernel_rfl
@[go_sem] theorem callable170 : callable Try.prog 170 = true := by kernel_rfl
@[go_sem] theorem callable171 : callable Try.prog 171 = true := by kernel_rfl
@[go_sem] theorem callable172 : callable Try.prog 172 = true := by kernel_rfl
@[go_sem] theorem callable173 : callable Try.prog 173 = true := by kernel_rfl
@[go_sem] theorem callable174 : callable Try.prog 174 = true := by kernel_rfl
@[go_sem] theorem callable176 : callable Try.prog 176 = true := by kernel_rfl
@[go_sem] theorem callable177 : callable Try.prog 177 = true := by kernel_rfl
@[go_sem] theorem callable178 : callable Try.prog 178 = true := by kernel_rfl
@[go_sem] theorem callable179 : callable Try.prog 179 = true := by kernel_rfl
@[go_sem] theorem callable180 : callable Try.prog 180 = true := by kernel_rfl
@[go_sem] theorem callable181 : callable Try.prog 181 = true := by kernel_rfl
@[go_sem] theorem callable182 : callable Try.prog 182 = true := by kernel_rfl
@[go_sem] theorem callable183 : callable Try.prog 183 = true := by kernel_rfl
@[go_sem] theorem callable184 : callable Try.prog 184 = true := by kernel_rfl
@[go_sem] theorem callable185 : callable Try.prog 185 = true := by kernel_rfl
@[go_sem] theorem callable186 : callable Try.prog 186 = true := by kernel_rfl
@[go_sem] theorem callable187 : callable Try.prog 187 = true := by kernel_rfl
@[go_sem] theorem callable188 : callable Try.prog 188 = true := by kernel_rfl
@[go_sem] theorem callable189 : callable Try.prog 189 = true := by kernel_rfl
@[go_sem] theorem callable190 : callable Try.prog 190 = true := by kernel_rfl
@[go_sem] theorem callable191 : callable Try.prog 191 = true := by kernel_rfl
@[go_sem] theorem callable192 : callable Try.prog 192 = true := by kernel_rfl
@[go_sem] theorem callable193 : callable Try.prog 193 = true := by kernel_rfl
@[go_sem] theorem callable194 : callable Try.prog 194 = true := by kernel_rfl
@[go_sem] theorem callable195 : callable Try.prog 195 = true := by kernel_rfl
@[go_sem] theorem callable196 : callable Try.prog 196 = true := by kernel_rfl
@[go_sem] theorem callable197 : callable Try.prog 197 = true := by kernel_rfl
@[go_sem] theorem callable198 : callable Try.prog 198 = true := by kernel_rfl
@[go_sem] theorem callable199 : callable Try.prog 199 = true := by kernel_rfl
@[go_sem] theorem callable200 : callable Try.prog 200 = true := by kernel_rfl
@[go_sem] theorem callable201 : callable Try.prog 201 = true := by kernel_rfl
@[go_sem] theorem callable202 : callable Try.prog 202 = true := by kernel_rfl
@[go_sem] theorem callable203 : callable Try.prog 203 = true := by kernel_rfl
@[go_sem] theorem callable204 : callable Try.prog 204 = true := by kernel_rfl
@[go_sem] theorem callable205 : callable Try.prog 205 = true := by kernel_rfl
@[go_sem] theorem callable206 : callable Try.prog 206 = true := by kernel_rfl
@[go_sem] theorem callable207 : callable Try.prog 207 = true := by kernel_rfl
@[go_sem] theorem callable208 : callable Try.prog 208 = true := by kernel_rfl
@[go_sem] theorem callable209 : callable Try.prog 209 = true := by kernel_rfl
@[go_sem] theorem callable210 : callable Try.prog 210 = true := by kernel_rfl
@[go_sem] theorem callable211 : callable Try.prog 211 = true := by kernel_rfl
theorem follows_mixed : Try.prog.follows .mixedOrders = true := by kernel_rfl
end Go.Proofs.Ytioaieacogoemaa
