import Derived.Test.YtkbghhholjfgfaaProg
import Derived.Test.YtkbghhholjfgfaaB2
set_option linter.unusedSimpArgs false
set_option linter.unusedVariables false
namespace Pv
open Go Go.Proofs
theorem mix : Try.prog.follows .mixedOrders = true := by kernel_rfl
theorem ty0 : tyI Try.prog 0 = some ⟨false, 1, 0, .any⟩ := by kernel_rfl
theorem ty1 : tyI Try.prog 1 = some ⟨false, 1, 8, .nilf⟩ := by kernel_rfl
theorem ty10 : tyI Try.prog 10 = some ⟨false, 1, 16, (.str ByteArray.empty)⟩ := by kernel_rfl
theorem ty100 : tyI Try.prog 100 = some ⟨false, 1, 8, .nilf⟩ := by kernel_rfl
theorem ty101 : tyI Try.prog 101 = some ⟨false, 1, 8, .nilf⟩ := by kernel_rfl
theorem ty102 : tyI Try.prog 102 = some ⟨false, 1, 8, .nilf⟩ := by kernel_rfl
theorem ty103 : tyI Try.prog 103 = some ⟨false, 1, 8, .nilf⟩ := by kernel_rfl
theorem ty104 : tyI Try.prog 104 = some ⟨false, 1, 8, .nilf⟩ := by kernel_rfl
theorem ty105 : tyI Try.prog 105 = some ⟨false, 1, 8, .nilf⟩ := by kernel_rfl
theorem ty106 : tyI Try.prog 106 = some ⟨false, 1, 8, .nilf⟩ := by kernel_rfl
theorem ty107 : tyI Try.prog 107 = some ⟨false, 1, 8, .nilf⟩ := by kernel_rfl
theorem ty108 : tyI Try.prog 108 = some ⟨false, 1, 8, .nilf⟩ := by kernel_rfl
theorem ty109 : tyI Try.prog 109 = some ⟨false, 1, 8, .nilf⟩ := by kernel_rfl
theorem ty11 : tyI Try.prog 11 = some ⟨false, 1, 16, (.str ByteArray.empty)⟩ := by kernel_rfl
theorem ty110 : tyI Try.prog 110 = some ⟨false, 1, 8, .nilf⟩ := by kernel_rfl
theorem ty111 : tyI Try.prog 111 = some ⟨false, 1, 8, .nilf⟩ := by kernel_rfl
theorem ty112 : tyI Try.prog 112 = some ⟨false, 1, 8, .nilf⟩ := by kernel_rfl
theorem ty113 : tyI Try.prog 113 = some ⟨false, 1, 8, .nilf⟩ := by kernel_rfl
theorem ty114 : tyI Try.prog 114 = some ⟨false, 1, 8, .nilf⟩ := by kernel_rfl
theorem ty115 : tyI Try.prog 115 = some ⟨false, 1, 8, .nilf⟩ := by kernel_rfl
theorem ty116 : tyI Try.prog 116 = some ⟨false, 1, 8, .nilf⟩ := by kernel_rfl
theorem ty117 : tyI Try.prog 117 = some ⟨false, 1, 8, .nilf⟩ := by kernel_rfl
theorem ty118 : tyI Try.prog 118 = some ⟨false, 1, 8, .nilf⟩ := by kernel_rfl
theorem ty119 : tyI Try.prog 119 = some ⟨false, 1, 8, .nilf⟩ := by kernel_rfl
theorem ty12 : tyI Try.prog 12 = some ⟨false, 1, 8, (.int .u64 0)⟩ := by kernel_rfl
theorem ty120 : tyI Try.prog 120 = some ⟨false, 1, 8, .nilf⟩ := by kernel_rfl
theorem ty121 : tyI Try.prog 121 = some ⟨false, 1, 8, .nilf⟩ := by kernel_rfl
theorem ty122 : tyI Try.prog 122 = some ⟨false, 1, 8, .nilf⟩ := by kernel_rfl
theorem ty123 : tyI Try.prog 123 = some ⟨false, 1, 8, .nilf⟩ := by kernel_rfl
theorem ty124 : tyI Try.prog 124 = some ⟨false, 1, 8, .nilf⟩ := by kernel_rfl
theorem ty125 : tyI Try.prog 125 = some ⟨false, 1, 8, .nilf⟩ := by kernel_rfl
theorem ty126 : tyI Try.prog 126 = some ⟨false, 1, 8, .nilf⟩ := by kernel_rfl
theorem ty127 : tyI Try.prog 127 = some ⟨false, 1, 8, .nilf⟩ := by kernel_rfl
theorem ty128 : tyI Try.prog 128 = some ⟨false, 1, 8, .nilf⟩ := by kernel_rfl
theorem ty129 : tyI Try.prog 129 = some ⟨false, 1, 8, .nilf⟩ := by kernel_rfl
theorem ty13 : tyI Try.prog 13 = some ⟨true, 2, 24, (.agg [(.str ByteArray.empty), (.int .u64 0)])⟩ := by kernel_rfl
theorem ty130 : tyI Try.prog 130 = some ⟨false, 1, 8, .nilf⟩ := by kernel_rfl
theorem ty131 : tyI Try.prog 131 = some ⟨false, 1, 8, .nilf⟩ := by kernel_rfl
theorem ty132 : tyI Try.prog 132 = some ⟨false, 1, 8, .nilf⟩ := by kernel_rfl
theorem ty133 : tyI Try.prog 133 = some ⟨false, 1, 8, .nilf⟩ := by kernel_rfl
theorem ty134 : tyI Try.prog 134 = some ⟨false, 1, 8, .nilf⟩ := by kernel_rfl
theorem ty135 : tyI Try.prog 135 = some ⟨false, 1, 8, .nilf⟩ := by kernel_rfl
theorem ty136 : tyI Try.prog 136 = some ⟨false, 1, 8, .nilf⟩ := by kernel_rfl
theorem ty137 : tyI Try.prog 137 = some ⟨false, 1, 8, .nilf⟩ := by kernel_rfl
theorem ty138 : tyI Try.prog 138 = some ⟨false, 1, 8, .nilf⟩ := by kernel_rfl
theorem ty139 : tyI Try.prog 139 = some ⟨false, 1, 24, .nils⟩ := by kernel_rfl
theorem ty14 : tyI Try.prog 14 = some ⟨true, 2, 24, (.agg [(.str ByteArray.empty), (.int .u64 0)])⟩ := by kernel_rfl
theorem ty140 : tyI Try.prog 140 = some ⟨false, 1, 8, (.int .u64 0)⟩ := by kernel_rfl
theorem ty141 : tyI Try.prog 141 = some ⟨false, 1, 8, .nilf⟩ := by kernel_rfl
theorem ty142 : tyI Try.prog 142 = some ⟨true, 4, 40, (.agg [.nilp, .nilp, .nilp, (.str ByteArray.empty)])⟩ := by kernel_rfl
theorem ty143 : tyI Try.prog 143 = some ⟨true, 4, 40, (.agg [.nilp, .nilp, .nilp, (.str ByteArray.empty)])⟩ := by kernel_rfl
theorem ty144 : tyI Try.prog 144 = some ⟨true, 0, 0, (.agg [])⟩ := by kernel_rfl
theorem ty145 : tyI Try.prog 145 = some ⟨true, 0, 0, (.agg [])⟩ := by kernel_rfl
theorem ty146 : tyI Try.prog 146 = some ⟨true, 0, 0, (.agg [])⟩ := by kernel_rfl
theorem ty147 : tyI Try.prog 147 = some ⟨false, 1, 8, .nilf⟩ := by kernel_rfl
theorem ty148 : tyI Try.prog 148 = some ⟨false, 1, 4, (.int .u32 0)⟩ := by kernel_rfl
theorem ty149 : tyI Try.prog 149 = some ⟨false, 1, 1, (.int .u8 0)⟩ := by kernel_rfl
theorem ty15 : tyI Try.prog 15 = some ⟨false, 1, 8, .nilp⟩ := by kernel_rfl
theorem ty150 : tyI Try.prog 150 = some ⟨false, 1, 1, (.int .u8 0)⟩ := by kernel_rfl
theorem ty151 : tyI Try.prog 151 = some ⟨false, 1, 8, .nilf⟩ := by kernel_rfl
theorem ty152 : tyI Try.prog 152 = some ⟨false, 1, 8, .nilp⟩ := by kernel_rfl
theorem ty153 : tyI Try.prog 153 = some ⟨false, 1, 4, (.int .i32 0)⟩ := by kernel_rfl
theorem ty154 : tyI Try.prog 154 = some ⟨false, 1, 4, (.int .i32 0)⟩ := by kernel_rfl
theorem ty155 : tyI Try.prog 155 = some ⟨true, 11, 48, (.agg [(.int .u64 0), (.int .u64 0), (.int .u32 0), (.int .u8 0), (.int .u8 0), (.int .u8 0), (.int .u8 0), .nilf, .nilp, (.int .i32 0), (.int .i32 0)])⟩ := by kernel_rfl
theorem ty156 : tyI Try.prog 156 = some ⟨true, 11, 48, (.agg [(.int .u64 0), (.int .u64 0), (.int .u32 0), (.int .u8 0), (.int .u8 0), (.int .u8 0), (.int .u8 0), .nilf, .nilp, (.int .i32 0), (.int .i32 0)])⟩ := by kernel_rfl
theorem ty157 : tyI Try.prog 157 = some ⟨false, 1, 8, .nilf⟩ := by kernel_rfl
theorem ty158 : tyI Try.prog 158 = some ⟨false, 1, 8, .nilp⟩ := by kernel_rfl
theorem ty16 : tyI Try.prog 16 = some ⟨false, 1, 8, .nilp⟩ := by kernel_rfl
theorem ty17 : tyI Try.prog 17 = some ⟨false, 1, 8, .nilp⟩ := by kernel_rfl
theorem ty18 : tyI Try.prog 18 = some ⟨true, 1, 8, (.agg [.nilp])⟩ := by kernel_rfl
theorem ty19 : tyI Try.prog 19 = some ⟨true, 1, 8, (.agg [.nilp])⟩ := by kernel_rfl
theorem ty2 : tyI Try.prog 2 = some ⟨false, 1, 8, (.int .i64 0)⟩ := by kernel_rfl
theorem ty20 : tyI Try.prog 20 = some ⟨false, 1, 16, .nili⟩ := by kernel_rfl
theorem ty21 : tyI Try.prog 21 = some ⟨false, 1, 4, (.int .i32 0)⟩ := by kernel_rfl
theorem ty22 : tyI Try.prog 22 = some ⟨true, 16, 16, (.agg [(.int .u8 0), (.int .u8 0), (.int .u8 0), (.int .u8 0), (.int .u8 0), (.int .u8 0), (.int .u8 0), (.int .u8 0), (.int .u8 0), (.int .u8 0), (.int .u8 0), (.int .u8 0), (.int .u8 0), (.int .u8 0), (.int .u8 0), (.int .u8 0)])⟩ := by kernel_rfl
theorem ty23 : tyI Try.prog 23 = some ⟨true, 17, 17, (.agg [(.bool false), (.int .u8 0), (.int .u8 0), (.int .u8 0), (.int .u8 0), (.int .u8 0), (.int .u8 0), (.int .u8 0), (.int .u8 0), (.int .u8 0), (.int .u8 0), (.int .u8 0), (.int .u8 0), (.int .u8 0), (.int .u8 0), (.int .u8 0), (.int .u8 0)])⟩ := by kernel_rfl
theorem ty24 : tyI Try.prog 24 = some ⟨true, 17, 17, (.agg [(.bool false), (.int .u8 0), (.int .u8 0), (.int .u8 0), (.int .u8 0), (.int .u8 0), (.int .u8 0), (.int .u8 0), (.int .u8 0), (.int .u8 0), (.int .u8 0), (.int .u8 0), (.int .u8 0), (.int .u8 0), (.int .u8 0), (.int .u8 0), (.int .u8 0)])⟩ := by kernel_rfl
theorem ty25 : tyI Try.prog 25 = some ⟨true, 18, 32, (.agg [(.bool false), (.int .u8 0), (.int .u8 0), (.int .u8 0), (.int .u8 0), (.int .u8 0), (.int .u8 0), (.int .u8 0), (.int .u8 0), (.int .u8 0), (.int .u8 0), (.int .u8 0), (.int .u8 0), (.int .u8 0), (.int .u8 0), (.int .u8 0), (.int .u8 0), (.int .i64 0)])⟩ := by kernel_rfl
theorem ty26 : tyI Try.prog 26 = some ⟨true, 18, 32, (.agg [(.bool false), (.int .u8 0), (.int .u8 0), (.int .u8 0), (.int .u8 0), (.int .u8 0), (.int .u8 0), (.int .u8 0), (.int .u8 0), (.int .u8 0), (.int .u8 0), (.int .u8 0), (.int .u8 0), (.int .u8 0), (.int .u8 0), (.int .u8 0), (.int .u8 0), (.int .i64 0)])⟩ := by kernel_rfl
theorem ty27 : tyI Try.prog 27 = some ⟨true, 2, 32, (.agg [(.str ByteArray.empty), (.str ByteArray.empty)])⟩ := by kernel_rfl
theorem ty28 : tyI Try.prog 28 = some ⟨true, 2, 32, (.agg [(.str ByteArray.empty), (.str ByteArray.empty)])⟩ := by kernel_rfl
theorem ty29 : tyI Try.prog 29 = some ⟨true, 26, 112, (.agg [(.int .i64 0), (.bool false), (.int .u8 0), (.int .u8 0), (.int .u8 0), (.int .u8 0), (.int .u8 0), (.int .u8 0), (.int .u8 0), (.int .u8 0), (.int .u8 0), (.int .u8 0), (.int .u8 0), (.int .u8 0), (.int .u8 0), (.int .u8 0), (.int .u8 0), (.int .u8 0), (.int .i64 0), (.str ByteArray.empty), (.str ByteArray.empty), (.str ByteArray.empty), (.int .i64 0), (.bool false), (.bool false), (.int .i64 0)])⟩ := by kernel_rfl
theorem ty3 : tyI Try.prog 3 = some ⟨false, 1, 8, (.int .i64 0)⟩ := by kernel_rfl
theorem ty30 : tyI Try.prog 30 = some ⟨true, 26, 112, (.agg [(.int .i64 0), (.bool false), (.int .u8 0), (.int .u8 0), (.int .u8 0), (.int .u8 0), (.int .u8 0), (.int .u8 0), (.int .u8 0), (.int .u8 0), (.int .u8 0), (.int .u8 0), (.int .u8 0), (.int .u8 0), (.int .u8 0), (.int .u8 0), (.int .u8 0), (.int .u8 0), (.int .i64 0), (.str ByteArray.empty), (.str ByteArray.empty), (.str ByteArray.empty), (.int .i64 0), (.bool false), (.bool false), (.int .i64 0)])⟩ := by kernel_rfl
theorem ty31 : tyI Try.prog 31 = some ⟨true, 5, 56, (.agg [(.str ByteArray.empty), (.str ByteArray.empty), (.str ByteArray.empty), (.bool false), (.bool false)])⟩ := by kernel_rfl
theorem ty32 : tyI Try.prog 32 = some ⟨true, 5, 56, (.agg [(.str ByteArray.empty), (.str ByteArray.empty), (.str ByteArray.empty), (.bool false), (.bool false)])⟩ := by kernel_rfl
theorem ty33 : tyI Try.prog 33 = some ⟨true, 10, 112, (.agg [(.str ByteArray.empty), (.str ByteArray.empty), (.str ByteArray.empty), (.bool false), (.bool false), (.str ByteArray.empty), (.str ByteArray.empty), (.str ByteArray.empty), (.bool false), (.bool false)])⟩ := by kernel_rfl
theorem ty34 : tyI Try.prog 34 = some ⟨false, 1, 8, .nilf⟩ := by kernel_rfl
theorem ty35 : tyI Try.prog 35 = some ⟨false, 1, 24, .nils⟩ := by kernel_rfl
theorem ty36 : tyI Try.prog 36 = some ⟨true, 26, 112, (.agg [(.int .i64 0), (.bool false), (.int .u8 0), (.int .u8 0), (.int .u8 0), (.int .u8 0), (.int .u8 0), (.int .u8 0), (.int .u8 0), (.int .u8 0), (.int .u8 0), (.int .u8 0), (.int .u8 0), (.int .u8 0), (.int .u8 0), (.int .u8 0), (.int .u8 0), (.int .u8 0), (.int .i64 0), (.str ByteArray.empty), (.str ByteArray.empty), (.str ByteArray.empty), (.int .i64 0), (.bool false), (.bool false), (.int .i64 0)])⟩ := by kernel_rfl
theorem ty37 : tyI Try.prog 37 = some ⟨true, 5, 56, (.agg [(.str ByteArray.empty), (.str ByteArray.empty), (.str ByteArray.empty), (.bool false), (.bool false)])⟩ := by kernel_rfl
theorem ty38 : tyI Try.prog 38 = some ⟨false, 1, 8, .nilf⟩ := by kernel_rfl
theorem ty39 : tyI Try.prog 39 = some ⟨false, 1, 8, .nilf⟩ := by kernel_rfl
theorem ty4 : tyI Try.prog 4 = some ⟨false, 1, 1, (.bool false)⟩ := by kernel_rfl
theorem ty40 : tyI Try.prog 40 = some ⟨false, 1, 8, .nilf⟩ := by kernel_rfl
theorem ty41 : tyI Try.prog 41 = some ⟨false, 1, 8, .nilf⟩ := by kernel_rfl
theorem ty42 : tyI Try.prog 42 = some ⟨false, 1, 8, .nilf⟩ := by kernel_rfl
theorem ty43 : tyI Try.prog 43 = some ⟨false, 1, 8, .nilf⟩ := by kernel_rfl
theorem ty44 : tyI Try.prog 44 = some ⟨false, 1, 8, .nilf⟩ := by kernel_rfl
theorem ty45 : tyI Try.prog 45 = some ⟨false, 1, 8, .nilf⟩ := by kernel_rfl
theorem ty46 : tyI Try.prog 46 = some ⟨false, 1, 24, .nils⟩ := by kernel_rfl
theorem ty47 : tyI Try.prog 47 = some ⟨false, 1, 24, .nils⟩ := by kernel_rfl
theorem ty48 : tyI Try.prog 48 = some ⟨false, 1, 24, .nils⟩ := by kernel_rfl
theorem ty49 : tyI Try.prog 49 = some ⟨true, 3, 72, (.agg [.nils, .nils, .nils])⟩ := by kernel_rfl
theorem ty5 : tyI Try.prog 5 = some ⟨false, 1, 1, (.int .u8 0)⟩ := by kernel_rfl
theorem ty50 : tyI Try.prog 50 = some ⟨true, 3, 72, (.agg [.nils, .nils, .nils])⟩ := by kernel_rfl
theorem ty51 : tyI Try.prog 51 = some ⟨false, 1, 8, .nilf⟩ := by kernel_rfl
theorem ty52 : tyI Try.prog 52 = some ⟨false, 1, 24, .nils⟩ := by kernel_rfl
theorem ty53 : tyI Try.prog 53 = some ⟨false, 1, 24, .nils⟩ := by kernel_rfl
theorem ty54 : tyI Try.prog 54 = some ⟨false, 1, 24, .nils⟩ := by kernel_rfl
theorem ty55 : tyI Try.prog 55 = some ⟨true, 3, 72, (.agg [.nils, .nils, .nils])⟩ := by kernel_rfl
theorem ty56 : tyI Try.prog 56 = some ⟨true, 3, 72, (.agg [.nils, .nils, .nils])⟩ := by kernel_rfl
theorem ty57 : tyI Try.prog 57 = some ⟨false, 1, 8, .nilf⟩ := by kernel_rfl
theorem ty58 : tyI Try.prog 58 = some ⟨false, 1, 24, .nils⟩ := by kernel_rfl
theorem ty59 : tyI Try.prog 59 = some ⟨true, 3, 56, (.agg [(.str ByteArray.empty), (.str ByteArray.empty), .nils])⟩ := by kernel_rfl
theorem ty6 : tyI Try.prog 6 = some ⟨false, 1, 1, (.int .u8 0)⟩ := by kernel_rfl
theorem ty60 : tyI Try.prog 60 = some ⟨true, 3, 56, (.agg [(.str ByteArray.empty), (.str ByteArray.empty), .nils])⟩ := by kernel_rfl
theorem ty61 : tyI Try.prog 61 = some ⟨false, 1, 8, .nilf⟩ := by kernel_rfl
theorem ty62 : tyI Try.prog 62 = some ⟨false, 1, 8, .nilf⟩ := by kernel_rfl
theorem ty63 : tyI Try.prog 63 = some ⟨true, 3, 56, (.agg [(.str ByteArray.empty), (.str ByteArray.empty), .nils])⟩ := by kernel_rfl
theorem ty64 : tyI Try.prog 64 = some ⟨false, 1, 24, .nils⟩ := by kernel_rfl
theorem ty65 : tyI Try.prog 65 = some ⟨false, 1, 24, .nils⟩ := by kernel_rfl
theorem ty66 : tyI Try.prog 66 = some ⟨true, 3, 56, (.agg [(.int .i64 0), .nils, .nils])⟩ := by kernel_rfl
theorem ty67 : tyI Try.prog 67 = some ⟨true, 3, 56, (.agg [(.int .i64 0), .nils, .nils])⟩ := by kernel_rfl
theorem ty68 : tyI Try.prog 68 = some ⟨true, 8, 112, (.agg [(.str ByteArray.empty), (.str ByteArray.empty), (.str ByteArray.empty), (.bool false), (.bool false), (.int .i64 0), .nils, .nils])⟩ := by kernel_rfl
theorem ty69 : tyI Try.prog 69 = some ⟨true, 8, 112, (.agg [(.str ByteArray.empty), (.str ByteArray.empty), (.str ByteArray.empty), (.bool false), (.bool false), (.int .i64 0), .nils, .nils])⟩ := by kernel_rfl
theorem ty7 : tyI Try.prog 7 = some ⟨true, 4, 24, (.agg [(.int .i64 0), (.int .i64 0), (.bool false), (.int .u8 0)])⟩ := by kernel_rfl
theorem ty70 : tyI Try.prog 70 = some ⟨false, 1, 8, .nilf⟩ := by kernel_rfl
theorem ty71 : tyI Try.prog 71 = some ⟨false, 1, 8, .nilf⟩ := by kernel_rfl
theorem ty72 : tyI Try.prog 72 = some ⟨true, 3, 56, (.agg [(.int .i64 0), .nils, .nils])⟩ := by kernel_rfl
theorem ty73 : tyI Try.prog 73 = some ⟨true, 8, 112, (.agg [(.str ByteArray.empty), (.str ByteArray.empty), (.str ByteArray.empty), (.bool false), (.bool false), (.int .i64 0), .nils, .nils])⟩ := by kernel_rfl
theorem ty74 : tyI Try.prog 74 = some ⟨true, 8, 112, (.agg [(.str ByteArray.empty), (.str ByteArray.empty), (.str ByteArray.empty), (.bool false), (.bool false), (.int .i64 0), .nils, .nils])⟩ := by kernel_rfl
theorem ty75 : tyI Try.prog 75 = some ⟨false, 1, 8, .nilf⟩ := by kernel_rfl
theorem ty76 : tyI Try.prog 76 = some ⟨false, 1, 8, .nilf⟩ := by kernel_rfl
theorem ty77 : tyI Try.prog 77 = some ⟨false, 1, 8, .nilf⟩ := by kernel_rfl
theorem ty78 : tyI Try.prog 78 = some ⟨false, 1, 24, .nils⟩ := by kernel_rfl
theorem ty79 : tyI Try.prog 79 = some ⟨false, 1, 8, .nilf⟩ := by kernel_rfl
theorem ty8 : tyI Try.prog 8 = some ⟨true, 4, 24, (.agg [(.int .i64 0), (.int .i64 0), (.bool false), (.int .u8 0)])⟩ := by kernel_rfl
theorem ty80 : tyI Try.prog 80 = some ⟨false, 1, 8, .nilf⟩ := by kernel_rfl
theorem ty81 : tyI Try.prog 81 = some ⟨false, 1, 24, .nils⟩ := by kernel_rfl
theorem ty82 : tyI Try.prog 82 = some ⟨false, 1, 24, .nils⟩ := by kernel_rfl
theorem ty83 : tyI Try.prog 83 = some ⟨false, 1, 8, .nilf⟩ := by kernel_rfl
theorem ty84 : tyI Try.prog 84 = some ⟨false, 1, 8, .nilf⟩ := by kernel_rfl
theorem ty85 : tyI Try.prog 85 = some ⟨false, 1, 8, .nilf⟩ := by kernel_rfl
theorem ty86 : tyI Try.prog 86 = some ⟨false, 1, 8, .nilf⟩ := by kernel_rfl
theorem ty87 : tyI Try.prog 87 = some ⟨false, 1, 8, .nilf⟩ := by kernel_rfl
theorem ty88 : tyI Try.prog 88 = some ⟨false, 1, 8, .nilf⟩ := by kernel_rfl
theorem ty89 : tyI Try.prog 89 = some ⟨false, 1, 8, .nilf⟩ := by kernel_rfl
theorem ty9 : tyI Try.prog 9 = some ⟨false, 1, 16, (.str ByteArray.empty)⟩ := by kernel_rfl
theorem ty90 : tyI Try.prog 90 = some ⟨false, 1, 8, .nilf⟩ := by kernel_rfl
theorem ty91 : tyI Try.prog 91 = some ⟨false, 1, 8, .nilf⟩ := by kernel_rfl
theorem ty92 : tyI Try.prog 92 = some ⟨false, 1, 8, .nilf⟩ := by kernel_rfl
theorem ty93 : tyI Try.prog 93 = some ⟨false, 1, 8, .nilf⟩ := by kernel_rfl
theorem ty94 : tyI Try.prog 94 = some ⟨false, 1, 8, .nilf⟩ := by kernel_rfl
theorem ty95 : tyI Try.prog 95 = some ⟨false, 1, 8, .nilf⟩ := by kernel_rfl
theorem ty96 : tyI Try.prog 96 = some ⟨false, 1, 8, .nilf⟩ := by kernel_rfl
theorem ty97 : tyI Try.prog 97 = some ⟨true, 18, 32, (.agg [(.bool false), (.int .u8 0), (.int .u8 0), (.int .u8 0), (.int .u8 0), (.int .u8 0), (.int .u8 0), (.int .u8 0), (.int .u8 0), (.int .u8 0), (.int .u8 0), (.int .u8 0), (.int .u8 0), (.int .u8 0), (.int .u8 0), (.int .u8 0), (.int .u8 0), (.int .i64 0)])⟩ := by kernel_rfl
theorem ty98 : tyI Try.prog 98 = some ⟨true, 18, 32, (.agg [(.bool false), (.int .u8 0), (.int .u8 0), (.int .u8 0), (.int .u8 0), (.int .u8 0), (.int .u8 0), (.int .u8 0), (.int .u8 0), (.int .u8 0), (.int .u8 0), (.int .u8 0), (.int .u8 0), (.int .u8 0), (.int .u8 0), (.int .u8 0), (.int .u8 0), (.int .i64 0)])⟩ := by kernel_rfl
theorem ty99 : tyI Try.prog 99 = some ⟨false, 1, 8, .nilf⟩ := by kernel_rfl
theorem co0 : Try.prog.cellsOf 0 = 1 := by kernel_rfl
theorem co1 : Try.prog.cellsOf 1 = 1 := by kernel_rfl
theorem co10 : Try.prog.cellsOf 10 = 1 := by kernel_rfl
theorem co100 : Try.prog.cellsOf 100 = 1 := by kernel_rfl
theorem co101 : Try.prog.cellsOf 101 = 1 := by kernel_rfl
theorem co102 : Try.prog.cellsOf 102 = 1 := by kernel_rfl
theorem co103 : Try.prog.cellsOf 103 = 1 := by kernel_rfl
theorem co104 : Try.prog.cellsOf 104 = 1 := by kernel_rfl
theorem co105 : Try.prog.cellsOf 105 = 1 := by kernel_rfl
theorem co106 : Try.prog.cellsOf 106 = 1 := by kernel_rfl
theorem co107 : Try.prog.cellsOf 107 = 1 := by kernel_rfl
theorem co108 : Try.prog.cellsOf 108 = 1 := by kernel_rfl
theorem co109 : Try.prog.cellsOf 109 = 1 := by kernel_rfl
theorem co11 : Try.prog.cellsOf 11 = 1 := by kernel_rfl
theorem co110 : Try.prog.cellsOf 110 = 1 := by kernel_rfl
theorem co111 : Try.prog.cellsOf 111 = 1 := by kernel_rfl
theorem co112 : Try.prog.cellsOf 112 = 1 := by kernel_rfl
theorem co113 : Try.prog.cellsOf 113 = 1 := by kernel_rfl
theorem co114 : Try.prog.cellsOf 114 = 1 := by kernel_rfl
theorem co115 : Try.prog.cellsOf 115 = 1 := by kernel_rfl
theorem co116 : Try.prog.cellsOf 116 = 1 := by kernel_rfl
theorem co117 : Try.prog.cellsOf 117 = 1 := by kernel_rfl
theorem co118 : Try.prog.cellsOf 118 = 1 := by kernel_rfl
theorem co119 : Try.prog.cellsOf 119 = 1 := by kernel_rfl
theorem co12 : Try.prog.cellsOf 12 = 1 := by kernel_rfl
theorem co120 : Try.prog.cellsOf 120 = 1 := by kernel_rfl
theorem co121 : Try.prog.cellsOf 121 = 1 := by kernel_rfl
theorem co122 : Try.prog.cellsOf 122 = 1 := by kernel_rfl
theorem co123 : Try.prog.cellsOf 123 = 1 := by kernel_rfl
theorem co124 : Try.prog.cellsOf 124 = 1 := by kernel_rfl
theorem co125 : Try.prog.cellsOf 125 = 1 := by kernel_rfl
theorem co126 : Try.prog.cellsOf 126 = 1 := by kernel_rfl
theorem co127 : Try.prog.cellsOf 127 = 1 := by kernel_rfl
theorem co128 : Try.prog.cellsOf 128 = 1 := by kernel_rfl
theorem co129 : Try.prog.cellsOf 129 = 1 := by kernel_rfl
theorem co13 : Try.prog.cellsOf 13 = 2 := by kernel_rfl
theorem co130 : Try.prog.cellsOf 130 = 1 := by kernel_rfl
theorem co131 : Try.prog.cellsOf 131 = 1 := by kernel_rfl
theorem co132 : Try.prog.cellsOf 132 = 1 := by kernel_rfl
theorem co133 : Try.prog.cellsOf 133 = 1 := by kernel_rfl
theorem co134 : Try.prog.cellsOf 134 = 1 := by kernel_rfl
theorem co135 : Try.prog.cellsOf 135 = 1 := by kernel_rfl
theorem co136 : Try.prog.cellsOf 136 = 1 := by kernel_rfl
theorem co137 : Try.prog.cellsOf 137 = 1 := by kernel_rfl
theorem co138 : Try.prog.cellsOf 138 = 1 := by kernel_rfl
theorem co139 : Try.prog.cellsOf 139 = 1 := by kernel_rfl
theorem co14 : Try.prog.cellsOf 14 = 2 := by kernel_rfl
theorem co140 : Try.prog.cellsOf 140 = 1 := by kernel_rfl
theorem co141 : Try.prog.cellsOf 141 = 1 := by kernel_rfl
theorem co142 : Try.prog.cellsOf 142 = 4 := by kernel_rfl
theorem co143 : Try.prog.cellsOf 143 = 4 := by kernel_rfl
theorem co144 : Try.prog.cellsOf 144 = 0 := by kernel_rfl
theorem co145 : Try.prog.cellsOf 145 = 0 := by kernel_rfl
theorem co146 : Try.prog.cellsOf 146 = 0 := by kernel_rfl
theorem co147 : Try.prog.cellsOf 147 = 1 := by kernel_rfl
theorem co148 : Try.prog.cellsOf 148 = 1 := by kernel_rfl
theorem co149 : Try.prog.cellsOf 149 = 1 := by kernel_rfl
theorem co15 : Try.prog.cellsOf 15 = 1 := by kernel_rfl
theorem co150 : Try.prog.cellsOf 150 = 1 := by kernel_rfl
theorem co151 : Try.prog.cellsOf 151 = 1 := by kernel_rfl
theorem co152 : Try.prog.cellsOf 152 = 1 := by kernel_rfl
theorem co153 : Try.prog.cellsOf 153 = 1 := by kernel_rfl
theorem co154 : Try.prog.cellsOf 154 = 1 := by kernel_rfl
theorem co155 : Try.prog.cellsOf 155 = 11 := by kernel_rfl
theorem co156 : Try.prog.cellsOf 156 = 11 := by kernel_rfl
theorem co157 : Try.prog.cellsOf 157 = 1 := by kernel_rfl
theorem co158 : Try.prog.cellsOf 158 = 1 := by kernel_rfl
theorem co16 : Try.prog.cellsOf 16 = 1 := by kernel_rfl
theorem co17 : Try.prog.cellsOf 17 = 1 := by kernel_rfl
theorem co18 : Try.prog.cellsOf 18 = 1 := by kernel_rfl
theorem co19 : Try.prog.cellsOf 19 = 1 := by kernel_rfl
theorem co2 : Try.prog.cellsOf 2 = 1 := by kernel_rfl
theorem co20 : Try.prog.cellsOf 20 = 1 := by kernel_rfl
theorem co21 : Try.prog.cellsOf 21 = 1 := by kernel_rfl
theorem co22 : Try.prog.cellsOf 22 = 16 := by kernel_rfl
theorem co23 : Try.prog.cellsOf 23 = 17 := by kernel_rfl
theorem co24 : Try.prog.cellsOf 24 = 17 := by kernel_rfl
theorem co25 : Try.prog.cellsOf 25 = 18 := by kernel_rfl
theorem co26 : Try.prog.cellsOf 26 = 18 := by kernel_rfl
theorem co27 : Try.prog.cellsOf 27 = 2 := by kernel_rfl
theorem co28 : Try.prog.cellsOf 28 = 2 := by kernel_rfl
theorem co29 : Try.prog.cellsOf 29 = 26 := by kernel_rfl
theorem co3 : Try.prog.cellsOf 3 = 1 := by kernel_rfl
theorem co30 : Try.prog.cellsOf 30 = 26 := by kernel_rfl
theorem co31 : Try.prog.cellsOf 31 = 5 := by kernel_rfl
theorem co32 : Try.prog.cellsOf 32 = 5 := by kernel_rfl
theorem co33 : Try.prog.cellsOf 33 = 10 := by kernel_rfl
theorem co34 : Try.prog.cellsOf 34 = 1 := by kernel_rfl
theorem co35 : Try.prog.cellsOf 35 = 1 := by kernel_rfl
theorem co36 : Try.prog.cellsOf 36 = 26 := by kernel_rfl
theorem co37 : Try.prog.cellsOf 37 = 5 := by kernel_rfl
theorem co38 : Try.prog.cellsOf 38 = 1 := by kernel_rfl
theorem co39 : Try.prog.cellsOf 39 = 1 := by kernel_rfl
theorem co4 : Try.prog.cellsOf 4 = 1 := by kernel_rfl
theorem co40 : Try.prog.cellsOf 40 = 1 := by kernel_rfl
theorem co41 : Try.prog.cellsOf 41 = 1 := by kernel_rfl
theorem co42 : Try.prog.cellsOf 42 = 1 := by kernel_rfl
theorem co43 : Try.prog.cellsOf 43 = 1 := by kernel_rfl
theorem co44 : Try.prog.cellsOf 44 = 1 := by kernel_rfl
theorem co45 : Try.prog.cellsOf 45 = 1 := by kernel_rfl
theorem co46 : Try.prog.cellsOf 46 = 1 := by kernel_rfl
theorem co47 : Try.prog.cellsOf 47 = 1 := by kernel_rfl
theorem co48 : Try.prog.cellsOf 48 = 1 := by kernel_rfl
theorem co49 : Try.prog.cellsOf 49 = 3 := by kernel_rfl
theorem co5 : Try.prog.cellsOf 5 = 1 := by kernel_rfl
theorem co50 : Try.prog.cellsOf 50 = 3 := by kernel_rfl
theorem co51 : Try.prog.cellsOf 51 = 1 := by kernel_rfl
theorem co52 : Try.prog.cellsOf 52 = 1 := by kernel_rfl
theorem co53 : Try.prog.cellsOf 53 = 1 := by kernel_rfl
theorem co54 : Try.prog.cellsOf 54 = 1 := by kernel_rfl
theorem co55 : Try.prog.cellsOf 55 = 3 := by kernel_rfl
theorem co56 : Try.prog.cellsOf 56 = 3 := by kernel_rfl
theorem co57 : Try.prog.cellsOf 57 = 1 := by kernel_rfl
theorem co58 : Try.prog.cellsOf 58 = 1 := by kernel_rfl
theorem co59 : Try.prog.cellsOf 59 = 3 := by kernel_rfl
theorem co6 : Try.prog.cellsOf 6 = 1 := by kernel_rfl
theorem co60 : Try.prog.cellsOf 60 = 3 := by kernel_rfl
theorem co61 : Try.prog.cellsOf 61 = 1 := by kernel_rfl
theorem co62 : Try.prog.cellsOf 62 = 1 := by kernel_rfl
theorem co63 : Try.prog.cellsOf 63 = 3 := by kernel_rfl
theorem co64 : Try.prog.cellsOf 64 = 1 := by kernel_rfl
theorem co65 : Try.prog.cellsOf 65 = 1 := by kernel_rfl
theorem co66 : Try.prog.cellsOf 66 = 3 := by kernel_rfl
theorem co67 : Try.prog.cellsOf 67 = 3 := by kernel_rfl
theorem co68 : Try.prog.cellsOf 68 = 8 := by kernel_rfl
theorem co69 : Try.prog.cellsOf 69 = 8 := by kernel_rfl
theorem co7 : Try.prog.cellsOf 7 = 4 := by kernel_rfl
theorem co70 : Try.prog.cellsOf 70 = 1 := by kernel_rfl
theorem co71 : Try.prog.cellsOf 71 = 1 := by kernel_rfl
theorem co72 : Try.prog.cellsOf 72 = 3 := by kernel_rfl
theorem co73 : Try.prog.cellsOf 73 = 8 := by kernel_rfl
theorem co74 : Try.prog.cellsOf 74 = 8 := by kernel_rfl
theorem co75 : Try.prog.cellsOf 75 = 1 := by kernel_rfl
theorem co76 : Try.prog.cellsOf 76 = 1 := by kernel_rfl
theorem co77 : Try.prog.cellsOf 77 = 1 := by kernel_rfl
theorem co78 : Try.prog.cellsOf 78 = 1 := by kernel_rfl
theorem co79 : Try.prog.cellsOf 79 = 1 := by kernel_rfl
theorem co8 : Try.prog.cellsOf 8 = 4 := by kernel_rfl
theorem co80 : Try.prog.cellsOf 80 = 1 := by kernel_rfl
theorem co81 : Try.prog.cellsOf 81 = 1 := by kernel_rfl
theorem co82 : Try.prog.cellsOf 82 = 1 := by kernel_rfl
theorem co83 : Try.prog.cellsOf 83 = 1 := by kernel_rfl
theorem co84 : Try.prog.cellsOf 84 = 1 := by kernel_rfl
theorem co85 : Try.prog.cellsOf 85 = 1 := by kernel_rfl
theorem co86 : Try.prog.cellsOf 86 = 1 := by kernel_rfl
theorem co87 : Try.prog.cellsOf 87 = 1 := by kernel_rfl
theorem co88 : Try.prog.cellsOf 88 = 1 := by kernel_rfl
theorem co89 : Try.prog.cellsOf 89 = 1 := by kernel_rfl
theorem co9 : Try.prog.cellsOf 9 = 1 := by kernel_rfl
theorem co90 : Try.prog.cellsOf 90 = 1 := by kernel_rfl
theorem co91 : Try.prog.cellsOf 91 = 1 := by kernel_rfl
theorem co92 : Try.prog.cellsOf 92 = 1 := by kernel_rfl
theorem co93 : Try.prog.cellsOf 93 = 1 := by kernel_rfl
theorem co94 : Try.prog.cellsOf 94 = 1 := by kernel_rfl
theorem co95 : Try.prog.cellsOf 95 = 1 := by kernel_rfl
theorem co96 : Try.prog.cellsOf 96 = 1 := by kernel_rfl
theorem co97 : Try.prog.cellsOf 97 = 18 := by kernel_rfl
theorem co98 : Try.prog.cellsOf 98 = 18 := by kernel_rfl
theorem co99 : Try.prog.cellsOf 99 = 1 := by kernel_rfl
theorem el10 : elemI Try.prog 10 = none := by kernel_rfl
theorem el11 : elemI Try.prog 11 = none := by kernel_rfl
theorem el139 : elemI Try.prog 139 = some (.slice, 5) := by kernel_rfl
theorem el144 : elemI Try.prog 144 = some (.array 0, 16) := by kernel_rfl
theorem el22 : elemI Try.prog 22 = some (.array 16, 5) := by kernel_rfl
theorem el33 : elemI Try.prog 33 = some (.array 2, 32) := by kernel_rfl
theorem el35 : elemI Try.prog 35 = some (.slice, 9) := by kernel_rfl
theorem el46 : elemI Try.prog 46 = some (.slice, 30) := by kernel_rfl
theorem el47 : elemI Try.prog 47 = some (.slice, 69) := by kernel_rfl
theorem el48 : elemI Try.prog 48 = some (.slice, 60) := by kernel_rfl
theorem el52 : elemI Try.prog 52 = some (.slice, 36) := by kernel_rfl
theorem el53 : elemI Try.prog 53 = some (.slice, 74) := by kernel_rfl
theorem el54 : elemI Try.prog 54 = some (.slice, 63) := by kernel_rfl
theorem el58 : elemI Try.prog 58 = some (.slice, 98) := by kernel_rfl
theorem el64 : elemI Try.prog 64 = some (.slice, 26) := by kernel_rfl
theorem el65 : elemI Try.prog 65 = some (.slice, 3) := by kernel_rfl
theorem el78 : elemI Try.prog 78 = some (.slice, 56) := by kernel_rfl
theorem el81 : elemI Try.prog 81 = some (.slice, 28) := by kernel_rfl
theorem el82 : elemI Try.prog 82 = some (.slice, 50) := by kernel_rfl
theorem el9 : elemI Try.prog 9 = none := by kernel_rfl
theorem pl24 : plainT Try.prog 100 24 = some NAddr.ls := by kernel_rfl
theorem eq24 (a b : NAddr) (H : FH) : sBinH Try.prog H .eql 24 a.pv b.pv = some { v := .bool (decide (a = b)) } := sBinH_eql (sEq_of ty24 rfl pl24 (NAddr.eq a b))
theorem neq24 (a b : NAddr) (H : FH) : sBinH Try.prog H .neq 24 a.pv b.pv = some { v := .bool (!decide (a = b)) } := sBinH_neq (sEq_of ty24 rfl pl24 (NAddr.eq a b))
theorem pl26 : plainT Try.prog 100 26 = some NPoint.ls := by kernel_rfl
theorem eq26 (a b : NPoint) (H : FH) : sBinH Try.prog H .eql 26 a.pv b.pv = some { v := .bool (decide (a = b)) } := sBinH_eql (sEq_of ty26 rfl pl26 (NPoint.eq a b))
theorem neq26 (a b : NPoint) (H : FH) : sBinH Try.prog H .neq 26 a.pv b.pv = some { v := .bool (!decide (a = b)) } := sBinH_neq (sEq_of ty26 rfl pl26 (NPoint.eq a b))
theorem pl28 : plainT Try.prog 100 28 = some NKey.ls := by kernel_rfl
theorem eq28 (a b : NKey) (H : FH) : sBinH Try.prog H .eql 28 a.pv b.pv = some { v := .bool (decide (a = b)) } := sBinH_eql (sEq_of ty28 rfl pl28 (NKey.eq a b))
theorem neq28 (a b : NKey) (H : FH) : sBinH Try.prog H .neq 28 a.pv b.pv = some { v := .bool (!decide (a = b)) } := sBinH_neq (sEq_of ty28 rfl pl28 (NKey.eq a b))
theorem pl30 : plainT Try.prog 100 30 = some NFront.ls := by kernel_rfl
theorem eq30 (a b : NFront) (H : FH) : sBinH Try.prog H .eql 30 a.pv b.pv = some { v := .bool (decide (a = b)) } := sBinH_eql (sEq_of ty30 rfl pl30 (NFront.eq a b))
theorem neq30 (a b : NFront) (H : FH) : sBinH Try.prog H .neq 30 a.pv b.pv = some { v := .bool (!decide (a = b)) } := sBinH_neq (sEq_of ty30 rfl pl30 (NFront.eq a b))
theorem pl32 : plainT Try.prog 100 32 = some NId.ls := by kernel_rfl
theorem eq32 (a b : NId) (H : FH) : sBinH Try.prog H .eql 32 a.pv b.pv = some { v := .bool (decide (a = b)) } := sBinH_eql (sEq_of ty32 rfl pl32 (NId.eq a b))
theorem neq32 (a b : NId) (H : FH) : sBinH Try.prog H .neq 32 a.pv b.pv = some { v := .bool (!decide (a = b)) } := sBinH_neq (sEq_of ty32 rfl pl32 (NId.eq a b))
theorem pl36 : plainT Try.prog 100 36 = some NFront.ls := by kernel_rfl
theorem eq36 (a b : NFront) (H : FH) : sBinH Try.prog H .eql 36 a.pv b.pv = some { v := .bool (decide (a = b)) } := sBinH_eql (sEq_of ty36 rfl pl36 (NFront.eq a b))
theorem neq36 (a b : NFront) (H : FH) : sBinH Try.prog H .neq 36 a.pv b.pv = some { v := .bool (!decide (a = b)) } := sBinH_neq (sEq_of ty36 rfl pl36 (NFront.eq a b))
theorem pl37 : plainT Try.prog 100 37 = some NId.ls := by kernel_rfl
theorem eq37 (a b : NId) (H : FH) : sBinH Try.prog H .eql 37 a.pv b.pv = some { v := .bool (decide (a = b)) } := sBinH_eql (sEq_of ty37 rfl pl37 (NId.eq a b))
theorem neq37 (a b : NId) (H : FH) : sBinH Try.prog H .neq 37 a.pv b.pv = some { v := .bool (!decide (a = b)) } := sBinH_neq (sEq_of ty37 rfl pl37 (NId.eq a b))
theorem eq4 (a b : Bool) (H : FH) : sBinH Try.prog H .eql 4 (.bool a) (.bool b) = some { v := .bool (a == b) } := sBinH_beq Try.underlying4 a b
theorem neq4 (a b : Bool) (H : FH) : sBinH Try.prog H .neq 4 (.bool a) (.bool b) = some { v := .bool (!(a == b)) } := sBinH_bne Try.underlying4 a b
theorem pl98 : plainT Try.prog 100 98 = some NCidr.ls := by kernel_rfl
theorem eq98 (a b : NCidr) (H : FH) : sBinH Try.prog H .eql 98 a.pv b.pv = some { v := .bool (decide (a = b)) } := sBinH_eql (sEq_of ty98 rfl pl98 (NCidr.eq a b))
theorem neq98 (a b : NCidr) (H : FH) : sBinH Try.prog H .neq 98 a.pv b.pv = some { v := .bool (!decide (a = b)) } := sBinH_neq (sEq_of ty98 rfl pl98 (NCidr.eq a b))
theorem fl13_0 : fldI Try.prog 13 0 = some (0, 9) := by kernel_rfl
theorem fl13_1 : fldI Try.prog 13 1 = some (1, 12) := by kernel_rfl
theorem fl14_0 : fldI Try.prog 14 0 = some (0, 9) := by kernel_rfl
theorem fl14_1 : fldI Try.prog 14 1 = some (1, 12) := by kernel_rfl
theorem fl142_0 : fldI Try.prog 142 0 = some (0, 17) := by kernel_rfl
theorem fl142_1 : fldI Try.prog 142 1 = some (1, 17) := by kernel_rfl
theorem fl142_2 : fldI Try.prog 142 2 = some (2, 17) := by kernel_rfl
theorem fl142_3 : fldI Try.prog 142 3 = some (3, 9) := by kernel_rfl
theorem fl143_0 : fldI Try.prog 143 0 = some (0, 17) := by kernel_rfl
theorem fl143_1 : fldI Try.prog 143 1 = some (1, 17) := by kernel_rfl
theorem fl143_2 : fldI Try.prog 143 2 = some (2, 17) := by kernel_rfl
theorem fl143_3 : fldI Try.prog 143 3 = some (3, 9) := by kernel_rfl
theorem fl155_0 : fldI Try.prog 155 0 = some (0, 12) := by kernel_rfl
theorem fl155_1 : fldI Try.prog 155 1 = some (1, 12) := by kernel_rfl
theorem fl155_10 : fldI Try.prog 155 10 = some (10, 154) := by kernel_rfl
theorem fl155_2 : fldI Try.prog 155 2 = some (2, 148) := by kernel_rfl
theorem fl155_3 : fldI Try.prog 155 3 = some (3, 149) := by kernel_rfl
theorem fl155_4 : fldI Try.prog 155 4 = some (4, 5) := by kernel_rfl
theorem fl155_5 : fldI Try.prog 155 5 = some (5, 5) := by kernel_rfl
theorem fl155_6 : fldI Try.prog 155 6 = some (6, 150) := by kernel_rfl
theorem fl155_7 : fldI Try.prog 155 7 = some (7, 151) := by kernel_rfl
theorem fl155_8 : fldI Try.prog 155 8 = some (8, 152) := by kernel_rfl
theorem fl155_9 : fldI Try.prog 155 9 = some (9, 153) := by kernel_rfl
theorem fl156_0 : fldI Try.prog 156 0 = some (0, 12) := by kernel_rfl
theorem fl156_1 : fldI Try.prog 156 1 = some (1, 12) := by kernel_rfl
theorem fl156_10 : fldI Try.prog 156 10 = some (10, 154) := by kernel_rfl
theorem fl156_2 : fldI Try.prog 156 2 = some (2, 148) := by kernel_rfl
theorem fl156_3 : fldI Try.prog 156 3 = some (3, 149) := by kernel_rfl
theorem fl156_4 : fldI Try.prog 156 4 = some (4, 5) := by kernel_rfl
theorem fl156_5 : fldI Try.prog 156 5 = some (5, 5) := by kernel_rfl
theorem fl156_6 : fldI Try.prog 156 6 = some (6, 150) := by kernel_rfl
theorem fl156_7 : fldI Try.prog 156 7 = some (7, 151) := by kernel_rfl
theorem fl156_8 : fldI Try.prog 156 8 = some (8, 152) := by kernel_rfl
theorem fl156_9 : fldI Try.prog 156 9 = some (9, 153) := by kernel_rfl
theorem fl18_0 : fldI Try.prog 18 0 = some (0, 17) := by kernel_rfl
theorem fl19_0 : fldI Try.prog 19 0 = some (0, 17) := by kernel_rfl
theorem fl23_0 : fldI Try.prog 23 0 = some (0, 4) := by kernel_rfl
theorem fl23_1 : fldI Try.prog 23 1 = some (1, 22) := by kernel_rfl
theorem fl24_0 : fldI Try.prog 24 0 = some (0, 4) := by kernel_rfl
theorem fl24_1 : fldI Try.prog 24 1 = some (1, 22) := by kernel_rfl
theorem fl25_0 : fldI Try.prog 25 0 = some (0, 24) := by kernel_rfl
theorem fl25_1 : fldI Try.prog 25 1 = some (17, 3) := by kernel_rfl
theorem fl26_0 : fldI Try.prog 26 0 = some (0, 24) := by kernel_rfl
theorem fl26_1 : fldI Try.prog 26 1 = some (17, 3) := by kernel_rfl
theorem fl27_0 : fldI Try.prog 27 0 = some (0, 9) := by kernel_rfl
theorem fl27_1 : fldI Try.prog 27 1 = some (1, 9) := by kernel_rfl
theorem fl28_0 : fldI Try.prog 28 0 = some (0, 9) := by kernel_rfl
theorem fl28_1 : fldI Try.prog 28 1 = some (1, 9) := by kernel_rfl
theorem fl29_0 : fldI Try.prog 29 0 = some (0, 3) := by kernel_rfl
theorem fl29_1 : fldI Try.prog 29 1 = some (1, 26) := by kernel_rfl
theorem fl29_2 : fldI Try.prog 29 2 = some (19, 28) := by kernel_rfl
theorem fl29_3 : fldI Try.prog 29 3 = some (21, 9) := by kernel_rfl
theorem fl29_4 : fldI Try.prog 29 4 = some (22, 3) := by kernel_rfl
theorem fl29_5 : fldI Try.prog 29 5 = some (23, 4) := by kernel_rfl
theorem fl29_6 : fldI Try.prog 29 6 = some (24, 4) := by kernel_rfl
theorem fl29_7 : fldI Try.prog 29 7 = some (25, 3) := by kernel_rfl
theorem fl30_0 : fldI Try.prog 30 0 = some (0, 3) := by kernel_rfl
theorem fl30_1 : fldI Try.prog 30 1 = some (1, 26) := by kernel_rfl
theorem fl30_2 : fldI Try.prog 30 2 = some (19, 28) := by kernel_rfl
theorem fl30_3 : fldI Try.prog 30 3 = some (21, 9) := by kernel_rfl
theorem fl30_4 : fldI Try.prog 30 4 = some (22, 3) := by kernel_rfl
theorem fl30_5 : fldI Try.prog 30 5 = some (23, 4) := by kernel_rfl
theorem fl30_6 : fldI Try.prog 30 6 = some (24, 4) := by kernel_rfl
theorem fl30_7 : fldI Try.prog 30 7 = some (25, 3) := by kernel_rfl
theorem fl31_0 : fldI Try.prog 31 0 = some (0, 28) := by kernel_rfl
theorem fl31_1 : fldI Try.prog 31 1 = some (2, 9) := by kernel_rfl
theorem fl31_2 : fldI Try.prog 31 2 = some (3, 4) := by kernel_rfl
theorem fl31_3 : fldI Try.prog 31 3 = some (4, 4) := by kernel_rfl
theorem fl32_0 : fldI Try.prog 32 0 = some (0, 28) := by kernel_rfl
theorem fl32_1 : fldI Try.prog 32 1 = some (2, 9) := by kernel_rfl
theorem fl32_2 : fldI Try.prog 32 2 = some (3, 4) := by kernel_rfl
theorem fl32_3 : fldI Try.prog 32 3 = some (4, 4) := by kernel_rfl
theorem fl36_0 : fldI Try.prog 36 0 = some (0, 3) := by kernel_rfl
theorem fl36_1 : fldI Try.prog 36 1 = some (1, 26) := by kernel_rfl
theorem fl36_2 : fldI Try.prog 36 2 = some (19, 28) := by kernel_rfl
theorem fl36_3 : fldI Try.prog 36 3 = some (21, 9) := by kernel_rfl
theorem fl36_4 : fldI Try.prog 36 4 = some (22, 3) := by kernel_rfl
theorem fl36_5 : fldI Try.prog 36 5 = some (23, 4) := by kernel_rfl
theorem fl36_6 : fldI Try.prog 36 6 = some (24, 4) := by kernel_rfl
theorem fl36_7 : fldI Try.prog 36 7 = some (25, 3) := by kernel_rfl
theorem fl37_0 : fldI Try.prog 37 0 = some (0, 28) := by kernel_rfl
theorem fl37_1 : fldI Try.prog 37 1 = some (2, 9) := by kernel_rfl
theorem fl37_2 : fldI Try.prog 37 2 = some (3, 4) := by kernel_rfl
theorem fl37_3 : fldI Try.prog 37 3 = some (4, 4) := by kernel_rfl
theorem fl49_0 : fldI Try.prog 49 0 = some (0, 46) := by kernel_rfl
theorem fl49_1 : fldI Try.prog 49 1 = some (1, 47) := by kernel_rfl
theorem fl49_2 : fldI Try.prog 49 2 = some (2, 48) := by kernel_rfl
theorem fl50_0 : fldI Try.prog 50 0 = some (0, 46) := by kernel_rfl
theorem fl50_1 : fldI Try.prog 50 1 = some (1, 47) := by kernel_rfl
theorem fl50_2 : fldI Try.prog 50 2 = some (2, 48) := by kernel_rfl
theorem fl55_0 : fldI Try.prog 55 0 = some (0, 52) := by kernel_rfl
theorem fl55_1 : fldI Try.prog 55 1 = some (1, 53) := by kernel_rfl
theorem fl55_2 : fldI Try.prog 55 2 = some (2, 54) := by kernel_rfl
theorem fl56_0 : fldI Try.prog 56 0 = some (0, 52) := by kernel_rfl
theorem fl56_1 : fldI Try.prog 56 1 = some (1, 53) := by kernel_rfl
theorem fl56_2 : fldI Try.prog 56 2 = some (2, 54) := by kernel_rfl
theorem fl59_0 : fldI Try.prog 59 0 = some (0, 28) := by kernel_rfl
theorem fl59_1 : fldI Try.prog 59 1 = some (2, 58) := by kernel_rfl
theorem fl60_0 : fldI Try.prog 60 0 = some (0, 28) := by kernel_rfl
theorem fl60_1 : fldI Try.prog 60 1 = some (2, 58) := by kernel_rfl
theorem fl63_0 : fldI Try.prog 63 0 = some (0, 28) := by kernel_rfl
theorem fl63_1 : fldI Try.prog 63 1 = some (2, 58) := by kernel_rfl
theorem fl66_0 : fldI Try.prog 66 0 = some (0, 3) := by kernel_rfl
theorem fl66_1 : fldI Try.prog 66 1 = some (1, 64) := by kernel_rfl
theorem fl66_2 : fldI Try.prog 66 2 = some (2, 65) := by kernel_rfl
theorem fl67_0 : fldI Try.prog 67 0 = some (0, 3) := by kernel_rfl
theorem fl67_1 : fldI Try.prog 67 1 = some (1, 64) := by kernel_rfl
theorem fl67_2 : fldI Try.prog 67 2 = some (2, 65) := by kernel_rfl
theorem fl68_0 : fldI Try.prog 68 0 = some (0, 32) := by kernel_rfl
theorem fl68_1 : fldI Try.prog 68 1 = some (5, 67) := by kernel_rfl
theorem fl69_0 : fldI Try.prog 69 0 = some (0, 32) := by kernel_rfl
theorem fl69_1 : fldI Try.prog 69 1 = some (5, 67) := by kernel_rfl
theorem fl7_0 : fldI Try.prog 7 0 = some (0, 2) := by kernel_rfl
theorem fl7_1 : fldI Try.prog 7 1 = some (1, 3) := by kernel_rfl
theorem fl7_2 : fldI Try.prog 7 2 = some (2, 4) := by kernel_rfl
theorem fl7_3 : fldI Try.prog 7 3 = some (3, 6) := by kernel_rfl
theorem fl72_0 : fldI Try.prog 72 0 = some (0, 3) := by kernel_rfl
theorem fl72_1 : fldI Try.prog 72 1 = some (1, 64) := by kernel_rfl
theorem fl72_2 : fldI Try.prog 72 2 = some (2, 65) := by kernel_rfl
theorem fl73_0 : fldI Try.prog 73 0 = some (0, 37) := by kernel_rfl
theorem fl73_1 : fldI Try.prog 73 1 = some (5, 72) := by kernel_rfl
theorem fl74_0 : fldI Try.prog 74 0 = some (0, 37) := by kernel_rfl
theorem fl74_1 : fldI Try.prog 74 1 = some (5, 72) := by kernel_rfl
theorem fl8_0 : fldI Try.prog 8 0 = some (0, 2) := by kernel_rfl
theorem fl8_1 : fldI Try.prog 8 1 = some (1, 3) := by kernel_rfl
theorem fl8_2 : fldI Try.prog 8 2 = some (2, 4) := by kernel_rfl
theorem fl8_3 : fldI Try.prog 8 3 = some (3, 6) := by kernel_rfl
theorem fl97_0 : fldI Try.prog 97 0 = some (0, 24) := by kernel_rfl
theorem fl97_1 : fldI Try.prog 97 1 = some (17, 3) := by kernel_rfl
theorem fl98_0 : fldI Try.prog 98 0 = some (0, 24) := by kernel_rfl
theorem fl98_1 : fldI Try.prog 98 1 = some (17, 3) := by kernel_rfl
theorem is10 : sLen.isStr Try.prog 10 = true := by kernel_rfl
theorem is11 : sLen.isStr Try.prog 11 = true := by kernel_rfl
theorem is9 : sLen.isStr Try.prog 9 = true := by kernel_rfl
theorem st13 : sBuild.isStruct Try.prog 13 = true := by kernel_rfl
theorem st14 : sBuild.isStruct Try.prog 14 = true := by kernel_rfl
theorem st142 : sBuild.isStruct Try.prog 142 = true := by kernel_rfl
theorem st143 : sBuild.isStruct Try.prog 143 = true := by kernel_rfl
theorem st145 : sBuild.isStruct Try.prog 145 = true := by kernel_rfl
theorem st146 : sBuild.isStruct Try.prog 146 = true := by kernel_rfl
theorem st155 : sBuild.isStruct Try.prog 155 = true := by kernel_rfl
theorem st156 : sBuild.isStruct Try.prog 156 = true := by kernel_rfl
theorem st18 : sBuild.isStruct Try.prog 18 = true := by kernel_rfl
theorem st19 : sBuild.isStruct Try.prog 19 = true := by kernel_rfl
theorem st23 : sBuild.isStruct Try.prog 23 = true := by kernel_rfl
theorem st24 : sBuild.isStruct Try.prog 24 = true := by kernel_rfl
theorem st25 : sBuild.isStruct Try.prog 25 = true := by kernel_rfl
theorem st26 : sBuild.isStruct Try.prog 26 = true := by kernel_rfl
theorem st27 : sBuild.isStruct Try.prog 27 = true := by kernel_rfl
theorem st28 : sBuild.isStruct Try.prog 28 = true := by kernel_rfl
theorem st29 : sBuild.isStruct Try.prog 29 = true := by kernel_rfl
theorem st30 : sBuild.isStruct Try.prog 30 = true := by kernel_rfl
theorem st31 : sBuild.isStruct Try.prog 31 = true := by kernel_rfl
theorem st32 : sBuild.isStruct Try.prog 32 = true := by kernel_rfl
theorem st36 : sBuild.isStruct Try.prog 36 = true := by kernel_rfl
theorem st37 : sBuild.isStruct Try.prog 37 = true := by kernel_rfl
theorem st49 : sBuild.isStruct Try.prog 49 = true := by kernel_rfl
theorem st50 : sBuild.isStruct Try.prog 50 = true := by kernel_rfl
theorem st55 : sBuild.isStruct Try.prog 55 = true := by kernel_rfl
theorem st56 : sBuild.isStruct Try.prog 56 = true := by kernel_rfl
theorem st59 : sBuild.isStruct Try.prog 59 = true := by kernel_rfl
theorem st60 : sBuild.isStruct Try.prog 60 = true := by kernel_rfl
theorem st63 : sBuild.isStruct Try.prog 63 = true := by kernel_rfl
theorem st66 : sBuild.isStruct Try.prog 66 = true := by kernel_rfl
theorem st67 : sBuild.isStruct Try.prog 67 = true := by kernel_rfl
theorem st68 : sBuild.isStruct Try.prog 68 = true := by kernel_rfl
theorem st69 : sBuild.isStruct Try.prog 69 = true := by kernel_rfl
theorem st7 : sBuild.isStruct Try.prog 7 = true := by kernel_rfl
theorem st72 : sBuild.isStruct Try.prog 72 = true := by kernel_rfl
theorem st73 : sBuild.isStruct Try.prog 73 = true := by kernel_rfl
theorem st74 : sBuild.isStruct Try.prog 74 = true := by kernel_rfl
theorem st8 : sBuild.isStruct Try.prog 8 = true := by kernel_rfl
theorem st97 : sBuild.isStruct Try.prog 97 = true := by kernel_rfl
theorem st98 : sBuild.isStruct Try.prog 98 = true := by kernel_rfl
theorem en3 : Enters Try.prog 3 := fun a w => Try.call3 a w
theorem en4 : Enters Try.prog 4 := fun a w => Try.call4 a w
theorem en5 : Enters Try.prog 5 := fun a w => Try.call5 a w
theorem en6 : Enters Try.prog 6 := fun a w => Try.call6 a w
theorem en7 : Enters Try.prog 7 := fun a w => Try.call7 a w
theorem en8 : Enters Try.prog 8 := fun a w => Try.call8 a w
theorem en9 : Enters Try.prog 9 := fun a w => Try.call9 a w
theorem en10 : Enters Try.prog 10 := fun a w => Try.call10 a w
theorem en11 : Enters Try.prog 11 := fun a w => Try.call11 a w
theorem en12 : Enters Try.prog 12 := fun a w => Try.call12 a w
theorem en13 : Enters Try.prog 13 := fun a w => Try.call13 a w
theorem en14 : Enters Try.prog 14 := fun a w => Try.call14 a w
theorem en15 : Enters Try.prog 15 := fun a w => Try.call15 a w
theorem en16 : Enters Try.prog 16 := fun a w => Try.call16 a w
theorem en17 : Enters Try.prog 17 := fun a w => Try.call17 a w
theorem en18 : Enters Try.prog 18 := fun a w => Try.call18 a w
theorem en19 : Enters Try.prog 19 := fun a w => Try.call19 a w
theorem en20 : Enters Try.prog 20 := fun a w => Try.call20 a w
theorem en21 : Enters Try.prog 21 := fun a w => Try.call21 a w
theorem en22 : Enters Try.prog 22 := fun a w => Try.call22 a w
theorem en23 : Enters Try.prog 23 := fun a w => Try.call23 a w
theorem en24 : Enters Try.prog 24 := fun a w => Try.call24 a w
theorem en25 : Enters Try.prog 25 := fun a w => Try.call25 a w
theorem en26 : Enters Try.prog 26 := fun a w => Try.call26 a w
theorem en27 : Enters Try.prog 27 := fun a w => Try.call27 a w
theorem en28 : Enters Try.prog 28 := fun a w => Try.call28 a w
theorem en29 : Enters Try.prog 29 := fun a w => Try.call29 a w
theorem en30 : Enters Try.prog 30 := fun a w => Try.call30 a w
theorem en31 : Enters Try.prog 31 := fun a w => Try.call31 a w
theorem en32 : Enters Try.prog 32 := fun a w => Try.call32 a w
theorem en33 : Enters Try.prog 33 := fun a w => Try.call33 a w
theorem en34 : Enters Try.prog 34 := fun a w => Try.call34 a w
theorem en35 : Enters Try.prog 35 := fun a w => Try.call35 a w
theorem en36 : Enters Try.prog 36 := fun a w => Try.call36 a w
theorem en37 : Enters Try.prog 37 := fun a w => Try.call37 a w
theorem en38 : Enters Try.prog 38 := fun a w => Try.call38 a w
theorem en39 : Enters Try.prog 39 := fun a w => Try.call39 a w
theorem en40 : Enters Try.prog 40 := fun a w => Try.call40 a w
theorem en41 : Enters Try.prog 41 := fun a w => Try.call41 a w
theorem en42 : Enters Try.prog 42 := fun a w => Try.call42 a w
theorem en43 : Enters Try.prog 43 := fun a w => Try.call43 a w
theorem en44 : Enters Try.prog 44 := fun a w => Try.call44 a w
theorem en45 : Enters Try.prog 45 := fun a w => Try.call45 a w
theorem en46 : Enters Try.prog 46 := fun a w => Try.call46 a w
theorem en47 : Enters Try.prog 47 := fun a w => Try.call47 a w
theorem en48 : Enters Try.prog 48 := fun a w => Try.call48 a w
theorem en49 : Enters Try.prog 49 := fun a w => Try.call49 a w
theorem en50 : Enters Try.prog 50 := fun a w => Try.call50 a w
theorem en51 : Enters Try.prog 51 := fun a w => Try.call51 a w
theorem en52 : Enters Try.prog 52 := fun a w => Try.call52 a w
theorem en53 : Enters Try.prog 53 := fun a w => Try.call53 a w
theorem en54 : Enters Try.prog 54 := fun a w => Try.call54 a w
theorem en55 : Enters Try.prog 55 := fun a w => Try.call55 a w
theorem en56 : Enters Try.prog 56 := fun a w => Try.call56 a w
theorem en57 : Enters Try.prog 57 := fun a w => Try.call57 a w
theorem en58 : Enters Try.prog 58 := fun a w => Try.call58 a w
theorem en59 : Enters Try.prog 59 := fun a w => Try.call59 a w
theorem en60 : Enters Try.prog 60 := fun a w => Try.call60 a w
theorem en61 : Enters Try.prog 61 := fun a w => Try.call61 a w
theorem en62 : Enters Try.prog 62 := fun a w => Try.call62 a w
theorem en63 : Enters Try.prog 63 := fun a w => Try.call63 a w
theorem en64 : Enters Try.prog 64 := fun a w => Try.call64 a w
theorem en65 : Enters Try.prog 65 := fun a w => Try.call65 a w
theorem en66 : Enters Try.prog 66 := fun a w => Try.call66 a w
theorem en67 : Enters Try.prog 67 := fun a w => Try.call67 a w
theorem en68 : Enters Try.prog 68 := fun a w => Try.call68 a w
theorem en69 : Enters Try.prog 69 := fun a w => Try.call69 a w
theorem en70 : Enters Try.prog 70 := fun a w => Try.call70 a w
theorem en71 : Enters Try.prog 71 := fun a w => Try.call71 a w
theorem en72 : Enters Try.prog 72 := fun a w => Try.call72 a w
theorem en73 : Enters Try.prog 73 := fun a w => Try.call73 a w
theorem en74 : Enters Try.prog 74 := fun a w => Try.call74 a w
theorem en75 : Enters Try.prog 75 := fun a w => Try.call75 a w
theorem en76 : Enters Try.prog 76 := fun a w => Try.call76 a w
theorem en77 : Enters Try.prog 77 := fun a w => Try.call77 a w
theorem en78 : Enters Try.prog 78 := fun a w => Try.call78 a w
theorem en79 : Enters Try.prog 79 := fun a w => Try.call79 a w
theorem en80 : Enters Try.prog 80 := fun a w => Try.call80 a w
theorem en81 : Enters Try.prog 81 := fun a w => Try.call81 a w
theorem en82 : Enters Try.prog 82 := fun a w => Try.call82 a w
theorem en83 : Enters Try.prog 83 := fun a w => Try.call83 a w
theorem en84 : Enters Try.prog 84 := fun a w => Try.call84 a w
theorem en85 : Enters Try.prog 85 := fun a w => Try.call85 a w
theorem en86 : Enters Try.prog 86 := fun a w => Try.call86 a w
theorem en87 : Enters Try.prog 87 := fun a w => Try.call87 a w
theorem en88 : Enters Try.prog 88 := fun a w => Try.call88 a w
theorem en89 : Enters Try.prog 89 := fun a w => Try.call89 a w
theorem en90 : Enters Try.prog 90 := fun a w => Try.call90 a w
theorem en91 : Enters Try.prog 91 := fun a w => Try.call91 a w
theorem en92 : Enters Try.prog 92 := fun a w => Try.call92 a w
theorem en94 : Enters Try.prog 94 := fun a w => Try.call94 a w
theorem en95 : Enters Try.prog 95 := fun a w => Try.call95 a w
theorem en96 : Enters Try.prog 96 := fun a w => Try.call96 a w
theorem x93 (args : Array Value) (w : World) : (callFunc 93 args).run Try.prog w = ((Extern.BytealgCompare.compare args).run Try.prog w).andThen fun v w' => .ok (.value v) w' :=
  run_callFunc_extern Try.func93 (by decide) rfl (by kernel_rfl) (by kernel_rfl) args w
theorem xok : XOK Try.prog [(93, cmpX)] := .cons (cmpX_ok x93) (.nil _)
theorem alive_pf : PFun Try.prog 6 [] (.bool true) ∧ Enters Try.prog 6 := PFun.of_ev xok (by kernel_rfl) rfl
end Pv
