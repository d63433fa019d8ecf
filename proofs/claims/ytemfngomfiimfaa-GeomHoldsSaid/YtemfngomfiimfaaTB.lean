/- Closed facts on structs of the translation, written by gen_t.py. -/
import Derived.Test.YtemfngomfiimfaaC
import Derived.Test.YtemfngomfiimfaaTO
set_option maxRecDepth 100000
set_option maxHeartbeats 4000000
namespace Go.Proofs.Ytemfngomfiimfaa.K
instance : TBld Try.prog 7 [(.int .i64 0), (.int .i64 0), (.bool false), (.int .u8 0)] [(0, 1), (1, 1), (2, 1), (3, 1)] := ⟨by kernel_rfl, by kernel_rfl⟩
instance : TBld Try.prog 8 [(.int .i64 0), (.int .i64 0), (.bool false), (.int .u8 0)] [(0, 1), (1, 1), (2, 1), (3, 1)] := ⟨by kernel_rfl, by kernel_rfl⟩
instance : TBld Try.prog 13 [(.string ⟨#[]⟩), (.int .u64 0)] [(0, 1), (1, 1)] := ⟨by kernel_rfl, by kernel_rfl⟩
instance : TBld Try.prog 14 [(.string ⟨#[]⟩), (.int .u64 0)] [(0, 1), (1, 1)] := ⟨by kernel_rfl, by kernel_rfl⟩
instance : TBld Try.prog 18 [(.pointer none)] [(0, 1)] := ⟨by kernel_rfl, by kernel_rfl⟩
instance : TBld Try.prog 19 [(.pointer none)] [(0, 1)] := ⟨by kernel_rfl, by kernel_rfl⟩
instance : TBld Try.prog 28 [(.int .i64 0), (.slice none 0 0), (.slice none 0 0), (.slice none 0 0), (.slice none 0 0), (.slice none 0 0), (.bool false), (.int .i64 0), (.int .i64 0), (.int .i64 0)] [(0, 1), (1, 1), (2, 2), (4, 2), (6, 1), (7, 1), (8, 1), (9, 1)] := ⟨by kernel_rfl, by kernel_rfl⟩
instance : TBld Try.prog 29 [(.int .i64 0), (.slice none 0 0), (.slice none 0 0), (.slice none 0 0), (.slice none 0 0), (.slice none 0 0), (.bool false), (.int .i64 0), (.int .i64 0), (.int .i64 0)] [(0, 1), (1, 1), (2, 2), (4, 2), (6, 1), (7, 1), (8, 1), (9, 1)] := ⟨by kernel_rfl, by kernel_rfl⟩
instance : TBld Try.prog 44 [(.int .i64 0), (.int .i64 0), (.slice none 0 0)] [(0, 1), (1, 1), (2, 1)] := ⟨by kernel_rfl, by kernel_rfl⟩
instance : TBld Try.prog 45 [(.int .i64 0), (.int .i64 0), (.slice none 0 0)] [(0, 1), (1, 1), (2, 1)] := ⟨by kernel_rfl, by kernel_rfl⟩
instance : TBld Try.prog 47 [(.int .i64 0), (.slice none 0 0), (.int .i64 0)] [(0, 1), (1, 1), (2, 1)] := ⟨by kernel_rfl, by kernel_rfl⟩
instance : TBld Try.prog 48 [(.int .i64 0), (.slice none 0 0), (.int .i64 0)] [(0, 1), (1, 1), (2, 1)] := ⟨by kernel_rfl, by kernel_rfl⟩
instance : TBld Try.prog 64 [(.int .i64 0), (.int .i64 0), (.slice none 0 0)] [(0, 1), (1, 1), (2, 1)] := ⟨by kernel_rfl, by kernel_rfl⟩
instance : TBld Try.prog 65 [(.int .i64 0), (.int .i64 0), (.slice none 0 0)] [(0, 1), (1, 1), (2, 1)] := ⟨by kernel_rfl, by kernel_rfl⟩
instance : TBld Try.prog 68 [(.int .i64 0), (.slice none 0 0)] [(0, 1), (1, 1)] := ⟨by kernel_rfl, by kernel_rfl⟩
instance : TBld Try.prog 69 [(.int .i64 0), (.slice none 0 0)] [(0, 1), (1, 1)] := ⟨by kernel_rfl, by kernel_rfl⟩
end Go.Proofs.Ytemfngomfiimfaa.K
