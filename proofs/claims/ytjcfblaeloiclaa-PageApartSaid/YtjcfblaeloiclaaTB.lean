/- Closed facts on structs of the translation, written by gen_t.py. -/
import Derived.Test.YtjcfblaeloiclaaC
import Derived.Test.YtjcfblaeloiclaaTO
set_option maxRecDepth 100000
set_option maxHeartbeats 4000000
namespace Go.Proofs.Ytjcfblaeloiclaa.K
instance : TBld Try.prog 7 [(.int .i64 0), (.int .i64 0), (.bool false), (.int .u8 0)] [(0, 1), (1, 1), (2, 1), (3, 1)] := ⟨by kernel_rfl, by kernel_rfl⟩
instance : TBld Try.prog 8 [(.int .i64 0), (.int .i64 0), (.bool false), (.int .u8 0)] [(0, 1), (1, 1), (2, 1), (3, 1)] := ⟨by kernel_rfl, by kernel_rfl⟩
instance : TBld Try.prog 13 [(.string ⟨#[]⟩), (.int .u64 0)] [(0, 1), (1, 1)] := ⟨by kernel_rfl, by kernel_rfl⟩
instance : TBld Try.prog 14 [(.string ⟨#[]⟩), (.int .u64 0)] [(0, 1), (1, 1)] := ⟨by kernel_rfl, by kernel_rfl⟩
instance : TBld Try.prog 18 [(.pointer none)] [(0, 1)] := ⟨by kernel_rfl, by kernel_rfl⟩
instance : TBld Try.prog 19 [(.pointer none)] [(0, 1)] := ⟨by kernel_rfl, by kernel_rfl⟩
instance : TBld Try.prog 24 [(.int .i64 0), (.slice none 0 0), (.int .i64 0)] [(0, 1), (1, 1), (2, 1)] := ⟨by kernel_rfl, by kernel_rfl⟩
instance : TBld Try.prog 25 [(.int .i64 0), (.slice none 0 0), (.int .i64 0)] [(0, 1), (1, 1), (2, 1)] := ⟨by kernel_rfl, by kernel_rfl⟩
instance : TBld Try.prog 44 [(.int .i64 0), (.slice none 0 0), (.int .i64 0)] [(0, 1), (1, 1), (2, 1)] := ⟨by kernel_rfl, by kernel_rfl⟩
instance : TBld Try.prog 45 [(.int .i64 0), (.slice none 0 0), (.int .i64 0)] [(0, 1), (1, 1), (2, 1)] := ⟨by kernel_rfl, by kernel_rfl⟩
end Go.Proofs.Ytjcfblaeloiclaa.K
