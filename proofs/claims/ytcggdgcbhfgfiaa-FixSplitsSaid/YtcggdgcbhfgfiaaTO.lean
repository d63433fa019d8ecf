/- Openers for the types of the translation, written by gen_o.py. -/
import Derived.Test.YtcggdgcbhfgfiaaQ
import Derived.Test.YtcggdgcbhfgfiaaT
set_option maxRecDepth 100000
set_option maxHeartbeats 4000000
namespace Go.Proofs.Ytcggdgcbhfgfiaa.K
instance : Opn Try.prog 2 1 (RInt .i64) := opn_int (by kernel_rfl) (by kernel_rfl)
instance : Opn Try.prog 3 1 (RInt .i64) := opn_int (by kernel_rfl) (by kernel_rfl)
instance : Opn Try.prog 4 1 RBool := opn_bool (by kernel_rfl) (by kernel_rfl)
instance : Opn Try.prog 5 1 (RInt .u8) := opn_int (by kernel_rfl) (by kernel_rfl)
instance : Opn Try.prog 6 1 (RInt .u8) := opn_int (by kernel_rfl) (by kernel_rfl)
instance : Opn Try.prog 7 4 (RStr 4 [(0, 1, (RInt .i64)), (1, 1, (RInt .i64)), (2, 1, RBool), (3, 1, (RInt .u8))]) := opn_str (l := [(0, 2), (1, 3), (2, 4), (3, 6)]) (by kernel_rfl) (by kernel_rfl) (.cons inferInstance (.cons inferInstance (.cons inferInstance (.cons inferInstance .nil))))
instance : Opn Try.prog 8 4 (RStr 4 [(0, 1, (RInt .i64)), (1, 1, (RInt .i64)), (2, 1, RBool), (3, 1, (RInt .u8))]) := opn_str (l := [(0, 2), (1, 3), (2, 4), (3, 6)]) (by kernel_rfl) (by kernel_rfl) (.cons inferInstance (.cons inferInstance (.cons inferInstance (.cons inferInstance .nil))))
instance : Opn Try.prog 12 1 (RInt .u64) := opn_int (by kernel_rfl) (by kernel_rfl)
instance : Opn Try.prog 21 1 (RInt .i32) := opn_int (by kernel_rfl) (by kernel_rfl)
instance : Opn Try.prog 24 1 (RInt .i64) := opn_int (by kernel_rfl) (by kernel_rfl)
instance : Opn Try.prog 28 1 (RInt .u16) := opn_int (by kernel_rfl) (by kernel_rfl)
instance : Opn Try.prog 31 1 (RInt .u32) := opn_int (by kernel_rfl) (by kernel_rfl)
instance : Opn Try.prog 33 1 (RInt .u64) := opn_int (by kernel_rfl) (by kernel_rfl)
instance : Opn Try.prog 34 1 (RSl 1 (RInt .u8)) := opn_sl (e := 5) (by kernel_rfl) (by kernel_rfl)
instance : Opn Try.prog 40 1 (RSl 1 (RInt .i64)) := opn_sl (e := 3) (by kernel_rfl) (by kernel_rfl)
instance : Opn Try.prog 41 1 (RSl 1 (RInt .u64)) := opn_sl (e := 33) (by kernel_rfl) (by kernel_rfl)
instance : Opn Try.prog 49 8 (RArr 8 1 (RInt .u8)) := opn_arr (e := 5) (by kernel_rfl) (by kernel_rfl) rfl
instance : Opn Try.prog 51 1 (RInt .u64) := opn_int (by kernel_rfl) (by kernel_rfl)
instance : Opn Try.prog 53 16 (RArr 16 1 (RInt .u8)) := opn_arr (e := 5) (by kernel_rfl) (by kernel_rfl) rfl
instance : Opn Try.prog 54 1 (RSl 1 (RSl 1 (RInt .i64))) := opn_sl (e := 40) (by kernel_rfl) (by kernel_rfl)
instance : Opn Try.prog 67 1 (RInt .u8) := opn_int (by kernel_rfl) (by kernel_rfl)
instance : Opn Try.prog 68 1 (RInt .u8) := opn_int (by kernel_rfl) (by kernel_rfl)
instance : Opn Try.prog 71 1 (RInt .i32) := opn_int (by kernel_rfl) (by kernel_rfl)
instance : Opn Try.prog 72 1 (RInt .i32) := opn_int (by kernel_rfl) (by kernel_rfl)
end Go.Proofs.Ytcggdgcbhfgfiaa.K
