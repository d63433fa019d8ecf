/- Openers for the types of the translation, written by gen_o.py. -/
import Derived.Test.YtjcfblaeloiclaaQ
import Derived.Test.YtjcfblaeloiclaaT
set_option maxRecDepth 100000
set_option maxHeartbeats 4000000
namespace Go.Proofs.Ytjcfblaeloiclaa.K
instance : Opn Try.prog 2 1 (RInt .i64) := opn_int (by kernel_rfl) (by kernel_rfl)
instance : Opn Try.prog 3 1 (RInt .i64) := opn_int (by kernel_rfl) (by kernel_rfl)
instance : Opn Try.prog 4 1 RBool := opn_bool (by kernel_rfl) (by kernel_rfl)
instance : Opn Try.prog 5 1 (RInt .u8) := opn_int (by kernel_rfl) (by kernel_rfl)
instance : Opn Try.prog 6 1 (RInt .u8) := opn_int (by kernel_rfl) (by kernel_rfl)
instance : Opn Try.prog 7 4 (RStr 4 [(0, 1, (RInt .i64)), (1, 1, (RInt .i64)), (2, 1, RBool), (3, 1, (RInt .u8))]) := opn_str (l := [(0, 2), (1, 3), (2, 4), (3, 6)]) (by kernel_rfl) (by kernel_rfl) (.cons inferInstance (.cons inferInstance (.cons inferInstance (.cons inferInstance .nil))))
instance : Opn Try.prog 8 4 (RStr 4 [(0, 1, (RInt .i64)), (1, 1, (RInt .i64)), (2, 1, RBool), (3, 1, (RInt .u8))]) := opn_str (l := [(0, 2), (1, 3), (2, 4), (3, 6)]) (by kernel_rfl) (by kernel_rfl) (.cons inferInstance (.cons inferInstance (.cons inferInstance (.cons inferInstance .nil))))
instance : Opn Try.prog 12 1 (RInt .u64) := opn_int (by kernel_rfl) (by kernel_rfl)
instance : Opn Try.prog 21 1 (RInt .i32) := opn_int (by kernel_rfl) (by kernel_rfl)
instance : Opn Try.prog 23 1 (RSl 1 (RInt .u8)) := opn_sl (e := 5) (by kernel_rfl) (by kernel_rfl)
instance : Opn Try.prog 24 3 (RStr 3 [(0, 1, (RInt .i64)), (1, 1, (RSl 1 (RInt .u8))), (2, 1, (RInt .i64))]) := opn_str (l := [(0, 3), (1, 23), (2, 3)]) (by kernel_rfl) (by kernel_rfl) (.cons inferInstance (.cons inferInstance (.cons inferInstance .nil)))
instance : Opn Try.prog 25 3 (RStr 3 [(0, 1, (RInt .i64)), (1, 1, (RSl 1 (RInt .u8))), (2, 1, (RInt .i64))]) := opn_str (l := [(0, 3), (1, 23), (2, 3)]) (by kernel_rfl) (by kernel_rfl) (.cons inferInstance (.cons inferInstance (.cons inferInstance .nil)))
instance : Opn Try.prog 26 1 (RInt .i64) := opn_int (by kernel_rfl) (by kernel_rfl)
instance : Opn Try.prog 34 1 (RInt .u16) := opn_int (by kernel_rfl) (by kernel_rfl)
instance : Opn Try.prog 45 3 (RStr 3 [(0, 1, (RInt .i64)), (1, 1, (RSl 1 (RInt .u8))), (2, 1, (RInt .i64))]) := opn_str (l := [(0, 3), (1, 23), (2, 3)]) (by kernel_rfl) (by kernel_rfl) (.cons inferInstance (.cons inferInstance (.cons inferInstance .nil)))
instance : Opn Try.prog 43 1 (RSl 3 (RStr 3 [(0, 1, (RInt .i64)), (1, 1, (RSl 1 (RInt .u8))), (2, 1, (RInt .i64))])) := opn_sl (e := 45) (by kernel_rfl) (by kernel_rfl)
instance : Opn Try.prog 44 3 (RStr 3 [(0, 1, (RInt .i64)), (1, 1, (RSl 1 (RInt .u8))), (2, 1, (RInt .i64))]) := opn_str (l := [(0, 3), (1, 23), (2, 3)]) (by kernel_rfl) (by kernel_rfl) (.cons inferInstance (.cons inferInstance (.cons inferInstance .nil)))
instance : Opn Try.prog 48 32 (RArr 32 1 (RInt .u8)) := opn_arr (e := 5) (by kernel_rfl) (by kernel_rfl) rfl
instance : Opn Try.prog 49 35 (RStr 35 [(0, 1, RBool), (1, 1, (RInt .i64)), (2, 1, (RInt .i64)), (3, 32, (RArr 32 1 (RInt .u8)))]) := opn_str (l := [(0, 4), (1, 3), (2, 3), (3, 48)]) (by kernel_rfl) (by kernel_rfl) (.cons inferInstance (.cons inferInstance (.cons inferInstance (.cons inferInstance .nil))))
instance : Opn Try.prog 50 35 (RStr 35 [(0, 1, RBool), (1, 1, (RInt .i64)), (2, 1, (RInt .i64)), (3, 32, (RArr 32 1 (RInt .u8)))]) := opn_str (l := [(0, 4), (1, 3), (2, 3), (3, 48)]) (by kernel_rfl) (by kernel_rfl) (.cons inferInstance (.cons inferInstance (.cons inferInstance (.cons inferInstance .nil))))
instance : Opn Try.prog 51 280 (RArr 8 35 (RStr 35 [(0, 1, RBool), (1, 1, (RInt .i64)), (2, 1, (RInt .i64)), (3, 32, (RArr 32 1 (RInt .u8)))])) := opn_arr (e := 50) (by kernel_rfl) (by kernel_rfl) rfl
instance : Opn Try.prog 52 280 (RArr 8 35 (RStr 35 [(0, 1, RBool), (1, 1, (RInt .i64)), (2, 1, (RInt .i64)), (3, 32, (RArr 32 1 (RInt .u8)))])) := opn_arr (e := 50) (by kernel_rfl) (by kernel_rfl) rfl
instance : Opn Try.prog 69 1 (RInt .u64) := opn_int (by kernel_rfl) (by kernel_rfl)
instance : Opn Try.prog 71 1 (RSl 1 (RInt .i64)) := opn_sl (e := 3) (by kernel_rfl) (by kernel_rfl)
instance : Opn Try.prog 73 1 (RSl 1 (RInt .u64)) := opn_sl (e := 69) (by kernel_rfl) (by kernel_rfl)
instance : Opn Try.prog 88 1 (RInt .u32) := opn_int (by kernel_rfl) (by kernel_rfl)
instance : Opn Try.prog 89 1 (RInt .u8) := opn_int (by kernel_rfl) (by kernel_rfl)
instance : Opn Try.prog 90 1 (RInt .u8) := opn_int (by kernel_rfl) (by kernel_rfl)
instance : Opn Try.prog 93 1 (RInt .i32) := opn_int (by kernel_rfl) (by kernel_rfl)
instance : Opn Try.prog 94 1 (RInt .i32) := opn_int (by kernel_rfl) (by kernel_rfl)
end Go.Proofs.Ytjcfblaeloiclaa.K
