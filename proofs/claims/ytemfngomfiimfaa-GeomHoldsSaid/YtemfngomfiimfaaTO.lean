/- Openers for the types of the translation, written by gen_o.py. -/
import Derived.Test.YtemfngomfiimfaaQ
import Derived.Test.YtemfngomfiimfaaT
set_option maxRecDepth 100000
set_option maxHeartbeats 4000000
namespace Go.Proofs.Ytemfngomfiimfaa.K
instance : Opn Try.prog 2 1 (RInt .i64) := opn_int (by kernel_rfl) (by kernel_rfl)
instance : Opn Try.prog 3 1 (RInt .i64) := opn_int (by kernel_rfl) (by kernel_rfl)
instance : Opn Try.prog 4 1 RBool := opn_bool (by kernel_rfl) (by kernel_rfl)
instance : Opn Try.prog 5 1 (RInt .u8) := opn_int (by kernel_rfl) (by kernel_rfl)
instance : Opn Try.prog 6 1 (RInt .u8) := opn_int (by kernel_rfl) (by kernel_rfl)
instance : Opn Try.prog 7 4 (RStr 4 [(0, 1, (RInt .i64)), (1, 1, (RInt .i64)), (2, 1, RBool), (3, 1, (RInt .u8))]) := opn_str (l := [(0, 2), (1, 3), (2, 4), (3, 6)]) (by kernel_rfl) (by kernel_rfl) (.cons inferInstance (.cons inferInstance (.cons inferInstance (.cons inferInstance .nil))))
instance : Opn Try.prog 8 4 (RStr 4 [(0, 1, (RInt .i64)), (1, 1, (RInt .i64)), (2, 1, RBool), (3, 1, (RInt .u8))]) := opn_str (l := [(0, 2), (1, 3), (2, 4), (3, 6)]) (by kernel_rfl) (by kernel_rfl) (.cons inferInstance (.cons inferInstance (.cons inferInstance (.cons inferInstance .nil))))
instance : Opn Try.prog 12 1 (RInt .u64) := opn_int (by kernel_rfl) (by kernel_rfl)
instance : Opn Try.prog 21 1 (RInt .i32) := opn_int (by kernel_rfl) (by kernel_rfl)
instance : Opn Try.prog 23 1 (RInt .u16) := opn_int (by kernel_rfl) (by kernel_rfl)
instance : Opn Try.prog 22 1 (RSl 1 (RInt .u16)) := opn_sl (e := 23) (by kernel_rfl) (by kernel_rfl)
instance : Opn Try.prog 26 1 (RSl 1 (RInt .u8)) := opn_sl (e := 5) (by kernel_rfl) (by kernel_rfl)
instance : Opn Try.prog 48 3 (RStr 3 [(0, 1, (RInt .i64)), (1, 1, (RSl 1 (RInt .u8))), (2, 1, (RInt .i64))]) := opn_str (l := [(0, 3), (1, 26), (2, 3)]) (by kernel_rfl) (by kernel_rfl) (.cons inferInstance (.cons inferInstance (.cons inferInstance .nil)))
instance : Opn Try.prog 25 1 (RSl 3 (RStr 3 [(0, 1, (RInt .i64)), (1, 1, (RSl 1 (RInt .u8))), (2, 1, (RInt .i64))])) := opn_sl (e := 48) (by kernel_rfl) (by kernel_rfl)
instance : Opn Try.prog 27 2 (RArr 2 1 (RSl 1 (RInt .u8))) := opn_arr (e := 26) (by kernel_rfl) (by kernel_rfl) rfl
instance : Opn Try.prog 28 10 (RStr 10 [(0, 1, (RInt .i64)), (1, 1, (RSl 3 (RStr 3 [(0, 1, (RInt .i64)), (1, 1, (RSl 1 (RInt .u8))), (2, 1, (RInt .i64))]))), (2, 2, (RArr 2 1 (RSl 1 (RInt .u8)))), (4, 2, (RArr 2 1 (RSl 1 (RInt .u8)))), (6, 1, RBool), (7, 1, (RInt .i64)), (8, 1, (RInt .i64)), (9, 1, (RInt .i64))]) := opn_str (l := [(0, 3), (1, 25), (2, 27), (4, 27), (6, 4), (7, 3), (8, 3), (9, 3)]) (by kernel_rfl) (by kernel_rfl) (.cons inferInstance (.cons inferInstance (.cons inferInstance (.cons inferInstance (.cons inferInstance (.cons inferInstance (.cons inferInstance (.cons inferInstance .nil))))))))
instance : Opn Try.prog 29 10 (RStr 10 [(0, 1, (RInt .i64)), (1, 1, (RSl 3 (RStr 3 [(0, 1, (RInt .i64)), (1, 1, (RSl 1 (RInt .u8))), (2, 1, (RInt .i64))]))), (2, 2, (RArr 2 1 (RSl 1 (RInt .u8)))), (4, 2, (RArr 2 1 (RSl 1 (RInt .u8)))), (6, 1, RBool), (7, 1, (RInt .i64)), (8, 1, (RInt .i64)), (9, 1, (RInt .i64))]) := opn_str (l := [(0, 3), (1, 25), (2, 27), (4, 27), (6, 4), (7, 3), (8, 3), (9, 3)]) (by kernel_rfl) (by kernel_rfl) (.cons inferInstance (.cons inferInstance (.cons inferInstance (.cons inferInstance (.cons inferInstance (.cons inferInstance (.cons inferInstance (.cons inferInstance .nil))))))))
instance : Opn Try.prog 30 1 (RInt .i64) := opn_int (by kernel_rfl) (by kernel_rfl)
instance : Opn Try.prog 45 3 (RStr 3 [(0, 1, (RInt .i64)), (1, 1, (RInt .i64)), (2, 1, (RSl 1 (RInt .u8)))]) := opn_str (l := [(0, 3), (1, 3), (2, 26)]) (by kernel_rfl) (by kernel_rfl) (.cons inferInstance (.cons inferInstance (.cons inferInstance .nil)))
instance : Opn Try.prog 33 1 (RSl 3 (RStr 3 [(0, 1, (RInt .i64)), (1, 1, (RInt .i64)), (2, 1, (RSl 1 (RInt .u8)))])) := opn_sl (e := 45) (by kernel_rfl) (by kernel_rfl)
instance : Opn Try.prog 44 3 (RStr 3 [(0, 1, (RInt .i64)), (1, 1, (RInt .i64)), (2, 1, (RSl 1 (RInt .u8)))]) := opn_str (l := [(0, 3), (1, 3), (2, 26)]) (by kernel_rfl) (by kernel_rfl) (.cons inferInstance (.cons inferInstance (.cons inferInstance .nil)))
instance : Opn Try.prog 47 3 (RStr 3 [(0, 1, (RInt .i64)), (1, 1, (RSl 1 (RInt .u8))), (2, 1, (RInt .i64))]) := opn_str (l := [(0, 3), (1, 26), (2, 3)]) (by kernel_rfl) (by kernel_rfl) (.cons inferInstance (.cons inferInstance (.cons inferInstance .nil)))
instance : Opn Try.prog 64 3 (RStr 3 [(0, 1, (RInt .i64)), (1, 1, (RInt .i64)), (2, 1, (RSl 1 (RInt .u8)))]) := opn_str (l := [(0, 3), (1, 3), (2, 26)]) (by kernel_rfl) (by kernel_rfl) (.cons inferInstance (.cons inferInstance (.cons inferInstance .nil)))
instance : Opn Try.prog 65 3 (RStr 3 [(0, 1, (RInt .i64)), (1, 1, (RInt .i64)), (2, 1, (RSl 1 (RInt .u8)))]) := opn_str (l := [(0, 3), (1, 3), (2, 26)]) (by kernel_rfl) (by kernel_rfl) (.cons inferInstance (.cons inferInstance (.cons inferInstance .nil)))
instance : Opn Try.prog 68 2 (RStr 2 [(0, 1, (RInt .i64)), (1, 1, (RSl 1 (RInt .u8)))]) := opn_str (l := [(0, 3), (1, 26)]) (by kernel_rfl) (by kernel_rfl) (.cons inferInstance (.cons inferInstance .nil))
instance : Opn Try.prog 69 2 (RStr 2 [(0, 1, (RInt .i64)), (1, 1, (RSl 1 (RInt .u8)))]) := opn_str (l := [(0, 3), (1, 26)]) (by kernel_rfl) (by kernel_rfl) (.cons inferInstance (.cons inferInstance .nil))
instance : Opn Try.prog 86 1 (RInt .u32) := opn_int (by kernel_rfl) (by kernel_rfl)
instance : Opn Try.prog 87 1 (RInt .u8) := opn_int (by kernel_rfl) (by kernel_rfl)
instance : Opn Try.prog 88 1 (RInt .u8) := opn_int (by kernel_rfl) (by kernel_rfl)
instance : Opn Try.prog 91 1 (RInt .i32) := opn_int (by kernel_rfl) (by kernel_rfl)
instance : Opn Try.prog 92 1 (RInt .i32) := opn_int (by kernel_rfl) (by kernel_rfl)
end Go.Proofs.Ytemfngomfiimfaa.K
