/- Openers for the types of the translation, written by gen_o.py. -/
import Derived.Test.YtejdjpjaahfnaaaQ
import Derived.Test.YtejdjpjaahfnaaaT
set_option maxRecDepth 100000
set_option maxHeartbeats 4000000
namespace Go.Proofs.Ytejdjpjaahfnaaa.K
instance : Opn Try.prog 2 1 (RInt .i64) := opn_int (by kernel_rfl) (by kernel_rfl)
instance : Opn Try.prog 3 1 (RInt .i64) := opn_int (by kernel_rfl) (by kernel_rfl)
instance : Opn Try.prog 4 1 RBool := opn_bool (by kernel_rfl) (by kernel_rfl)
instance : Opn Try.prog 5 1 (RInt .u8) := opn_int (by kernel_rfl) (by kernel_rfl)
instance : Opn Try.prog 6 1 (RInt .u8) := opn_int (by kernel_rfl) (by kernel_rfl)
instance : Opn Try.prog 7 4 (RStr 4 [(0, 1, (RInt .i64)), (1, 1, (RInt .i64)), (2, 1, RBool), (3, 1, (RInt .u8))]) := opn_str (l := [(0, 2), (1, 3), (2, 4), (3, 6)]) (by kernel_rfl) (by kernel_rfl) (.cons inferInstance (.cons inferInstance (.cons inferInstance (.cons inferInstance .nil))))
instance : Opn Try.prog 8 4 (RStr 4 [(0, 1, (RInt .i64)), (1, 1, (RInt .i64)), (2, 1, RBool), (3, 1, (RInt .u8))]) := opn_str (l := [(0, 2), (1, 3), (2, 4), (3, 6)]) (by kernel_rfl) (by kernel_rfl) (.cons inferInstance (.cons inferInstance (.cons inferInstance (.cons inferInstance .nil))))
instance : Opn Try.prog 12 1 (RInt .u64) := opn_int (by kernel_rfl) (by kernel_rfl)
instance : Opn Try.prog 21 1 (RInt .i32) := opn_int (by kernel_rfl) (by kernel_rfl)
instance : Opn Try.prog 22 32 (RArr 32 1 (RInt .u8)) := opn_arr (e := 5) (by kernel_rfl) (by kernel_rfl) rfl
instance : Opn Try.prog 23 35 (RStr 35 [(0, 1, RBool), (1, 1, (RInt .i64)), (2, 1, (RInt .i64)), (3, 32, (RArr 32 1 (RInt .u8)))]) := opn_str (l := [(0, 4), (1, 3), (2, 3), (3, 22)]) (by kernel_rfl) (by kernel_rfl) (.cons inferInstance (.cons inferInstance (.cons inferInstance (.cons inferInstance .nil))))
instance : Opn Try.prog 24 35 (RStr 35 [(0, 1, RBool), (1, 1, (RInt .i64)), (2, 1, (RInt .i64)), (3, 32, (RArr 32 1 (RInt .u8)))]) := opn_str (l := [(0, 4), (1, 3), (2, 3), (3, 22)]) (by kernel_rfl) (by kernel_rfl) (.cons inferInstance (.cons inferInstance (.cons inferInstance (.cons inferInstance .nil))))
instance : Opn Try.prog 25 70 (RStr 70 [(0, 1, (RInt .i64)), (1, 35, (RStr 35 [(0, 1, RBool), (1, 1, (RInt .i64)), (2, 1, (RInt .i64)), (3, 32, (RArr 32 1 (RInt .u8)))])), (36, 32, (RArr 32 1 (RInt .u8))), (68, 1, (RInt .i64)), (69, 1, (RInt .i64))]) := opn_str (l := [(0, 3), (1, 24), (36, 22), (68, 3), (69, 3)]) (by kernel_rfl) (by kernel_rfl) (.cons inferInstance (.cons inferInstance (.cons inferInstance (.cons inferInstance (.cons inferInstance .nil)))))
instance : Opn Try.prog 26 70 (RStr 70 [(0, 1, (RInt .i64)), (1, 35, (RStr 35 [(0, 1, RBool), (1, 1, (RInt .i64)), (2, 1, (RInt .i64)), (3, 32, (RArr 32 1 (RInt .u8)))])), (36, 32, (RArr 32 1 (RInt .u8))), (68, 1, (RInt .i64)), (69, 1, (RInt .i64))]) := opn_str (l := [(0, 3), (1, 24), (36, 22), (68, 3), (69, 3)]) (by kernel_rfl) (by kernel_rfl) (.cons inferInstance (.cons inferInstance (.cons inferInstance (.cons inferInstance (.cons inferInstance .nil)))))
instance : Opn Try.prog 27 1 (RSl 1 (RInt .u8)) := opn_sl (e := 5) (by kernel_rfl) (by kernel_rfl)
instance : Opn Try.prog 29 1 (RInt .i64) := opn_int (by kernel_rfl) (by kernel_rfl)
instance : Opn Try.prog 37 1 (RInt .u32) := opn_int (by kernel_rfl) (by kernel_rfl)
instance : Opn Try.prog 39 1 (RInt .u64) := opn_int (by kernel_rfl) (by kernel_rfl)
instance : Opn Try.prog 92 3 (RStr 3 [(0, 1, (RInt .i64)), (1, 1, (RSl 1 (RInt .u8))), (2, 1, (RInt .i64))]) := opn_str (l := [(0, 3), (1, 27), (2, 3)]) (by kernel_rfl) (by kernel_rfl) (.cons inferInstance (.cons inferInstance (.cons inferInstance .nil)))
instance : Opn Try.prog 43 1 (RSl 3 (RStr 3 [(0, 1, (RInt .i64)), (1, 1, (RSl 1 (RInt .u8))), (2, 1, (RInt .i64))])) := opn_sl (e := 92) (by kernel_rfl) (by kernel_rfl)
instance : Opn Try.prog 44 2 (RArr 2 1 (RSl 1 (RInt .u8))) := opn_arr (e := 27) (by kernel_rfl) (by kernel_rfl) rfl
instance : Opn Try.prog 45 10 (RStr 10 [(0, 1, (RInt .i64)), (1, 1, (RSl 3 (RStr 3 [(0, 1, (RInt .i64)), (1, 1, (RSl 1 (RInt .u8))), (2, 1, (RInt .i64))]))), (2, 2, (RArr 2 1 (RSl 1 (RInt .u8)))), (4, 2, (RArr 2 1 (RSl 1 (RInt .u8)))), (6, 1, RBool), (7, 1, (RInt .i64)), (8, 1, (RInt .i64)), (9, 1, (RInt .i64))]) := opn_str (l := [(0, 3), (1, 43), (2, 44), (4, 44), (6, 4), (7, 3), (8, 3), (9, 3)]) (by kernel_rfl) (by kernel_rfl) (.cons inferInstance (.cons inferInstance (.cons inferInstance (.cons inferInstance (.cons inferInstance (.cons inferInstance (.cons inferInstance (.cons inferInstance .nil))))))))
instance : Opn Try.prog 46 10 (RStr 10 [(0, 1, (RInt .i64)), (1, 1, (RSl 3 (RStr 3 [(0, 1, (RInt .i64)), (1, 1, (RSl 1 (RInt .u8))), (2, 1, (RInt .i64))]))), (2, 2, (RArr 2 1 (RSl 1 (RInt .u8)))), (4, 2, (RArr 2 1 (RSl 1 (RInt .u8)))), (6, 1, RBool), (7, 1, (RInt .i64)), (8, 1, (RInt .i64)), (9, 1, (RInt .i64))]) := opn_str (l := [(0, 3), (1, 43), (2, 44), (4, 44), (6, 4), (7, 3), (8, 3), (9, 3)]) (by kernel_rfl) (by kernel_rfl) (.cons inferInstance (.cons inferInstance (.cons inferInstance (.cons inferInstance (.cons inferInstance (.cons inferInstance (.cons inferInstance (.cons inferInstance .nil))))))))
instance : Opn Try.prog 54 3 (RStr 3 [(0, 1, (RInt .i64)), (1, 1, (RInt .i64)), (2, 1, (RSl 1 (RInt .u8)))]) := opn_str (l := [(0, 3), (1, 3), (2, 27)]) (by kernel_rfl) (by kernel_rfl) (.cons inferInstance (.cons inferInstance (.cons inferInstance .nil)))
instance : Opn Try.prog 48 1 (RSl 3 (RStr 3 [(0, 1, (RInt .i64)), (1, 1, (RInt .i64)), (2, 1, (RSl 1 (RInt .u8)))])) := opn_sl (e := 54) (by kernel_rfl) (by kernel_rfl)
instance : Opn Try.prog 53 3 (RStr 3 [(0, 1, (RInt .i64)), (1, 1, (RInt .i64)), (2, 1, (RSl 1 (RInt .u8)))]) := opn_str (l := [(0, 3), (1, 3), (2, 27)]) (by kernel_rfl) (by kernel_rfl) (.cons inferInstance (.cons inferInstance (.cons inferInstance .nil)))
instance : Opn Try.prog 58 2 (RArr 2 1 RBool) := opn_arr (e := 4) (by kernel_rfl) (by kernel_rfl) rfl
instance : Opn Try.prog 69 1 (RSl 1 (RInt .i64)) := opn_sl (e := 3) (by kernel_rfl) (by kernel_rfl)
instance : Opn Try.prog 71 1 (RInt .u64) := opn_int (by kernel_rfl) (by kernel_rfl)
instance : Opn Try.prog 75 1 (RSl 1 (RInt .u64)) := opn_sl (e := 71) (by kernel_rfl) (by kernel_rfl)
instance : Opn Try.prog 83 128 (RArr 128 1 (RInt .u8)) := opn_arr (e := 5) (by kernel_rfl) (by kernel_rfl) rfl
instance : Opn Try.prog 91 3 (RStr 3 [(0, 1, (RInt .i64)), (1, 1, (RSl 1 (RInt .u8))), (2, 1, (RInt .i64))]) := opn_str (l := [(0, 3), (1, 27), (2, 3)]) (by kernel_rfl) (by kernel_rfl) (.cons inferInstance (.cons inferInstance (.cons inferInstance .nil)))
instance : Opn Try.prog 97 2 (RArr 2 1 (RInt .u64)) := opn_arr (e := 71) (by kernel_rfl) (by kernel_rfl) rfl
instance : Opn Try.prog 106 3 (RStr 3 [(0, 1, (RInt .i64)), (1, 1, (RInt .i64)), (2, 1, (RSl 1 (RInt .u8)))]) := opn_str (l := [(0, 3), (1, 3), (2, 27)]) (by kernel_rfl) (by kernel_rfl) (.cons inferInstance (.cons inferInstance (.cons inferInstance .nil)))
instance : Opn Try.prog 107 3 (RStr 3 [(0, 1, (RInt .i64)), (1, 1, (RInt .i64)), (2, 1, (RSl 1 (RInt .u8)))]) := opn_str (l := [(0, 3), (1, 3), (2, 27)]) (by kernel_rfl) (by kernel_rfl) (.cons inferInstance (.cons inferInstance (.cons inferInstance .nil)))
instance : Opn Try.prog 110 2 (RStr 2 [(0, 1, (RInt .i64)), (1, 1, (RSl 1 (RInt .u8)))]) := opn_str (l := [(0, 3), (1, 27)]) (by kernel_rfl) (by kernel_rfl) (.cons inferInstance (.cons inferInstance .nil))
instance : Opn Try.prog 111 2 (RStr 2 [(0, 1, (RInt .i64)), (1, 1, (RSl 1 (RInt .u8)))]) := opn_str (l := [(0, 3), (1, 27)]) (by kernel_rfl) (by kernel_rfl) (.cons inferInstance (.cons inferInstance .nil))
instance : Opn Try.prog 131 1 (RInt .u8) := opn_int (by kernel_rfl) (by kernel_rfl)
instance : Opn Try.prog 132 1 (RInt .u8) := opn_int (by kernel_rfl) (by kernel_rfl)
instance : Opn Try.prog 135 1 (RInt .i32) := opn_int (by kernel_rfl) (by kernel_rfl)
instance : Opn Try.prog 136 1 (RInt .i32) := opn_int (by kernel_rfl) (by kernel_rfl)
end Go.Proofs.Ytejdjpjaahfnaaa.K
