import Derived.Test.YtikdjhlcbkkkfaaAbsLexNE
import Derived.Test.YtikdjhlcbkkkfaaAbsZF
namespace Go.Proofs.Ytikdjhlcbkkkfaa.AbsLexN
open Go Go.Abs Go.Proofs
set_option maxRecDepth 100000
set_option linter.unusedVariables false
set_option linter.unusedSimpArgs false
noncomputable section
def D6 (rec : Rec) (N : Nat) (a0 : Value) (s : St) : Out := opt2 (rec 8 [] s) fun x1 s =>
 opt2 (oNot (.v x1) rec PT.nil s) fun x2 s =>
 condV x2
 (some (oneOf [(.bool false)], s))
 (opt2 (oLenS (.v a0) rec PT.nil s) fun x3 s =>
 opt2 (oBin (int2 (cmpO gtI)) (.v x3) (.v (.int .i64 100)) rec PT.nil s) fun x4 s =>
 condV x4
 (some (oneOf [(.bool true)], s))
 (opt2 (rec 12 [a0] s) fun x5 s =>
 opt2 (rec 13 [a0] s) fun x6 s =>
 opt2 (oEqv eqB false (.v x5) (.v x6) rec PT.nil s) fun x7 s =>
 some (oneOf [x7], s)))
theorem d6 (rec : Rec) (N : Nat) (a0 : Value) (s : St) : callF rec N c6 [a0] s = D6 rec N a0 s := by
  rw [call_f _ _ _ _ _ rfl]
  simp only [c6, x_seq, x_ops, x_skip, x_ret, x_exit, x_cond, x_block, x_loop, ops_c, ops_n, op1_u, op1_gj, op2_op2, op2_op, op2_s, op2_cond, thenX_n, thenX_e, thenX_r, blkX_n, blkX_r, blkX_e, finX_r, finX_n, res_n, res_t, mov_f, op_s, Nat.beq_refl, cond_true]
  first | done | kernel_rfl
def D12 (rec : Rec) (N : Nat) (a0 : Value) (s : St) : Out := opt2 (oBin (str2 (cmpS eqBytes)) (.v a0) (.v (.string ⟨⟨[105, 110, 112, 117, 116]⟩⟩)) rec PT.nil s) fun x1 s =>
 condV x1
 (condV x1
 (some (oneOf [(.bool true)], s))
 (some (oneOf [(.bool false)], s)))
 (opt2 (oBin (str2 (cmpS eqBytes)) (.v a0) (.v (.string ⟨⟨[114, 117, 108, 101]⟩⟩)) rec PT.nil s) fun x2 s =>
 condV x2
 (condV x2
 (some (oneOf [(.bool true)], s))
 (some (oneOf [(.bool false)], s)))
 (opt2 (oBin (str2 (cmpS eqBytes)) (.v a0) (.v (.string ⟨⟨[116, 97, 98, 108, 101]⟩⟩)) rec PT.nil s) fun x3 s =>
 condV x3
 (condV x3
 (some (oneOf [(.bool true)], s))
 (some (oneOf [(.bool false)], s)))
 (opt2 (oBin (str2 (cmpS eqBytes)) (.v a0) (.v (.string ⟨⟨[98, 111, 111, 108]⟩⟩)) rec PT.nil s) fun x4 s =>
 condV x4
 (condV x4
 (some (oneOf [(.bool true)], s))
 (some (oneOf [(.bool false)], s)))
 (opt2 (oBin (str2 (cmpS eqBytes)) (.v a0) (.v (.string ⟨⟨[99, 111, 117, 110, 116]⟩⟩)) rec PT.nil s) fun x5 s =>
 condV x5
 (condV x5
 (some (oneOf [(.bool true)], s))
 (some (oneOf [(.bool false)], s)))
 (opt2 (oBin (str2 (cmpS eqBytes)) (.v a0) (.v (.string ⟨⟨[109, 111, 110, 101, 121]⟩⟩)) rec PT.nil s) fun x6 s =>
 condV x6
 (condV x6
 (some (oneOf [(.bool true)], s))
 (some (oneOf [(.bool false)], s)))
 (opt2 (oBin (str2 (cmpS eqBytes)) (.v a0) (.v (.string ⟨⟨[114, 97, 116, 101]⟩⟩)) rec PT.nil s) fun x7 s =>
 condV x7
 (condV x7
 (some (oneOf [(.bool true)], s))
 (some (oneOf [(.bool false)], s)))
 (opt2 (oBin (str2 (cmpS eqBytes)) (.v a0) (.v (.string ⟨⟨[100, 97, 116, 101]⟩⟩)) rec PT.nil s) fun x8 s =>
 condV x8
 (condV x8
 (some (oneOf [(.bool true)], s))
 (some (oneOf [(.bool false)], s)))
 (opt2 (oBin (str2 (cmpS eqBytes)) (.v a0) (.v (.string ⟨⟨[109, 111, 110, 101, 121, 115]⟩⟩)) rec PT.nil s) fun x9 s =>
 condV x9
 (condV x9
 (some (oneOf [(.bool true)], s))
 (some (oneOf [(.bool false)], s)))
 (opt2 (oBin (str2 (cmpS eqBytes)) (.v a0) (.v (.string ⟨⟨[105, 102]⟩⟩)) rec PT.nil s) fun x10 s =>
 condV x10
 (condV x10
 (some (oneOf [(.bool true)], s))
 (some (oneOf [(.bool false)], s)))
 (opt2 (oBin (str2 (cmpS eqBytes)) (.v a0) (.v (.string ⟨⟨[116, 104, 101, 110]⟩⟩)) rec PT.nil s) fun x11 s =>
 condV x11
 (condV x11
 (some (oneOf [(.bool true)], s))
 (some (oneOf [(.bool false)], s)))
 (opt2 (oBin (str2 (cmpS eqBytes)) (.v a0) (.v (.string ⟨⟨[101, 108, 115, 101]⟩⟩)) rec PT.nil s) fun x12 s =>
 condV x12
 (condV x12
 (some (oneOf [(.bool true)], s))
 (some (oneOf [(.bool false)], s)))
 (opt2 (oBin (str2 (cmpS eqBytes)) (.v a0) (.v (.string ⟨⟨[97, 110, 100]⟩⟩)) rec PT.nil s) fun x13 s =>
 condV x13
 (condV x13
 (some (oneOf [(.bool true)], s))
 (some (oneOf [(.bool false)], s)))
 (opt2 (oBin (str2 (cmpS eqBytes)) (.v a0) (.v (.string ⟨⟨[111, 114]⟩⟩)) rec PT.nil s) fun x14 s =>
 condV x14
 (condV x14
 (some (oneOf [(.bool true)], s))
 (some (oneOf [(.bool false)], s)))
 (opt2 (oBin (str2 (cmpS eqBytes)) (.v a0) (.v (.string ⟨⟨[110, 111, 116]⟩⟩)) rec PT.nil s) fun x15 s =>
 condV x15
 (condV x15
 (some (oneOf [(.bool true)], s))
 (some (oneOf [(.bool false)], s)))
 (opt2 (oBin (str2 (cmpS eqBytes)) (.v a0) (.v (.string ⟨⟨[109, 105, 110]⟩⟩)) rec PT.nil s) fun x16 s =>
 condV x16
 (condV x16
 (some (oneOf [(.bool true)], s))
 (some (oneOf [(.bool false)], s)))
 (opt2 (oBin (str2 (cmpS eqBytes)) (.v a0) (.v (.string ⟨⟨[109, 97, 120]⟩⟩)) rec PT.nil s) fun x17 s =>
 condV x17
 (condV x17
 (some (oneOf [(.bool true)], s))
 (some (oneOf [(.bool false)], s)))
 (opt2 (oBin (str2 (cmpS eqBytes)) (.v a0) (.v (.string ⟨⟨[115, 117, 109]⟩⟩)) rec PT.nil s) fun x18 s =>
 condV x18
 (condV x18
 (some (oneOf [(.bool true)], s))
 (some (oneOf [(.bool false)], s)))
 (opt2 (oBin (str2 (cmpS eqBytes)) (.v a0) (.v (.string ⟨⟨[105, 110]⟩⟩)) rec PT.nil s) fun x19 s =>
 condV x19
 (condV x19
 (some (oneOf [(.bool true)], s))
 (some (oneOf [(.bool false)], s)))
 (opt2 (oBin (str2 (cmpS eqBytes)) (.v a0) (.v (.string ⟨⟨[108, 101, 110]⟩⟩)) rec PT.nil s) fun x20 s =>
 condV x20
 (condV x20
 (some (oneOf [(.bool true)], s))
 (some (oneOf [(.bool false)], s)))
 (opt2 (oBin (str2 (cmpS eqBytes)) (.v a0) (.v (.string ⟨⟨[97, 116]⟩⟩)) rec PT.nil s) fun x21 s =>
 condV x21
 (condV x21
 (some (oneOf [(.bool true)], s))
 (some (oneOf [(.bool false)], s)))
 (opt2 (oBin (str2 (cmpS eqBytes)) (.v a0) (.v (.string ⟨⟨[116, 114, 117, 101]⟩⟩)) rec PT.nil s) fun x22 s =>
 condV x22
 (condV x22
 (some (oneOf [(.bool true)], s))
 (some (oneOf [(.bool false)], s)))
 (opt2 (oBin (str2 (cmpS eqBytes)) (.v a0) (.v (.string ⟨⟨[102, 97, 108, 115, 101]⟩⟩)) rec PT.nil s) fun x23 s =>
 condV x23
 (some (oneOf [(.bool true)], s))
 (some (oneOf [(.bool false)], s))))))))))))))))))))))))
theorem d12 (rec : Rec) (N : Nat) (a0 : Value) (s : St) : callF rec N c12 [a0] s = D12 rec N a0 s := by
  rw [call_f _ _ _ _ _ rfl]
  simp only [c12, x_seq, x_ops, x_skip, x_ret, x_exit, x_cond, x_block, x_loop, ops_c, ops_n, op1_u, op1_gj, op2_op2, op2_op, op2_s, op2_cond, thenX_n, thenX_e, thenX_r, blkX_n, blkX_r, blkX_e, finX_r, finX_n, res_n, res_t, mov_f, op_s, Nat.beq_refl, cond_true]
  first | done | kernel_rfl
def D13_l0 (rec : Rec) (N : Nat) (fs : Frm) (s : St) : OutX := opt2 (oLenL (.v (orU (fs.get t3))) rec PT.nil s) fun x1 s =>
 opt2 (oBin (int2 (cmpO ltI)) (.v (orU (fs.get t4))) (.v x1) rec PT.nil s) fun x2 s =>
 condV x2
 (opt2 (oIdxAddrL 1 (.v (orU (fs.get t3))) (.v (orU (fs.get t4))) rec PT.nil s) fun x3 s =>
 opt2 (oLoad1 (.v x3) rec PT.nil s) fun x4 s =>
 opt2 (oBin (str2 (cmpS eqBytes)) (.v x4) (.v (orU (fs.get t0))) rec PT.nil s) fun x5 s =>
 condV x5
 (some (.ret, (PT.put (.bool true) t2 (PT.put x5 t17 (PT.put (orU (fs.get t0)) t16 (PT.put x4 t15 (PT.put x3 t14 (PT.put (orU (fs.get t4)) t13 (PT.put (orU (fs.get t3)) t12 (PT.put x2 t9 (PT.put x1 t8 (PT.put (orU (fs.get t3)) t7 (PT.put (orU (fs.get t4)) t6 fs))))))))))), s))
 (opt2 (oBin (int2 addO) (.v (orU (fs.get t4))) (.v (.int .i64 1)) rec PT.nil s) fun x6 s =>
 some (.norm, (PT.put x6 t4 (PT.put x6 t11 (PT.put (orU (fs.get t4)) t10 (PT.put x5 t17 (PT.put (orU (fs.get t0)) t16 (PT.put x4 t15 (PT.put x3 t14 (PT.put (orU (fs.get t4)) t13 (PT.put (orU (fs.get t3)) t12 (PT.put x2 t9 (PT.put x1 t8 (PT.put (orU (fs.get t3)) t7 (PT.put (orU (fs.get t4)) t6 fs))))))))))))), s)))
 (some ((.exit 0), (PT.put x2 t9 (PT.put x1 t8 (PT.put (orU (fs.get t3)) t7 (PT.put (orU (fs.get t4)) t6 fs)))), s))
theorem d13_l0 (rec : Rec) (N : Nat) (fs : Frm) (s : St) : c13_l0 rec N fs s = D13_l0 rec N fs s := by
  simp only [c13_l0, call_f, lenN, x_seq, x_ops, x_skip, x_ret, x_exit, x_cond, x_block, x_loop, ops_c, ops_n, op1_u, op1_gj, op2_op2, op2_op, op2_s, op2_cond, thenX_n, thenX_e, thenX_r, blkX_n, blkX_r, blkX_e, finX_r, finX_n, res_n, res_t, mov_f, op_s, Nat.beq_refl, cond_true]
  first | done | kernel_rfl
def D13_r0 (rec : Rec) (N : Nat) (fs : Frm) (s : St) : OutX := some (.ret, (PT.put (.bool false) t2 fs), s)
theorem d13_r0 (rec : Rec) (N : Nat) (fs : Frm) (s : St) : c13_r0 rec N fs s = D13_r0 rec N fs s := by
  simp only [c13_r0, call_f, lenN, x_seq, x_ops, x_skip, x_ret, x_exit, x_cond, x_block, x_loop, ops_c, ops_n, op1_u, op1_gj, op2_op2, op2_op, op2_s, op2_cond, thenX_n, thenX_e, thenX_r, blkX_n, blkX_r, blkX_e, finX_r, finX_n, res_n, res_t, mov_f, op_s, Nat.beq_refl, cond_true]
  first | done | kernel_rfl
def D13 (rec : Rec) (N : Nat) (a0 : Value) (s : St) : Out := opt2 (oBuildSlice 23 (rep 23 [(.string ⟨⟨[]⟩⟩)]) [(0, 1, (.v (.string ⟨⟨[105, 110, 112, 117, 116]⟩⟩))), (1, 1, (.v (.string ⟨⟨[114, 117, 108, 101]⟩⟩))), (2, 1, (.v (.string ⟨⟨[116, 97, 98, 108, 101]⟩⟩))), (3, 1, (.v (.string ⟨⟨[98, 111, 111, 108]⟩⟩))), (4, 1, (.v (.string ⟨⟨[99, 111, 117, 110, 116]⟩⟩))), (5, 1, (.v (.string ⟨⟨[109, 111, 110, 101, 121]⟩⟩))), (6, 1, (.v (.string ⟨⟨[114, 97, 116, 101]⟩⟩))), (7, 1, (.v (.string ⟨⟨[100, 97, 116, 101]⟩⟩))), (8, 1, (.v (.string ⟨⟨[109, 111, 110, 101, 121, 115]⟩⟩))), (9, 1, (.v (.string ⟨⟨[105, 102]⟩⟩))), (10, 1, (.v (.string ⟨⟨[116, 104, 101, 110]⟩⟩))), (11, 1, (.v (.string ⟨⟨[101, 108, 115, 101]⟩⟩))), (12, 1, (.v (.string ⟨⟨[97, 110, 100]⟩⟩))), (13, 1, (.v (.string ⟨⟨[111, 114]⟩⟩))), (14, 1, (.v (.string ⟨⟨[110, 111, 116]⟩⟩))), (15, 1, (.v (.string ⟨⟨[109, 105, 110]⟩⟩))), (16, 1, (.v (.string ⟨⟨[109, 97, 120]⟩⟩))), (17, 1, (.v (.string ⟨⟨[115, 117, 109]⟩⟩))), (18, 1, (.v (.string ⟨⟨[105, 110]⟩⟩))), (19, 1, (.v (.string ⟨⟨[108, 101, 110]⟩⟩))), (20, 1, (.v (.string ⟨⟨[97, 116]⟩⟩))), (21, 1, (.v (.string ⟨⟨[116, 114, 117, 101]⟩⟩))), (22, 1, (.v (.string ⟨⟨[102, 97, 108, 115, 101]⟩⟩)))] rec PT.nil s) fun x1 s =>
 opt2 (loopF (c13_l0 rec N) N (PT.put (.int .i64 0) t4 (PT.put x1 t3 (PT.put x1 t5 (PT.put (.bool false) t2 (PT.put a0 t0 PT.nil))))) s) fun e r => opt2 (blkX 0 e r) fun e r => opt2 (thenX (c13_r0 rec N) e r) fun e r => finX [.tmp t2] e r
theorem d13 (rec : Rec) (N : Nat) (a0 : Value) (s : St) : callF rec N c13 [a0] s = D13 rec N a0 s := by
  rw [call_f _ _ _ _ _ rfl]
  simp only [c13, x_seq, x_ops, x_skip, x_ret, x_exit, x_cond, x_block, x_loop, ops_c, ops_n, op1_u, op1_gj, op2_op2, op2_op, op2_s, op2_cond, thenX_n, thenX_e, thenX_r, blkX_n, blkX_r, blkX_e, finX_r, finX_n, res_n, res_t, mov_f, op_s, Nat.beq_refl, cond_true]
  first | done | kernel_rfl
end
end Go.Proofs.Ytikdjhlcbkkkfaa.AbsLexN
