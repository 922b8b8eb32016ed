import Derived.Test.YtdnedangfnincaaAbsAccOE
import Derived.Test.YtdnedangfnincaaAbsZF
namespace Go.Proofs.Ytdnedangfnincaa.AbsAccO
open Go Go.Abs Go.Proofs
set_option maxRecDepth 100000
set_option linter.unusedVariables false
set_option linter.unusedSimpArgs false
noncomputable section
def D10 (rec : Rec) (N : Nat) (s : St) : Out := opt2 (oBuild [(.slice none 0 0)] [] rec PT.nil s) fun x1 s =>
 opt2 (oBox (.v x1) rec PT.nil s) fun x2 s =>
 some (oneOf [x2], s)
theorem d10 (rec : Rec) (N : Nat) (s : St) : callF rec N c10 [] s = D10 rec N s := by
  rw [call_f _ _ _ _ _ rfl]
  simp (maxSteps := 4000000) only [c10, x_reg, reg_n, reg_c, reg1_u, reg1_g, op2_cons, op2_bif, x_seq, x_ops, x_skip, x_ret, x_exit, x_cond, x_block, x_loop, ops_c, ops_n, op1_u, op1_gj, op2_op2, op2_op, op2_s, op2_cond, thenX_n, thenX_e, thenX_r, blkX_n, blkX_r, blkX_e, finX_r, finX_n, res_n, res_t, mov_f, op_s, Nat.beq_refl, cond_true]
  first | done | kernel_rfl
def D27 (rec : Rec) (N : Nat) (a0 : Value) (a1 : Value) (a2 : Value) (s : St) : Out := opt2 (oBin (int2 (cmpO ltI)) (.v a1) (.v (.int .i64 0)) rec PT.nil s) fun x1 s =>
 opt (gval false x1) fun x2 => opt2 (orUndef x2 (some (a1, s)) s) fun x3 s =>
 opt (gval false x1) fun x4 => opt2 (orUndef x4 (oBin (int2 (cmpO gtI)) (.v x3) (.v (.int .i64 109572)) rec PT.nil s) s) fun x5 s =>
 opt2 (oPick (.v x1) (.v (.bool true)) (.v x5) rec PT.nil s) fun x6 s =>
 condV x6
 (some (oneOf [(.int .i64 12)], s))
 (opt2 (oBin (int2 (cmpO ltI)) (.v a2) (.v (.int .i64 0)) rec PT.nil s) fun x7 s =>
 opt (gval false x7) fun x8 => opt2 (orUndef x8 (some (a2, s)) s) fun x9 s =>
 opt (gval false x7) fun x10 => opt2 (orUndef x10 (oBin (int2 (cmpO gtI)) (.v x9) (.v (.int .i64 1000000000)) rec PT.nil s) s) fun x11 s =>
 opt2 (oPick (.v x7) (.v (.bool true)) (.v x11) rec PT.nil s) fun x12 s =>
 condV x12
 (some (oneOf [(.int .i64 1)], s))
 (opt2 (rec 56 [a0, a1] s) fun x13 s =>
 opt2 (oBin (int2 (cmpO gtI)) (.v x13) (.v (.int .i64 0)) rec PT.nil s) fun x14 s =>
 opt (gval true x14) fun x15 => opt2 (orUndef x15 (some (a0, s)) s) fun x16 s =>
 opt (gval true x14) fun x17 => opt2 (orUndef x17 (oNilCheck (.v x16) rec PT.nil s) s) fun x18 s =>
 opt (gval true x14) fun x19 => opt2 (orUndef x19 (oFieldAddr 0 (.v x18) rec PT.nil s) s) fun x20 s =>
 opt (gval true x14) fun x21 => opt2 (orUndef x21 (oLoad1 (.v x20) rec PT.nil s) s) fun x22 s =>
 opt (gval true x14) fun x23 => opt2 (orUndef x23 (some (x13, s)) s) fun x24 s =>
 opt (gval true x14) fun x25 => opt2 (orUndef x25 (oBin (int2 subO) (.v x24) (.v (.int .i64 1)) rec PT.nil s) s) fun x26 s =>
 opt (gval true x14) fun x27 => opt2 (orUndef x27 (oIdxAddrL 2 (.v x22) (.v x26) rec PT.nil s) s) fun x28 s =>
 opt (gval true x14) fun x29 => opt2 (orUndef x29 (oFieldAddr 0 (.v x28) rec PT.nil s) s) fun x30 s =>
 opt (gval true x14) fun x31 => opt2 (orUndef x31 (oLoad1 (.v x30) rec PT.nil s) s) fun x32 s =>
 opt (gval true x14) fun x33 => opt2 (orUndef x33 (some (a1, s)) s) fun x34 s =>
 opt (gval true x14) fun x35 => opt2 (orUndef x35 (oBin (int2 (cmpO eqI)) (.v x32) (.v x34) rec PT.nil s) s) fun x36 s =>
 opt2 (oPick (.v x14) (.v x36) (.v (.bool false)) rec PT.nil s) fun x37 s =>
 condV x37
 (opt2 (oNilCheck (.v a0) rec PT.nil s) fun x38 s =>
 opt2 (oFieldAddr 0 (.v x38) rec PT.nil s) fun x39 s =>
 opt2 (oLoad1 (.v x39) rec PT.nil s) fun x40 s =>
 opt2 (oBin (int2 subO) (.v x13) (.v (.int .i64 1)) rec PT.nil s) fun x41 s =>
 opt2 (oIdxAddrL 2 (.v x40) (.v x41) rec PT.nil s) fun x42 s =>
 opt2 (oFieldAddr 1 (.v x42) rec PT.nil s) fun x43 s =>
 opt2 (oStore 1 (.v x43) (.v a2) rec PT.nil s) fun x44 s =>
 some (oneOf [(.int .i64 0)], s))
 (opt2 (oNilCheck (.v a0) rec PT.nil s) fun x45 s =>
 opt2 (oFieldAddr 0 (.v x45) rec PT.nil s) fun x46 s =>
 opt2 (oLoad1 (.v x46) rec PT.nil s) fun x47 s =>
 opt2 (oLenL (.v x47) rec PT.nil s) fun x48 s =>
 opt2 (oBin (int2 (cmpO eqI)) (.v x48) (.v (.int .i64 256)) rec PT.nil s) fun x49 s =>
 condV x49
 (some (oneOf [(.int .i64 2)], s))
 (opt2 (oNilCheck (.v a0) rec PT.nil s) fun x50 s =>
 opt2 (oFieldAddr 0 (.v x50) rec PT.nil s) fun x51 s =>
 opt2 (oLoad1 (.v x51) rec PT.nil s) fun x52 s =>
 opt2 (oBuild [(.int .i64 0), (.int .i64 0)] [(0, 1, (.v a1)), (1, 1, (.v a2))] rec PT.nil s) fun x53 s =>
 opt2 (oBuildSlice 1 [(.int .i64 0), (.int .i64 0)] [(0, 2, (.v x53))] rec PT.nil s) fun x54 s =>
 opt2 (rec 57 [x52, x13, x54] s) fun x55 s =>
 opt2 (oNilCheck (.v a0) rec PT.nil s) fun x56 s =>
 opt2 (oFieldAddr 0 (.v x56) rec PT.nil s) fun x57 s =>
 opt2 (oStore 1 (.v x57) (.v x55) rec PT.nil s) fun x58 s =>
 some (oneOf [(.int .i64 0)], s)))))
theorem d27 (rec : Rec) (N : Nat) (a0 : Value) (a1 : Value) (a2 : Value) (s : St) : callF rec N c27 [a0, a1, a2] s = D27 rec N a0 a1 a2 s := by
  rw [call_f _ _ _ _ _ rfl]
  simp (maxSteps := 4000000) only [c27, x_reg, reg_n, reg_c, reg1_u, reg1_g, op2_cons, op2_bif, x_seq, x_ops, x_skip, x_ret, x_exit, x_cond, x_block, x_loop, ops_c, ops_n, op1_u, op1_gj, op2_op2, op2_op, op2_s, op2_cond, thenX_n, thenX_e, thenX_r, blkX_n, blkX_r, blkX_e, finX_r, finX_n, res_n, res_t, mov_f, op_s, Nat.beq_refl, cond_true]
  first | done | kernel_rfl
def D46 (rec : Rec) (N : Nat) (a0 : Value) (a1 : Value) (a2 : Value) (s : St) : Out := opt2 (oNew [(.int .i64 0), (.int .u64 0)] rec PT.nil s) fun x1 s =>
 opt2 (rU (oMov (.v a0) rec PT.nil ⟨s.heap, s.next, 0, 0⟩) PT.nil s none) fun x2 m2 =>
 (fun s => opt2 (rU (oNilCheck (.v x2) rec PT.nil ⟨s.heap, s.next, 0, 0⟩) PT.nil s none) fun x3 m3 =>
 (fun s => opt2 (rU (oFieldAddr 3 (.v x3) rec PT.nil ⟨s.heap, s.next, 0, 0⟩) PT.nil s none) fun x4 m4 =>
 (fun s => opt2 (rU (oLoadN 2 (.v x4) rec PT.nil ⟨s.heap, s.next, 0, 0⟩) PT.nil s none) fun x5 m5 =>
 (fun s => opt2 (rU (oMov (.v a0) rec PT.nil ⟨s.heap, s.next, 0, 0⟩) PT.nil s none) fun x6 m6 =>
 (fun s => opt2 (rU (oNilCheck (.v x6) rec PT.nil ⟨s.heap, s.next, 0, 0⟩) PT.nil s none) fun x7 m7 =>
 (fun s => opt2 (rU (oFieldAddr 1 (.v x7) rec PT.nil ⟨s.heap, s.next, 0, 0⟩) PT.nil s none) fun x8 m8 =>
 (fun s => opt2 (rU (oLoad1 (.v x8) rec PT.nil ⟨s.heap, s.next, 0, 0⟩) PT.nil s (some (.v x8))) fun x9 m9 =>
 (fun s => opt2 (rU (oMov (.v a1) rec PT.nil ⟨s.heap, s.next, 0, 0⟩) PT.nil s none) fun x10 m10 =>
 (fun s => opt2 (rU (oMov (.v a0) rec PT.nil ⟨s.heap, s.next, 0, 0⟩) PT.nil s none) fun x11 m11 =>
 (fun s => opt2 (rU (oNilCheck (.v x11) rec PT.nil ⟨s.heap, s.next, 0, 0⟩) PT.nil s none) fun x12 m12 =>
 (fun s => opt2 (rU (oFieldAddr 0 (.v x12) rec PT.nil ⟨s.heap, s.next, 0, 0⟩) PT.nil s none) fun x13 m13 =>
 (fun s => opt2 (rU (oLoad1 (.v x13) rec PT.nil ⟨s.heap, s.next, 0, 0⟩) PT.nil s (some (.v x13))) fun x14 m14 =>
 (fun s => opt2 (rU (oMov (.v a2) rec PT.nil ⟨s.heap, s.next, 0, 0⟩) PT.nil s none) fun x15 m15 =>
 (fun s => opt2 (rU (rec 63 [x10, x14, x15] ⟨s.heap, s.next, 0, 0⟩) PT.nil s none) fun x16 m16 =>
 (fun s => opt2 (rU (rec 62 [x5, x9, x16] ⟨s.heap, s.next, 0, 0⟩) PT.nil s none) fun x17 m17 =>
 (fun s => opt2 (rU (oMov (.v x17) rec PT.nil ⟨s.heap, s.next, 0, 0⟩) PT.nil s none) fun x18 m18 =>
 (fun s => opt2 (rU (oExtract (.v x18) 0 rec PT.nil ⟨s.heap, s.next, 0, 0⟩) PT.nil s none) fun x19 m19 =>
 (fun s => opt2 (rU (oExtract (.v x18) 1 rec PT.nil ⟨s.heap, s.next, 0, 0⟩) PT.nil s none) fun x20 m20 =>
 (fun s => opt2 (rU (oNew [(.int .i64 0), (.int .u64 0)] rec PT.nil ⟨s.heap, s.next, 0, 0⟩) PT.nil s none) fun x21 m21 =>
 (fun s => opt2 (rU (oStore 2 (.v x21) (.v x19) rec PT.nil ⟨s.heap, s.next, 0, 0⟩) PT.nil s none) fun x22 m22 =>
 (fun s => opt2 (rU (oMov (.v x20) rec PT.nil ⟨s.heap, s.next, 0, 0⟩) PT.nil s none) fun x23 m23 =>
 (fun s => bif apartAll [m2.1, m3.1, m4.1, m5.1, m6.1, m7.1, m8.1, m9.1, m10.1, m11.1, m12.1, m13.1, m14.1, m15.1, m16.1, m17.1, m18.1, m19.1, m20.1, m21.1, m22.1, m23.1] [(0, 4), (1, 4), (2, 4), (3, 4), (0, 5), (1, 5), (2, 5), (3, 5), (0, 6), (1, 6), (2, 6), (3, 6), (0, 7), (1, 7), (2, 7), (3, 7), (0, 8), (1, 8), (2, 8), (3, 8), (4, 8), (5, 8), (6, 8), (7, 8), (0, 9), (1, 9), (2, 9), (3, 9), (4, 9), (5, 9), (6, 9), (7, 9), (8, 9), (0, 10), (1, 10), (2, 10), (3, 10), (4, 10), (5, 10), (6, 10), (7, 10), (8, 10), (0, 11), (1, 11), (2, 11), (3, 11), (4, 11), (5, 11), (6, 11), (7, 11), (8, 11), (0, 12), (1, 12), (2, 12), (3, 12), (4, 12), (5, 12), (6, 12), (7, 12), (8, 12), (0, 13), (1, 13), (2, 13), (3, 13), (4, 13), (5, 13), (6, 13), (7, 13), (8, 13), (9, 13), (10, 13), (11, 13), (12, 13), (0, 14), (1, 14), (2, 14), (3, 14), (4, 14), (5, 14), (6, 14), (7, 14), (17, 18), (0, 19), (1, 19), (2, 19), (3, 19), (4, 19), (5, 19), (6, 19), (7, 19), (8, 19), (9, 19), (10, 19), (11, 19), (12, 19), (13, 19), (14, 19), (15, 19), (16, 19), (17, 19), (18, 19), (18, 20)] then opt2 (oLoadN 2 (.v x21) rec PT.nil s) fun x24 s =>
 opt2 (oStore 2 (.v x1) (.v x24) rec PT.nil s) fun x25 s =>
 finX [.cell t6 (some 2)] .ret ((PT.put x24 t28 (PT.put x23 t8 (PT.put x21 t7 (PT.put x20 t27 (PT.put x19 t26 (PT.put x18 t9 (PT.put x17 t25 (PT.put x16 t24 (PT.put x15 t23 (PT.put x14 t22 (PT.put x13 t21 (PT.put x12 t20 (PT.put x11 t19 (PT.put x10 t18 (PT.put x9 t17 (PT.put x8 t16 (PT.put x7 t15 (PT.put x6 t14 (PT.put x5 t13 (PT.put x4 t12 (PT.put x3 t11 (PT.put x2 t10 (PT.put x1 t6 (PT.put a2 t2 (PT.put a1 t1 (PT.put a0 t0 PT.nil)))))))))))))))))))))))))), s) else none) m23.2) m22.2) m21.2) m20.2) m19.2) m18.2) m17.2) m16.2) m15.2) m14.2) m13.2) m12.2) m11.2) m10.2) m9.2) m8.2) m7.2) m6.2) m5.2) m4.2) m3.2) m2.2
theorem d46 (rec : Rec) (N : Nat) (a0 : Value) (a1 : Value) (a2 : Value) (s : St) : callF rec N c46 [a0, a1, a2] s = D46 rec N a0 a1 a2 s := by
  rw [call_f _ _ _ _ _ rfl]
  simp (maxSteps := 4000000) only [c46, x_reg, reg_n, reg_c, reg1_u, reg1_g, op2_cons, op2_bif, x_seq, x_ops, x_skip, x_ret, x_exit, x_cond, x_block, x_loop, ops_c, ops_n, op1_u, op1_gj, op2_op2, op2_op, op2_s, op2_cond, thenX_n, thenX_e, thenX_r, blkX_n, blkX_r, blkX_e, finX_r, finX_n, res_n, res_t, mov_f, op_s, Nat.beq_refl, cond_true]
  first | done | kernel_rfl
def D48 (rec : Rec) (N : Nat) (a0 : Value) (a1 : Value) (s : St) : Out := opt2 (oBox (.v a0) rec PT.nil s) fun x1 s =>
 opt2 (oBin (int2 (cmpO ltI)) (.v a1) (.v (.int .i64 1)) rec PT.nil s) fun x2 s =>
 condV x2
 (some (oneOf [(.int .i64 0), (.bool false)], s))
 (opt2 (oLoadN 2 (.v x1) rec PT.nil s) fun x3 s =>
 opt2 (oNew [(.int .i64 0), (.int .u64 0)] rec PT.nil s) fun x4 s =>
 opt2 (oStore 2 (.v x4) (.v x3) rec PT.nil s) fun x5 s =>
 opt2 (oFieldAddr 0 (.v x1) rec PT.nil s) fun x6 s =>
 opt2 (oLoad1 (.v x6) rec PT.nil s) fun x7 s =>
 opt2 (oBin (int2 (cmpO ltI)) (.v x7) (.v (.int .i64 0)) rec PT.nil s) fun x8 s =>
 condV x8
 (opt2 (oLoadN 2 (.v x1) rec PT.nil s) fun x9 s =>
 opt2 (rec 65 [x9] s) fun x10 s =>
 opt2 (oStore 2 (.v x4) (.v x10) rec PT.nil s) fun x11 s =>
 opt2 (oConv .u64 (.v a1) rec PT.nil s) fun x12 s =>
 opt2 (oFieldAddr 0 (.v x4) rec PT.nil s) fun x13 s =>
 opt2 (oLoad1 (.v x13) rec PT.nil s) fun x14 s =>
 opt2 (oConv .u64 (.v x14) rec PT.nil s) fun x15 s =>
 opt2 (oBin (int2 (cmpO geI)) (.v x15) (.v x12) rec PT.nil s) fun x16 s =>
 condV x16
 (some (oneOf [(.int .i64 0), (.bool false)], s))
 (opt2 (oFieldAddr 0 (.v x4) rec PT.nil s) fun x17 s =>
 opt2 (oLoad1 (.v x17) rec PT.nil s) fun x18 s =>
 opt2 (oConv .u64 (.v x18) rec PT.nil s) fun x19 s =>
 opt2 (oFieldAddr 1 (.v x4) rec PT.nil s) fun x20 s =>
 opt2 (oLoad1 (.v x20) rec PT.nil s) fun x21 s =>
 opt2 (rec 66 [x19, x21, x12] s) fun x22 s =>
 opt2 (oExtract (.v x22) 0 rec PT.nil s) fun x23 s =>
 opt2 (oExtract (.v x22) 1 rec PT.nil s) fun x24 s =>
 opt2 (oFieldAddr 0 (.v x1) rec PT.nil s) fun x25 s =>
 opt2 (oLoad1 (.v x25) rec PT.nil s) fun x26 s =>
 opt2 (oBin (int2 (cmpO geI)) (.v x26) (.v (.int .i64 0)) rec PT.nil s) fun x27 s =>
 condV x27
 (opt2 (oBuild [(.int .i64 0), (.int .u64 0)] [(0, 1, (.v (.int .i64 0))), (1, 1, (.v x23))] rec PT.nil s) fun x28 s =>
 opt2 (rec 67 [x28] s) fun x29 s =>
 opt2 (oExtract (.v x29) 0 rec PT.nil s) fun x30 s =>
 opt2 (oExtract (.v x29) 1 rec PT.nil s) fun x31 s =>
 some (oneOf [x30, x31], s))
 (opt2 (oBuild [(.int .i64 0), (.int .u64 0)] [(0, 1, (.v (.int .i64 0))), (1, 1, (.v x23))] rec PT.nil s) fun x32 s =>
 opt2 (rec 65 [x32] s) fun x33 s =>
 opt2 (oNew [(.int .i64 0), (.int .u64 0)] rec PT.nil s) fun x34 s =>
 opt2 (oStore 2 (.v x34) (.v x33) rec PT.nil s) fun x35 s =>
 opt2 (oBin (int2 (cmpO gtI)) (.v x24) (.v (.int .u64 0)) rec PT.nil s) fun x36 s =>
 condV x36
 (opt2 (rU (oLoadN 2 (.v x34) rec PT.nil ⟨s.heap, s.next, 0, 0⟩) PT.nil s none) fun x37 m37 =>
 (fun s => opt2 (rU (rec 69 [(.int .i64 (-1))] ⟨s.heap, s.next, 0, 0⟩) PT.nil s none) fun x38 m38 =>
 (fun s => opt2 (rU (rec 68 [x37, x38] ⟨s.heap, s.next, 0, 0⟩) PT.nil s none) fun x39 m39 =>
 (fun s => opt2 (rU (oMov (.v x39) rec PT.nil ⟨s.heap, s.next, 0, 0⟩) PT.nil s none) fun x40 m40 =>
 (fun s => opt2 (rU (oExtract (.v x40) 0 rec PT.nil ⟨s.heap, s.next, 0, 0⟩) PT.nil s none) fun x41 m41 =>
 (fun s => opt2 (rU (oExtract (.v x40) 1 rec PT.nil ⟨s.heap, s.next, 0, 0⟩) PT.nil s none) fun x42 m42 =>
 (fun s => opt2 (rU (oStore 2 (.v x34) (.v x41) rec PT.nil ⟨s.heap, s.next, 0, 0⟩) PT.nil s none) fun x43 m43 =>
 (fun s => bif apartAll [m37.1, m38.1, m39.1, m40.1, m41.1, m42.1, m43.1] [(0, 1), (4, 5), (5, 6)] then opt2 (oLoadN 2 (.v x34) rec PT.nil s) fun x44 s =>
 opt2 (rec 67 [x44] s) fun x45 s =>
 opt2 (oExtract (.v x45) 0 rec PT.nil s) fun x46 s =>
 opt2 (oExtract (.v x45) 1 rec PT.nil s) fun x47 s =>
 some (oneOf [x46, x47], s) else none) m43.2) m42.2) m41.2) m40.2) m39.2) m38.2) m37.2)
 (opt2 (oLoadN 2 (.v x34) rec PT.nil s) fun x48 s =>
 opt2 (rec 67 [x48] s) fun x49 s =>
 opt2 (oExtract (.v x49) 0 rec PT.nil s) fun x50 s =>
 opt2 (oExtract (.v x49) 1 rec PT.nil s) fun x51 s =>
 some (oneOf [x50, x51], s)))))
 (opt2 (oConv .u64 (.v a1) rec PT.nil s) fun x52 s =>
 opt2 (oFieldAddr 0 (.v x4) rec PT.nil s) fun x53 s =>
 opt2 (oLoad1 (.v x53) rec PT.nil s) fun x54 s =>
 opt2 (oConv .u64 (.v x54) rec PT.nil s) fun x55 s =>
 opt2 (oBin (int2 (cmpO geI)) (.v x55) (.v x52) rec PT.nil s) fun x56 s =>
 condV x56
 (some (oneOf [(.int .i64 0), (.bool false)], s))
 (opt2 (oFieldAddr 0 (.v x4) rec PT.nil s) fun x57 s =>
 opt2 (oLoad1 (.v x57) rec PT.nil s) fun x58 s =>
 opt2 (oConv .u64 (.v x58) rec PT.nil s) fun x59 s =>
 opt2 (oFieldAddr 1 (.v x4) rec PT.nil s) fun x60 s =>
 opt2 (oLoad1 (.v x60) rec PT.nil s) fun x61 s =>
 opt2 (rec 66 [x59, x61, x52] s) fun x62 s =>
 opt2 (oExtract (.v x62) 0 rec PT.nil s) fun x63 s =>
 opt2 (oExtract (.v x62) 1 rec PT.nil s) fun x64 s =>
 opt2 (oFieldAddr 0 (.v x1) rec PT.nil s) fun x65 s =>
 opt2 (oLoad1 (.v x65) rec PT.nil s) fun x66 s =>
 opt2 (oBin (int2 (cmpO geI)) (.v x66) (.v (.int .i64 0)) rec PT.nil s) fun x67 s =>
 condV x67
 (opt2 (oBuild [(.int .i64 0), (.int .u64 0)] [(0, 1, (.v (.int .i64 0))), (1, 1, (.v x63))] rec PT.nil s) fun x68 s =>
 opt2 (rec 67 [x68] s) fun x69 s =>
 opt2 (oExtract (.v x69) 0 rec PT.nil s) fun x70 s =>
 opt2 (oExtract (.v x69) 1 rec PT.nil s) fun x71 s =>
 some (oneOf [x70, x71], s))
 (opt2 (oBuild [(.int .i64 0), (.int .u64 0)] [(0, 1, (.v (.int .i64 0))), (1, 1, (.v x63))] rec PT.nil s) fun x72 s =>
 opt2 (rec 65 [x72] s) fun x73 s =>
 opt2 (oNew [(.int .i64 0), (.int .u64 0)] rec PT.nil s) fun x74 s =>
 opt2 (oStore 2 (.v x74) (.v x73) rec PT.nil s) fun x75 s =>
 opt2 (oBin (int2 (cmpO gtI)) (.v x64) (.v (.int .u64 0)) rec PT.nil s) fun x76 s =>
 condV x76
 (opt2 (rU (oLoadN 2 (.v x74) rec PT.nil ⟨s.heap, s.next, 0, 0⟩) PT.nil s none) fun x77 m77 =>
 (fun s => opt2 (rU (rec 69 [(.int .i64 (-1))] ⟨s.heap, s.next, 0, 0⟩) PT.nil s none) fun x78 m78 =>
 (fun s => opt2 (rU (rec 68 [x77, x78] ⟨s.heap, s.next, 0, 0⟩) PT.nil s none) fun x79 m79 =>
 (fun s => opt2 (rU (oMov (.v x79) rec PT.nil ⟨s.heap, s.next, 0, 0⟩) PT.nil s none) fun x80 m80 =>
 (fun s => opt2 (rU (oExtract (.v x80) 0 rec PT.nil ⟨s.heap, s.next, 0, 0⟩) PT.nil s none) fun x81 m81 =>
 (fun s => opt2 (rU (oExtract (.v x80) 1 rec PT.nil ⟨s.heap, s.next, 0, 0⟩) PT.nil s none) fun x82 m82 =>
 (fun s => opt2 (rU (oStore 2 (.v x74) (.v x81) rec PT.nil ⟨s.heap, s.next, 0, 0⟩) PT.nil s none) fun x83 m83 =>
 (fun s => bif apartAll [m77.1, m78.1, m79.1, m80.1, m81.1, m82.1, m83.1] [(0, 1), (4, 5), (5, 6)] then opt2 (oLoadN 2 (.v x74) rec PT.nil s) fun x84 s =>
 opt2 (rec 67 [x84] s) fun x85 s =>
 opt2 (oExtract (.v x85) 0 rec PT.nil s) fun x86 s =>
 opt2 (oExtract (.v x85) 1 rec PT.nil s) fun x87 s =>
 some (oneOf [x86, x87], s) else none) m83.2) m82.2) m81.2) m80.2) m79.2) m78.2) m77.2)
 (opt2 (oLoadN 2 (.v x74) rec PT.nil s) fun x88 s =>
 opt2 (rec 67 [x88] s) fun x89 s =>
 opt2 (oExtract (.v x89) 0 rec PT.nil s) fun x90 s =>
 opt2 (oExtract (.v x89) 1 rec PT.nil s) fun x91 s =>
 some (oneOf [x90, x91], s))))))
theorem d48 (rec : Rec) (N : Nat) (a0 : Value) (a1 : Value) (s : St) : callF rec N c48 [a0, a1] s = D48 rec N a0 a1 s := by
  rw [call_f _ _ _ _ _ rfl]
  simp (maxSteps := 4000000) only [c48, x_reg, reg_n, reg_c, reg1_u, reg1_g, op2_cons, op2_bif, x_seq, x_ops, x_skip, x_ret, x_exit, x_cond, x_block, x_loop, ops_c, ops_n, op1_u, op1_gj, op2_op2, op2_op, op2_s, op2_cond, thenX_n, thenX_e, thenX_r, blkX_n, blkX_r, blkX_e, finX_r, finX_n, res_n, res_t, mov_f, op_s, Nat.beq_refl, cond_true]
  first | done | kernel_rfl
def D56 (rec : Rec) (N : Nat) (a0 : Value) (a1 : Value) (s : St) : Out := opt2 (oBox (.v a0) rec PT.nil s) fun x1 s =>
 opt2 (oBox (.v a1) rec PT.nil s) fun x2 s =>
 opt2 (oLoad1 (.v x1) rec PT.nil s) fun x3 s =>
 opt2 (oNilCheck (.v x3) rec PT.nil s) fun x4 s =>
 opt2 (oFieldAddr 0 (.v x4) rec PT.nil s) fun x5 s =>
 opt2 (oLoad1 (.v x5) rec PT.nil s) fun x6 s =>
 opt2 (oLenL (.v x6) rec PT.nil s) fun x7 s =>
 opt2 (oFunc (.func 74) [] [(.v x1), (.v x2)] rec PT.nil s) fun x8 s =>
 opt2 (rec 73 [x7, x8] s) fun x9 s =>
 some (oneOf [x9], s)
theorem d56 (rec : Rec) (N : Nat) (a0 : Value) (a1 : Value) (s : St) : callF rec N c56 [a0, a1] s = D56 rec N a0 a1 s := by
  rw [call_f _ _ _ _ _ rfl]
  simp (maxSteps := 4000000) only [c56, x_reg, reg_n, reg_c, reg1_u, reg1_g, op2_cons, op2_bif, x_seq, x_ops, x_skip, x_ret, x_exit, x_cond, x_block, x_loop, ops_c, ops_n, op1_u, op1_gj, op2_op2, op2_op, op2_s, op2_cond, thenX_n, thenX_e, thenX_r, blkX_n, blkX_r, blkX_e, finX_r, finX_n, res_n, res_t, mov_f, op_s, Nat.beq_refl, cond_true]
  first | done | kernel_rfl
def D57 (rec : Rec) (N : Nat) (a0 : Value) (a1 : Value) (a2 : Value) (s : St) : Out := opt2 (oSliceL 2 (.v a0) (some (.v a1)) none none rec PT.nil s) fun x1 s =>
 opt2 (oLenL (.v a2) rec PT.nil s) fun x2 s =>
 opt2 (oBin (int2 (cmpO eqI)) (.v x2) (.v (.int .i64 0)) rec PT.nil s) fun x3 s =>
 condV x3
 (some (oneOf [a0], s))
 (opt2 (oLenL (.v a0) rec PT.nil s) fun x4 s =>
 opt2 (oBin (int2 (cmpO eqI)) (.v a1) (.v x4) rec PT.nil s) fun x5 s =>
 condV x5
 (opt2 (oAppend 2 16 (.v a0) (.v a2) rec PT.nil s) fun x6 s =>
 some (oneOf [x6], s))
 (opt2 (oBin (int2 addO) (.v x4) (.v x2) rec PT.nil s) fun x7 s =>
 opt2 (oCap (.v a0) rec PT.nil s) fun x8 s =>
 opt2 (oBin (int2 (cmpO gtI)) (.v x7) (.v x8) rec PT.nil s) fun x9 s =>
 condV x9
 (opt2 (oSliceL 2 (.v a0) none (some (.v a1)) none rec PT.nil s) fun x10 s =>
 opt2 (oBin (int2 addO) (.v x4) (.v x2) rec PT.nil s) fun x11 s =>
 opt2 (oBin (int2 subO) (.v x11) (.v a1) rec PT.nil s) fun x12 s =>
 opt2 (oBad rec PT.nil s) fun x13 s =>
 opt2 (oSliceL 2 (.v x13) (some (.v a1)) none none rec PT.nil s) fun x14 s =>
 opt2 (oCopy 2 (.v x14) (.v a2) rec PT.nil s) fun x15 s =>
 opt2 (rU (oMov (.v x13) rec PT.nil ⟨s.heap, s.next, 0, 0⟩) PT.nil s none) fun x16 m16 =>
 (fun s => opt2 (rU (oMov (.v a1) rec PT.nil ⟨s.heap, s.next, 0, 0⟩) PT.nil s none) fun x17 m17 =>
 (fun s => opt2 (rU (oMov (.v x2) rec PT.nil ⟨s.heap, s.next, 0, 0⟩) PT.nil s none) fun x18 m18 =>
 (fun s => opt2 (rU (oBin (int2 addO) (.v x17) (.v x18) rec PT.nil ⟨s.heap, s.next, 0, 0⟩) PT.nil s none) fun x19 m19 =>
 (fun s => opt2 (rU (oSliceL 2 (.v x16) (some (.v x19)) none none rec PT.nil ⟨s.heap, s.next, 0, 0⟩) PT.nil s none) fun x20 m20 =>
 (fun s => opt2 (rU (oMov (.v a0) rec PT.nil ⟨s.heap, s.next, 0, 0⟩) PT.nil s none) fun x21 m21 =>
 (fun s => opt2 (rU (oMov (.v a1) rec PT.nil ⟨s.heap, s.next, 0, 0⟩) PT.nil s none) fun x22 m22 =>
 (fun s => opt2 (rU (oSliceL 2 (.v x21) (some (.v x22)) none none rec PT.nil ⟨s.heap, s.next, 0, 0⟩) PT.nil s none) fun x23 m23 =>
 (fun s => opt2 (rU (oCopy 2 (.v x20) (.v x23) rec PT.nil ⟨s.heap, s.next, 0, 0⟩) PT.nil s none) fun x24 m24 =>
 (fun s => bif apartAll [m16.1, m17.1, m18.1, m19.1, m20.1, m21.1, m22.1, m23.1, m24.1] [(0, 1), (0, 2), (1, 2), (0, 3), (0, 5), (1, 5), (2, 5), (3, 5), (4, 5), (0, 6), (1, 6), (2, 6), (3, 6), (4, 6), (5, 6), (0, 7), (1, 7), (2, 7), (3, 7), (4, 7)] then some (oneOf [x13], s) else none) m24.2) m23.2) m22.2) m21.2) m20.2) m19.2) m18.2) m17.2) m16.2)
 (opt2 (oBin (int2 addO) (.v x4) (.v x2) rec PT.nil s) fun x25 s =>
 opt2 (oSliceL 2 (.v a0) none (some (.v x25)) none rec PT.nil s) fun x26 s =>
 opt2 (oBin (int2 addO) (.v a1) (.v x2) rec PT.nil s) fun x27 s =>
 opt2 (oSliceL 2 (.v x26) (some (.v x27)) none none rec PT.nil s) fun x28 s =>
 opt2 (rec 75 [a2, x28] s) fun x29 s =>
 opt2 (oNot (.v x29) rec PT.nil s) fun x30 s =>
 condV x30
 (opt2 (rU (oMov (.v x26) rec PT.nil ⟨s.heap, s.next, 0, 0⟩) PT.nil s none) fun x31 m31 =>
 (fun s => opt2 (rU (oMov (.v a1) rec PT.nil ⟨s.heap, s.next, 0, 0⟩) PT.nil s none) fun x32 m32 =>
 (fun s => opt2 (rU (oMov (.v x2) rec PT.nil ⟨s.heap, s.next, 0, 0⟩) PT.nil s none) fun x33 m33 =>
 (fun s => opt2 (rU (oBin (int2 addO) (.v x32) (.v x33) rec PT.nil ⟨s.heap, s.next, 0, 0⟩) PT.nil s none) fun x34 m34 =>
 (fun s => opt2 (rU (oSliceL 2 (.v x31) (some (.v x34)) none none rec PT.nil ⟨s.heap, s.next, 0, 0⟩) PT.nil s none) fun x35 m35 =>
 (fun s => opt2 (rU (oMov (.v x26) rec PT.nil ⟨s.heap, s.next, 0, 0⟩) PT.nil s none) fun x36 m36 =>
 (fun s => opt2 (rU (oMov (.v a1) rec PT.nil ⟨s.heap, s.next, 0, 0⟩) PT.nil s none) fun x37 m37 =>
 (fun s => opt2 (rU (oSliceL 2 (.v x36) (some (.v x37)) none none rec PT.nil ⟨s.heap, s.next, 0, 0⟩) PT.nil s none) fun x38 m38 =>
 (fun s => opt2 (rU (oCopy 2 (.v x35) (.v x38) rec PT.nil ⟨s.heap, s.next, 0, 0⟩) PT.nil s none) fun x39 m39 =>
 (fun s => bif apartAll [m31.1, m32.1, m33.1, m34.1, m35.1, m36.1, m37.1, m38.1, m39.1] [(0, 1), (0, 2), (1, 2), (0, 3), (0, 5), (1, 5), (2, 5), (3, 5), (4, 5), (0, 6), (1, 6), (2, 6), (3, 6), (4, 6), (5, 6), (0, 7), (1, 7), (2, 7), (3, 7), (4, 7)] then opt2 (oSliceL 2 (.v x26) (some (.v a1)) none none rec PT.nil s) fun x40 s =>
 opt2 (oCopy 2 (.v x40) (.v a2) rec PT.nil s) fun x41 s =>
 some (oneOf [x26], s) else none) m39.2) m38.2) m37.2) m36.2) m35.2) m34.2) m33.2) m32.2) m31.2)
 (opt2 (oSliceL 2 (.v x26) (some (.v x4)) none none rec PT.nil s) fun x42 s =>
 opt2 (oCopy 2 (.v x42) (.v a2) rec PT.nil s) fun x43 s =>
 opt2 (oSliceL 2 (.v x26) (some (.v a1)) none none rec PT.nil s) fun x44 s =>
 opt2 (rec 76 [x44, x2] s) fun x45 s =>
 some (oneOf [x26], s)))))
theorem d57 (rec : Rec) (N : Nat) (a0 : Value) (a1 : Value) (a2 : Value) (s : St) : callF rec N c57 [a0, a1, a2] s = D57 rec N a0 a1 a2 s := by
  rw [call_f _ _ _ _ _ rfl]
  simp (maxSteps := 4000000) only [c57, x_reg, reg_n, reg_c, reg1_u, reg1_g, op2_cons, op2_bif, x_seq, x_ops, x_skip, x_ret, x_exit, x_cond, x_block, x_loop, ops_c, ops_n, op1_u, op1_gj, op2_op2, op2_op, op2_s, op2_cond, thenX_n, thenX_e, thenX_r, blkX_n, blkX_r, blkX_e, finX_r, finX_n, res_n, res_t, mov_f, op_s, Nat.beq_refl, cond_true]
  first | done | kernel_rfl
def D63_l0 (rec : Rec) (N : Nat) (fs : Frm) (s : St) : OutX := opt2 (oBin (int2 (cmpO ltI)) (.v (orU (fs.get t23))) (.v (orU (fs.get t22))) rec PT.nil s) fun x1 s =>
 condV x1
 (opt2 (oIdxAddrL 2 (.v (orU (fs.get t21))) (.v (orU (fs.get t23))) rec PT.nil s) fun x2 s =>
 opt2 (oLoadN 2 (.v x2) rec PT.nil s) fun x3 s =>
 opt2 (oNew [(.int .i64 0), (.int .i64 0)] rec PT.nil s) fun x4 s =>
 opt2 (oStore 2 (.v x4) (.v x3) rec PT.nil s) fun x5 s =>
 opt2 (oNilCheck (.v (orU (fs.get t0))) rec PT.nil s) fun x6 s =>
 opt2 (oFieldAddr 0 (.v x6) rec PT.nil s) fun x7 s =>
 opt2 (oLoad1 (.v x7) rec PT.nil s) fun x8 s =>
 opt2 (oLenL (.v x8) rec PT.nil s) fun x9 s =>
 opt2 (oBin (int2 subO) (.v x9) (.v (.int .i64 1)) rec PT.nil s) fun x10 s =>
 opt2 (oBin (int2 (cmpO ltI)) (.v (orU (fs.get t23))) (.v x10) rec PT.nil s) fun x11 s =>
 condV x11
 (opt2 (oNilCheck (.v (orU (fs.get t0))) rec PT.nil s) fun x12 s =>
 opt2 (oFieldAddr 0 (.v x12) rec PT.nil s) fun x13 s =>
 opt2 (oLoad1 (.v x13) rec PT.nil s) fun x14 s =>
 opt2 (oBin (int2 addO) (.v (orU (fs.get t23))) (.v (.int .i64 1)) rec PT.nil s) fun x15 s =>
 opt2 (oIdxAddrL 2 (.v x14) (.v x15) rec PT.nil s) fun x16 s =>
 opt2 (oFieldAddr 0 (.v x16) rec PT.nil s) fun x17 s =>
 opt2 (oLoad1 (.v x17) rec PT.nil s) fun x18 s =>
 opt2 (oMM false (.v x18) [(.v (orU (fs.get t2)))] rec PT.nil s) fun x19 s =>
 opt2 (oFieldAddr 0 (.v x4) rec PT.nil s) fun x20 s =>
 opt2 (oLoad1 (.v x20) rec PT.nil s) fun x21 s =>
 opt2 (oMM true (.v x21) [(.v (orU (fs.get t1)))] rec PT.nil s) fun x22 s =>
 opt2 (oBin (int2 subO) (.v x19) (.v x22) rec PT.nil s) fun x23 s =>
 opt2 (oBin (int2 (cmpO gtI)) (.v x23) (.v (.int .i64 0)) rec PT.nil s) fun x24 s =>
 condV x24
 (opt2 (oFieldAddr 1 (.v x4) rec PT.nil s) fun x25 s =>
 opt2 (oLoad1 (.v x25) rec PT.nil s) fun x26 s =>
 opt2 (oBin (int2 mulO) (.v x23) (.v x26) rec PT.nil s) fun x27 s =>
 opt2 (oBin (int2 addO) (.v (orU (fs.get t7))) (.v x27) rec PT.nil s) fun x28 s =>
 opt2 (oBin (int2 addO) (.v (orU (fs.get t23))) (.v (.int .i64 1)) rec PT.nil s) fun x29 s =>
 some (.norm, (PT.put x29 t23 (PT.put x29 t61 (PT.put x28 t7 (PT.put x28 t60 (PT.put x27 t59 (PT.put x26 t58 (PT.put x25 t57 (PT.put x23 t56 (PT.put (orU (fs.get t7)) t55 (PT.put x24 t54 (PT.put x23 t53 (PT.put x23 t11 (PT.put x23 t52 (PT.put x22 t51 (PT.put (orU (fs.get t1)) t50 (PT.put x21 t49 (PT.put x20 t48 (PT.put x19 t47 (PT.put (orU (fs.get t2)) t46 (PT.put x18 t45 (PT.put x18 t10 (PT.put x18 t44 (PT.put x17 t43 (PT.put x16 t42 (PT.put x15 t41 (PT.put (orU (fs.get t23)) t40 (PT.put x14 t39 (PT.put x13 t38 (PT.put x12 t37 (PT.put (orU (fs.get t0)) t36 (PT.put x11 t35 (PT.put x10 t34 (PT.put x9 t33 (PT.put x8 t32 (PT.put x7 t31 (PT.put x6 t30 (PT.put (orU (fs.get t0)) t29 (PT.put (orU (fs.get t23)) t28 (PT.put (.int .i64 109573) t10 (PT.put (orU (fs.get t23)) t8 (PT.put x4 t9 (PT.put x3 t27 (PT.put x2 t26 (PT.put (orU (fs.get t23)) t25 (PT.put x1 t24 fs))))))))))))))))))))))))))))))))))))))))))))), s))
 (opt2 (oBin (int2 addO) (.v (orU (fs.get t23))) (.v (.int .i64 1)) rec PT.nil s) fun x30 s =>
 some (.norm, (PT.put x30 t23 (PT.put x30 t61 (PT.put x24 t54 (PT.put x23 t53 (PT.put x23 t11 (PT.put x23 t52 (PT.put x22 t51 (PT.put (orU (fs.get t1)) t50 (PT.put x21 t49 (PT.put x20 t48 (PT.put x19 t47 (PT.put (orU (fs.get t2)) t46 (PT.put x18 t45 (PT.put x18 t10 (PT.put x18 t44 (PT.put x17 t43 (PT.put x16 t42 (PT.put x15 t41 (PT.put (orU (fs.get t23)) t40 (PT.put x14 t39 (PT.put x13 t38 (PT.put x12 t37 (PT.put (orU (fs.get t0)) t36 (PT.put x11 t35 (PT.put x10 t34 (PT.put x9 t33 (PT.put x8 t32 (PT.put x7 t31 (PT.put x6 t30 (PT.put (orU (fs.get t0)) t29 (PT.put (orU (fs.get t23)) t28 (PT.put (.int .i64 109573) t10 (PT.put (orU (fs.get t23)) t8 (PT.put x4 t9 (PT.put x3 t27 (PT.put x2 t26 (PT.put (orU (fs.get t23)) t25 (PT.put x1 t24 fs)))))))))))))))))))))))))))))))))))))), s)))
 (opt2 (oMM false (.v (.int .i64 109573)) [(.v (orU (fs.get t2)))] rec PT.nil s) fun x31 s =>
 opt2 (oFieldAddr 0 (.v x4) rec PT.nil s) fun x32 s =>
 opt2 (oLoad1 (.v x32) rec PT.nil s) fun x33 s =>
 opt2 (oMM true (.v x33) [(.v (orU (fs.get t1)))] rec PT.nil s) fun x34 s =>
 opt2 (oBin (int2 subO) (.v x31) (.v x34) rec PT.nil s) fun x35 s =>
 opt2 (oBin (int2 (cmpO gtI)) (.v x35) (.v (.int .i64 0)) rec PT.nil s) fun x36 s =>
 condV x36
 (opt2 (oFieldAddr 1 (.v x4) rec PT.nil s) fun x37 s =>
 opt2 (oLoad1 (.v x37) rec PT.nil s) fun x38 s =>
 opt2 (oBin (int2 mulO) (.v x35) (.v x38) rec PT.nil s) fun x39 s =>
 opt2 (oBin (int2 addO) (.v (orU (fs.get t7))) (.v x39) rec PT.nil s) fun x40 s =>
 opt2 (oBin (int2 addO) (.v (orU (fs.get t23))) (.v (.int .i64 1)) rec PT.nil s) fun x41 s =>
 some (.norm, (PT.put x41 t23 (PT.put x41 t61 (PT.put x40 t7 (PT.put x40 t60 (PT.put x39 t59 (PT.put x38 t58 (PT.put x37 t57 (PT.put x35 t56 (PT.put (orU (fs.get t7)) t55 (PT.put x36 t54 (PT.put x35 t53 (PT.put x35 t11 (PT.put x35 t52 (PT.put x34 t51 (PT.put (orU (fs.get t1)) t50 (PT.put x33 t49 (PT.put x32 t48 (PT.put x31 t47 (PT.put (orU (fs.get t2)) t46 (PT.put (.int .i64 109573) t45 (PT.put x11 t35 (PT.put x10 t34 (PT.put x9 t33 (PT.put x8 t32 (PT.put x7 t31 (PT.put x6 t30 (PT.put (orU (fs.get t0)) t29 (PT.put (orU (fs.get t23)) t28 (PT.put (.int .i64 109573) t10 (PT.put (orU (fs.get t23)) t8 (PT.put x4 t9 (PT.put x3 t27 (PT.put x2 t26 (PT.put (orU (fs.get t23)) t25 (PT.put x1 t24 fs))))))))))))))))))))))))))))))))))), s))
 (opt2 (oBin (int2 addO) (.v (orU (fs.get t23))) (.v (.int .i64 1)) rec PT.nil s) fun x42 s =>
 some (.norm, (PT.put x42 t23 (PT.put x42 t61 (PT.put x36 t54 (PT.put x35 t53 (PT.put x35 t11 (PT.put x35 t52 (PT.put x34 t51 (PT.put (orU (fs.get t1)) t50 (PT.put x33 t49 (PT.put x32 t48 (PT.put x31 t47 (PT.put (orU (fs.get t2)) t46 (PT.put (.int .i64 109573) t45 (PT.put x11 t35 (PT.put x10 t34 (PT.put x9 t33 (PT.put x8 t32 (PT.put x7 t31 (PT.put x6 t30 (PT.put (orU (fs.get t0)) t29 (PT.put (orU (fs.get t23)) t28 (PT.put (.int .i64 109573) t10 (PT.put (orU (fs.get t23)) t8 (PT.put x4 t9 (PT.put x3 t27 (PT.put x2 t26 (PT.put (orU (fs.get t23)) t25 (PT.put x1 t24 fs)))))))))))))))))))))))))))), s))))
 (some ((.exit 0), (PT.put x1 t24 fs), s))
theorem d63_l0 (rec : Rec) (N : Nat) (fs : Frm) (s : St) : c63_l0 rec N fs s = D63_l0 rec N fs s := by
  simp (maxSteps := 4000000) only [c63_l0, call_f, lenN, x_reg, reg_n, reg_c, reg1_u, reg1_g, op2_cons, op2_bif, x_seq, x_ops, x_skip, x_ret, x_exit, x_cond, x_block, x_loop, ops_c, ops_n, op1_u, op1_gj, op2_op2, op2_op, op2_s, op2_cond, thenX_n, thenX_e, thenX_r, blkX_n, blkX_r, blkX_e, finX_r, finX_n, res_n, res_t, mov_f, op_s, Nat.beq_refl, cond_true]
  first | done | kernel_rfl
def D63_r0 (rec : Rec) (N : Nat) (fs : Frm) (s : St) : OutX := some (.ret, (PT.put (orU (fs.get t7)) t6 (PT.put (orU (fs.get t7)) t62 fs)), s)
theorem d63_r0 (rec : Rec) (N : Nat) (fs : Frm) (s : St) : c63_r0 rec N fs s = D63_r0 rec N fs s := by
  simp (maxSteps := 4000000) only [c63_r0, call_f, lenN, x_reg, reg_n, reg_c, reg1_u, reg1_g, op2_cons, op2_bif, x_seq, x_ops, x_skip, x_ret, x_exit, x_cond, x_block, x_loop, ops_c, ops_n, op1_u, op1_gj, op2_op2, op2_op, op2_s, op2_cond, thenX_n, thenX_e, thenX_r, blkX_n, blkX_r, blkX_e, finX_r, finX_n, res_n, res_t, mov_f, op_s, Nat.beq_refl, cond_true]
  first | done | kernel_rfl
def D63 (rec : Rec) (N : Nat) (a0 : Value) (a1 : Value) (a2 : Value) (s : St) : Out := opt2 (oMM true (.v a1) [(.v (.int .i64 0))] rec PT.nil s) fun x1 s =>
 opt2 (oMM false (.v x1) [(.v (.int .i64 109573))] rec PT.nil s) fun x2 s =>
 opt2 (oMM true (.v a2) [(.v (.int .i64 0))] rec PT.nil s) fun x3 s =>
 opt2 (oMM false (.v x3) [(.v (.int .i64 109573))] rec PT.nil s) fun x4 s =>
 opt2 (oNilCheck (.v a0) rec PT.nil s) fun x5 s =>
 opt2 (oFieldAddr 0 (.v x5) rec PT.nil s) fun x6 s =>
 opt2 (oLoad1 (.v x6) rec PT.nil s) fun x7 s =>
 opt2 (oLenL (.v x7) rec PT.nil s) fun x8 s =>
 opt2 (loopF (c63_l0 rec N) N (PT.put (.int .i64 0) t23 (PT.put x8 t22 (PT.put x7 t21 (PT.put x6 t20 (PT.put x5 t19 (PT.put a0 t18 (PT.put (.int .i64 0) t7 (PT.put x4 t2 (PT.put x2 t1 (PT.put x4 t17 (PT.put x3 t16 (PT.put a2 t15 (PT.put x2 t14 (PT.put x1 t13 (PT.put a1 t12 (PT.put (.int .i64 0) t6 (PT.put a2 t2 (PT.put a1 t1 (PT.put a0 t0 PT.nil))))))))))))))))))) s) fun e r => opt2 (blkX 0 e r) fun e r => opt2 (thenX (c63_r0 rec N) e r) fun e r => finX [.tmp t6] e r
theorem d63 (rec : Rec) (N : Nat) (a0 : Value) (a1 : Value) (a2 : Value) (s : St) : callF rec N c63 [a0, a1, a2] s = D63 rec N a0 a1 a2 s := by
  rw [call_f _ _ _ _ _ rfl]
  simp (maxSteps := 4000000) only [c63, x_reg, reg_n, reg_c, reg1_u, reg1_g, op2_cons, op2_bif, x_seq, x_ops, x_skip, x_ret, x_exit, x_cond, x_block, x_loop, ops_c, ops_n, op1_u, op1_gj, op2_op2, op2_op, op2_s, op2_cond, thenX_n, thenX_e, thenX_r, blkX_n, blkX_r, blkX_e, finX_r, finX_n, res_n, res_t, mov_f, op_s, Nat.beq_refl, cond_true]
  first | done | kernel_rfl
def D73_l0 (rec : Rec) (N : Nat) (fs : Frm) (s : St) : OutX := opt2 (oBin (int2 (cmpO ltI)) (.v (orU (fs.get t5))) (.v (orU (fs.get t6))) rec PT.nil s) fun x1 s =>
 condV x1
 (opt2 (oBin (int2 addO) (.v (orU (fs.get t5))) (.v (orU (fs.get t6))) rec PT.nil s) fun x2 s =>
 opt2 (oConv .u64 (.v x2) rec PT.nil s) fun x3 s =>
 opt2 (oBin (sh2 shrO) (.v x3) (.v (.int .u64 1)) rec PT.nil s) fun x4 s =>
 opt2 (oConv .i64 (.v x4) rec PT.nil s) fun x5 s =>
 opt2 (oCallV (.v (orU (fs.get t1))) [(.v x5)] rec PT.nil s) fun x6 s =>
 opt2 (oNot (.v x6) rec PT.nil s) fun x7 s =>
 condV x7
 (opt2 (oBin (int2 addO) (.v x5) (.v (.int .i64 1)) rec PT.nil s) fun x8 s =>
 some (.norm, (PT.put x8 t5 (PT.put x8 t23 (PT.put x5 t22 (PT.put x7 t21 (PT.put x6 t20 (PT.put x5 t19 (PT.put (orU (fs.get t1)) t18 (PT.put x5 t7 (PT.put x5 t17 (PT.put x4 t16 (PT.put x3 t15 (PT.put x2 t14 (PT.put (orU (fs.get t6)) t13 (PT.put (orU (fs.get t5)) t12 (PT.put x1 t11 (PT.put (orU (fs.get t6)) t10 (PT.put (orU (fs.get t5)) t9 fs))))))))))))))))), s))
 (some (.norm, (PT.put x5 t6 (PT.put x5 t24 (PT.put x7 t21 (PT.put x6 t20 (PT.put x5 t19 (PT.put (orU (fs.get t1)) t18 (PT.put x5 t7 (PT.put x5 t17 (PT.put x4 t16 (PT.put x3 t15 (PT.put x2 t14 (PT.put (orU (fs.get t6)) t13 (PT.put (orU (fs.get t5)) t12 (PT.put x1 t11 (PT.put (orU (fs.get t6)) t10 (PT.put (orU (fs.get t5)) t9 fs)))))))))))))))), s)))
 (some ((.exit 0), (PT.put x1 t11 (PT.put (orU (fs.get t6)) t10 (PT.put (orU (fs.get t5)) t9 fs))), s))
theorem d73_l0 (rec : Rec) (N : Nat) (fs : Frm) (s : St) : c73_l0 rec N fs s = D73_l0 rec N fs s := by
  simp (maxSteps := 4000000) only [c73_l0, call_f, lenN, x_reg, reg_n, reg_c, reg1_u, reg1_g, op2_cons, op2_bif, x_seq, x_ops, x_skip, x_ret, x_exit, x_cond, x_block, x_loop, ops_c, ops_n, op1_u, op1_gj, op2_op2, op2_op, op2_s, op2_cond, thenX_n, thenX_e, thenX_r, blkX_n, blkX_r, blkX_e, finX_r, finX_n, res_n, res_t, mov_f, op_s, Nat.beq_refl, cond_true]
  first | done | kernel_rfl
def D73_r0 (rec : Rec) (N : Nat) (fs : Frm) (s : St) : OutX := some (.ret, (PT.put (orU (fs.get t5)) t4 (PT.put (orU (fs.get t5)) t25 fs)), s)
theorem d73_r0 (rec : Rec) (N : Nat) (fs : Frm) (s : St) : c73_r0 rec N fs s = D73_r0 rec N fs s := by
  simp (maxSteps := 4000000) only [c73_r0, call_f, lenN, x_reg, reg_n, reg_c, reg1_u, reg1_g, op2_cons, op2_bif, x_seq, x_ops, x_skip, x_ret, x_exit, x_cond, x_block, x_loop, ops_c, ops_n, op1_u, op1_gj, op2_op2, op2_op, op2_s, op2_cond, thenX_n, thenX_e, thenX_r, blkX_n, blkX_r, blkX_e, finX_r, finX_n, res_n, res_t, mov_f, op_s, Nat.beq_refl, cond_true]
  first | done | kernel_rfl
def D73 (rec : Rec) (N : Nat) (a0 : Value) (a1 : Value) (s : St) : Out := opt2 (loopF (c73_l0 rec N) N (PT.put a0 t6 (PT.put (.int .i64 0) t5 (PT.put a0 t8 (PT.put (.int .i64 0) t4 (PT.put a1 t1 (PT.put a0 t0 PT.nil)))))) s) fun e r => opt2 (blkX 0 e r) fun e r => opt2 (thenX (c73_r0 rec N) e r) fun e r => finX [.tmp t4] e r
theorem d73 (rec : Rec) (N : Nat) (a0 : Value) (a1 : Value) (s : St) : callF rec N c73 [a0, a1] s = D73 rec N a0 a1 s := by
  rw [call_f _ _ _ _ _ rfl]
  simp (maxSteps := 4000000) only [c73, x_reg, reg_n, reg_c, reg1_u, reg1_g, op2_cons, op2_bif, x_seq, x_ops, x_skip, x_ret, x_exit, x_cond, x_block, x_loop, ops_c, ops_n, op1_u, op1_gj, op2_op2, op2_op, op2_s, op2_cond, thenX_n, thenX_e, thenX_r, blkX_n, blkX_r, blkX_e, finX_r, finX_n, res_n, res_t, mov_f, op_s, Nat.beq_refl, cond_true]
  first | done | kernel_rfl
def D74 (rec : Rec) (N : Nat) (a0 : Value) (a1 : Value) (a2 : Value) (s : St) : Out := opt2 (rU (oLoad1 (.v a1) rec PT.nil ⟨s.heap, s.next, 0, 0⟩) PT.nil s (some (.v a1))) fun x1 m1 =>
 (fun s => opt2 (rU (oNilCheck (.v x1) rec PT.nil ⟨s.heap, s.next, 0, 0⟩) PT.nil s none) fun x2 m2 =>
 (fun s => opt2 (rU (oFieldAddr 0 (.v x2) rec PT.nil ⟨s.heap, s.next, 0, 0⟩) PT.nil s none) fun x3 m3 =>
 (fun s => opt2 (rU (oLoad1 (.v x3) rec PT.nil ⟨s.heap, s.next, 0, 0⟩) PT.nil s (some (.v x3))) fun x4 m4 =>
 (fun s => opt2 (rU (oMov (.v a0) rec PT.nil ⟨s.heap, s.next, 0, 0⟩) PT.nil s none) fun x5 m5 =>
 (fun s => opt2 (rU (oIdxAddrL 2 (.v x4) (.v x5) rec PT.nil ⟨s.heap, s.next, 0, 0⟩) PT.nil s none) fun x6 m6 =>
 (fun s => opt2 (rU (oFieldAddr 0 (.v x6) rec PT.nil ⟨s.heap, s.next, 0, 0⟩) PT.nil s none) fun x7 m7 =>
 (fun s => opt2 (rU (oLoad1 (.v x7) rec PT.nil ⟨s.heap, s.next, 0, 0⟩) PT.nil s (some (.v x7))) fun x8 m8 =>
 (fun s => opt2 (rU (oLoad1 (.v a2) rec PT.nil ⟨s.heap, s.next, 0, 0⟩) PT.nil s (some (.v a2))) fun x9 m9 =>
 (fun s => opt2 (rU (oBin (int2 (cmpO gtI)) (.v x8) (.v x9) rec PT.nil ⟨s.heap, s.next, 0, 0⟩) PT.nil s none) fun x10 m10 =>
 (fun s => opt2 (rU (oMov (.v x10) rec PT.nil ⟨s.heap, s.next, 0, 0⟩) PT.nil s none) fun x11 m11 =>
 (fun s => bif apartAll [m1.1, m2.1, m3.1, m4.1, m5.1, m6.1, m7.1, m8.1, m9.1, m10.1, m11.1] [(0, 4), (1, 4), (2, 4), (3, 4), (0, 8), (1, 8), (2, 8), (3, 8), (4, 8), (5, 8), (6, 8), (7, 8)] then some (oneOf [x11], s) else none) m11.2) m10.2) m9.2) m8.2) m7.2) m6.2) m5.2) m4.2) m3.2) m2.2) m1.2
theorem d74 (rec : Rec) (N : Nat) (a0 : Value) (a1 : Value) (a2 : Value) (s : St) : callF rec N c74 [a0, a1, a2] s = D74 rec N a0 a1 a2 s := by
  rw [call_f _ _ _ _ _ rfl]
  simp (maxSteps := 4000000) only [c74, x_reg, reg_n, reg_c, reg1_u, reg1_g, op2_cons, op2_bif, x_seq, x_ops, x_skip, x_ret, x_exit, x_cond, x_block, x_loop, ops_c, ops_n, op1_u, op1_gj, op2_op2, op2_op, op2_s, op2_cond, thenX_n, thenX_e, thenX_r, blkX_n, blkX_r, blkX_e, finX_r, finX_n, res_n, res_t, mov_f, op_s, Nat.beq_refl, cond_true]
  first | done | kernel_rfl
end
end Go.Proofs.Ytdnedangfnincaa.AbsAccO
