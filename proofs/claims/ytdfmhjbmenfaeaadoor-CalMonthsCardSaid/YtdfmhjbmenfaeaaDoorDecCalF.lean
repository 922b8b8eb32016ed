import Derived.Test.YtdfmhjbmenfaeaaDoorAbsCalFE
import Derived.Test.YtdfmhjbmenfaeaaDoorAbsZF
namespace Go.Proofs.YtdfmhjbmenfaeaaDoor.AbsCalF
open Go Go.Abs Go.Proofs
set_option maxRecDepth 100000
set_option linter.unusedVariables false
set_option linter.unusedSimpArgs false
noncomputable section
def D7 (rec : Rec) (N : Nat) (a0 : Value) (a1 : Value) (s : St) : Out := opt2 (rec 10 [] s) fun x1 s =>
 opt2 (oNot (.v x1) rec PT.nil s) fun x2 s =>
 condV x2
 (some (oneOf [(.bool false)], s))
 (opt2 (rec 12 [a0, a1] s) fun x3 s =>
 opt2 (oExtract (.v x3) 0 rec PT.nil s) fun x4 s =>
 opt2 (oExtract (.v x3) 1 rec PT.nil s) fun x5 s =>
 opt2 (oNot (.v x5) rec PT.nil s) fun x6 s =>
 condV x6
 (some (oneOf [(.bool true)], s))
 (opt2 (oNeg (.v a1) rec PT.nil s) fun x7 s =>
 opt2 (rec 12 [x4, x7] s) fun x8 s =>
 opt2 (oExtract (.v x8) 0 rec PT.nil s) fun x9 s =>
 opt2 (oExtract (.v x8) 1 rec PT.nil s) fun x10 s =>
 opt2 (rec 14 [a0] s) fun x11 s =>
 opt2 (oExtract (.v x11) 0 rec PT.nil s) fun x12 s =>
 opt2 (oExtract (.v x11) 1 rec PT.nil s) fun x13 s =>
 opt2 (oExtract (.v x11) 2 rec PT.nil s) fun x14 s =>
 opt2 (oExtract (.v x11) 3 rec PT.nil s) fun x15 s =>
 opt2 (rec 14 [x4] s) fun x16 s =>
 opt2 (oExtract (.v x16) 0 rec PT.nil s) fun x17 s =>
 opt2 (oExtract (.v x16) 1 rec PT.nil s) fun x18 s =>
 opt2 (oExtract (.v x16) 2 rec PT.nil s) fun x19 s =>
 opt2 (oExtract (.v x16) 3 rec PT.nil s) fun x20 s =>
 opt2 (oNot (.v x10) rec PT.nil s) fun x21 s =>
 opt (gval false x21) fun x22 => opt2 (orUndef x22 (some (x9, s)) s) fun x23 s =>
 opt (gval false x21) fun x24 => opt2 (orUndef x24 (some (a0, s)) s) fun x25 s =>
 opt (gval false x21) fun x26 => opt2 (orUndef x26 (oBin (int2 (cmpO gtI)) (.v x23) (.v x25) rec PT.nil s) s) fun x27 s =>
 opt2 (oPick (.v x21) (.v (.bool true)) (.v x27) rec PT.nil s) fun x28 s =>
 opt (gval false x28) fun x29 => opt2 (orUndef x29 (some (x19, s)) s) fun x30 s =>
 opt (gval false x28) fun x31 => opt2 (orUndef x31 (some (x14, s)) s) fun x32 s =>
 opt (gval false x28) fun x33 => opt2 (orUndef x33 (oBin (int2 (cmpO gtI)) (.v x30) (.v x32) rec PT.nil s) s) fun x34 s =>
 opt2 (oPick (.v x28) (.v (.bool true)) (.v x34) rec PT.nil s) fun x35 s =>
 opt (gval false x35) fun x36 => opt2 (orUndef x36 (some (x19, s)) s) fun x37 s =>
 opt (gval false x35) fun x38 => opt2 (orUndef x38 (some (x14, s)) s) fun x39 s =>
 opt (gval false x35) fun x40 => opt2 (orUndef x40 (oBin (int2 (cmpO eqI)) (.v x37) (.v x39) rec PT.nil s) s) fun x41 s =>
 opt (gval false x35) fun x42 => opt2 (orUndef x42 (some (x41, s)) s) fun x43 s =>
 opt (gval true x43) fun x44 => opt2 (orUndef x44 (some (x9, s)) s) fun x45 s =>
 opt (gval true x43) fun x46 => opt2 (orUndef x46 (some (a0, s)) s) fun x47 s =>
 opt (gval true x43) fun x48 => opt2 (orUndef x48 (oBin (int2 (cmpO neI)) (.v x45) (.v x47) rec PT.nil s) s) fun x49 s =>
 opt (gval false x35) fun x50 => opt2 (orUndef x50 (oPick (.v x43) (.v x49) (.v (.bool false)) rec PT.nil s) s) fun x51 s =>
 opt2 (oPick (.v x35) (.v (.bool true)) (.v x51) rec PT.nil s) fun x52 s =>
 condV x52
 (some (oneOf [(.bool false)], s))
 (opt2 (rec 14 [a0] s) fun x53 s =>
 opt2 (oExtract (.v x53) 0 rec PT.nil s) fun x54 s =>
 opt2 (oExtract (.v x53) 1 rec PT.nil s) fun x55 s =>
 opt2 (oExtract (.v x53) 2 rec PT.nil s) fun x56 s =>
 opt2 (oExtract (.v x53) 3 rec PT.nil s) fun x57 s =>
 opt2 (rec 14 [x4] s) fun x58 s =>
 opt2 (oExtract (.v x58) 0 rec PT.nil s) fun x59 s =>
 opt2 (oExtract (.v x58) 1 rec PT.nil s) fun x60 s =>
 opt2 (oExtract (.v x58) 2 rec PT.nil s) fun x61 s =>
 opt2 (oExtract (.v x58) 3 rec PT.nil s) fun x62 s =>
 opt2 (oBin (int2 mulO) (.v (.int .i64 12)) (.v x59) rec PT.nil s) fun x63 s =>
 opt2 (oBin (int2 addO) (.v x63) (.v x60) rec PT.nil s) fun x64 s =>
 opt2 (oBin (int2 mulO) (.v (.int .i64 12)) (.v x54) rec PT.nil s) fun x65 s =>
 opt2 (oBin (int2 addO) (.v x65) (.v x55) rec PT.nil s) fun x66 s =>
 opt2 (oBin (int2 addO) (.v x66) (.v a1) rec PT.nil s) fun x67 s =>
 opt2 (oBin (int2 (cmpO eqI)) (.v x64) (.v x67) rec PT.nil s) fun x68 s =>
 some (oneOf [x68], s))))
theorem d7 (rec : Rec) (N : Nat) (a0 : Value) (a1 : Value) (s : St) : callF rec N c7 [a0, a1] s = D7 rec N a0 a1 s := by
  rw [call_f _ _ _ _ _ rfl]
  simp only [c7, x_seq, x_ops, x_skip, x_ret, x_exit, x_cond, x_block, x_loop, ops_c, ops_n, op1_u, op1_gj, op2_op2, op2_op, op2_s, op2_cond, thenX_n, thenX_e, thenX_r, blkX_n, blkX_r, blkX_e, finX_r, finX_n, res_n, res_t, mov_f, op_s, Nat.beq_refl, cond_true]
  first | done | kernel_rfl
def D9 (rec : Rec) (N : Nat) (a0 : Value) (s : St) : Out := opt2 (rec 10 [] s) fun x1 s =>
 opt2 (oNot (.v x1) rec PT.nil s) fun x2 s =>
 condV x2
 (some (oneOf [(.bool false)], s))
 (opt2 (rec 14 [a0] s) fun x3 s =>
 opt2 (oExtract (.v x3) 0 rec PT.nil s) fun x4 s =>
 opt2 (oExtract (.v x3) 1 rec PT.nil s) fun x5 s =>
 opt2 (oExtract (.v x3) 2 rec PT.nil s) fun x6 s =>
 opt2 (oExtract (.v x3) 3 rec PT.nil s) fun x7 s =>
 opt2 (rec 12 [a0, (.int .i64 12)] s) fun x8 s =>
 opt2 (oExtract (.v x8) 0 rec PT.nil s) fun x9 s =>
 opt2 (oExtract (.v x8) 1 rec PT.nil s) fun x10 s =>
 opt2 (oNot (.v x7) rec PT.nil s) fun x11 s =>
 opt (gval false x11) fun x12 => opt2 (orUndef x12 (some (x4, s)) s) fun x13 s =>
 opt (gval false x11) fun x14 => opt2 (orUndef x14 (oBin (int2 (cmpO eqI)) (.v x13) (.v (.int .i64 2199)) rec PT.nil s) s) fun x15 s =>
 opt2 (oPick (.v x11) (.v (.bool true)) (.v x15) rec PT.nil s) fun x16 s =>
 condV x16
 (opt2 (oNot (.v x7) rec PT.nil s) fun x17 s =>
 opt (gval false x17) fun x18 => opt2 (orUndef x18 (some (x10, s)) s) fun x19 s =>
 opt (gval false x17) fun x20 => opt2 (orUndef x20 (oNot (.v x19) rec PT.nil s) s) fun x21 s =>
 opt2 (oPick (.v x17) (.v (.bool true)) (.v x21) rec PT.nil s) fun x22 s =>
 some (oneOf [x22], s))
 (opt2 (rec 14 [x9] s) fun x23 s =>
 opt2 (oExtract (.v x23) 0 rec PT.nil s) fun x24 s =>
 opt2 (oExtract (.v x23) 1 rec PT.nil s) fun x25 s =>
 opt2 (oExtract (.v x23) 2 rec PT.nil s) fun x26 s =>
 opt2 (oExtract (.v x23) 3 rec PT.nil s) fun x27 s =>
 opt2 (oBin (int2 (cmpO eqI)) (.v x5) (.v (.int .i64 2)) rec PT.nil s) fun x28 s =>
 opt (gval true x28) fun x29 => opt2 (orUndef x29 (some (x6, s)) s) fun x30 s =>
 opt (gval true x28) fun x31 => opt2 (orUndef x31 (oBin (int2 (cmpO eqI)) (.v x30) (.v (.int .i64 29)) rec PT.nil s) s) fun x32 s =>
 opt2 (oPick (.v x28) (.v x32) (.v (.bool false)) rec PT.nil s) fun x33 s =>
 condV x33
 (opt (gval true x10) fun x34 => opt2 (orUndef x34 (some (x27, s)) s) fun x35 s =>
 opt2 (oPick (.v x10) (.v x35) (.v (.bool false)) rec PT.nil s) fun x36 s =>
 opt (gval true x36) fun x37 => opt2 (orUndef x37 (some (x24, s)) s) fun x38 s =>
 opt (gval true x36) fun x39 => opt2 (orUndef x39 (some (x4, s)) s) fun x40 s =>
 opt (gval true x36) fun x41 => opt2 (orUndef x41 (oBin (int2 addO) (.v x40) (.v (.int .i64 1)) rec PT.nil s) s) fun x42 s =>
 opt (gval true x36) fun x43 => opt2 (orUndef x43 (oBin (int2 (cmpO eqI)) (.v x38) (.v x42) rec PT.nil s) s) fun x44 s =>
 opt2 (oPick (.v x36) (.v x44) (.v (.bool false)) rec PT.nil s) fun x45 s =>
 opt (gval true x45) fun x46 => opt2 (orUndef x46 (some (x25, s)) s) fun x47 s =>
 opt (gval true x45) fun x48 => opt2 (orUndef x48 (oBin (int2 (cmpO eqI)) (.v x47) (.v (.int .i64 2)) rec PT.nil s) s) fun x49 s =>
 opt2 (oPick (.v x45) (.v x49) (.v (.bool false)) rec PT.nil s) fun x50 s =>
 opt (gval true x50) fun x51 => opt2 (orUndef x51 (some (x26, s)) s) fun x52 s =>
 opt (gval true x50) fun x53 => opt2 (orUndef x53 (oBin (int2 (cmpO eqI)) (.v x52) (.v (.int .i64 28)) rec PT.nil s) s) fun x54 s =>
 opt2 (oPick (.v x50) (.v x54) (.v (.bool false)) rec PT.nil s) fun x55 s =>
 some (oneOf [x55], s))
 (opt (gval true x10) fun x56 => opt2 (orUndef x56 (some (x27, s)) s) fun x57 s =>
 opt2 (oPick (.v x10) (.v x57) (.v (.bool false)) rec PT.nil s) fun x58 s =>
 opt (gval true x58) fun x59 => opt2 (orUndef x59 (some (x24, s)) s) fun x60 s =>
 opt (gval true x58) fun x61 => opt2 (orUndef x61 (some (x4, s)) s) fun x62 s =>
 opt (gval true x58) fun x63 => opt2 (orUndef x63 (oBin (int2 addO) (.v x62) (.v (.int .i64 1)) rec PT.nil s) s) fun x64 s =>
 opt (gval true x58) fun x65 => opt2 (orUndef x65 (oBin (int2 (cmpO eqI)) (.v x60) (.v x64) rec PT.nil s) s) fun x66 s =>
 opt2 (oPick (.v x58) (.v x66) (.v (.bool false)) rec PT.nil s) fun x67 s =>
 opt (gval true x67) fun x68 => opt2 (orUndef x68 (some (x25, s)) s) fun x69 s =>
 opt (gval true x67) fun x70 => opt2 (orUndef x70 (some (x5, s)) s) fun x71 s =>
 opt (gval true x67) fun x72 => opt2 (orUndef x72 (oBin (int2 (cmpO eqI)) (.v x69) (.v x71) rec PT.nil s) s) fun x73 s =>
 opt2 (oPick (.v x67) (.v x73) (.v (.bool false)) rec PT.nil s) fun x74 s =>
 opt (gval true x74) fun x75 => opt2 (orUndef x75 (some (x26, s)) s) fun x76 s =>
 opt (gval true x74) fun x77 => opt2 (orUndef x77 (some (x6, s)) s) fun x78 s =>
 opt (gval true x74) fun x79 => opt2 (orUndef x79 (oBin (int2 (cmpO eqI)) (.v x76) (.v x78) rec PT.nil s) s) fun x80 s =>
 opt2 (oPick (.v x74) (.v x80) (.v (.bool false)) rec PT.nil s) fun x81 s =>
 opt (gval true x81) fun x82 => opt2 (orUndef x82 (some (x9, s)) s) fun x83 s =>
 opt (gval true x81) fun x84 => opt2 (orUndef x84 (some (a0, s)) s) fun x85 s =>
 opt (gval true x81) fun x86 => opt2 (orUndef x86 (oBin (int2 subO) (.v x83) (.v x85) rec PT.nil s) s) fun x87 s =>
 opt (gval true x81) fun x88 => opt2 (orUndef x88 (oBin (int2 (cmpO eqI)) (.v x87) (.v (.int .i64 365)) rec PT.nil s) s) fun x89 s =>
 opt (gval true x81) fun x90 => opt2 (orUndef x90 (some (x89, s)) s) fun x91 s =>
 opt (gval false x91) fun x92 => opt2 (orUndef x92 (some (x9, s)) s) fun x93 s =>
 opt (gval false x91) fun x94 => opt2 (orUndef x94 (some (a0, s)) s) fun x95 s =>
 opt (gval false x91) fun x96 => opt2 (orUndef x96 (oBin (int2 subO) (.v x93) (.v x95) rec PT.nil s) s) fun x97 s =>
 opt (gval false x91) fun x98 => opt2 (orUndef x98 (oBin (int2 (cmpO eqI)) (.v x97) (.v (.int .i64 366)) rec PT.nil s) s) fun x99 s =>
 opt (gval true x81) fun x100 => opt2 (orUndef x100 (oPick (.v x91) (.v (.bool true)) (.v x99) rec PT.nil s) s) fun x101 s =>
 opt2 (oPick (.v x81) (.v x101) (.v (.bool false)) rec PT.nil s) fun x102 s =>
 some (oneOf [x102], s))))
theorem d9 (rec : Rec) (N : Nat) (a0 : Value) (s : St) : callF rec N c9 [a0] s = D9 rec N a0 s := by
  rw [call_f _ _ _ _ _ rfl]
  simp only [c9, x_seq, x_ops, x_skip, x_ret, x_exit, x_cond, x_block, x_loop, ops_c, ops_n, op1_u, op1_gj, op2_op2, op2_op, op2_s, op2_cond, thenX_n, thenX_e, thenX_r, blkX_n, blkX_r, blkX_e, finX_r, finX_n, res_n, res_t, mov_f, op_s, Nat.beq_refl, cond_true]
  first | done | kernel_rfl
def D10 (rec : Rec) (N : Nat) (s : St) : Out := opt2 (rec 11 [(.int .i64 2000), (.int .i64 3), (.int .i64 1)] s) fun x1 s =>
 opt2 (oExtract (.v x1) 0 rec PT.nil s) fun x2 s =>
 opt2 (oExtract (.v x1) 1 rec PT.nil s) fun x3 s =>
 opt2 (rec 11 [(.int .i64 2023), (.int .i64 1), (.int .i64 31)] s) fun x4 s =>
 opt2 (oExtract (.v x4) 0 rec PT.nil s) fun x5 s =>
 opt2 (oExtract (.v x4) 1 rec PT.nil s) fun x6 s =>
 opt2 (rec 12 [x5, (.int .i64 1)] s) fun x7 s =>
 opt2 (oExtract (.v x7) 0 rec PT.nil s) fun x8 s =>
 opt2 (oExtract (.v x7) 1 rec PT.nil s) fun x9 s =>
 opt2 (rec 14 [x8] s) fun x10 s =>
 opt2 (oExtract (.v x10) 0 rec PT.nil s) fun x11 s =>
 opt2 (oExtract (.v x10) 1 rec PT.nil s) fun x12 s =>
 opt2 (oExtract (.v x10) 2 rec PT.nil s) fun x13 s =>
 opt2 (oExtract (.v x10) 3 rec PT.nil s) fun x14 s =>
 opt2 (rec 13 [(.string ⟨⟨[49, 57, 48, 48, 45, 48, 49, 45, 48, 50]⟩⟩)] s) fun x15 s =>
 opt2 (oExtract (.v x15) 0 rec PT.nil s) fun x16 s =>
 opt2 (oExtract (.v x15) 1 rec PT.nil s) fun x17 s =>
 opt (gval true x3) fun x18 => opt2 (orUndef x18 (some (x2, s)) s) fun x19 s =>
 opt (gval true x3) fun x20 => opt2 (orUndef x20 (oBin (int2 (cmpO eqI)) (.v x19) (.v (.int .i64 36584)) rec PT.nil s) s) fun x21 s =>
 opt2 (oPick (.v x3) (.v x21) (.v (.bool false)) rec PT.nil s) fun x22 s =>
 opt (gval true x22) fun x23 => opt2 (orUndef x23 (some (x9, s)) s) fun x24 s =>
 opt2 (oPick (.v x22) (.v x24) (.v (.bool false)) rec PT.nil s) fun x25 s =>
 opt (gval true x25) fun x26 => opt2 (orUndef x26 (some (x14, s)) s) fun x27 s =>
 opt2 (oPick (.v x25) (.v x27) (.v (.bool false)) rec PT.nil s) fun x28 s =>
 opt (gval true x28) fun x29 => opt2 (orUndef x29 (some (x11, s)) s) fun x30 s =>
 opt (gval true x28) fun x31 => opt2 (orUndef x31 (oBin (int2 (cmpO eqI)) (.v x30) (.v (.int .i64 2023)) rec PT.nil s) s) fun x32 s =>
 opt2 (oPick (.v x28) (.v x32) (.v (.bool false)) rec PT.nil s) fun x33 s =>
 opt (gval true x33) fun x34 => opt2 (orUndef x34 (some (x12, s)) s) fun x35 s =>
 opt (gval true x33) fun x36 => opt2 (orUndef x36 (oBin (int2 (cmpO eqI)) (.v x35) (.v (.int .i64 2)) rec PT.nil s) s) fun x37 s =>
 opt2 (oPick (.v x33) (.v x37) (.v (.bool false)) rec PT.nil s) fun x38 s =>
 opt (gval true x38) fun x39 => opt2 (orUndef x39 (some (x13, s)) s) fun x40 s =>
 opt (gval true x38) fun x41 => opt2 (orUndef x41 (oBin (int2 (cmpO eqI)) (.v x40) (.v (.int .i64 28)) rec PT.nil s) s) fun x42 s =>
 opt2 (oPick (.v x38) (.v x42) (.v (.bool false)) rec PT.nil s) fun x43 s =>
 opt (gval true x43) fun x44 => opt2 (orUndef x44 (rec 15 [(.int .i64 0)] s) s) fun x45 s =>
 opt (gval true x43) fun x46 => opt2 (orUndef x46 (oBin (str2 (cmpS eqBytes)) (.v x45) (.v (.string ⟨⟨[49, 57, 48, 48, 45, 48, 49, 45, 48, 49]⟩⟩)) rec PT.nil s) s) fun x47 s =>
 opt2 (oPick (.v x43) (.v x47) (.v (.bool false)) rec PT.nil s) fun x48 s =>
 opt (gval true x48) fun x49 => opt2 (orUndef x49 (some (x17, s)) s) fun x50 s =>
 opt2 (oPick (.v x48) (.v x50) (.v (.bool false)) rec PT.nil s) fun x51 s =>
 opt (gval true x51) fun x52 => opt2 (orUndef x52 (some (x16, s)) s) fun x53 s =>
 opt (gval true x51) fun x54 => opt2 (orUndef x54 (oBin (int2 (cmpO eqI)) (.v x53) (.v (.int .i64 1)) rec PT.nil s) s) fun x55 s =>
 opt2 (oPick (.v x51) (.v x55) (.v (.bool false)) rec PT.nil s) fun x56 s =>
 opt (gval true x56) fun x57 => opt2 (orUndef x57 (rec 16 [(.int .i64 0)] s) s) fun x58 s =>
 opt (gval true x56) fun x59 => opt2 (orUndef x59 (oBin (int2 (cmpO eqI)) (.v x58) (.v (.int .i64 0)) rec PT.nil s) s) fun x60 s =>
 opt2 (oPick (.v x56) (.v x60) (.v (.bool false)) rec PT.nil s) fun x61 s =>
 opt (gval true x61) fun x62 => opt2 (orUndef x62 (rec 22 [(.int .i64 2000)] s) s) fun x63 s =>
 opt2 (oPick (.v x61) (.v x63) (.v (.bool false)) rec PT.nil s) fun x64 s =>
 opt (gval true x64) fun x65 => opt2 (orUndef x65 (rec 22 [(.int .i64 1900)] s) s) fun x66 s =>
 opt (gval true x64) fun x67 => opt2 (orUndef x67 (oNot (.v x66) rec PT.nil s) s) fun x68 s =>
 opt2 (oPick (.v x64) (.v x68) (.v (.bool false)) rec PT.nil s) fun x69 s =>
 opt (gval true x69) fun x70 => opt2 (orUndef x70 (rec 17 [(.int .i64 2024), (.int .i64 2)] s) s) fun x71 s =>
 opt (gval true x69) fun x72 => opt2 (orUndef x72 (oBin (int2 (cmpO eqI)) (.v x71) (.v (.int .i64 29)) rec PT.nil s) s) fun x73 s =>
 opt2 (oPick (.v x69) (.v x73) (.v (.bool false)) rec PT.nil s) fun x74 s =>
 some (oneOf [x74], s)
theorem d10 (rec : Rec) (N : Nat) (s : St) : callF rec N c10 [] s = D10 rec N s := by
  rw [call_f _ _ _ _ _ rfl]
  simp only [c10, x_seq, x_ops, x_skip, x_ret, x_exit, x_cond, x_block, x_loop, ops_c, ops_n, op1_u, op1_gj, op2_op2, op2_op, op2_s, op2_cond, thenX_n, thenX_e, thenX_r, blkX_n, blkX_r, blkX_e, finX_r, finX_n, res_n, res_t, mov_f, op_s, Nat.beq_refl, cond_true]
  first | done | kernel_rfl
def D11_l0 (rec : Rec) (N : Nat) (fs : Frm) (s : St) : OutX := opt2 (oBin (int2 (cmpO ltI)) (.v (orU (fs.get t9))) (.v (orU (fs.get t1))) rec PT.nil s) fun x1 s =>
 condV x1
 (opt2 (rec 17 [(orU (fs.get t0)), (orU (fs.get t9))] s) fun x2 s =>
 opt2 (oBin (int2 addO) (.v (orU (fs.get t8))) (.v x2) rec PT.nil s) fun x3 s =>
 opt2 (oBin (int2 addO) (.v (orU (fs.get t9))) (.v (.int .i64 1)) rec PT.nil s) fun x4 s =>
 some (.norm, (PT.put x4 t9 (PT.put x4 t33 (PT.put (orU (fs.get t9)) t32 (PT.put x3 t8 (PT.put x3 t38 (PT.put x2 t37 (PT.put (orU (fs.get t9)) t36 (PT.put (orU (fs.get t0)) t35 (PT.put (orU (fs.get t8)) t34 (PT.put x1 t31 (PT.put (orU (fs.get t1)) t30 (PT.put (orU (fs.get t9)) t29 fs)))))))))))), s))
 (some ((.exit 0), (PT.put x1 t31 (PT.put (orU (fs.get t1)) t30 (PT.put (orU (fs.get t9)) t29 fs))), s))
theorem d11_l0 (rec : Rec) (N : Nat) (fs : Frm) (s : St) : c11_l0 rec N fs s = D11_l0 rec N fs s := by
  simp only [c11_l0, call_f, lenN, x_seq, x_ops, x_skip, x_ret, x_exit, x_cond, x_block, x_loop, ops_c, ops_n, op1_u, op1_gj, op2_op2, op2_op, op2_s, op2_cond, thenX_n, thenX_e, thenX_r, blkX_n, blkX_r, blkX_e, finX_r, finX_n, res_n, res_t, mov_f, op_s, Nat.beq_refl, cond_true]
  first | done | kernel_rfl
def D11_r0 (rec : Rec) (N : Nat) (fs : Frm) (s : St) : OutX := opt2 (oBin (int2 addO) (.v (orU (fs.get t8))) (.v (orU (fs.get t2))) rec PT.nil s) fun x1 s =>
 opt2 (oBin (int2 subO) (.v x1) (.v (.int .i64 1)) rec PT.nil s) fun x2 s =>
 some (.ret, (PT.put (.bool true) t7 (PT.put x2 t6 (PT.put x2 t42 (PT.put x1 t41 (PT.put (orU (fs.get t2)) t40 (PT.put (orU (fs.get t8)) t39 fs)))))), s)
theorem d11_r0 (rec : Rec) (N : Nat) (fs : Frm) (s : St) : c11_r0 rec N fs s = D11_r0 rec N fs s := by
  simp only [c11_r0, call_f, lenN, x_seq, x_ops, x_skip, x_ret, x_exit, x_cond, x_block, x_loop, ops_c, ops_n, op1_u, op1_gj, op2_op2, op2_op, op2_s, op2_cond, thenX_n, thenX_e, thenX_r, blkX_n, blkX_r, blkX_e, finX_r, finX_n, res_n, res_t, mov_f, op_s, Nat.beq_refl, cond_true]
  first | done | kernel_rfl
def D11 (rec : Rec) (N : Nat) (a0 : Value) (a1 : Value) (a2 : Value) (s : St) : Out := opt2 (oBin (int2 (cmpO ltI)) (.v a0) (.v (.int .i64 1900)) rec PT.nil s) fun x1 s =>
 opt (gval false x1) fun x2 => opt2 (orUndef x2 (some (a0, s)) s) fun x3 s =>
 opt (gval false x1) fun x4 => opt2 (orUndef x4 (oBin (int2 (cmpO gtI)) (.v x3) (.v (.int .i64 2199)) rec PT.nil s) s) fun x5 s =>
 opt2 (oPick (.v x1) (.v (.bool true)) (.v x5) rec PT.nil s) fun x6 s =>
 opt (gval false x6) fun x7 => opt2 (orUndef x7 (some (a2, s)) s) fun x8 s =>
 opt (gval false x6) fun x9 => opt2 (orUndef x9 (oBin (int2 (cmpO ltI)) (.v x8) (.v (.int .i64 1)) rec PT.nil s) s) fun x10 s =>
 opt2 (oPick (.v x6) (.v (.bool true)) (.v x10) rec PT.nil s) fun x11 s =>
 opt (gval false x11) fun x12 => opt2 (orUndef x12 (some (a2, s)) s) fun x13 s =>
 opt (gval false x11) fun x14 => opt2 (orUndef x14 (some (a0, s)) s) fun x15 s =>
 opt (gval false x11) fun x16 => opt2 (orUndef x16 (some (a1, s)) s) fun x17 s =>
 opt (gval false x11) fun x18 => opt2 (orUndef x18 (rec 17 [x15, x17] s) s) fun x19 s =>
 opt (gval false x11) fun x20 => opt2 (orUndef x20 (oBin (int2 (cmpO gtI)) (.v x13) (.v x19) rec PT.nil s) s) fun x21 s =>
 opt2 (oPick (.v x11) (.v (.bool true)) (.v x21) rec PT.nil s) fun x22 s =>
 condV x22
 (some (oneOf [(.int .i64 0), (.bool false)], s))
 (opt2 (rec 26 [a0] s) fun x23 s =>
 opt2 (loopF (c11_l0 rec N) N (PT.put (.int .i64 1) t9 (PT.put x23 t8 (PT.put x23 t28 (PT.put a0 t27 (PT.put x22 t26 (PT.put x21 t25 (PT.put x19 t24 (PT.put x17 t23 (PT.put x15 t22 (PT.put x13 t21 (PT.put x11 t20 (PT.put x11 t19 (PT.put x10 t18 (PT.put x8 t17 (PT.put x6 t16 (PT.put x6 t15 (PT.put x5 t14 (PT.put x3 t13 (PT.put x1 t12 (PT.put x1 t11 (PT.put a0 t10 (PT.put (.bool false) t7 (PT.put (.int .i64 0) t6 (PT.put a2 t2 (PT.put a1 t1 (PT.put a0 t0 PT.nil)))))))))))))))))))))))))) s) fun e r => opt2 (blkX 0 e r) fun e r => opt2 (thenX (c11_r0 rec N) e r) fun e r => finX [.tmp t6, .tmp t7] e r)
theorem d11 (rec : Rec) (N : Nat) (a0 : Value) (a1 : Value) (a2 : Value) (s : St) : callF rec N c11 [a0, a1, a2] s = D11 rec N a0 a1 a2 s := by
  rw [call_f _ _ _ _ _ rfl]
  simp only [c11, x_seq, x_ops, x_skip, x_ret, x_exit, x_cond, x_block, x_loop, ops_c, ops_n, op1_u, op1_gj, op2_op2, op2_op, op2_s, op2_cond, thenX_n, thenX_e, thenX_r, blkX_n, blkX_r, blkX_e, finX_r, finX_n, res_n, res_t, mov_f, op_s, Nat.beq_refl, cond_true]
  first | done | kernel_rfl
def D12 (rec : Rec) (N : Nat) (a0 : Value) (a1 : Value) (s : St) : Out := opt2 (rec 14 [a0] s) fun x1 s =>
 opt2 (oExtract (.v x1) 0 rec PT.nil s) fun x2 s =>
 opt2 (oExtract (.v x1) 1 rec PT.nil s) fun x3 s =>
 opt2 (oExtract (.v x1) 2 rec PT.nil s) fun x4 s =>
 opt2 (oExtract (.v x1) 3 rec PT.nil s) fun x5 s =>
 opt2 (oNot (.v x5) rec PT.nil s) fun x6 s =>
 opt (gval false x6) fun x7 => opt2 (orUndef x7 (some (a1, s)) s) fun x8 s =>
 opt (gval false x6) fun x9 => opt2 (orUndef x9 (oBin (int2 (cmpO ltI)) (.v x8) (.v (.int .i64 (-3600))) rec PT.nil s) s) fun x10 s =>
 opt2 (oPick (.v x6) (.v (.bool true)) (.v x10) rec PT.nil s) fun x11 s =>
 opt (gval false x11) fun x12 => opt2 (orUndef x12 (some (a1, s)) s) fun x13 s =>
 opt (gval false x11) fun x14 => opt2 (orUndef x14 (oBin (int2 (cmpO gtI)) (.v x13) (.v (.int .i64 3600)) rec PT.nil s) s) fun x15 s =>
 opt2 (oPick (.v x11) (.v (.bool true)) (.v x15) rec PT.nil s) fun x16 s =>
 condV x16
 (some (oneOf [(.int .i64 0), (.bool false)], s))
 (opt2 (oBin (int2 subO) (.v x2) (.v (.int .i64 1900)) rec PT.nil s) fun x17 s =>
 opt2 (oBin (int2 mulO) (.v x17) (.v (.int .i64 12)) rec PT.nil s) fun x18 s =>
 opt2 (oBin (int2 addO) (.v x18) (.v x3) rec PT.nil s) fun x19 s =>
 opt2 (oBin (int2 subO) (.v x19) (.v (.int .i64 1)) rec PT.nil s) fun x20 s =>
 opt2 (oBin (int2 addO) (.v x20) (.v a1) rec PT.nil s) fun x21 s =>
 opt2 (oBin (int2 (cmpO ltI)) (.v x21) (.v (.int .i64 0)) rec PT.nil s) fun x22 s =>
 opt (gval false x22) fun x23 => opt2 (orUndef x23 (some (x21, s)) s) fun x24 s =>
 opt (gval false x22) fun x25 => opt2 (orUndef x25 (oBin (int2 (cmpO geI)) (.v x24) (.v (.int .i64 3600)) rec PT.nil s) s) fun x26 s =>
 opt2 (oPick (.v x22) (.v (.bool true)) (.v x26) rec PT.nil s) fun x27 s =>
 condV x27
 (some (oneOf [(.int .i64 0), (.bool false)], s))
 (opt2 (oBin (int2 quoO) (.v x21) (.v (.int .i64 12)) rec PT.nil s) fun x28 s =>
 opt2 (oBin (int2 addO) (.v (.int .i64 1900)) (.v x28) rec PT.nil s) fun x29 s =>
 opt2 (oBin (int2 remO) (.v x21) (.v (.int .i64 12)) rec PT.nil s) fun x30 s =>
 opt2 (oBin (int2 addO) (.v x30) (.v (.int .i64 1)) rec PT.nil s) fun x31 s =>
 opt2 (rec 17 [x29, x31] s) fun x32 s =>
 opt2 (oMM false (.v x4) [(.v x32)] rec PT.nil s) fun x33 s =>
 opt2 (rec 11 [x29, x31, x33] s) fun x34 s =>
 opt2 (oExtract (.v x34) 0 rec PT.nil s) fun x35 s =>
 opt2 (oExtract (.v x34) 1 rec PT.nil s) fun x36 s =>
 some (oneOf [x35, x36], s)))
theorem d12 (rec : Rec) (N : Nat) (a0 : Value) (a1 : Value) (s : St) : callF rec N c12 [a0, a1] s = D12 rec N a0 a1 s := by
  rw [call_f _ _ _ _ _ rfl]
  simp only [c12, x_seq, x_ops, x_skip, x_ret, x_exit, x_cond, x_block, x_loop, ops_c, ops_n, op1_u, op1_gj, op2_op2, op2_op, op2_s, op2_cond, thenX_n, thenX_e, thenX_r, blkX_n, blkX_r, blkX_e, finX_r, finX_n, res_n, res_t, mov_f, op_s, Nat.beq_refl, cond_true]
  first | done | kernel_rfl
-- c13: not opened
def D14_l0 (rec : Rec) (N : Nat) (fs : Frm) (s : St) : OutX := opt2 (oBin (int2 (cmpO ltI)) (.v (orU (fs.get t2))) (.v (.int .i64 2199)) rec PT.nil s) fun x1 s =>
 opt (gval true x1) fun x2 => opt2 (orUndef x2 (some ((orU (fs.get t2)), s)) s) fun x3 s =>
 opt (gval true x1) fun x4 => opt2 (orUndef x4 (oBin (int2 addO) (.v x3) (.v (.int .i64 1)) rec PT.nil s) s) fun x5 s =>
 opt (gval true x1) fun x6 => opt2 (orUndef x6 (rec 26 [x5] s) s) fun x7 s =>
 opt (gval true x1) fun x8 => opt2 (orUndef x8 (some ((orU (fs.get t0)), s)) s) fun x9 s =>
 opt (gval true x1) fun x10 => opt2 (orUndef x10 (oBin (int2 (cmpO leI)) (.v x7) (.v x9) rec PT.nil s) s) fun x11 s =>
 opt2 (oPick (.v x1) (.v x11) (.v (.bool false)) rec PT.nil s) fun x12 s =>
 condV x12
 (opt2 (oBin (int2 addO) (.v (orU (fs.get t2))) (.v (.int .i64 1)) rec PT.nil s) fun x13 s =>
 some (.norm, (PT.put x13 t2 (PT.put x13 t19 (PT.put (orU (fs.get t2)) t18 (PT.put x12 t17 (PT.put x11 t16 (PT.put x9 t15 (PT.put x7 t14 (PT.put x5 t13 (PT.put x3 t12 (PT.put x1 t11 (PT.put x1 t10 (PT.put (orU (fs.get t2)) t9 fs)))))))))))), s))
 (some ((.exit 0), (PT.put x12 t17 (PT.put x11 t16 (PT.put x9 t15 (PT.put x7 t14 (PT.put x5 t13 (PT.put x3 t12 (PT.put x1 t11 (PT.put x1 t10 (PT.put (orU (fs.get t2)) t9 fs))))))))), s))
theorem d14_l0 (rec : Rec) (N : Nat) (fs : Frm) (s : St) : c14_l0 rec N fs s = D14_l0 rec N fs s := by
  simp only [c14_l0, call_f, lenN, x_seq, x_ops, x_skip, x_ret, x_exit, x_cond, x_block, x_loop, ops_c, ops_n, op1_u, op1_gj, op2_op2, op2_op, op2_s, op2_cond, thenX_n, thenX_e, thenX_r, blkX_n, blkX_r, blkX_e, finX_r, finX_n, res_n, res_t, mov_f, op_s, Nat.beq_refl, cond_true]
  first | done | kernel_rfl
def D14_l1 (rec : Rec) (N : Nat) (fs : Frm) (s : St) : OutX := opt2 (rec 17 [(orU (fs.get t2)), (orU (fs.get t3))] s) fun x1 s =>
 opt2 (oBin (int2 (cmpO geI)) (.v (orU (fs.get t0))) (.v x1) rec PT.nil s) fun x2 s =>
 condV x2
 (opt2 (rec 17 [(orU (fs.get t2)), (orU (fs.get t3))] s) fun x3 s =>
 opt2 (oBin (int2 subO) (.v (orU (fs.get t0))) (.v x3) rec PT.nil s) fun x4 s =>
 opt2 (oBin (int2 addO) (.v (orU (fs.get t3))) (.v (.int .i64 1)) rec PT.nil s) fun x5 s =>
 some (.norm, (PT.put x5 t3 (PT.put x5 t35 (PT.put (orU (fs.get t3)) t34 (PT.put x4 t0 (PT.put x4 t33 (PT.put x3 t32 (PT.put (orU (fs.get t3)) t31 (PT.put (orU (fs.get t2)) t30 (PT.put (orU (fs.get t0)) t29 (PT.put x2 t28 (PT.put x1 t27 (PT.put (orU (fs.get t3)) t26 (PT.put (orU (fs.get t2)) t25 (PT.put (orU (fs.get t0)) t24 fs)))))))))))))), s))
 (some ((.exit 2), (PT.put x2 t28 (PT.put x1 t27 (PT.put (orU (fs.get t3)) t26 (PT.put (orU (fs.get t2)) t25 (PT.put (orU (fs.get t0)) t24 fs))))), s))
theorem d14_l1 (rec : Rec) (N : Nat) (fs : Frm) (s : St) : c14_l1 rec N fs s = D14_l1 rec N fs s := by
  simp only [c14_l1, call_f, lenN, x_seq, x_ops, x_skip, x_ret, x_exit, x_cond, x_block, x_loop, ops_c, ops_n, op1_u, op1_gj, op2_op2, op2_op, op2_s, op2_cond, thenX_n, thenX_e, thenX_r, blkX_n, blkX_r, blkX_e, finX_r, finX_n, res_n, res_t, mov_f, op_s, Nat.beq_refl, cond_true]
  first | done | kernel_rfl
def D14_r0 (rec : Rec) (N : Nat) (fs : Frm) (s : St) : OutX := opt2 (oBin (int2 addO) (.v (orU (fs.get t0))) (.v (.int .i64 1)) rec PT.nil s) fun x1 s =>
 some (.ret, (PT.put (.bool true) t5 (PT.put x1 t4 (PT.put (orU (fs.get t3)) t3 (PT.put (orU (fs.get t2)) t2 (PT.put x1 t39 (PT.put (orU (fs.get t0)) t38 (PT.put (orU (fs.get t3)) t37 (PT.put (orU (fs.get t2)) t36 fs)))))))), s)
theorem d14_r0 (rec : Rec) (N : Nat) (fs : Frm) (s : St) : c14_r0 rec N fs s = D14_r0 rec N fs s := by
  simp only [c14_r0, call_f, lenN, x_seq, x_ops, x_skip, x_ret, x_exit, x_cond, x_block, x_loop, ops_c, ops_n, op1_u, op1_gj, op2_op2, op2_op, op2_s, op2_cond, thenX_n, thenX_e, thenX_r, blkX_n, blkX_r, blkX_e, finX_r, finX_n, res_n, res_t, mov_f, op_s, Nat.beq_refl, cond_true]
  first | done | kernel_rfl
def D14_r1 (rec : Rec) (N : Nat) (fs : Frm) (s : St) : OutX := opt2 (rec 26 [(orU (fs.get t2))] s) fun x1 s =>
 opt2 (oBin (int2 subO) (.v (orU (fs.get t0))) (.v x1) rec PT.nil s) fun x2 s =>
 opt2 (loopF (c14_l1 rec N) N (PT.put (.int .i64 1) t3 (PT.put x2 t0 (PT.put x2 t23 (PT.put x1 t22 (PT.put (orU (fs.get t2)) t21 (PT.put (orU (fs.get t0)) t20 fs)))))) s) fun e r => opt2 (blkX 2 e r) fun e r => thenX (c14_r0 rec N) e r
theorem d14_r1 (rec : Rec) (N : Nat) (fs : Frm) (s : St) : c14_r1 rec N fs s = D14_r1 rec N fs s := by
  simp only [c14_r1, call_f, lenN, x_seq, x_ops, x_skip, x_ret, x_exit, x_cond, x_block, x_loop, ops_c, ops_n, op1_u, op1_gj, op2_op2, op2_op, op2_s, op2_cond, thenX_n, thenX_e, thenX_r, blkX_n, blkX_r, blkX_e, finX_r, finX_n, res_n, res_t, mov_f, op_s, Nat.beq_refl, cond_true]
  first | done | kernel_rfl
def D14 (rec : Rec) (N : Nat) (a0 : Value) (s : St) : Out := opt2 (rec 28 [a0] s) fun x1 s =>
 opt2 (oNot (.v x1) rec PT.nil s) fun x2 s =>
 condV x2
 (some (oneOf [(.int .i64 0), (.int .i64 0), (.int .i64 0), (.bool false)], s))
 (opt2 (loopF (c14_l0 rec N) N (PT.put (.int .i64 1900) t2 (PT.put x2 t8 (PT.put x1 t7 (PT.put a0 t6 (PT.put (.bool false) t5 (PT.put (.int .i64 0) t4 (PT.put (.int .i64 0) t3 (PT.put (.int .i64 0) t2 (PT.put a0 t0 PT.nil))))))))) s) fun e r => opt2 (blkX 0 e r) fun e r => opt2 (thenX (c14_r1 rec N) e r) fun e r => finX [.tmp t2, .tmp t3, .tmp t4, .tmp t5] e r)
theorem d14 (rec : Rec) (N : Nat) (a0 : Value) (s : St) : callF rec N c14 [a0] s = D14 rec N a0 s := by
  rw [call_f _ _ _ _ _ rfl]
  simp only [c14, x_seq, x_ops, x_skip, x_ret, x_exit, x_cond, x_block, x_loop, ops_c, ops_n, op1_u, op1_gj, op2_op2, op2_op, op2_s, op2_cond, thenX_n, thenX_e, thenX_r, blkX_n, blkX_r, blkX_e, finX_r, finX_n, res_n, res_t, mov_f, op_s, Nat.beq_refl, cond_true]
  first | done | kernel_rfl
def D15 (rec : Rec) (N : Nat) (a0 : Value) (s : St) : Out := opt2 (rec 14 [a0] s) fun x1 s =>
 opt2 (oExtract (.v x1) 0 rec PT.nil s) fun x2 s =>
 opt2 (oExtract (.v x1) 1 rec PT.nil s) fun x3 s =>
 opt2 (oExtract (.v x1) 2 rec PT.nil s) fun x4 s =>
 opt2 (oExtract (.v x1) 3 rec PT.nil s) fun x5 s =>
 opt2 (oNot (.v x5) rec PT.nil s) fun x6 s =>
 condV x6
 (some (oneOf [(.string ⟨⟨[]⟩⟩)], s))
 (opt2 (rec 29 [x2, (.int .i64 4)] s) fun x7 s =>
 opt2 (oBin (str2 catO) (.v x7) (.v (.string ⟨⟨[45]⟩⟩)) rec PT.nil s) fun x8 s =>
 opt2 (rec 29 [x3, (.int .i64 2)] s) fun x9 s =>
 opt2 (oBin (str2 catO) (.v x8) (.v x9) rec PT.nil s) fun x10 s =>
 opt2 (oBin (str2 catO) (.v x10) (.v (.string ⟨⟨[45]⟩⟩)) rec PT.nil s) fun x11 s =>
 opt2 (rec 29 [x4, (.int .i64 2)] s) fun x12 s =>
 opt2 (oBin (str2 catO) (.v x11) (.v x12) rec PT.nil s) fun x13 s =>
 some (oneOf [x13], s))
theorem d15 (rec : Rec) (N : Nat) (a0 : Value) (s : St) : callF rec N c15 [a0] s = D15 rec N a0 s := by
  rw [call_f _ _ _ _ _ rfl]
  simp only [c15, x_seq, x_ops, x_skip, x_ret, x_exit, x_cond, x_block, x_loop, ops_c, ops_n, op1_u, op1_gj, op2_op2, op2_op, op2_s, op2_cond, thenX_n, thenX_e, thenX_r, blkX_n, blkX_r, blkX_e, finX_r, finX_n, res_n, res_t, mov_f, op_s, Nat.beq_refl, cond_true]
  first | done | kernel_rfl
def D16 (rec : Rec) (N : Nat) (a0 : Value) (s : St) : Out := opt2 (rec 28 [a0] s) fun x1 s =>
 opt2 (oNot (.v x1) rec PT.nil s) fun x2 s =>
 condV x2
 (some (oneOf [(.int .i64 (-1))], s))
 (opt2 (oBin (int2 remO) (.v a0) (.v (.int .i64 7)) rec PT.nil s) fun x3 s =>
 some (oneOf [x3], s))
theorem d16 (rec : Rec) (N : Nat) (a0 : Value) (s : St) : callF rec N c16 [a0] s = D16 rec N a0 s := by
  rw [call_f _ _ _ _ _ rfl]
  simp only [c16, x_seq, x_ops, x_skip, x_ret, x_exit, x_cond, x_block, x_loop, ops_c, ops_n, op1_u, op1_gj, op2_op2, op2_op, op2_s, op2_cond, thenX_n, thenX_e, thenX_r, blkX_n, blkX_r, blkX_e, finX_r, finX_n, res_n, res_t, mov_f, op_s, Nat.beq_refl, cond_true]
  first | done | kernel_rfl
def D17 (rec : Rec) (N : Nat) (a0 : Value) (a1 : Value) (s : St) : Out := opt2 (oBin (int2 (cmpO eqI)) (.v a1) (.v (.int .i64 2)) rec PT.nil s) fun x1 s =>
 condV x1
 (opt2 (rec 22 [a0] s) fun x2 s =>
 condV x2
 (some (oneOf [(.int .i64 29)], s))
 (some (oneOf [(.int .i64 28)], s)))
 (opt2 (oBin (int2 (cmpO eqI)) (.v a1) (.v (.int .i64 4)) rec PT.nil s) fun x3 s =>
 condV x3
 (condV x3
 (some (oneOf [(.int .i64 30)], s))
 (opt2 (oBin (int2 (cmpO eqI)) (.v a1) (.v (.int .i64 1)) rec PT.nil s) fun x4 s =>
 condV x4
 (condV x4
 (some (oneOf [(.int .i64 31)], s))
 (some (oneOf [(.int .i64 0)], s)))
 (opt2 (oBin (int2 (cmpO eqI)) (.v a1) (.v (.int .i64 3)) rec PT.nil s) fun x5 s =>
 condV x5
 (condV x5
 (some (oneOf [(.int .i64 31)], s))
 (some (oneOf [(.int .i64 0)], s)))
 (opt2 (oBin (int2 (cmpO eqI)) (.v a1) (.v (.int .i64 5)) rec PT.nil s) fun x6 s =>
 condV x6
 (condV x6
 (some (oneOf [(.int .i64 31)], s))
 (some (oneOf [(.int .i64 0)], s)))
 (opt2 (oBin (int2 (cmpO eqI)) (.v a1) (.v (.int .i64 7)) rec PT.nil s) fun x7 s =>
 condV x7
 (condV x7
 (some (oneOf [(.int .i64 31)], s))
 (some (oneOf [(.int .i64 0)], s)))
 (opt2 (oBin (int2 (cmpO eqI)) (.v a1) (.v (.int .i64 8)) rec PT.nil s) fun x8 s =>
 condV x8
 (condV x8
 (some (oneOf [(.int .i64 31)], s))
 (some (oneOf [(.int .i64 0)], s)))
 (opt2 (oBin (int2 (cmpO eqI)) (.v a1) (.v (.int .i64 10)) rec PT.nil s) fun x9 s =>
 condV x9
 (condV x9
 (some (oneOf [(.int .i64 31)], s))
 (some (oneOf [(.int .i64 0)], s)))
 (opt2 (oBin (int2 (cmpO eqI)) (.v a1) (.v (.int .i64 12)) rec PT.nil s) fun x10 s =>
 condV x10
 (some (oneOf [(.int .i64 31)], s))
 (some (oneOf [(.int .i64 0)], s))))))))))
 (opt2 (oBin (int2 (cmpO eqI)) (.v a1) (.v (.int .i64 6)) rec PT.nil s) fun x11 s =>
 condV x11
 (condV x11
 (some (oneOf [(.int .i64 30)], s))
 (opt2 (oBin (int2 (cmpO eqI)) (.v a1) (.v (.int .i64 1)) rec PT.nil s) fun x12 s =>
 condV x12
 (condV x12
 (some (oneOf [(.int .i64 31)], s))
 (some (oneOf [(.int .i64 0)], s)))
 (opt2 (oBin (int2 (cmpO eqI)) (.v a1) (.v (.int .i64 3)) rec PT.nil s) fun x13 s =>
 condV x13
 (condV x13
 (some (oneOf [(.int .i64 31)], s))
 (some (oneOf [(.int .i64 0)], s)))
 (opt2 (oBin (int2 (cmpO eqI)) (.v a1) (.v (.int .i64 5)) rec PT.nil s) fun x14 s =>
 condV x14
 (condV x14
 (some (oneOf [(.int .i64 31)], s))
 (some (oneOf [(.int .i64 0)], s)))
 (opt2 (oBin (int2 (cmpO eqI)) (.v a1) (.v (.int .i64 7)) rec PT.nil s) fun x15 s =>
 condV x15
 (condV x15
 (some (oneOf [(.int .i64 31)], s))
 (some (oneOf [(.int .i64 0)], s)))
 (opt2 (oBin (int2 (cmpO eqI)) (.v a1) (.v (.int .i64 8)) rec PT.nil s) fun x16 s =>
 condV x16
 (condV x16
 (some (oneOf [(.int .i64 31)], s))
 (some (oneOf [(.int .i64 0)], s)))
 (opt2 (oBin (int2 (cmpO eqI)) (.v a1) (.v (.int .i64 10)) rec PT.nil s) fun x17 s =>
 condV x17
 (condV x17
 (some (oneOf [(.int .i64 31)], s))
 (some (oneOf [(.int .i64 0)], s)))
 (opt2 (oBin (int2 (cmpO eqI)) (.v a1) (.v (.int .i64 12)) rec PT.nil s) fun x18 s =>
 condV x18
 (some (oneOf [(.int .i64 31)], s))
 (some (oneOf [(.int .i64 0)], s))))))))))
 (opt2 (oBin (int2 (cmpO eqI)) (.v a1) (.v (.int .i64 9)) rec PT.nil s) fun x19 s =>
 condV x19
 (condV x19
 (some (oneOf [(.int .i64 30)], s))
 (opt2 (oBin (int2 (cmpO eqI)) (.v a1) (.v (.int .i64 1)) rec PT.nil s) fun x20 s =>
 condV x20
 (condV x20
 (some (oneOf [(.int .i64 31)], s))
 (some (oneOf [(.int .i64 0)], s)))
 (opt2 (oBin (int2 (cmpO eqI)) (.v a1) (.v (.int .i64 3)) rec PT.nil s) fun x21 s =>
 condV x21
 (condV x21
 (some (oneOf [(.int .i64 31)], s))
 (some (oneOf [(.int .i64 0)], s)))
 (opt2 (oBin (int2 (cmpO eqI)) (.v a1) (.v (.int .i64 5)) rec PT.nil s) fun x22 s =>
 condV x22
 (condV x22
 (some (oneOf [(.int .i64 31)], s))
 (some (oneOf [(.int .i64 0)], s)))
 (opt2 (oBin (int2 (cmpO eqI)) (.v a1) (.v (.int .i64 7)) rec PT.nil s) fun x23 s =>
 condV x23
 (condV x23
 (some (oneOf [(.int .i64 31)], s))
 (some (oneOf [(.int .i64 0)], s)))
 (opt2 (oBin (int2 (cmpO eqI)) (.v a1) (.v (.int .i64 8)) rec PT.nil s) fun x24 s =>
 condV x24
 (condV x24
 (some (oneOf [(.int .i64 31)], s))
 (some (oneOf [(.int .i64 0)], s)))
 (opt2 (oBin (int2 (cmpO eqI)) (.v a1) (.v (.int .i64 10)) rec PT.nil s) fun x25 s =>
 condV x25
 (condV x25
 (some (oneOf [(.int .i64 31)], s))
 (some (oneOf [(.int .i64 0)], s)))
 (opt2 (oBin (int2 (cmpO eqI)) (.v a1) (.v (.int .i64 12)) rec PT.nil s) fun x26 s =>
 condV x26
 (some (oneOf [(.int .i64 31)], s))
 (some (oneOf [(.int .i64 0)], s))))))))))
 (opt2 (oBin (int2 (cmpO eqI)) (.v a1) (.v (.int .i64 11)) rec PT.nil s) fun x27 s =>
 condV x27
 (some (oneOf [(.int .i64 30)], s))
 (opt2 (oBin (int2 (cmpO eqI)) (.v a1) (.v (.int .i64 1)) rec PT.nil s) fun x28 s =>
 condV x28
 (condV x28
 (some (oneOf [(.int .i64 31)], s))
 (some (oneOf [(.int .i64 0)], s)))
 (opt2 (oBin (int2 (cmpO eqI)) (.v a1) (.v (.int .i64 3)) rec PT.nil s) fun x29 s =>
 condV x29
 (condV x29
 (some (oneOf [(.int .i64 31)], s))
 (some (oneOf [(.int .i64 0)], s)))
 (opt2 (oBin (int2 (cmpO eqI)) (.v a1) (.v (.int .i64 5)) rec PT.nil s) fun x30 s =>
 condV x30
 (condV x30
 (some (oneOf [(.int .i64 31)], s))
 (some (oneOf [(.int .i64 0)], s)))
 (opt2 (oBin (int2 (cmpO eqI)) (.v a1) (.v (.int .i64 7)) rec PT.nil s) fun x31 s =>
 condV x31
 (condV x31
 (some (oneOf [(.int .i64 31)], s))
 (some (oneOf [(.int .i64 0)], s)))
 (opt2 (oBin (int2 (cmpO eqI)) (.v a1) (.v (.int .i64 8)) rec PT.nil s) fun x32 s =>
 condV x32
 (condV x32
 (some (oneOf [(.int .i64 31)], s))
 (some (oneOf [(.int .i64 0)], s)))
 (opt2 (oBin (int2 (cmpO eqI)) (.v a1) (.v (.int .i64 10)) rec PT.nil s) fun x33 s =>
 condV x33
 (condV x33
 (some (oneOf [(.int .i64 31)], s))
 (some (oneOf [(.int .i64 0)], s)))
 (opt2 (oBin (int2 (cmpO eqI)) (.v a1) (.v (.int .i64 12)) rec PT.nil s) fun x34 s =>
 condV x34
 (some (oneOf [(.int .i64 31)], s))
 (some (oneOf [(.int .i64 0)], s)))))))))))))
theorem d17 (rec : Rec) (N : Nat) (a0 : Value) (a1 : Value) (s : St) : callF rec N c17 [a0, a1] s = D17 rec N a0 a1 s := by
  rw [call_f _ _ _ _ _ rfl]
  simp only [c17, x_seq, x_ops, x_skip, x_ret, x_exit, x_cond, x_block, x_loop, ops_c, ops_n, op1_u, op1_gj, op2_op2, op2_op, op2_s, op2_cond, thenX_n, thenX_e, thenX_r, blkX_n, blkX_r, blkX_e, finX_r, finX_n, res_n, res_t, mov_f, op_s, Nat.beq_refl, cond_true]
  first | done | kernel_rfl
def D22 (rec : Rec) (N : Nat) (a0 : Value) (s : St) : Out := opt2 (oBin (int2 remO) (.v a0) (.v (.int .i64 4)) rec PT.nil s) fun x1 s =>
 opt2 (oBin (int2 (cmpO eqI)) (.v x1) (.v (.int .i64 0)) rec PT.nil s) fun x2 s =>
 opt (gval true x2) fun x3 => opt2 (orUndef x3 (some (a0, s)) s) fun x4 s =>
 opt (gval true x2) fun x5 => opt2 (orUndef x5 (oBin (int2 remO) (.v x4) (.v (.int .i64 100)) rec PT.nil s) s) fun x6 s =>
 opt (gval true x2) fun x7 => opt2 (orUndef x7 (oBin (int2 (cmpO neI)) (.v x6) (.v (.int .i64 0)) rec PT.nil s) s) fun x8 s =>
 opt2 (oPick (.v x2) (.v x8) (.v (.bool false)) rec PT.nil s) fun x9 s =>
 opt (gval false x9) fun x10 => opt2 (orUndef x10 (some (a0, s)) s) fun x11 s =>
 opt (gval false x9) fun x12 => opt2 (orUndef x12 (oBin (int2 remO) (.v x11) (.v (.int .i64 400)) rec PT.nil s) s) fun x13 s =>
 opt (gval false x9) fun x14 => opt2 (orUndef x14 (oBin (int2 (cmpO eqI)) (.v x13) (.v (.int .i64 0)) rec PT.nil s) s) fun x15 s =>
 opt2 (oPick (.v x9) (.v (.bool true)) (.v x15) rec PT.nil s) fun x16 s =>
 some (oneOf [x16], s)
theorem d22 (rec : Rec) (N : Nat) (a0 : Value) (s : St) : callF rec N c22 [a0] s = D22 rec N a0 s := by
  rw [call_f _ _ _ _ _ rfl]
  simp only [c22, x_seq, x_ops, x_skip, x_ret, x_exit, x_cond, x_block, x_loop, ops_c, ops_n, op1_u, op1_gj, op2_op2, op2_op, op2_s, op2_cond, thenX_n, thenX_e, thenX_r, blkX_n, blkX_r, blkX_e, finX_r, finX_n, res_n, res_t, mov_f, op_s, Nat.beq_refl, cond_true]
  first | done | kernel_rfl
def D26 (rec : Rec) (N : Nat) (a0 : Value) (s : St) : Out := opt2 (oBin (int2 subO) (.v a0) (.v (.int .i64 1900)) rec PT.nil s) fun x1 s =>
 opt2 (oBin (int2 subO) (.v a0) (.v (.int .i64 1)) rec PT.nil s) fun x2 s =>
 opt2 (oBin (int2 quoO) (.v x2) (.v (.int .i64 4)) rec PT.nil s) fun x3 s =>
 opt2 (oBin (int2 subO) (.v x3) (.v (.int .i64 474)) rec PT.nil s) fun x4 s =>
 opt2 (oBin (int2 subO) (.v a0) (.v (.int .i64 1)) rec PT.nil s) fun x5 s =>
 opt2 (oBin (int2 quoO) (.v x5) (.v (.int .i64 100)) rec PT.nil s) fun x6 s =>
 opt2 (oBin (int2 subO) (.v x6) (.v (.int .i64 18)) rec PT.nil s) fun x7 s =>
 opt2 (oBin (int2 subO) (.v x4) (.v x7) rec PT.nil s) fun x8 s =>
 opt2 (oBin (int2 subO) (.v a0) (.v (.int .i64 1)) rec PT.nil s) fun x9 s =>
 opt2 (oBin (int2 quoO) (.v x9) (.v (.int .i64 400)) rec PT.nil s) fun x10 s =>
 opt2 (oBin (int2 subO) (.v x10) (.v (.int .i64 4)) rec PT.nil s) fun x11 s =>
 opt2 (oBin (int2 addO) (.v x8) (.v x11) rec PT.nil s) fun x12 s =>
 opt2 (oBin (int2 mulO) (.v x1) (.v (.int .i64 365)) rec PT.nil s) fun x13 s =>
 opt2 (oBin (int2 addO) (.v x13) (.v x12) rec PT.nil s) fun x14 s =>
 some (oneOf [x14], s)
theorem d26 (rec : Rec) (N : Nat) (a0 : Value) (s : St) : callF rec N c26 [a0] s = D26 rec N a0 s := by
  rw [call_f _ _ _ _ _ rfl]
  simp only [c26, x_seq, x_ops, x_skip, x_ret, x_exit, x_cond, x_block, x_loop, ops_c, ops_n, op1_u, op1_gj, op2_op2, op2_op, op2_s, op2_cond, thenX_n, thenX_e, thenX_r, blkX_n, blkX_r, blkX_e, finX_r, finX_n, res_n, res_t, mov_f, op_s, Nat.beq_refl, cond_true]
  first | done | kernel_rfl
def D27_l0 (rec : Rec) (N : Nat) (fs : Frm) (s : St) : OutX := opt2 (oBin (int2 (cmpO ltI)) (.v (orU (fs.get t9))) (.v (orU (fs.get t8))) rec PT.nil s) fun x1 s =>
 condV x1
 (opt2 (oIdxAddrL 1 (.v (orU (fs.get t7))) (.v (orU (fs.get t9))) rec PT.nil s) fun x2 s =>
 opt2 (oLoad1 (.v x2) rec PT.nil s) fun x3 s =>
 opt2 (oBin (int2 (cmpO ltI)) (.v x3) (.v (.int .u8 48)) rec PT.nil s) fun x4 s =>
 opt (gval false x4) fun x5 => opt2 (orUndef x5 (some (x3, s)) s) fun x6 s =>
 opt (gval false x4) fun x7 => opt2 (orUndef x7 (oBin (int2 (cmpO gtI)) (.v x6) (.v (.int .u8 57)) rec PT.nil s) s) fun x8 s =>
 opt2 (oPick (.v x4) (.v (.bool true)) (.v x8) rec PT.nil s) fun x9 s =>
 condV x9
 (some (.ret, (PT.put (.int .i64 (-1)) t2 (PT.put x9 t18 (PT.put x8 t17 (PT.put x6 t16 (PT.put x4 t15 (PT.put x4 t14 (PT.put x3 t13 (PT.put x3 t5 (PT.put x3 t12 (PT.put x2 t11 (PT.put x1 t10 fs))))))))))), s))
 (opt2 (oBin (int2 mulO) (.v (orU (fs.get t3))) (.v (.int .i64 10)) rec PT.nil s) fun x10 s =>
 opt2 (oBin (int2 subO) (.v x3) (.v (.int .u8 48)) rec PT.nil s) fun x11 s =>
 opt2 (oConv .i64 (.v x11) rec PT.nil s) fun x12 s =>
 opt2 (oBin (int2 addO) (.v x10) (.v x12) rec PT.nil s) fun x13 s =>
 opt2 (oBin (int2 addO) (.v (orU (fs.get t9))) (.v (.int .i64 1)) rec PT.nil s) fun x14 s =>
 some (.norm, (PT.put x14 t9 (PT.put x14 t25 (PT.put x13 t3 (PT.put x13 t24 (PT.put x12 t23 (PT.put x11 t22 (PT.put x3 t21 (PT.put x10 t20 (PT.put (orU (fs.get t3)) t19 (PT.put x9 t18 (PT.put x8 t17 (PT.put x6 t16 (PT.put x4 t15 (PT.put x4 t14 (PT.put x3 t13 (PT.put x3 t5 (PT.put x3 t12 (PT.put x2 t11 (PT.put x1 t10 fs))))))))))))))))))), s)))
 (some ((.exit 0), (PT.put x1 t10 fs), s))
theorem d27_l0 (rec : Rec) (N : Nat) (fs : Frm) (s : St) : c27_l0 rec N fs s = D27_l0 rec N fs s := by
  simp only [c27_l0, call_f, lenN, x_seq, x_ops, x_skip, x_ret, x_exit, x_cond, x_block, x_loop, ops_c, ops_n, op1_u, op1_gj, op2_op2, op2_op, op2_s, op2_cond, thenX_n, thenX_e, thenX_r, blkX_n, blkX_r, blkX_e, finX_r, finX_n, res_n, res_t, mov_f, op_s, Nat.beq_refl, cond_true]
  first | done | kernel_rfl
def D27_r0 (rec : Rec) (N : Nat) (fs : Frm) (s : St) : OutX := some (.ret, (PT.put (orU (fs.get t3)) t2 (PT.put (orU (fs.get t3)) t26 fs)), s)
theorem d27_r0 (rec : Rec) (N : Nat) (fs : Frm) (s : St) : c27_r0 rec N fs s = D27_r0 rec N fs s := by
  simp only [c27_r0, call_f, lenN, x_seq, x_ops, x_skip, x_ret, x_exit, x_cond, x_block, x_loop, ops_c, ops_n, op1_u, op1_gj, op2_op2, op2_op, op2_s, op2_cond, thenX_n, thenX_e, thenX_r, blkX_n, blkX_r, blkX_e, finX_r, finX_n, res_n, res_t, mov_f, op_s, Nat.beq_refl, cond_true]
  first | done | kernel_rfl
def D27 (rec : Rec) (N : Nat) (a0 : Value) (s : St) : Out := opt2 (oStrBytes (.v a0) rec PT.nil s) fun x1 s =>
 opt2 (oLenL (.v x1) rec PT.nil s) fun x2 s =>
 opt2 (loopF (c27_l0 rec N) N (PT.put (.int .i64 0) t9 (PT.put x2 t8 (PT.put x1 t7 (PT.put a0 t6 (PT.put (.int .i64 0) t3 (PT.put (.int .i64 0) t2 (PT.put a0 t0 PT.nil))))))) s) fun e r => opt2 (blkX 0 e r) fun e r => opt2 (thenX (c27_r0 rec N) e r) fun e r => finX [.tmp t2] e r
theorem d27 (rec : Rec) (N : Nat) (a0 : Value) (s : St) : callF rec N c27 [a0] s = D27 rec N a0 s := by
  rw [call_f _ _ _ _ _ rfl]
  simp only [c27, x_seq, x_ops, x_skip, x_ret, x_exit, x_cond, x_block, x_loop, ops_c, ops_n, op1_u, op1_gj, op2_op2, op2_op, op2_s, op2_cond, thenX_n, thenX_e, thenX_r, blkX_n, blkX_r, blkX_e, finX_r, finX_n, res_n, res_t, mov_f, op_s, Nat.beq_refl, cond_true]
  first | done | kernel_rfl
def D28 (rec : Rec) (N : Nat) (a0 : Value) (s : St) : Out := opt2 (oBin (int2 (cmpO geI)) (.v a0) (.v (.int .i64 0)) rec PT.nil s) fun x1 s =>
 opt (gval true x1) fun x2 => opt2 (orUndef x2 (some (a0, s)) s) fun x3 s =>
 opt (gval true x1) fun x4 => opt2 (orUndef x4 (oBin (int2 (cmpO leI)) (.v x3) (.v (.int .i64 109572)) rec PT.nil s) s) fun x5 s =>
 opt2 (oPick (.v x1) (.v x5) (.v (.bool false)) rec PT.nil s) fun x6 s =>
 some (oneOf [x6], s)
theorem d28 (rec : Rec) (N : Nat) (a0 : Value) (s : St) : callF rec N c28 [a0] s = D28 rec N a0 s := by
  rw [call_f _ _ _ _ _ rfl]
  simp only [c28, x_seq, x_ops, x_skip, x_ret, x_exit, x_cond, x_block, x_loop, ops_c, ops_n, op1_u, op1_gj, op2_op2, op2_op, op2_s, op2_cond, thenX_n, thenX_e, thenX_r, blkX_n, blkX_r, blkX_e, finX_r, finX_n, res_n, res_t, mov_f, op_s, Nat.beq_refl, cond_true]
  first | done | kernel_rfl
def D29_l0 (rec : Rec) (N : Nat) (fs : Frm) (s : St) : OutX := opt2 (oLenS (.v (orU (fs.get t5))) rec PT.nil s) fun x1 s =>
 opt2 (oBin (int2 (cmpO ltI)) (.v x1) (.v (orU (fs.get t1))) rec PT.nil s) fun x2 s =>
 condV x2
 (opt2 (oBin (str2 catO) (.v (.string ⟨⟨[48]⟩⟩)) (.v (orU (fs.get t5))) rec PT.nil s) fun x3 s =>
 some (.norm, (PT.put x3 t5 (PT.put x3 t13 (PT.put (orU (fs.get t5)) t12 (PT.put x2 t11 (PT.put (orU (fs.get t1)) t10 (PT.put x1 t9 (PT.put (orU (fs.get t5)) t8 fs))))))), s))
 (some ((.exit 0), (PT.put x2 t11 (PT.put (orU (fs.get t1)) t10 (PT.put x1 t9 (PT.put (orU (fs.get t5)) t8 fs)))), s))
theorem d29_l0 (rec : Rec) (N : Nat) (fs : Frm) (s : St) : c29_l0 rec N fs s = D29_l0 rec N fs s := by
  simp only [c29_l0, call_f, lenN, x_seq, x_ops, x_skip, x_ret, x_exit, x_cond, x_block, x_loop, ops_c, ops_n, op1_u, op1_gj, op2_op2, op2_op, op2_s, op2_cond, thenX_n, thenX_e, thenX_r, blkX_n, blkX_r, blkX_e, finX_r, finX_n, res_n, res_t, mov_f, op_s, Nat.beq_refl, cond_true]
  first | done | kernel_rfl
def D29_r0 (rec : Rec) (N : Nat) (fs : Frm) (s : St) : OutX := some (.ret, (PT.put (orU (fs.get t5)) t4 (PT.put (orU (fs.get t5)) t14 fs)), s)
theorem d29_r0 (rec : Rec) (N : Nat) (fs : Frm) (s : St) : c29_r0 rec N fs s = D29_r0 rec N fs s := by
  simp only [c29_r0, call_f, lenN, x_seq, x_ops, x_skip, x_ret, x_exit, x_cond, x_block, x_loop, ops_c, ops_n, op1_u, op1_gj, op2_op2, op2_op, op2_s, op2_cond, thenX_n, thenX_e, thenX_r, blkX_n, blkX_r, blkX_e, finX_r, finX_n, res_n, res_t, mov_f, op_s, Nat.beq_refl, cond_true]
  first | done | kernel_rfl
def D29 (rec : Rec) (N : Nat) (a0 : Value) (a1 : Value) (s : St) : Out := opt2 (rec 31 [a0] s) fun x1 s =>
 opt2 (loopF (c29_l0 rec N) N (PT.put x1 t5 (PT.put x1 t7 (PT.put a0 t6 (PT.put (.string ⟨⟨[]⟩⟩) t4 (PT.put a1 t1 (PT.put a0 t0 PT.nil)))))) s) fun e r => opt2 (blkX 0 e r) fun e r => opt2 (thenX (c29_r0 rec N) e r) fun e r => finX [.tmp t4] e r
theorem d29 (rec : Rec) (N : Nat) (a0 : Value) (a1 : Value) (s : St) : callF rec N c29 [a0, a1] s = D29 rec N a0 a1 s := by
  rw [call_f _ _ _ _ _ rfl]
  simp only [c29, x_seq, x_ops, x_skip, x_ret, x_exit, x_cond, x_block, x_loop, ops_c, ops_n, op1_u, op1_gj, op2_op2, op2_op, op2_s, op2_cond, thenX_n, thenX_e, thenX_r, blkX_n, blkX_r, blkX_e, finX_r, finX_n, res_n, res_t, mov_f, op_s, Nat.beq_refl, cond_true]
  first | done | kernel_rfl
def D31 (rec : Rec) (N : Nat) (a0 : Value) (s : St) : Out := opt2 (rec 32 [a0] s) fun x1 s =>
 some (oneOf [x1], s)
theorem d31 (rec : Rec) (N : Nat) (a0 : Value) (s : St) : callF rec N c31 [a0] s = D31 rec N a0 s := by
  rw [call_f _ _ _ _ _ rfl]
  simp only [c31, x_seq, x_ops, x_skip, x_ret, x_exit, x_cond, x_block, x_loop, ops_c, ops_n, op1_u, op1_gj, op2_op2, op2_op, op2_s, op2_cond, thenX_n, thenX_e, thenX_r, blkX_n, blkX_r, blkX_e, finX_r, finX_n, res_n, res_t, mov_f, op_s, Nat.beq_refl, cond_true]
  first | done | kernel_rfl
def D32 (rec : Rec) (N : Nat) (a0 : Value) (s : St) : Out := opt2 (rec 33 [a0, (.int .i64 10)] s) fun x1 s =>
 some (oneOf [x1], s)
theorem d32 (rec : Rec) (N : Nat) (a0 : Value) (s : St) : callF rec N c32 [a0] s = D32 rec N a0 s := by
  rw [call_f _ _ _ _ _ rfl]
  simp only [c32, x_seq, x_ops, x_skip, x_ret, x_exit, x_cond, x_block, x_loop, ops_c, ops_n, op1_u, op1_gj, op2_op2, op2_op, op2_s, op2_cond, thenX_n, thenX_e, thenX_r, blkX_n, blkX_r, blkX_e, finX_r, finX_n, res_n, res_t, mov_f, op_s, Nat.beq_refl, cond_true]
  first | done | kernel_rfl
def D33 (rec : Rec) (N : Nat) (a0 : Value) (a1 : Value) (s : St) : Out := opt2 (oBin (int2 (cmpO eqI)) (.v a1) (.v (.int .i64 10)) rec PT.nil s) fun x1 s =>
 condV x1
 (opt2 (oBin (int2 (cmpO leI)) (.v (.int .i64 0)) (.v a0) rec PT.nil s) fun x2 s =>
 opt (gval true x2) fun x3 => opt2 (orUndef x3 (some (a0, s)) s) fun x4 s =>
 opt (gval true x2) fun x5 => opt2 (orUndef x5 (oBin (int2 (cmpO ltI)) (.v x4) (.v (.int .i64 100)) rec PT.nil s) s) fun x6 s =>
 opt2 (oPick (.v x2) (.v x6) (.v (.bool false)) rec PT.nil s) fun x7 s =>
 condV x7
 (opt2 (rec 34 [a0] s) fun x8 s =>
 some (oneOf [x8], s))
 (opt2 (oNew (rep 24 [(.int .u8 0)]) rec PT.nil s) fun x9 s =>
 opt2 (oConv .u64 (.v a0) rec PT.nil s) fun x10 s =>
 opt2 (oBin (int2 (cmpO ltI)) (.v a0) (.v (.int .i64 0)) rec PT.nil s) fun x11 s =>
 condV x11
 (opt2 (oNeg (.v x10) rec PT.nil s) fun x12 s =>
 opt2 (rec 35 [x12] s) fun x13 s =>
 opt2 (oBin (int2 addO) (.v (.int .i64 1)) (.v x13) rec PT.nil s) fun x14 s =>
 opt2 (oSliceA 24 1 (.v x9) (some (.v (.int .i64 1))) (some (.v x14)) rec PT.nil s) fun x15 s =>
 opt2 (rec 36 [x15, x12] s) fun x16 s =>
 opt2 (oBin (int2 (cmpO ltI)) (.v a0) (.v (.int .i64 0)) rec PT.nil s) fun x17 s =>
 condV x17
 (opt2 (oIdxAddrA 24 1 (.v x9) (.v (.int .i64 0)) rec PT.nil s) fun x18 s =>
 opt2 (oStore 1 (.v x18) (.v (.int .u8 45)) rec PT.nil s) fun x19 s =>
 opt2 (oBin (int2 addO) (.v (.int .i64 1)) (.v x13) rec PT.nil s) fun x20 s =>
 opt2 (oSliceA 24 1 (.v x9) none (some (.v x20)) rec PT.nil s) fun x21 s =>
 opt2 (oBytesStr (.v x21) rec PT.nil s) fun x22 s =>
 some (oneOf [x22], s))
 (opt2 (oBin (int2 addO) (.v (.int .i64 1)) (.v x13) rec PT.nil s) fun x23 s =>
 opt2 (oSliceA 24 1 (.v x9) (some (.v (.int .i64 1))) (some (.v x23)) rec PT.nil s) fun x24 s =>
 opt2 (oBytesStr (.v x24) rec PT.nil s) fun x25 s =>
 some (oneOf [x25], s)))
 (opt2 (rec 35 [x10] s) fun x26 s =>
 opt2 (oBin (int2 addO) (.v (.int .i64 1)) (.v x26) rec PT.nil s) fun x27 s =>
 opt2 (oSliceA 24 1 (.v x9) (some (.v (.int .i64 1))) (some (.v x27)) rec PT.nil s) fun x28 s =>
 opt2 (rec 36 [x28, x10] s) fun x29 s =>
 opt2 (oBin (int2 (cmpO ltI)) (.v a0) (.v (.int .i64 0)) rec PT.nil s) fun x30 s =>
 condV x30
 (opt2 (oIdxAddrA 24 1 (.v x9) (.v (.int .i64 0)) rec PT.nil s) fun x31 s =>
 opt2 (oStore 1 (.v x31) (.v (.int .u8 45)) rec PT.nil s) fun x32 s =>
 opt2 (oBin (int2 addO) (.v (.int .i64 1)) (.v x26) rec PT.nil s) fun x33 s =>
 opt2 (oSliceA 24 1 (.v x9) none (some (.v x33)) rec PT.nil s) fun x34 s =>
 opt2 (oBytesStr (.v x34) rec PT.nil s) fun x35 s =>
 some (oneOf [x35], s))
 (opt2 (oBin (int2 addO) (.v (.int .i64 1)) (.v x26) rec PT.nil s) fun x36 s =>
 opt2 (oSliceA 24 1 (.v x9) (some (.v (.int .i64 1))) (some (.v x36)) rec PT.nil s) fun x37 s =>
 opt2 (oBytesStr (.v x37) rec PT.nil s) fun x38 s =>
 some (oneOf [x38], s)))))
 (opt2 (oConv .u64 (.v a0) rec PT.nil s) fun x39 s =>
 opt2 (oBin (int2 (cmpO ltI)) (.v a0) (.v (.int .i64 0)) rec PT.nil s) fun x40 s =>
 opt2 (rec 37 [(.slice none 0 0), x39, a1, x40, (.bool false)] s) fun x41 s =>
 opt2 (oExtract (.v x41) 0 rec PT.nil s) fun x42 s =>
 opt2 (oExtract (.v x41) 1 rec PT.nil s) fun x43 s =>
 some (oneOf [x43], s))
theorem d33 (rec : Rec) (N : Nat) (a0 : Value) (a1 : Value) (s : St) : callF rec N c33 [a0, a1] s = D33 rec N a0 a1 s := by
  rw [call_f _ _ _ _ _ rfl]
  simp only [c33, x_seq, x_ops, x_skip, x_ret, x_exit, x_cond, x_block, x_loop, ops_c, ops_n, op1_u, op1_gj, op2_op2, op2_op, op2_s, op2_cond, thenX_n, thenX_e, thenX_r, blkX_n, blkX_r, blkX_e, finX_r, finX_n, res_n, res_t, mov_f, op_s, Nat.beq_refl, cond_true]
  first | done | kernel_rfl
def D34 (rec : Rec) (N : Nat) (a0 : Value) (s : St) : Out := opt2 (oBin (int2 (cmpO ltI)) (.v a0) (.v (.int .i64 10)) rec PT.nil s) fun x1 s =>
 condV x1
 (opt2 (oBin (int2 addO) (.v a0) (.v (.int .i64 1)) rec PT.nil s) fun x2 s =>
 opt2 (oSliceS (.v (.string ⟨⟨[48, 49, 50, 51, 52, 53, 54, 55, 56, 57, 97, 98, 99, 100, 101, 102, 103, 104, 105, 106, 107, 108, 109, 110, 111, 112, 113, 114, 115, 116, 117, 118, 119, 120, 121, 122]⟩⟩)) (some (.v a0)) (some (.v x2)) rec PT.nil s) fun x3 s =>
 some (oneOf [x3], s))
 (opt2 (oBin (int2 mulO) (.v a0) (.v (.int .i64 2)) rec PT.nil s) fun x4 s =>
 opt2 (oBin (int2 mulO) (.v a0) (.v (.int .i64 2)) rec PT.nil s) fun x5 s =>
 opt2 (oBin (int2 addO) (.v x5) (.v (.int .i64 2)) rec PT.nil s) fun x6 s =>
 opt2 (oSliceS (.v (.string ⟨⟨[48, 48, 48, 49, 48, 50, 48, 51, 48, 52, 48, 53, 48, 54, 48, 55, 48, 56, 48, 57, 49, 48, 49, 49, 49, 50, 49, 51, 49, 52, 49, 53, 49, 54, 49, 55, 49, 56, 49, 57, 50, 48, 50, 49, 50, 50, 50, 51, 50, 52, 50, 53, 50, 54, 50, 55, 50, 56, 50, 57, 51, 48, 51, 49, 51, 50, 51, 51, 51, 52, 51, 53, 51, 54, 51, 55, 51, 56, 51, 57, 52, 48, 52, 49, 52, 50, 52, 51, 52, 52, 52, 53, 52, 54, 52, 55, 52, 56, 52, 57, 53, 48, 53, 49, 53, 50, 53, 51, 53, 52, 53, 53, 53, 54, 53, 55, 53, 56, 53, 57, 54, 48, 54, 49, 54, 50, 54, 51, 54, 52, 54, 53, 54, 54, 54, 55, 54, 56, 54, 57, 55, 48, 55, 49, 55, 50, 55, 51, 55, 52, 55, 53, 55, 54, 55, 55, 55, 56, 55, 57, 56, 48, 56, 49, 56, 50, 56, 51, 56, 52, 56, 53, 56, 54, 56, 55, 56, 56, 56, 57, 57, 48, 57, 49, 57, 50, 57, 51, 57, 52, 57, 53, 57, 54, 57, 55, 57, 56, 57, 57]⟩⟩)) (some (.v x4)) (some (.v x6)) rec PT.nil s) fun x7 s =>
 some (oneOf [x7], s))
theorem d34 (rec : Rec) (N : Nat) (a0 : Value) (s : St) : callF rec N c34 [a0] s = D34 rec N a0 s := by
  rw [call_f _ _ _ _ _ rfl]
  simp only [c34, x_seq, x_ops, x_skip, x_ret, x_exit, x_cond, x_block, x_loop, ops_c, ops_n, op1_u, op1_gj, op2_op2, op2_op, op2_s, op2_cond, thenX_n, thenX_e, thenX_r, blkX_n, blkX_r, blkX_e, finX_r, finX_n, res_n, res_t, mov_f, op_s, Nat.beq_refl, cond_true]
  first | done | kernel_rfl
def D35 (rec : Rec) (N : Nat) (a0 : Value) (s : St) : Out := opt2 (rec 39 [a0] s) fun x1 s =>
 opt2 (rec 38 [x1] s) fun x2 s =>
 opt2 (oIdxAddrA 20 1 (.v (.pointer (some ⟨0, 0, none⟩))) (.v x2) rec PT.nil s) fun x3 s =>
 opt2 (oLoad1 (.v x3) rec PT.nil s) fun x4 s =>
 opt2 (oBin (int2 (cmpO geI)) (.v a0) (.v x4) rec PT.nil s) fun x5 s =>
 opt2 (rec 40 [x5] s) fun x6 s =>
 opt2 (oBin (int2 addO) (.v x2) (.v x6) rec PT.nil s) fun x7 s =>
 some (oneOf [x7], s)
theorem d35 (rec : Rec) (N : Nat) (a0 : Value) (s : St) : callF rec N c35 [a0] s = D35 rec N a0 s := by
  rw [call_f _ _ _ _ _ rfl]
  simp only [c35, x_seq, x_ops, x_skip, x_ret, x_exit, x_cond, x_block, x_loop, ops_c, ops_n, op1_u, op1_gj, op2_op2, op2_op, op2_s, op2_cond, thenX_n, thenX_e, thenX_r, blkX_n, blkX_r, blkX_e, finX_r, finX_n, res_n, res_t, mov_f, op_s, Nat.beq_refl, cond_true]
  first | done | kernel_rfl
-- c36_l0: not opened
-- c36_r0: not opened
def D36 (rec : Rec) (N : Nat) (a0 : Value) (a1 : Value) (s : St) : Out := opt2 (oLenL (.v a0) rec PT.nil s) fun x1 s =>
 opt2 (loopF (c36_l0 rec N) N (PT.put x1 t4 (PT.put x1 t18 (PT.put a0 t17 (PT.put a1 t1 (PT.put a0 t0 PT.nil))))) s) fun e r => opt2 (blkX 0 e r) fun e r => opt2 (thenX (c36_r0 rec N) e r) fun e r => finX [] e r
theorem d36 (rec : Rec) (N : Nat) (a0 : Value) (a1 : Value) (s : St) : callF rec N c36 [a0, a1] s = D36 rec N a0 a1 s := by
  rw [call_f _ _ _ _ _ rfl]
  simp only [c36, x_seq, x_ops, x_skip, x_ret, x_exit, x_cond, x_block, x_loop, ops_c, ops_n, op1_u, op1_gj, op2_op2, op2_op, op2_s, op2_cond, thenX_n, thenX_e, thenX_r, blkX_n, blkX_r, blkX_e, finX_r, finX_n, res_n, res_t, mov_f, op_s, Nat.beq_refl, cond_true]
  first | done | kernel_rfl
def D37_l0 (rec : Rec) (N : Nat) (fs : Frm) (s : St) : OutX := opt2 (oBin (int2 (cmpO geI)) (.v (orU (fs.get t1))) (.v (orU (fs.get t15))) rec PT.nil s) fun x1 s =>
 condV x1
 (opt2 (oBin (int2 subO) (.v (orU (fs.get t13))) (.v (.int .i64 1)) rec PT.nil s) fun x2 s =>
 opt2 (oBin (int2 andO) (.v (orU (fs.get t1))) (.v (orU (fs.get t16))) rec PT.nil s) fun x3 s =>
 opt2 (oIdxS (.v (.string ⟨⟨[48, 49, 50, 51, 52, 53, 54, 55, 56, 57, 97, 98, 99, 100, 101, 102, 103, 104, 105, 106, 107, 108, 109, 110, 111, 112, 113, 114, 115, 116, 117, 118, 119, 120, 121, 122]⟩⟩)) (.v x3) rec PT.nil s) fun x4 s =>
 opt2 (oIdxAddrA 65 1 (.v (orU (fs.get t12))) (.v x2) rec PT.nil s) fun x5 s =>
 opt2 (oStore 1 (.v x5) (.v x4) rec PT.nil s) fun x6 s =>
 opt2 (oBin (sh2 shrO) (.v (orU (fs.get t1))) (.v (orU (fs.get t14))) rec PT.nil s) fun x7 s =>
 some (.norm, (PT.put x7 t1 (PT.put x7 t57 (PT.put (orU (fs.get t14)) t56 (PT.put (orU (fs.get t1)) t55 (PT.put x5 t54 (PT.put x4 t53 (PT.put x3 t52 (PT.put (orU (fs.get t16)) t51 (PT.put (orU (fs.get t1)) t50 (PT.put x2 t49 (PT.put x2 t13 (PT.put x2 t48 (PT.put (orU (fs.get t13)) t47 (PT.put x1 t46 (PT.put (orU (fs.get t15)) t45 (PT.put (orU (fs.get t1)) t44 fs)))))))))))))))), s))
 (some ((.exit 0), (PT.put x1 t46 (PT.put (orU (fs.get t15)) t45 (PT.put (orU (fs.get t1)) t44 fs))), s))
theorem d37_l0 (rec : Rec) (N : Nat) (fs : Frm) (s : St) : c37_l0 rec N fs s = D37_l0 rec N fs s := by
  simp only [c37_l0, call_f, lenN, x_seq, x_ops, x_skip, x_ret, x_exit, x_cond, x_block, x_loop, ops_c, ops_n, op1_u, op1_gj, op2_op2, op2_op, op2_s, op2_cond, thenX_n, thenX_e, thenX_r, blkX_n, blkX_r, blkX_e, finX_r, finX_n, res_n, res_t, mov_f, op_s, Nat.beq_refl, cond_true]
  first | done | kernel_rfl
def D37_r0 (rec : Rec) (N : Nat) (fs : Frm) (s : St) : OutX := opt2 (oBin (int2 subO) (.v (orU (fs.get t13))) (.v (.int .i64 1)) rec PT.nil s) fun x1 s =>
 opt2 (oIdxS (.v (.string ⟨⟨[48, 49, 50, 51, 52, 53, 54, 55, 56, 57, 97, 98, 99, 100, 101, 102, 103, 104, 105, 106, 107, 108, 109, 110, 111, 112, 113, 114, 115, 116, 117, 118, 119, 120, 121, 122]⟩⟩)) (.v (orU (fs.get t1))) rec PT.nil s) fun x2 s =>
 opt2 (oIdxAddrA 65 1 (.v (orU (fs.get t12))) (.v x1) rec PT.nil s) fun x3 s =>
 opt2 (oStore 1 (.v x3) (.v x2) rec PT.nil s) fun x4 s =>
 some (.norm, (PT.put x3 t63 (PT.put x2 t62 (PT.put (orU (fs.get t1)) t61 (PT.put x1 t60 (PT.put x1 t13 (PT.put x1 t59 (PT.put (orU (fs.get t13)) t58 fs))))))), s)
theorem d37_r0 (rec : Rec) (N : Nat) (fs : Frm) (s : St) : c37_r0 rec N fs s = D37_r0 rec N fs s := by
  simp only [c37_r0, call_f, lenN, x_seq, x_ops, x_skip, x_ret, x_exit, x_cond, x_block, x_loop, ops_c, ops_n, op1_u, op1_gj, op2_op2, op2_op, op2_s, op2_cond, thenX_n, thenX_e, thenX_r, blkX_n, blkX_r, blkX_e, finX_r, finX_n, res_n, res_t, mov_f, op_s, Nat.beq_refl, cond_true]
  first | done | kernel_rfl
def D37_l1 (rec : Rec) (N : Nat) (fs : Frm) (s : St) : OutX := opt2 (oBin (int2 (cmpO geI)) (.v (orU (fs.get t1))) (.v (orU (fs.get t17))) rec PT.nil s) fun x1 s =>
 condV x1
 (opt2 (oBin (int2 subO) (.v (orU (fs.get t13))) (.v (.int .i64 1)) rec PT.nil s) fun x2 s =>
 opt2 (oBin (int2 quoO) (.v (orU (fs.get t1))) (.v (orU (fs.get t17))) rec PT.nil s) fun x3 s =>
 opt2 (oBin (int2 mulO) (.v x3) (.v (orU (fs.get t17))) rec PT.nil s) fun x4 s =>
 opt2 (oBin (int2 subO) (.v (orU (fs.get t1))) (.v x4) rec PT.nil s) fun x5 s =>
 opt2 (oIdxS (.v (.string ⟨⟨[48, 49, 50, 51, 52, 53, 54, 55, 56, 57, 97, 98, 99, 100, 101, 102, 103, 104, 105, 106, 107, 108, 109, 110, 111, 112, 113, 114, 115, 116, 117, 118, 119, 120, 121, 122]⟩⟩)) (.v x5) rec PT.nil s) fun x6 s =>
 opt2 (oIdxAddrA 65 1 (.v (orU (fs.get t12))) (.v x2) rec PT.nil s) fun x7 s =>
 opt2 (oStore 1 (.v x7) (.v x6) rec PT.nil s) fun x8 s =>
 some (.norm, (PT.put x3 t1 (PT.put x3 t82 (PT.put x7 t81 (PT.put x6 t80 (PT.put x5 t79 (PT.put x4 t78 (PT.put (orU (fs.get t17)) t77 (PT.put x3 t76 (PT.put (orU (fs.get t1)) t75 (PT.put x2 t74 (PT.put x3 t18 (PT.put x3 t73 (PT.put (orU (fs.get t17)) t72 (PT.put (orU (fs.get t1)) t71 (PT.put x2 t13 (PT.put x2 t70 (PT.put (orU (fs.get t13)) t69 (PT.put x1 t68 (PT.put (orU (fs.get t17)) t67 (PT.put (orU (fs.get t1)) t66 fs)))))))))))))))))))), s))
 (some ((.exit 2), (PT.put x1 t68 (PT.put (orU (fs.get t17)) t67 (PT.put (orU (fs.get t1)) t66 fs))), s))
theorem d37_l1 (rec : Rec) (N : Nat) (fs : Frm) (s : St) : c37_l1 rec N fs s = D37_l1 rec N fs s := by
  simp only [c37_l1, call_f, lenN, x_seq, x_ops, x_skip, x_ret, x_exit, x_cond, x_block, x_loop, ops_c, ops_n, op1_u, op1_gj, op2_op2, op2_op, op2_s, op2_cond, thenX_n, thenX_e, thenX_r, blkX_n, blkX_r, blkX_e, finX_r, finX_n, res_n, res_t, mov_f, op_s, Nat.beq_refl, cond_true]
  first | done | kernel_rfl
def D37_r1 (rec : Rec) (N : Nat) (fs : Frm) (s : St) : OutX := opt2 (oBin (int2 subO) (.v (orU (fs.get t13))) (.v (.int .i64 1)) rec PT.nil s) fun x1 s =>
 opt2 (oIdxS (.v (.string ⟨⟨[48, 49, 50, 51, 52, 53, 54, 55, 56, 57, 97, 98, 99, 100, 101, 102, 103, 104, 105, 106, 107, 108, 109, 110, 111, 112, 113, 114, 115, 116, 117, 118, 119, 120, 121, 122]⟩⟩)) (.v (orU (fs.get t1))) rec PT.nil s) fun x2 s =>
 opt2 (oIdxAddrA 65 1 (.v (orU (fs.get t12))) (.v x1) rec PT.nil s) fun x3 s =>
 opt2 (oStore 1 (.v x3) (.v x2) rec PT.nil s) fun x4 s =>
 some (.norm, (PT.put x3 t88 (PT.put x2 t87 (PT.put (orU (fs.get t1)) t86 (PT.put x1 t85 (PT.put x1 t13 (PT.put x1 t84 (PT.put (orU (fs.get t13)) t83 fs))))))), s)
theorem d37_r1 (rec : Rec) (N : Nat) (fs : Frm) (s : St) : c37_r1 rec N fs s = D37_r1 rec N fs s := by
  simp only [c37_r1, call_f, lenN, x_seq, x_ops, x_skip, x_ret, x_exit, x_cond, x_block, x_loop, ops_c, ops_n, op1_u, op1_gj, op2_op2, op2_op, op2_s, op2_cond, thenX_n, thenX_e, thenX_r, blkX_n, blkX_r, blkX_e, finX_r, finX_n, res_n, res_t, mov_f, op_s, Nat.beq_refl, cond_true]
  first | done | kernel_rfl
def D37_r2 (rec : Rec) (N : Nat) (fs : Frm) (s : St) : OutX := condV (orU (fs.get t3))
 (opt2 (oBin (int2 subO) (.v (orU (fs.get t13))) (.v (.int .i64 1)) rec PT.nil s) fun x1 s =>
 opt2 (oIdxAddrA 65 1 (.v (orU (fs.get t12))) (.v x1) rec PT.nil s) fun x2 s =>
 opt2 (oStore 1 (.v x2) (.v (.int .u8 45)) rec PT.nil s) fun x3 s =>
 condV (orU (fs.get t4))
 (opt2 (oSliceA 65 1 (.v (orU (fs.get t12))) (some (.v x1)) none rec PT.nil s) fun x4 s =>
 opt2 (oAppend 1 1 (.v (orU (fs.get t0))) (.v x4) rec PT.nil s) fun x5 s =>
 some (.ret, (PT.put x5 t10 (PT.put x5 t98 (PT.put x4 t97 (PT.put x1 t96 (PT.put (orU (fs.get t0)) t95 (PT.put (orU (fs.get t4)) t94 (PT.put x2 t93 (PT.put x1 t92 (PT.put x1 t13 (PT.put x1 t91 (PT.put (orU (fs.get t13)) t90 (PT.put (orU (fs.get t3)) t89 fs)))))))))))), s))
 (opt2 (oSliceA 65 1 (.v (orU (fs.get t12))) (some (.v x1)) none rec PT.nil s) fun x6 s =>
 opt2 (oBytesStr (.v x6) rec PT.nil s) fun x7 s =>
 some (.ret, (PT.put x7 t11 (PT.put x7 t101 (PT.put x6 t100 (PT.put x1 t99 (PT.put (orU (fs.get t4)) t94 (PT.put x2 t93 (PT.put x1 t92 (PT.put x1 t13 (PT.put x1 t91 (PT.put (orU (fs.get t13)) t90 (PT.put (orU (fs.get t3)) t89 fs))))))))))), s)))
 (condV (orU (fs.get t4))
 (opt2 (oSliceA 65 1 (.v (orU (fs.get t12))) (some (.v (orU (fs.get t13)))) none rec PT.nil s) fun x8 s =>
 opt2 (oAppend 1 1 (.v (orU (fs.get t0))) (.v x8) rec PT.nil s) fun x9 s =>
 some (.ret, (PT.put x9 t10 (PT.put x9 t98 (PT.put x8 t97 (PT.put (orU (fs.get t13)) t96 (PT.put (orU (fs.get t0)) t95 (PT.put (orU (fs.get t4)) t94 (PT.put (orU (fs.get t3)) t89 fs))))))), s))
 (opt2 (oSliceA 65 1 (.v (orU (fs.get t12))) (some (.v (orU (fs.get t13)))) none rec PT.nil s) fun x10 s =>
 opt2 (oBytesStr (.v x10) rec PT.nil s) fun x11 s =>
 some (.ret, (PT.put x11 t11 (PT.put x11 t101 (PT.put x10 t100 (PT.put (orU (fs.get t13)) t99 (PT.put (orU (fs.get t4)) t94 (PT.put (orU (fs.get t3)) t89 fs)))))), s)))
theorem d37_r2 (rec : Rec) (N : Nat) (fs : Frm) (s : St) : c37_r2 rec N fs s = D37_r2 rec N fs s := by
  simp only [c37_r2, call_f, lenN, x_seq, x_ops, x_skip, x_ret, x_exit, x_cond, x_block, x_loop, ops_c, ops_n, op1_u, op1_gj, op2_op2, op2_op, op2_s, op2_cond, thenX_n, thenX_e, thenX_r, blkX_n, blkX_r, blkX_e, finX_r, finX_n, res_n, res_t, mov_f, op_s, Nat.beq_refl, cond_true]
  first | done | kernel_rfl
def D37 (rec : Rec) (N : Nat) (a0 : Value) (a1 : Value) (a2 : Value) (a3 : Value) (a4 : Value) (s : St) : Out := opt2 (oBin (int2 (cmpO ltI)) (.v a2) (.v (.int .i64 2)) rec PT.nil s) fun x1 s =>
 opt (gval false x1) fun x2 => opt2 (orUndef x2 (some (a2, s)) s) fun x3 s =>
 opt (gval false x1) fun x4 => opt2 (orUndef x4 (oBin (int2 (cmpO eqI)) (.v x3) (.v (.int .i64 10)) rec PT.nil s) s) fun x5 s =>
 opt2 (oPick (.v x1) (.v (.bool true)) (.v x5) rec PT.nil s) fun x6 s =>
 opt (gval false x6) fun x7 => opt2 (orUndef x7 (some (a2, s)) s) fun x8 s =>
 opt (gval false x6) fun x9 => opt2 (orUndef x9 (oBin (int2 (cmpO gtI)) (.v x8) (.v (.int .i64 36)) rec PT.nil s) s) fun x10 s =>
 opt2 (oPick (.v x6) (.v (.bool true)) (.v x10) rec PT.nil s) fun x11 s =>
 condV x11
 (opt2 (oIface 9 (.v (.string ⟨⟨[115, 116, 114, 99, 111, 110, 118, 58, 32, 105, 108, 108, 101, 103, 97, 108, 32, 65, 112, 112, 101, 110, 100, 73, 110, 116, 47, 70, 111, 114, 109, 97, 116, 73, 110, 116, 32, 98, 97, 115, 101]⟩⟩)) rec PT.nil s) fun x12 s =>
 opt2 (oBad rec PT.nil s) fun x13 s =>
 opt2 (oNew (rep 65 [(.int .u8 0)]) rec PT.nil s) fun x14 s =>
 condV a3
 (opt2 (oNeg (.v a1) rec PT.nil s) fun x15 s =>
 opt2 (rec 41 [a2] s) fun x16 s =>
 condV x16
 (opt2 (oConv .u64 (.v a2) rec PT.nil s) fun x17 s =>
 opt2 (rec 42 [x17] s) fun x18 s =>
 opt2 (oConv .u64 (.v x18) rec PT.nil s) fun x19 s =>
 opt2 (oConv .u64 (.v a2) rec PT.nil s) fun x20 s =>
 opt2 (oConv .u64 (.v a2) rec PT.nil s) fun x21 s =>
 opt2 (oBin (int2 subO) (.v x21) (.v (.int .u64 1)) rec PT.nil s) fun x22 s =>
 opt2 (loopF (c37_l0 rec N) N (PT.put x22 t16 (PT.put x22 t43 (PT.put x21 t42 (PT.put a2 t41 (PT.put x20 t15 (PT.put x20 t40 (PT.put a2 t39 (PT.put x19 t14 (PT.put x19 t38 (PT.put x18 t37 (PT.put x17 t36 (PT.put a2 t35 (PT.put x16 t34 (PT.put a2 t33 (PT.put x15 t1 (PT.put x15 t32 (PT.put a1 t31 (PT.put a3 t30 (PT.put (.int .i64 65) t13 (PT.put x14 t12 (PT.put x12 t29 (PT.put x11 t28 (PT.put x10 t27 (PT.put x8 t26 (PT.put x6 t25 (PT.put x6 t24 (PT.put x5 t23 (PT.put x3 t22 (PT.put x1 t21 (PT.put x1 t20 (PT.put a2 t19 (PT.put (.string ⟨⟨[]⟩⟩) t11 (PT.put (.slice none 0 0) t10 (PT.put a4 t4 (PT.put a3 t3 (PT.put a2 t2 (PT.put a1 t1 (PT.put a0 t0 PT.nil)))))))))))))))))))))))))))))))))))))) s) fun e r => opt2 (blkX 0 e r) fun e r => opt2 (thenX (c37_r0 rec N) e r) fun e r => opt2 (thenX (c37_r2 rec N) e r) fun e r => finX [.tmp t10, .tmp t11] e r)
 (opt2 (oConv .u64 (.v a2) rec PT.nil s) fun x23 s =>
 opt2 (loopF (c37_l1 rec N) N (PT.put x23 t17 (PT.put x23 t65 (PT.put a2 t64 (PT.put x16 t34 (PT.put a2 t33 (PT.put x15 t1 (PT.put x15 t32 (PT.put a1 t31 (PT.put a3 t30 (PT.put (.int .i64 65) t13 (PT.put x14 t12 (PT.put x12 t29 (PT.put x11 t28 (PT.put x10 t27 (PT.put x8 t26 (PT.put x6 t25 (PT.put x6 t24 (PT.put x5 t23 (PT.put x3 t22 (PT.put x1 t21 (PT.put x1 t20 (PT.put a2 t19 (PT.put (.string ⟨⟨[]⟩⟩) t11 (PT.put (.slice none 0 0) t10 (PT.put a4 t4 (PT.put a3 t3 (PT.put a2 t2 (PT.put a1 t1 (PT.put a0 t0 PT.nil))))))))))))))))))))))))))))) s) fun e r => opt2 (blkX 2 e r) fun e r => opt2 (thenX (c37_r1 rec N) e r) fun e r => opt2 (thenX (c37_r2 rec N) e r) fun e r => finX [.tmp t10, .tmp t11] e r))
 (opt2 (rec 41 [a2] s) fun x24 s =>
 condV x24
 (opt2 (oConv .u64 (.v a2) rec PT.nil s) fun x25 s =>
 opt2 (rec 42 [x25] s) fun x26 s =>
 opt2 (oConv .u64 (.v x26) rec PT.nil s) fun x27 s =>
 opt2 (oConv .u64 (.v a2) rec PT.nil s) fun x28 s =>
 opt2 (oConv .u64 (.v a2) rec PT.nil s) fun x29 s =>
 opt2 (oBin (int2 subO) (.v x29) (.v (.int .u64 1)) rec PT.nil s) fun x30 s =>
 opt2 (loopF (c37_l0 rec N) N (PT.put x30 t16 (PT.put x30 t43 (PT.put x29 t42 (PT.put a2 t41 (PT.put x28 t15 (PT.put x28 t40 (PT.put a2 t39 (PT.put x27 t14 (PT.put x27 t38 (PT.put x26 t37 (PT.put x25 t36 (PT.put a2 t35 (PT.put x24 t34 (PT.put a2 t33 (PT.put a3 t30 (PT.put (.int .i64 65) t13 (PT.put x14 t12 (PT.put x12 t29 (PT.put x11 t28 (PT.put x10 t27 (PT.put x8 t26 (PT.put x6 t25 (PT.put x6 t24 (PT.put x5 t23 (PT.put x3 t22 (PT.put x1 t21 (PT.put x1 t20 (PT.put a2 t19 (PT.put (.string ⟨⟨[]⟩⟩) t11 (PT.put (.slice none 0 0) t10 (PT.put a4 t4 (PT.put a3 t3 (PT.put a2 t2 (PT.put a1 t1 (PT.put a0 t0 PT.nil))))))))))))))))))))))))))))))))))) s) fun e r => opt2 (blkX 0 e r) fun e r => opt2 (thenX (c37_r0 rec N) e r) fun e r => opt2 (thenX (c37_r2 rec N) e r) fun e r => finX [.tmp t10, .tmp t11] e r)
 (opt2 (oConv .u64 (.v a2) rec PT.nil s) fun x31 s =>
 opt2 (loopF (c37_l1 rec N) N (PT.put x31 t17 (PT.put x31 t65 (PT.put a2 t64 (PT.put x24 t34 (PT.put a2 t33 (PT.put a3 t30 (PT.put (.int .i64 65) t13 (PT.put x14 t12 (PT.put x12 t29 (PT.put x11 t28 (PT.put x10 t27 (PT.put x8 t26 (PT.put x6 t25 (PT.put x6 t24 (PT.put x5 t23 (PT.put x3 t22 (PT.put x1 t21 (PT.put x1 t20 (PT.put a2 t19 (PT.put (.string ⟨⟨[]⟩⟩) t11 (PT.put (.slice none 0 0) t10 (PT.put a4 t4 (PT.put a3 t3 (PT.put a2 t2 (PT.put a1 t1 (PT.put a0 t0 PT.nil)))))))))))))))))))))))))) s) fun e r => opt2 (blkX 2 e r) fun e r => opt2 (thenX (c37_r1 rec N) e r) fun e r => opt2 (thenX (c37_r2 rec N) e r) fun e r => finX [.tmp t10, .tmp t11] e r)))
 (opt2 (oNew (rep 65 [(.int .u8 0)]) rec PT.nil s) fun x32 s =>
 condV a3
 (opt2 (oNeg (.v a1) rec PT.nil s) fun x33 s =>
 opt2 (rec 41 [a2] s) fun x34 s =>
 condV x34
 (opt2 (oConv .u64 (.v a2) rec PT.nil s) fun x35 s =>
 opt2 (rec 42 [x35] s) fun x36 s =>
 opt2 (oConv .u64 (.v x36) rec PT.nil s) fun x37 s =>
 opt2 (oConv .u64 (.v a2) rec PT.nil s) fun x38 s =>
 opt2 (oConv .u64 (.v a2) rec PT.nil s) fun x39 s =>
 opt2 (oBin (int2 subO) (.v x39) (.v (.int .u64 1)) rec PT.nil s) fun x40 s =>
 opt2 (loopF (c37_l0 rec N) N (PT.put x40 t16 (PT.put x40 t43 (PT.put x39 t42 (PT.put a2 t41 (PT.put x38 t15 (PT.put x38 t40 (PT.put a2 t39 (PT.put x37 t14 (PT.put x37 t38 (PT.put x36 t37 (PT.put x35 t36 (PT.put a2 t35 (PT.put x34 t34 (PT.put a2 t33 (PT.put x33 t1 (PT.put x33 t32 (PT.put a1 t31 (PT.put a3 t30 (PT.put (.int .i64 65) t13 (PT.put x32 t12 (PT.put x11 t28 (PT.put x10 t27 (PT.put x8 t26 (PT.put x6 t25 (PT.put x6 t24 (PT.put x5 t23 (PT.put x3 t22 (PT.put x1 t21 (PT.put x1 t20 (PT.put a2 t19 (PT.put (.string ⟨⟨[]⟩⟩) t11 (PT.put (.slice none 0 0) t10 (PT.put a4 t4 (PT.put a3 t3 (PT.put a2 t2 (PT.put a1 t1 (PT.put a0 t0 PT.nil))))))))))))))))))))))))))))))))))))) s) fun e r => opt2 (blkX 0 e r) fun e r => opt2 (thenX (c37_r0 rec N) e r) fun e r => opt2 (thenX (c37_r2 rec N) e r) fun e r => finX [.tmp t10, .tmp t11] e r)
 (opt2 (oConv .u64 (.v a2) rec PT.nil s) fun x41 s =>
 opt2 (loopF (c37_l1 rec N) N (PT.put x41 t17 (PT.put x41 t65 (PT.put a2 t64 (PT.put x34 t34 (PT.put a2 t33 (PT.put x33 t1 (PT.put x33 t32 (PT.put a1 t31 (PT.put a3 t30 (PT.put (.int .i64 65) t13 (PT.put x32 t12 (PT.put x11 t28 (PT.put x10 t27 (PT.put x8 t26 (PT.put x6 t25 (PT.put x6 t24 (PT.put x5 t23 (PT.put x3 t22 (PT.put x1 t21 (PT.put x1 t20 (PT.put a2 t19 (PT.put (.string ⟨⟨[]⟩⟩) t11 (PT.put (.slice none 0 0) t10 (PT.put a4 t4 (PT.put a3 t3 (PT.put a2 t2 (PT.put a1 t1 (PT.put a0 t0 PT.nil)))))))))))))))))))))))))))) s) fun e r => opt2 (blkX 2 e r) fun e r => opt2 (thenX (c37_r1 rec N) e r) fun e r => opt2 (thenX (c37_r2 rec N) e r) fun e r => finX [.tmp t10, .tmp t11] e r))
 (opt2 (rec 41 [a2] s) fun x42 s =>
 condV x42
 (opt2 (oConv .u64 (.v a2) rec PT.nil s) fun x43 s =>
 opt2 (rec 42 [x43] s) fun x44 s =>
 opt2 (oConv .u64 (.v x44) rec PT.nil s) fun x45 s =>
 opt2 (oConv .u64 (.v a2) rec PT.nil s) fun x46 s =>
 opt2 (oConv .u64 (.v a2) rec PT.nil s) fun x47 s =>
 opt2 (oBin (int2 subO) (.v x47) (.v (.int .u64 1)) rec PT.nil s) fun x48 s =>
 opt2 (loopF (c37_l0 rec N) N (PT.put x48 t16 (PT.put x48 t43 (PT.put x47 t42 (PT.put a2 t41 (PT.put x46 t15 (PT.put x46 t40 (PT.put a2 t39 (PT.put x45 t14 (PT.put x45 t38 (PT.put x44 t37 (PT.put x43 t36 (PT.put a2 t35 (PT.put x42 t34 (PT.put a2 t33 (PT.put a3 t30 (PT.put (.int .i64 65) t13 (PT.put x32 t12 (PT.put x11 t28 (PT.put x10 t27 (PT.put x8 t26 (PT.put x6 t25 (PT.put x6 t24 (PT.put x5 t23 (PT.put x3 t22 (PT.put x1 t21 (PT.put x1 t20 (PT.put a2 t19 (PT.put (.string ⟨⟨[]⟩⟩) t11 (PT.put (.slice none 0 0) t10 (PT.put a4 t4 (PT.put a3 t3 (PT.put a2 t2 (PT.put a1 t1 (PT.put a0 t0 PT.nil)))))))))))))))))))))))))))))))))) s) fun e r => opt2 (blkX 0 e r) fun e r => opt2 (thenX (c37_r0 rec N) e r) fun e r => opt2 (thenX (c37_r2 rec N) e r) fun e r => finX [.tmp t10, .tmp t11] e r)
 (opt2 (oConv .u64 (.v a2) rec PT.nil s) fun x49 s =>
 opt2 (loopF (c37_l1 rec N) N (PT.put x49 t17 (PT.put x49 t65 (PT.put a2 t64 (PT.put x42 t34 (PT.put a2 t33 (PT.put a3 t30 (PT.put (.int .i64 65) t13 (PT.put x32 t12 (PT.put x11 t28 (PT.put x10 t27 (PT.put x8 t26 (PT.put x6 t25 (PT.put x6 t24 (PT.put x5 t23 (PT.put x3 t22 (PT.put x1 t21 (PT.put x1 t20 (PT.put a2 t19 (PT.put (.string ⟨⟨[]⟩⟩) t11 (PT.put (.slice none 0 0) t10 (PT.put a4 t4 (PT.put a3 t3 (PT.put a2 t2 (PT.put a1 t1 (PT.put a0 t0 PT.nil))))))))))))))))))))))))) s) fun e r => opt2 (blkX 2 e r) fun e r => opt2 (thenX (c37_r1 rec N) e r) fun e r => opt2 (thenX (c37_r2 rec N) e r) fun e r => finX [.tmp t10, .tmp t11] e r)))
theorem d37 (rec : Rec) (N : Nat) (a0 : Value) (a1 : Value) (a2 : Value) (a3 : Value) (a4 : Value) (s : St) : callF rec N c37 [a0, a1, a2, a3, a4] s = D37 rec N a0 a1 a2 a3 a4 s := by
  rw [call_f _ _ _ _ _ rfl]
  simp only [c37, x_seq, x_ops, x_skip, x_ret, x_exit, x_cond, x_block, x_loop, ops_c, ops_n, op1_u, op1_gj, op2_op2, op2_op, op2_s, op2_cond, thenX_n, thenX_e, thenX_r, blkX_n, blkX_r, blkX_e, finX_r, finX_n, res_n, res_t, mov_f, op_s, Nat.beq_refl, cond_true]
  first | done | kernel_rfl
def D38 (rec : Rec) (N : Nat) (a0 : Value) (s : St) : Out := opt2 (oBin (int2 mulO) (.v a0) (.v (.int .i64 78913)) rec PT.nil s) fun x1 s =>
 opt2 (oBin (sh2 shrO) (.v x1) (.v (.int .u64 18)) rec PT.nil s) fun x2 s =>
 some (oneOf [x2], s)
theorem d38 (rec : Rec) (N : Nat) (a0 : Value) (s : St) : callF rec N c38 [a0] s = D38 rec N a0 s := by
  rw [call_f _ _ _ _ _ rfl]
  simp only [c38, x_seq, x_ops, x_skip, x_ret, x_exit, x_cond, x_block, x_loop, ops_c, ops_n, op1_u, op1_gj, op2_op2, op2_op, op2_s, op2_cond, thenX_n, thenX_e, thenX_r, blkX_n, blkX_r, blkX_e, finX_r, finX_n, res_n, res_t, mov_f, op_s, Nat.beq_refl, cond_true]
  first | done | kernel_rfl
def D39 (rec : Rec) (N : Nat) (a0 : Value) (s : St) : Out := opt2 (oBin (int2 (cmpO geI)) (.v a0) (.v (.int .u64 4294967296)) rec PT.nil s) fun x1 s =>
 condV x1
 (opt2 (oBin (sh2 shrO) (.v a0) (.v (.int .u64 32)) rec PT.nil s) fun x2 s =>
 opt2 (oBin (int2 (cmpO geI)) (.v x2) (.v (.int .u64 65536)) rec PT.nil s) fun x3 s =>
 condV x3
 (opt2 (oBin (sh2 shrO) (.v x2) (.v (.int .u64 16)) rec PT.nil s) fun x4 s =>
 opt2 (oBin (int2 addO) (.v (.int .i64 32)) (.v (.int .i64 16)) rec PT.nil s) fun x5 s =>
 opt2 (oBin (int2 (cmpO geI)) (.v x4) (.v (.int .u64 256)) rec PT.nil s) fun x6 s =>
 condV x6
 (opt2 (oBin (sh2 shrO) (.v x4) (.v (.int .u64 8)) rec PT.nil s) fun x7 s =>
 opt2 (oBin (int2 addO) (.v x5) (.v (.int .i64 8)) rec PT.nil s) fun x8 s =>
 opt2 (oConv .u8 (.v x7) rec PT.nil s) fun x9 s =>
 opt2 (oIdxS (.v (.string ⟨⟨[0, 1, 2, 2, 3, 3, 3, 3, 4, 4, 4, 4, 4, 4, 4, 4, 5, 5, 5, 5, 5, 5, 5, 5, 5, 5, 5, 5, 5, 5, 5, 5, 6, 6, 6, 6, 6, 6, 6, 6, 6, 6, 6, 6, 6, 6, 6, 6, 6, 6, 6, 6, 6, 6, 6, 6, 6, 6, 6, 6, 6, 6, 6, 6, 7, 7, 7, 7, 7, 7, 7, 7, 7, 7, 7, 7, 7, 7, 7, 7, 7, 7, 7, 7, 7, 7, 7, 7, 7, 7, 7, 7, 7, 7, 7, 7, 7, 7, 7, 7, 7, 7, 7, 7, 7, 7, 7, 7, 7, 7, 7, 7, 7, 7, 7, 7, 7, 7, 7, 7, 7, 7, 7, 7, 7, 7, 7, 7, 8, 8, 8, 8, 8, 8, 8, 8, 8, 8, 8, 8, 8, 8, 8, 8, 8, 8, 8, 8, 8, 8, 8, 8, 8, 8, 8, 8, 8, 8, 8, 8, 8, 8, 8, 8, 8, 8, 8, 8, 8, 8, 8, 8, 8, 8, 8, 8, 8, 8, 8, 8, 8, 8, 8, 8, 8, 8, 8, 8, 8, 8, 8, 8, 8, 8, 8, 8, 8, 8, 8, 8, 8, 8, 8, 8, 8, 8, 8, 8, 8, 8, 8, 8, 8, 8, 8, 8, 8, 8, 8, 8, 8, 8, 8, 8, 8, 8, 8, 8, 8, 8, 8, 8, 8, 8, 8, 8, 8, 8, 8, 8, 8, 8, 8, 8, 8, 8, 8, 8, 8, 8, 8, 8, 8, 8, 8, 8]⟩⟩)) (.v x9) rec PT.nil s) fun x10 s =>
 opt2 (oConv .i64 (.v x10) rec PT.nil s) fun x11 s =>
 opt2 (oBin (int2 addO) (.v x8) (.v x11) rec PT.nil s) fun x12 s =>
 some (oneOf [x12], s))
 (opt2 (oConv .u8 (.v x4) rec PT.nil s) fun x13 s =>
 opt2 (oIdxS (.v (.string ⟨⟨[0, 1, 2, 2, 3, 3, 3, 3, 4, 4, 4, 4, 4, 4, 4, 4, 5, 5, 5, 5, 5, 5, 5, 5, 5, 5, 5, 5, 5, 5, 5, 5, 6, 6, 6, 6, 6, 6, 6, 6, 6, 6, 6, 6, 6, 6, 6, 6, 6, 6, 6, 6, 6, 6, 6, 6, 6, 6, 6, 6, 6, 6, 6, 6, 7, 7, 7, 7, 7, 7, 7, 7, 7, 7, 7, 7, 7, 7, 7, 7, 7, 7, 7, 7, 7, 7, 7, 7, 7, 7, 7, 7, 7, 7, 7, 7, 7, 7, 7, 7, 7, 7, 7, 7, 7, 7, 7, 7, 7, 7, 7, 7, 7, 7, 7, 7, 7, 7, 7, 7, 7, 7, 7, 7, 7, 7, 7, 7, 8, 8, 8, 8, 8, 8, 8, 8, 8, 8, 8, 8, 8, 8, 8, 8, 8, 8, 8, 8, 8, 8, 8, 8, 8, 8, 8, 8, 8, 8, 8, 8, 8, 8, 8, 8, 8, 8, 8, 8, 8, 8, 8, 8, 8, 8, 8, 8, 8, 8, 8, 8, 8, 8, 8, 8, 8, 8, 8, 8, 8, 8, 8, 8, 8, 8, 8, 8, 8, 8, 8, 8, 8, 8, 8, 8, 8, 8, 8, 8, 8, 8, 8, 8, 8, 8, 8, 8, 8, 8, 8, 8, 8, 8, 8, 8, 8, 8, 8, 8, 8, 8, 8, 8, 8, 8, 8, 8, 8, 8, 8, 8, 8, 8, 8, 8, 8, 8, 8, 8, 8, 8, 8, 8, 8, 8, 8, 8]⟩⟩)) (.v x13) rec PT.nil s) fun x14 s =>
 opt2 (oConv .i64 (.v x14) rec PT.nil s) fun x15 s =>
 opt2 (oBin (int2 addO) (.v x5) (.v x15) rec PT.nil s) fun x16 s =>
 some (oneOf [x16], s)))
 (opt2 (oBin (int2 (cmpO geI)) (.v x2) (.v (.int .u64 256)) rec PT.nil s) fun x17 s =>
 condV x17
 (opt2 (oBin (sh2 shrO) (.v x2) (.v (.int .u64 8)) rec PT.nil s) fun x18 s =>
 opt2 (oBin (int2 addO) (.v (.int .i64 32)) (.v (.int .i64 8)) rec PT.nil s) fun x19 s =>
 opt2 (oConv .u8 (.v x18) rec PT.nil s) fun x20 s =>
 opt2 (oIdxS (.v (.string ⟨⟨[0, 1, 2, 2, 3, 3, 3, 3, 4, 4, 4, 4, 4, 4, 4, 4, 5, 5, 5, 5, 5, 5, 5, 5, 5, 5, 5, 5, 5, 5, 5, 5, 6, 6, 6, 6, 6, 6, 6, 6, 6, 6, 6, 6, 6, 6, 6, 6, 6, 6, 6, 6, 6, 6, 6, 6, 6, 6, 6, 6, 6, 6, 6, 6, 7, 7, 7, 7, 7, 7, 7, 7, 7, 7, 7, 7, 7, 7, 7, 7, 7, 7, 7, 7, 7, 7, 7, 7, 7, 7, 7, 7, 7, 7, 7, 7, 7, 7, 7, 7, 7, 7, 7, 7, 7, 7, 7, 7, 7, 7, 7, 7, 7, 7, 7, 7, 7, 7, 7, 7, 7, 7, 7, 7, 7, 7, 7, 7, 8, 8, 8, 8, 8, 8, 8, 8, 8, 8, 8, 8, 8, 8, 8, 8, 8, 8, 8, 8, 8, 8, 8, 8, 8, 8, 8, 8, 8, 8, 8, 8, 8, 8, 8, 8, 8, 8, 8, 8, 8, 8, 8, 8, 8, 8, 8, 8, 8, 8, 8, 8, 8, 8, 8, 8, 8, 8, 8, 8, 8, 8, 8, 8, 8, 8, 8, 8, 8, 8, 8, 8, 8, 8, 8, 8, 8, 8, 8, 8, 8, 8, 8, 8, 8, 8, 8, 8, 8, 8, 8, 8, 8, 8, 8, 8, 8, 8, 8, 8, 8, 8, 8, 8, 8, 8, 8, 8, 8, 8, 8, 8, 8, 8, 8, 8, 8, 8, 8, 8, 8, 8, 8, 8, 8, 8, 8, 8]⟩⟩)) (.v x20) rec PT.nil s) fun x21 s =>
 opt2 (oConv .i64 (.v x21) rec PT.nil s) fun x22 s =>
 opt2 (oBin (int2 addO) (.v x19) (.v x22) rec PT.nil s) fun x23 s =>
 some (oneOf [x23], s))
 (opt2 (oConv .u8 (.v x2) rec PT.nil s) fun x24 s =>
 opt2 (oIdxS (.v (.string ⟨⟨[0, 1, 2, 2, 3, 3, 3, 3, 4, 4, 4, 4, 4, 4, 4, 4, 5, 5, 5, 5, 5, 5, 5, 5, 5, 5, 5, 5, 5, 5, 5, 5, 6, 6, 6, 6, 6, 6, 6, 6, 6, 6, 6, 6, 6, 6, 6, 6, 6, 6, 6, 6, 6, 6, 6, 6, 6, 6, 6, 6, 6, 6, 6, 6, 7, 7, 7, 7, 7, 7, 7, 7, 7, 7, 7, 7, 7, 7, 7, 7, 7, 7, 7, 7, 7, 7, 7, 7, 7, 7, 7, 7, 7, 7, 7, 7, 7, 7, 7, 7, 7, 7, 7, 7, 7, 7, 7, 7, 7, 7, 7, 7, 7, 7, 7, 7, 7, 7, 7, 7, 7, 7, 7, 7, 7, 7, 7, 7, 8, 8, 8, 8, 8, 8, 8, 8, 8, 8, 8, 8, 8, 8, 8, 8, 8, 8, 8, 8, 8, 8, 8, 8, 8, 8, 8, 8, 8, 8, 8, 8, 8, 8, 8, 8, 8, 8, 8, 8, 8, 8, 8, 8, 8, 8, 8, 8, 8, 8, 8, 8, 8, 8, 8, 8, 8, 8, 8, 8, 8, 8, 8, 8, 8, 8, 8, 8, 8, 8, 8, 8, 8, 8, 8, 8, 8, 8, 8, 8, 8, 8, 8, 8, 8, 8, 8, 8, 8, 8, 8, 8, 8, 8, 8, 8, 8, 8, 8, 8, 8, 8, 8, 8, 8, 8, 8, 8, 8, 8, 8, 8, 8, 8, 8, 8, 8, 8, 8, 8, 8, 8, 8, 8, 8, 8, 8, 8]⟩⟩)) (.v x24) rec PT.nil s) fun x25 s =>
 opt2 (oConv .i64 (.v x25) rec PT.nil s) fun x26 s =>
 opt2 (oBin (int2 addO) (.v (.int .i64 32)) (.v x26) rec PT.nil s) fun x27 s =>
 some (oneOf [x27], s))))
 (opt2 (oBin (int2 (cmpO geI)) (.v a0) (.v (.int .u64 65536)) rec PT.nil s) fun x28 s =>
 condV x28
 (opt2 (oBin (sh2 shrO) (.v a0) (.v (.int .u64 16)) rec PT.nil s) fun x29 s =>
 opt2 (oBin (int2 addO) (.v (.int .i64 0)) (.v (.int .i64 16)) rec PT.nil s) fun x30 s =>
 opt2 (oBin (int2 (cmpO geI)) (.v x29) (.v (.int .u64 256)) rec PT.nil s) fun x31 s =>
 condV x31
 (opt2 (oBin (sh2 shrO) (.v x29) (.v (.int .u64 8)) rec PT.nil s) fun x32 s =>
 opt2 (oBin (int2 addO) (.v x30) (.v (.int .i64 8)) rec PT.nil s) fun x33 s =>
 opt2 (oConv .u8 (.v x32) rec PT.nil s) fun x34 s =>
 opt2 (oIdxS (.v (.string ⟨⟨[0, 1, 2, 2, 3, 3, 3, 3, 4, 4, 4, 4, 4, 4, 4, 4, 5, 5, 5, 5, 5, 5, 5, 5, 5, 5, 5, 5, 5, 5, 5, 5, 6, 6, 6, 6, 6, 6, 6, 6, 6, 6, 6, 6, 6, 6, 6, 6, 6, 6, 6, 6, 6, 6, 6, 6, 6, 6, 6, 6, 6, 6, 6, 6, 7, 7, 7, 7, 7, 7, 7, 7, 7, 7, 7, 7, 7, 7, 7, 7, 7, 7, 7, 7, 7, 7, 7, 7, 7, 7, 7, 7, 7, 7, 7, 7, 7, 7, 7, 7, 7, 7, 7, 7, 7, 7, 7, 7, 7, 7, 7, 7, 7, 7, 7, 7, 7, 7, 7, 7, 7, 7, 7, 7, 7, 7, 7, 7, 8, 8, 8, 8, 8, 8, 8, 8, 8, 8, 8, 8, 8, 8, 8, 8, 8, 8, 8, 8, 8, 8, 8, 8, 8, 8, 8, 8, 8, 8, 8, 8, 8, 8, 8, 8, 8, 8, 8, 8, 8, 8, 8, 8, 8, 8, 8, 8, 8, 8, 8, 8, 8, 8, 8, 8, 8, 8, 8, 8, 8, 8, 8, 8, 8, 8, 8, 8, 8, 8, 8, 8, 8, 8, 8, 8, 8, 8, 8, 8, 8, 8, 8, 8, 8, 8, 8, 8, 8, 8, 8, 8, 8, 8, 8, 8, 8, 8, 8, 8, 8, 8, 8, 8, 8, 8, 8, 8, 8, 8, 8, 8, 8, 8, 8, 8, 8, 8, 8, 8, 8, 8, 8, 8, 8, 8, 8, 8]⟩⟩)) (.v x34) rec PT.nil s) fun x35 s =>
 opt2 (oConv .i64 (.v x35) rec PT.nil s) fun x36 s =>
 opt2 (oBin (int2 addO) (.v x33) (.v x36) rec PT.nil s) fun x37 s =>
 some (oneOf [x37], s))
 (opt2 (oConv .u8 (.v x29) rec PT.nil s) fun x38 s =>
 opt2 (oIdxS (.v (.string ⟨⟨[0, 1, 2, 2, 3, 3, 3, 3, 4, 4, 4, 4, 4, 4, 4, 4, 5, 5, 5, 5, 5, 5, 5, 5, 5, 5, 5, 5, 5, 5, 5, 5, 6, 6, 6, 6, 6, 6, 6, 6, 6, 6, 6, 6, 6, 6, 6, 6, 6, 6, 6, 6, 6, 6, 6, 6, 6, 6, 6, 6, 6, 6, 6, 6, 7, 7, 7, 7, 7, 7, 7, 7, 7, 7, 7, 7, 7, 7, 7, 7, 7, 7, 7, 7, 7, 7, 7, 7, 7, 7, 7, 7, 7, 7, 7, 7, 7, 7, 7, 7, 7, 7, 7, 7, 7, 7, 7, 7, 7, 7, 7, 7, 7, 7, 7, 7, 7, 7, 7, 7, 7, 7, 7, 7, 7, 7, 7, 7, 8, 8, 8, 8, 8, 8, 8, 8, 8, 8, 8, 8, 8, 8, 8, 8, 8, 8, 8, 8, 8, 8, 8, 8, 8, 8, 8, 8, 8, 8, 8, 8, 8, 8, 8, 8, 8, 8, 8, 8, 8, 8, 8, 8, 8, 8, 8, 8, 8, 8, 8, 8, 8, 8, 8, 8, 8, 8, 8, 8, 8, 8, 8, 8, 8, 8, 8, 8, 8, 8, 8, 8, 8, 8, 8, 8, 8, 8, 8, 8, 8, 8, 8, 8, 8, 8, 8, 8, 8, 8, 8, 8, 8, 8, 8, 8, 8, 8, 8, 8, 8, 8, 8, 8, 8, 8, 8, 8, 8, 8, 8, 8, 8, 8, 8, 8, 8, 8, 8, 8, 8, 8, 8, 8, 8, 8, 8, 8]⟩⟩)) (.v x38) rec PT.nil s) fun x39 s =>
 opt2 (oConv .i64 (.v x39) rec PT.nil s) fun x40 s =>
 opt2 (oBin (int2 addO) (.v x30) (.v x40) rec PT.nil s) fun x41 s =>
 some (oneOf [x41], s)))
 (opt2 (oBin (int2 (cmpO geI)) (.v a0) (.v (.int .u64 256)) rec PT.nil s) fun x42 s =>
 condV x42
 (opt2 (oBin (sh2 shrO) (.v a0) (.v (.int .u64 8)) rec PT.nil s) fun x43 s =>
 opt2 (oBin (int2 addO) (.v (.int .i64 0)) (.v (.int .i64 8)) rec PT.nil s) fun x44 s =>
 opt2 (oConv .u8 (.v x43) rec PT.nil s) fun x45 s =>
 opt2 (oIdxS (.v (.string ⟨⟨[0, 1, 2, 2, 3, 3, 3, 3, 4, 4, 4, 4, 4, 4, 4, 4, 5, 5, 5, 5, 5, 5, 5, 5, 5, 5, 5, 5, 5, 5, 5, 5, 6, 6, 6, 6, 6, 6, 6, 6, 6, 6, 6, 6, 6, 6, 6, 6, 6, 6, 6, 6, 6, 6, 6, 6, 6, 6, 6, 6, 6, 6, 6, 6, 7, 7, 7, 7, 7, 7, 7, 7, 7, 7, 7, 7, 7, 7, 7, 7, 7, 7, 7, 7, 7, 7, 7, 7, 7, 7, 7, 7, 7, 7, 7, 7, 7, 7, 7, 7, 7, 7, 7, 7, 7, 7, 7, 7, 7, 7, 7, 7, 7, 7, 7, 7, 7, 7, 7, 7, 7, 7, 7, 7, 7, 7, 7, 7, 8, 8, 8, 8, 8, 8, 8, 8, 8, 8, 8, 8, 8, 8, 8, 8, 8, 8, 8, 8, 8, 8, 8, 8, 8, 8, 8, 8, 8, 8, 8, 8, 8, 8, 8, 8, 8, 8, 8, 8, 8, 8, 8, 8, 8, 8, 8, 8, 8, 8, 8, 8, 8, 8, 8, 8, 8, 8, 8, 8, 8, 8, 8, 8, 8, 8, 8, 8, 8, 8, 8, 8, 8, 8, 8, 8, 8, 8, 8, 8, 8, 8, 8, 8, 8, 8, 8, 8, 8, 8, 8, 8, 8, 8, 8, 8, 8, 8, 8, 8, 8, 8, 8, 8, 8, 8, 8, 8, 8, 8, 8, 8, 8, 8, 8, 8, 8, 8, 8, 8, 8, 8, 8, 8, 8, 8, 8, 8]⟩⟩)) (.v x45) rec PT.nil s) fun x46 s =>
 opt2 (oConv .i64 (.v x46) rec PT.nil s) fun x47 s =>
 opt2 (oBin (int2 addO) (.v x44) (.v x47) rec PT.nil s) fun x48 s =>
 some (oneOf [x48], s))
 (opt2 (oConv .u8 (.v a0) rec PT.nil s) fun x49 s =>
 opt2 (oIdxS (.v (.string ⟨⟨[0, 1, 2, 2, 3, 3, 3, 3, 4, 4, 4, 4, 4, 4, 4, 4, 5, 5, 5, 5, 5, 5, 5, 5, 5, 5, 5, 5, 5, 5, 5, 5, 6, 6, 6, 6, 6, 6, 6, 6, 6, 6, 6, 6, 6, 6, 6, 6, 6, 6, 6, 6, 6, 6, 6, 6, 6, 6, 6, 6, 6, 6, 6, 6, 7, 7, 7, 7, 7, 7, 7, 7, 7, 7, 7, 7, 7, 7, 7, 7, 7, 7, 7, 7, 7, 7, 7, 7, 7, 7, 7, 7, 7, 7, 7, 7, 7, 7, 7, 7, 7, 7, 7, 7, 7, 7, 7, 7, 7, 7, 7, 7, 7, 7, 7, 7, 7, 7, 7, 7, 7, 7, 7, 7, 7, 7, 7, 7, 8, 8, 8, 8, 8, 8, 8, 8, 8, 8, 8, 8, 8, 8, 8, 8, 8, 8, 8, 8, 8, 8, 8, 8, 8, 8, 8, 8, 8, 8, 8, 8, 8, 8, 8, 8, 8, 8, 8, 8, 8, 8, 8, 8, 8, 8, 8, 8, 8, 8, 8, 8, 8, 8, 8, 8, 8, 8, 8, 8, 8, 8, 8, 8, 8, 8, 8, 8, 8, 8, 8, 8, 8, 8, 8, 8, 8, 8, 8, 8, 8, 8, 8, 8, 8, 8, 8, 8, 8, 8, 8, 8, 8, 8, 8, 8, 8, 8, 8, 8, 8, 8, 8, 8, 8, 8, 8, 8, 8, 8, 8, 8, 8, 8, 8, 8, 8, 8, 8, 8, 8, 8, 8, 8, 8, 8, 8, 8]⟩⟩)) (.v x49) rec PT.nil s) fun x50 s =>
 opt2 (oConv .i64 (.v x50) rec PT.nil s) fun x51 s =>
 opt2 (oBin (int2 addO) (.v (.int .i64 0)) (.v x51) rec PT.nil s) fun x52 s =>
 some (oneOf [x52], s))))
theorem d39 (rec : Rec) (N : Nat) (a0 : Value) (s : St) : callF rec N c39 [a0] s = D39 rec N a0 s := by
  rw [call_f _ _ _ _ _ rfl]
  simp only [c39, x_seq, x_ops, x_skip, x_ret, x_exit, x_cond, x_block, x_loop, ops_c, ops_n, op1_u, op1_gj, op2_op2, op2_op, op2_s, op2_cond, thenX_n, thenX_e, thenX_r, blkX_n, blkX_r, blkX_e, finX_r, finX_n, res_n, res_t, mov_f, op_s, Nat.beq_refl, cond_true]
  first | done | kernel_rfl
def D40 (rec : Rec) (N : Nat) (a0 : Value) (s : St) : Out := condV a0
 (some (oneOf [(.int .i64 1)], s))
 (some (oneOf [(.int .i64 0)], s))
theorem d40 (rec : Rec) (N : Nat) (a0 : Value) (s : St) : callF rec N c40 [a0] s = D40 rec N a0 s := by
  rw [call_f _ _ _ _ _ rfl]
  simp only [c40, x_seq, x_ops, x_skip, x_ret, x_exit, x_cond, x_block, x_loop, ops_c, ops_n, op1_u, op1_gj, op2_op2, op2_op, op2_s, op2_cond, thenX_n, thenX_e, thenX_r, blkX_n, blkX_r, blkX_e, finX_r, finX_n, res_n, res_t, mov_f, op_s, Nat.beq_refl, cond_true]
  first | done | kernel_rfl
def D41 (rec : Rec) (N : Nat) (a0 : Value) (s : St) : Out := opt2 (oBin (int2 subO) (.v a0) (.v (.int .i64 1)) rec PT.nil s) fun x1 s =>
 opt2 (oBin (int2 andO) (.v a0) (.v x1) rec PT.nil s) fun x2 s =>
 opt2 (oBin (int2 (cmpO eqI)) (.v x2) (.v (.int .i64 0)) rec PT.nil s) fun x3 s =>
 some (oneOf [x3], s)
theorem d41 (rec : Rec) (N : Nat) (a0 : Value) (s : St) : callF rec N c41 [a0] s = D41 rec N a0 s := by
  rw [call_f _ _ _ _ _ rfl]
  simp only [c41, x_seq, x_ops, x_skip, x_ret, x_exit, x_cond, x_block, x_loop, ops_c, ops_n, op1_u, op1_gj, op2_op2, op2_op, op2_s, op2_cond, thenX_n, thenX_e, thenX_r, blkX_n, blkX_r, blkX_e, finX_r, finX_n, res_n, res_t, mov_f, op_s, Nat.beq_refl, cond_true]
  first | done | kernel_rfl
def D42 (rec : Rec) (N : Nat) (a0 : Value) (s : St) : Out := condV (.bool false)
 (opt2 (oConv .u32 (.v a0) rec PT.nil s) fun x1 s =>
 opt2 (rec 43 [x1] s) fun x2 s =>
 some (oneOf [x2], s))
 (opt2 (rec 44 [a0] s) fun x3 s =>
 some (oneOf [x3], s))
theorem d42 (rec : Rec) (N : Nat) (a0 : Value) (s : St) : callF rec N c42 [a0] s = D42 rec N a0 s := by
  rw [call_f _ _ _ _ _ rfl]
  simp only [c42, x_seq, x_ops, x_skip, x_ret, x_exit, x_cond, x_block, x_loop, ops_c, ops_n, op1_u, op1_gj, op2_op2, op2_op, op2_s, op2_cond, thenX_n, thenX_e, thenX_r, blkX_n, blkX_r, blkX_e, finX_r, finX_n, res_n, res_t, mov_f, op_s, Nat.beq_refl, cond_true]
  first | done | kernel_rfl
def D43 (rec : Rec) (N : Nat) (a0 : Value) (s : St) : Out := opt2 (oBin (int2 (cmpO eqI)) (.v a0) (.v (.int .u32 0)) rec PT.nil s) fun x1 s =>
 condV x1
 (some (oneOf [(.int .i64 32)], s))
 (opt2 (oNeg (.v a0) rec PT.nil s) fun x2 s =>
 opt2 (oBin (int2 andO) (.v a0) (.v x2) rec PT.nil s) fun x3 s =>
 opt2 (oBin (int2 mulO) (.v x3) (.v (.int .u32 125613361)) rec PT.nil s) fun x4 s =>
 opt2 (oBin (sh2 shrO) (.v x4) (.v (.int .u64 27)) rec PT.nil s) fun x5 s =>
 opt2 (oBad rec PT.nil s) fun x6 s =>
 opt2 (oLoad1 (.v x6) rec PT.nil s) fun x7 s =>
 opt2 (oConv .i64 (.v x7) rec PT.nil s) fun x8 s =>
 some (oneOf [x8], s))
theorem d43 (rec : Rec) (N : Nat) (a0 : Value) (s : St) : callF rec N c43 [a0] s = D43 rec N a0 s := by
  rw [call_f _ _ _ _ _ rfl]
  simp only [c43, x_seq, x_ops, x_skip, x_ret, x_exit, x_cond, x_block, x_loop, ops_c, ops_n, op1_u, op1_gj, op2_op2, op2_op, op2_s, op2_cond, thenX_n, thenX_e, thenX_r, blkX_n, blkX_r, blkX_e, finX_r, finX_n, res_n, res_t, mov_f, op_s, Nat.beq_refl, cond_true]
  first | done | kernel_rfl
def D44 (rec : Rec) (N : Nat) (a0 : Value) (s : St) : Out := opt2 (oBin (int2 (cmpO eqI)) (.v a0) (.v (.int .u64 0)) rec PT.nil s) fun x1 s =>
 condV x1
 (some (oneOf [(.int .i64 64)], s))
 (opt2 (oNeg (.v a0) rec PT.nil s) fun x2 s =>
 opt2 (oBin (int2 andO) (.v a0) (.v x2) rec PT.nil s) fun x3 s =>
 opt2 (oBin (int2 mulO) (.v x3) (.v (.int .u64 285870213051353865)) rec PT.nil s) fun x4 s =>
 opt2 (oBin (sh2 shrO) (.v x4) (.v (.int .u64 58)) rec PT.nil s) fun x5 s =>
 opt2 (oBad rec PT.nil s) fun x6 s =>
 opt2 (oLoad1 (.v x6) rec PT.nil s) fun x7 s =>
 opt2 (oConv .i64 (.v x7) rec PT.nil s) fun x8 s =>
 some (oneOf [x8], s))
theorem d44 (rec : Rec) (N : Nat) (a0 : Value) (s : St) : callF rec N c44 [a0] s = D44 rec N a0 s := by
  rw [call_f _ _ _ _ _ rfl]
  simp only [c44, x_seq, x_ops, x_skip, x_ret, x_exit, x_cond, x_block, x_loop, ops_c, ops_n, op1_u, op1_gj, op2_op2, op2_op, op2_s, op2_cond, thenX_n, thenX_e, thenX_r, blkX_n, blkX_r, blkX_e, finX_r, finX_n, res_n, res_t, mov_f, op_s, Nat.beq_refl, cond_true]
  first | done | kernel_rfl
end
end Go.Proofs.YtdfmhjbmenfaeaaDoor.AbsCalF
