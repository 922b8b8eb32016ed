import Derived.Test.YtdnedangfnincaaAbsZL
namespace Go.Abs
set_option linter.unusedVariables false
set_option linter.unusedSimpArgs false
/-! long regions that are not quiet, in parts: the marks so far stand beside -/
def snM (ms : List Mk) (m : Mk) : List Mk := ms ++ [m]
theorem snM_n (m : Mk) : snM [] m = [m] := rfl
theorem snM_c (a : Mk) (l : List Mk) (m : Mk) : snM (a :: l) m = a :: snM l m := rfl
noncomputable def rgA (ms : List Mk) (un : List (Nat × Nat)) (rec : Rec) (l : List AOper) (fs : Frm) (s : St) : OutX := opt2 (runReg rec l fs s) fun ms' r => bif apartAll (ms ++ ms') un then some (.norm, r) else none
theorem x_rgA (o : AOper) (l : List AOper) (un : List (Nat × Nat)) (rec : Rec) (n : Nat) (fs : Frm) (s : St) : xReg (o :: l) un rec n fs s = rgA [] un rec (o :: l) fs s := nrfl rfl
theorem rgA_n (ms : List Mk) (un : List (Nat × Nat)) (rec : Rec) (fs : Frm) (s : St) : rgA ms un rec [] fs s = bif apartAll ms un then some (.norm, fs, s) else none := by
  unfold rgA
  rw [reg_n]
  show (bif apartAll (ms ++ []) un then some (AExit.norm, fs, s) else none) = _
  rw [List.append_nil]
theorem rgA_u (ms : List Mk) (un : List (Nat × Nat)) (rec : Rec) (dst : Option Abs.P) (op : OpF) (ld : Option Arg) (l : List AOper) (fs : Frm) (s : St) :
    rgA ms un rec (⟨dst, op, none, ld⟩ :: l) fs s = opt2 (rU (op rec fs ⟨s.heap, s.next, 0, 0⟩) fs s ld) fun v m => rgA (snM ms m.1) un rec l (putT fs dst v) m.2 := by
  unfold rgA
  rw [reg_c, reg1_u, op2_op2]
  congr 1
  funext v m
  rw [op2_cons]
  congr 1
  funext ms' r
  unfold snM
  rw [List.append_assoc]
  rfl
theorem rgA_g (ms : List Mk) (un : List (Nat × Nat)) (rec : Rec) (dst : Option Abs.P) (op : OpF) (ld : Option Arg) (p : Abs.P) (w : Bool) (l : List AOper) (fs : Frm) (s : St) :
    rgA ms un rec (⟨dst, op, some (p, w), ld⟩ :: l) fs s = opt (gval w (orU (fs.get p))) fun b => opt2 (orM b (rU (op rec fs ⟨s.heap, s.next, 0, 0⟩) fs s ld) s) fun v m => rgA (snM ms m.1) un rec l (putT fs dst v) m.2 := by
  unfold rgA
  rw [reg_c, reg1_g, op2_op]
  congr 1
  funext b
  rw [op2_op2]
  congr 1
  funext v m
  rw [op2_cons]
  congr 1
  funext ms' r
  unfold snM
  rw [List.append_assoc]
  rfl
end Go.Abs
