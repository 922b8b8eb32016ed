import Derived.Test.YtdnedangfnincaaAbsAccRE
import Derived.Test.YtdnedangfnincaaAbsZL
import Derived.Test.YtdnedangfnincaaAbsZW
namespace Go.Proofs.Ytdnedangfnincaa.AbsAccR
open Go Go.Abs Go.Proofs
set_option maxRecDepth 100000
set_option linter.unusedVariables false
set_option linter.unusedSimpArgs false
noncomputable section
-- c6
def D6_q0 (rec : Rec) (ms : List Mk) (fs : Frm) (s : St) : OutX := opt (gval true (orU (fs.get t80))) fun x1 => opt2 (orM x1 (rU (rec 25 [(orU (fs.get t81)), (orU (fs.get t82))] ⟨s.heap, s.next, 0, 0⟩) PT.nil s none) s) fun x2 m2 =>
 (fun s => opt (gval true (orU (fs.get t80))) fun x3 => opt2 (orM x3 (rU (oBin (int2 (cmpO geI)) (.v x2) (.v (.int .i64 0)) rec PT.nil ⟨s.heap, s.next, 0, 0⟩) PT.nil s none) s) fun x4 m4 =>
 (fun s => opt2 (rU (oPick (.v (orU (fs.get t80))) (.v x4) (.v (.bool false)) rec PT.nil ⟨s.heap, s.next, 0, 0⟩) PT.nil s none) fun x5 m5 =>
 (fun s => opt2 (rU (oMov (.v x5) rec PT.nil ⟨s.heap, s.next, 0, 0⟩) PT.nil s none) fun x6 m6 =>
 (fun s => opt (gval true x6) fun x7 => opt2 (orM x7 (rU (oLoadN 2 (.v (orU (fs.get t11))) rec PT.nil ⟨s.heap, s.next, 0, 0⟩) PT.nil s none) s) fun x8 m8 =>
 (fun s => opt (gval true x6) fun x9 => opt2 (orM x9 (rU (rec 26 [] ⟨s.heap, s.next, 0, 0⟩) PT.nil s none) s) fun x10 m10 =>
 (fun s => opt (gval true x6) fun x11 => opt2 (orM x11 (rU (rec 25 [x8, x10] ⟨s.heap, s.next, 0, 0⟩) PT.nil s none) s) fun x12 m12 =>
 (fun s => opt (gval true x6) fun x13 => opt2 (orM x13 (rU (oBin (int2 (cmpO leI)) (.v x12) (.v (.int .i64 0)) rec PT.nil ⟨s.heap, s.next, 0, 0⟩) PT.nil s none) s) fun x14 m14 =>
 (fun s => opt2 (rU (oPick (.v x6) (.v x14) (.v (.bool false)) rec PT.nil ⟨s.heap, s.next, 0, 0⟩) PT.nil s none) fun x15 m15 =>
 (fun s => opt2 (rU (oMov (.v x15) rec PT.nil ⟨s.heap, s.next, 0, 0⟩) PT.nil s none) fun x16 m16 =>
 (fun s => bif apartAll (snM (snM (snM (snM (snM (snM (snM (snM (snM (snM ms m2.1) m4.1) m5.1) m6.1) m8.1) m10.1) m12.1) m14.1) m15.1) m16.1) [(38, 39), (44, 45)] then some (.norm, (PT.put x16 t12 (PT.put x15 t91 (PT.put x14 t90 (PT.put x12 t89 (PT.put x10 t88 (PT.put x8 t87 (PT.put x6 t86 (PT.put x5 t85 (PT.put x4 t84 (PT.put x2 t83 fs)))))))))), s) else none) m16.2) m15.2) m14.2) m12.2) m10.2) m8.2) m6.2) m5.2) m4.2) m2.2
set_option maxHeartbeats 4000000 in
theorem d6_q0 (rec : Rec) (ms : List Mk) (fs : Frm) (s : St) : rgA ms [(38, 39), (44, 45)] rec c6_q0 fs s = D6_q0 rec ms fs s := by
  simp (maxSteps := 4000000) only [c6_q0, rgA_u, rgA_g, rgA_n]
  first | done | kernel_rfl
def D6_q1 (rec : Rec) (ms : List Mk) (fs : Frm) (s : St) : OutX := opt (gval true (orU (fs.get t72))) fun x1 => opt2 (orM x1 (rU (oMov (.v (orU (fs.get t8))) rec PT.nil ⟨s.heap, s.next, 0, 0⟩) PT.nil s none) s) fun x2 m2 =>
 (fun s => opt (gval true (orU (fs.get t72))) fun x3 => opt2 (orM x3 (rU (oBin (int2 (cmpO geI)) (.v x2) (.v (.int .i64 0)) rec PT.nil ⟨s.heap, s.next, 0, 0⟩) PT.nil s none) s) fun x4 m4 =>
 (fun s => opt2 (rU (oPick (.v (orU (fs.get t72))) (.v x4) (.v (.bool false)) rec PT.nil ⟨s.heap, s.next, 0, 0⟩) PT.nil s none) fun x5 m5 =>
 (fun s => opt2 (rU (oMov (.v x5) rec PT.nil ⟨s.heap, s.next, 0, 0⟩) PT.nil s none) fun x6 m6 =>
 (fun s => opt (gval true x6) fun x7 => opt2 (orM x7 (rU (oMov (.v (orU (fs.get t8))) rec PT.nil ⟨s.heap, s.next, 0, 0⟩) PT.nil s none) s) fun x8 m8 =>
 (fun s => opt (gval true x6) fun x9 => opt2 (orM x9 (rU (oBin (int2 (cmpO leI)) (.v x8) (.v (.int .i64 4503599627370496)) rec PT.nil ⟨s.heap, s.next, 0, 0⟩) PT.nil s none) s) fun x10 m10 =>
 (fun s => opt2 (rU (oPick (.v x6) (.v x10) (.v (.bool false)) rec PT.nil ⟨s.heap, s.next, 0, 0⟩) PT.nil s none) fun x11 m11 =>
 (fun s => opt2 (rU (oMov (.v x11) rec PT.nil ⟨s.heap, s.next, 0, 0⟩) PT.nil s none) fun x12 m12 =>
 (fun s => opt (gval true x12) fun x13 => opt2 (orM x13 (rU (oLoadN 2 (.v (orU (fs.get t11))) rec PT.nil ⟨s.heap, s.next, 0, 0⟩) PT.nil s none) s) fun x14 m14 =>
 (fun s => opt (gval true x12) fun x15 => opt2 (orM x15 (rU (rec 37 [(.int .i64 0)] ⟨s.heap, s.next, 0, 0⟩) PT.nil s none) s) fun x16 m16 =>
 (fun s => rgA (snM (snM (snM (snM (snM (snM (snM (snM (snM (snM ms m2.1) m4.1) m5.1) m6.1) m8.1) m10.1) m11.1) m12.1) m14.1) m16.1) [(38, 39), (44, 45)] rec c6_q0 (PT.put x16 t82 (PT.put x14 t81 (PT.put x12 t80 (PT.put x11 t79 (PT.put x10 t78 (PT.put x8 t77 (PT.put x6 t76 (PT.put x5 t75 (PT.put x4 t74 (PT.put x2 t73 fs)))))))))) s) m16.2) m14.2) m12.2) m11.2) m10.2) m8.2) m6.2) m5.2) m4.2) m2.2
set_option maxHeartbeats 4000000 in
theorem d6_q1 (rec : Rec) (ms : List Mk) (fs : Frm) (s : St) : rgA ms [(38, 39), (44, 45)] rec c6_q1 fs s = D6_q1 rec ms fs s := by
  simp (maxSteps := 4000000) only [c6_q1, rgA_u, rgA_g, rgA_n]
  first | done | kernel_rfl
def D6_q2 (rec : Rec) (ms : List Mk) (fs : Frm) (s : St) : OutX := opt2 (rU (oPick (.v (orU (fs.get t60))) (.v (orU (fs.get t62))) (.v (.bool false)) rec PT.nil ⟨s.heap, s.next, 0, 0⟩) PT.nil s none) fun x1 m1 =>
 (fun s => opt2 (rU (oMov (.v x1) rec PT.nil ⟨s.heap, s.next, 0, 0⟩) PT.nil s none) fun x2 m2 =>
 (fun s => opt (gval true x2) fun x3 => opt2 (orM x3 (rU (oMov (.v (orU (fs.get t7))) rec PT.nil ⟨s.heap, s.next, 0, 0⟩) PT.nil s none) s) fun x4 m4 =>
 (fun s => opt (gval true x2) fun x5 => opt2 (orM x5 (rU (oBin (int2 (cmpO geI)) (.v x4) (.v (.int .i64 0)) rec PT.nil ⟨s.heap, s.next, 0, 0⟩) PT.nil s none) s) fun x6 m6 =>
 (fun s => opt2 (rU (oPick (.v x2) (.v x6) (.v (.bool false)) rec PT.nil ⟨s.heap, s.next, 0, 0⟩) PT.nil s none) fun x7 m7 =>
 (fun s => opt2 (rU (oMov (.v x7) rec PT.nil ⟨s.heap, s.next, 0, 0⟩) PT.nil s none) fun x8 m8 =>
 (fun s => opt (gval true x8) fun x9 => opt2 (orM x9 (rU (oMov (.v (orU (fs.get t7))) rec PT.nil ⟨s.heap, s.next, 0, 0⟩) PT.nil s none) s) fun x10 m10 =>
 (fun s => opt (gval true x8) fun x11 => opt2 (orM x11 (rU (oBin (int2 (cmpO leI)) (.v x10) (.v (.int .i64 4503599627370496)) rec PT.nil ⟨s.heap, s.next, 0, 0⟩) PT.nil s none) s) fun x12 m12 =>
 (fun s => opt2 (rU (oPick (.v x8) (.v x12) (.v (.bool false)) rec PT.nil ⟨s.heap, s.next, 0, 0⟩) PT.nil s none) fun x13 m13 =>
 (fun s => opt2 (rU (oMov (.v x13) rec PT.nil ⟨s.heap, s.next, 0, 0⟩) PT.nil s none) fun x14 m14 =>
 (fun s => rgA (snM (snM (snM (snM (snM (snM (snM (snM (snM (snM ms m1.1) m2.1) m4.1) m6.1) m7.1) m8.1) m10.1) m12.1) m13.1) m14.1) [(38, 39), (44, 45)] rec c6_q1 (PT.put x14 t72 (PT.put x13 t71 (PT.put x12 t70 (PT.put x10 t69 (PT.put x8 t68 (PT.put x7 t67 (PT.put x6 t66 (PT.put x4 t65 (PT.put x2 t64 (PT.put x1 t63 fs)))))))))) s) m14.2) m13.2) m12.2) m10.2) m8.2) m7.2) m6.2) m4.2) m2.2) m1.2
set_option maxHeartbeats 4000000 in
theorem d6_q2 (rec : Rec) (ms : List Mk) (fs : Frm) (s : St) : rgA ms [(38, 39), (44, 45)] rec c6_q2 fs s = D6_q2 rec ms fs s := by
  simp (maxSteps := 4000000) only [c6_q2, rgA_u, rgA_g, rgA_n]
  first | done | kernel_rfl
def D6_q3 (rec : Rec) (ms : List Mk) (fs : Frm) (s : St) : OutX := opt (gval true (orU (fs.get t48))) fun x1 => opt2 (orM x1 (rU (oLenL (.v (orU (fs.get t52))) rec PT.nil ⟨s.heap, s.next, 0, 0⟩) PT.nil s none) s) fun x2 m2 =>
 (fun s => opt (gval true (orU (fs.get t48))) fun x3 => opt2 (orM x3 (rU (oBin (int2 (cmpO eqI)) (.v x2) (.v (.int .i64 0)) rec PT.nil ⟨s.heap, s.next, 0, 0⟩) PT.nil s none) s) fun x4 m4 =>
 (fun s => opt2 (rU (oPick (.v (orU (fs.get t48))) (.v x4) (.v (.bool false)) rec PT.nil ⟨s.heap, s.next, 0, 0⟩) PT.nil s none) fun x5 m5 =>
 (fun s => opt2 (rU (oMov (.v x5) rec PT.nil ⟨s.heap, s.next, 0, 0⟩) PT.nil s none) fun x6 m6 =>
 (fun s => opt (gval true x6) fun x7 => opt2 (orM x7 (rU (oMov (.v (orU (fs.get t6))) rec PT.nil ⟨s.heap, s.next, 0, 0⟩) PT.nil s none) s) fun x8 m8 =>
 (fun s => opt (gval true x6) fun x9 => opt2 (orM x9 (rU (oBin (int2 (cmpO geI)) (.v x8) (.v (.int .i64 0)) rec PT.nil ⟨s.heap, s.next, 0, 0⟩) PT.nil s none) s) fun x10 m10 =>
 (fun s => opt2 (rU (oPick (.v x6) (.v x10) (.v (.bool false)) rec PT.nil ⟨s.heap, s.next, 0, 0⟩) PT.nil s none) fun x11 m11 =>
 (fun s => opt2 (rU (oMov (.v x11) rec PT.nil ⟨s.heap, s.next, 0, 0⟩) PT.nil s none) fun x12 m12 =>
 (fun s => opt (gval true x12) fun x13 => opt2 (orM x13 (rU (oMov (.v (orU (fs.get t6))) rec PT.nil ⟨s.heap, s.next, 0, 0⟩) PT.nil s none) s) fun x14 m14 =>
 (fun s => opt (gval true x12) fun x15 => opt2 (orM x15 (rU (oBin (int2 (cmpO leI)) (.v x14) (.v (.int .i64 109572)) rec PT.nil ⟨s.heap, s.next, 0, 0⟩) PT.nil s none) s) fun x16 m16 =>
 (fun s => rgA (snM (snM (snM (snM (snM (snM (snM (snM (snM (snM ms m2.1) m4.1) m5.1) m6.1) m8.1) m10.1) m11.1) m12.1) m14.1) m16.1) [(38, 39), (44, 45)] rec c6_q2 (PT.put x16 t62 (PT.put x14 t61 (PT.put x12 t60 (PT.put x11 t59 (PT.put x10 t58 (PT.put x8 t57 (PT.put x6 t56 (PT.put x5 t55 (PT.put x4 t54 (PT.put x2 t53 fs)))))))))) s) m16.2) m14.2) m12.2) m11.2) m10.2) m8.2) m6.2) m5.2) m4.2) m2.2
set_option maxHeartbeats 4000000 in
theorem d6_q3 (rec : Rec) (ms : List Mk) (fs : Frm) (s : St) : rgA ms [(38, 39), (44, 45)] rec c6_q3 fs s = D6_q3 rec ms fs s := by
  simp (maxSteps := 4000000) only [c6_q3, rgA_u, rgA_g, rgA_n]
  first | done | kernel_rfl
def D6_q4 (rec : Rec) (ms : List Mk) (fs : Frm) (s : St) : OutX := opt2 (rU (oMov (.v (orU (fs.get t109))) rec PT.nil ⟨s.heap, s.next, 0, 0⟩) PT.nil s none) fun x1 m1 =>
 (fun s => opt (gval true x1) fun x2 => opt2 (orM x2 (rU (oMov (.v (orU (fs.get t3))) rec PT.nil ⟨s.heap, s.next, 0, 0⟩) PT.nil s none) s) fun x3 m3 =>
 (fun s => opt (gval true x1) fun x4 => opt2 (orM x4 (rU (rec 30 [x3] ⟨s.heap, s.next, 0, 0⟩) PT.nil s none) s) fun x5 m5 =>
 (fun s => opt (gval true x1) fun x6 => opt2 (orM x6 (rU (oMov (.v (orU (fs.get t6))) rec PT.nil ⟨s.heap, s.next, 0, 0⟩) PT.nil s none) s) fun x7 m7 =>
 (fun s => opt (gval true x1) fun x8 => opt2 (orM x8 (rU (oBin (int2 (cmpO eqI)) (.v x5) (.v x7) rec PT.nil ⟨s.heap, s.next, 0, 0⟩) PT.nil s none) s) fun x9 m9 =>
 (fun s => opt2 (rU (oPick (.v x1) (.v x9) (.v (.bool false)) rec PT.nil ⟨s.heap, s.next, 0, 0⟩) PT.nil s none) fun x10 m10 =>
 (fun s => opt2 (rU (oMov (.v x10) rec PT.nil ⟨s.heap, s.next, 0, 0⟩) PT.nil s none) fun x11 m11 =>
 (fun s => opt (gval true x11) fun x12 => opt2 (orM x12 (rU (oMov (.v (orU (fs.get t3))) rec PT.nil ⟨s.heap, s.next, 0, 0⟩) PT.nil s none) s) fun x13 m13 =>
 (fun s => opt (gval true x11) fun x14 => opt2 (orM x14 (rU (rec 31 [x13] ⟨s.heap, s.next, 0, 0⟩) PT.nil s none) s) fun x15 m15 =>
 (fun s => opt (gval true x11) fun x16 => opt2 (orM x16 (rU (oMov (.v (orU (fs.get t7))) rec PT.nil ⟨s.heap, s.next, 0, 0⟩) PT.nil s none) s) fun x17 m17 =>
 (fun s => opt (gval true x11) fun x18 => opt2 (orM x18 (rU (oBin (int2 (cmpO eqI)) (.v x15) (.v x17) rec PT.nil ⟨s.heap, s.next, 0, 0⟩) PT.nil s none) s) fun x19 m19 =>
 (fun s => opt2 (rU (oPick (.v x11) (.v x19) (.v (.bool false)) rec PT.nil ⟨s.heap, s.next, 0, 0⟩) PT.nil s none) fun x20 m20 =>
 (fun s => opt2 (rU (oMov (.v x20) rec PT.nil ⟨s.heap, s.next, 0, 0⟩) PT.nil s none) fun x21 m21 =>
 (fun s => bif apartAll (snM (snM (snM (snM (snM (snM (snM (snM (snM (snM (snM (snM (snM ms m1.1) m3.1) m5.1) m7.1) m9.1) m10.1) m11.1) m13.1) m15.1) m17.1) m19.1) m20.1) m21.1) [(3, 6), (4, 6), (5, 6), (3, 7), (4, 7), (5, 7), (11, 13), (12, 13), (17, 19), (18, 19)] then some (.norm, (PT.put x21 t2 (PT.put x20 t121 (PT.put x19 t120 (PT.put x17 t119 (PT.put x15 t118 (PT.put x13 t117 (PT.put x11 t116 (PT.put x10 t115 (PT.put x9 t114 (PT.put x7 t113 (PT.put x5 t112 (PT.put x3 t111 (PT.put x1 t110 fs))))))))))))), s) else none) m21.2) m20.2) m19.2) m17.2) m15.2) m13.2) m11.2) m10.2) m9.2) m7.2) m5.2) m3.2) m1.2
set_option maxHeartbeats 4000000 in
theorem d6_q4 (rec : Rec) (ms : List Mk) (fs : Frm) (s : St) : rgA ms [(3, 6), (4, 6), (5, 6), (3, 7), (4, 7), (5, 7), (11, 13), (12, 13), (17, 19), (18, 19)] rec c6_q4 fs s = D6_q4 rec ms fs s := by
  simp (maxSteps := 4000000) only [c6_q4, rgA_u, rgA_g, rgA_n]
  first | done | kernel_rfl
def D6_j0 (rec : Rec) (N : Nat) (fs : Frm) (s : St) : OutX := opt2 (oMov (.v (orU (fs.get t12))) rec PT.nil s) fun x1 s =>
 opt2 (oNot (.v x1) rec PT.nil s) fun x2 s =>
 condV x2
 (opt2 (oMov (.v (orU (fs.get t4))) rec PT.nil s) fun x3 s =>
 opt2 (oBin (int2 (cmpO eqI)) (.v x3) (.v (.int .i64 3)) rec PT.nil s) fun x4 s =>
 opt2 (oMov (.v x4) rec PT.nil s) fun x5 s =>
 opt (gval true x5) fun x6 => opt2 (orUndef x6 (oMov (.v (orU (fs.get t3))) rec PT.nil s) s) fun x7 s =>
 opt (gval true x5) fun x8 => opt2 (orUndef x8 (oEqv eqP false (.v x7) (.v (.pointer none)) rec PT.nil s) s) fun x9 s =>
 opt2 (oPick (.v x5) (.v x9) (.v (.bool false)) rec PT.nil s) fun x10 s =>
 opt2 (oMov (.v x10) rec PT.nil s) fun x11 s =>
 some (.ret, (PT.put x11 t2 (PT.put x10 t99 (PT.put x9 t98 (PT.put x7 t97 (PT.put x5 t96 (PT.put x4 t95 (PT.put x3 t94 (PT.put x2 t93 (PT.put x1 t92 fs))))))))), s))
 (opt2 (rU (oMov (.v (orU (fs.get t4))) rec PT.nil ⟨s.heap, s.next, 0, 0⟩) PT.nil s none) fun x12 m12 =>
 (fun s => opt2 (rU (oBin (int2 (cmpO eqI)) (.v x12) (.v (.int .i64 0)) rec PT.nil ⟨s.heap, s.next, 0, 0⟩) PT.nil s none) fun x13 m13 =>
 (fun s => opt2 (rU (oMov (.v x13) rec PT.nil ⟨s.heap, s.next, 0, 0⟩) PT.nil s none) fun x14 m14 =>
 (fun s => opt (gval true x14) fun x15 => opt2 (orM x15 (rU (oMov (.v (orU (fs.get t3))) rec PT.nil ⟨s.heap, s.next, 0, 0⟩) PT.nil s none) s) fun x16 m16 =>
 (fun s => opt (gval true x14) fun x17 => opt2 (orM x17 (rU (rec 24 [x16] ⟨s.heap, s.next, 0, 0⟩) PT.nil s none) s) fun x18 m18 =>
 (fun s => opt (gval true x14) fun x19 => opt2 (orM x19 (rU (oBytesStr (.v x18) rec PT.nil ⟨s.heap, s.next, 0, 0⟩) PT.nil s none) s) fun x20 m20 =>
 (fun s => opt (gval true x14) fun x21 => opt2 (orM x21 (rU (oMov (.v (orU (fs.get t0))) rec PT.nil ⟨s.heap, s.next, 0, 0⟩) PT.nil s none) s) fun x22 m22 =>
 (fun s => opt (gval true x14) fun x23 => opt2 (orM x23 (rU (oBytesStr (.v x22) rec PT.nil ⟨s.heap, s.next, 0, 0⟩) PT.nil s none) s) fun x24 m24 =>
 (fun s => opt (gval true x14) fun x25 => opt2 (orM x25 (rU (oBin (str2 (cmpS eqBytes)) (.v x20) (.v x24) rec PT.nil ⟨s.heap, s.next, 0, 0⟩) PT.nil s none) s) fun x26 m26 =>
 (fun s => opt2 (rU (oPick (.v x14) (.v x26) (.v (.bool false)) rec PT.nil ⟨s.heap, s.next, 0, 0⟩) PT.nil s none) fun x27 m27 =>
 (fun s => opt2 (rgA (snM (snM (snM (snM (snM (snM (snM (snM (snM (snM [] m12.1) m13.1) m14.1) m16.1) m18.1) m20.1) m22.1) m24.1) m26.1) m27.1) [(3, 6), (4, 6), (5, 6), (3, 7), (4, 7), (5, 7), (11, 13), (12, 13), (17, 19), (18, 19)] rec c6_q4 (PT.put x27 t109 (PT.put x26 t108 (PT.put x24 t107 (PT.put x22 t106 (PT.put x20 t105 (PT.put x18 t104 (PT.put x16 t103 (PT.put x14 t102 (PT.put x13 t101 (PT.put x12 t100 (PT.put x2 t93 (PT.put x1 t92 fs)))))))))))) s) fun e r => thenX (xRet rec N) e r) m27.2) m26.2) m24.2) m22.2) m20.2) m18.2) m16.2) m14.2) m13.2) m12.2)
set_option maxHeartbeats 4000000 in
theorem d6_j0 (rec : Rec) (N : Nat) (fs : Frm) (s : St) : c6_j0 rec N fs s = D6_j0 rec N fs s := by
  simp (maxSteps := 4000000) only [c6_j0, lenN, x_rgA, rgA_u, rgA_g, rgA_n, op2_bif, x_seq, x_ops, x_skip, x_ret, x_exit, x_cond, x_block, x_loop, ops_c, ops_n, op1_u, op1_gj, rq_c, rq_n, opQ_u, opQ_g, op2_op2, op2_op, op2_s, op2_cond, thenX_n, thenX_e, thenX_r, blkX_n, blkX_r, blkX_e, finX_r, finX_n, res_n, res_t, op_s, Nat.beq_refl, cond_true]
  first | done | kernel_rfl
def D6 (rec : Rec) (N : Nat) (a0 : Value) (s : St) : Out := opt2 (oMov (.v (.bool false)) rec PT.nil s) fun x1 s =>
 opt2 (rec 9 [] s) fun x2 s =>
 opt2 (oNot (.v x2) rec PT.nil s) fun x3 s =>
 condV x3
 (opt2 (oMov (.v (.bool false)) rec PT.nil s) fun x4 s =>
 some (oneOf [x4], s))
 (opt2 (oMov (.v a0) rec PT.nil s) fun x5 s =>
 opt2 (oLenL (.v x5) rec PT.nil s) fun x6 s =>
 opt2 (oBin (int2 (cmpO gtI)) (.v x6) (.v (.int .i64 100)) rec PT.nil s) fun x7 s =>
 condV x7
 (opt2 (oMov (.v (.bool true)) rec PT.nil s) fun x8 s =>
 some (oneOf [x8], s))
 (opt2 (oBuildSlice 0 [] [] rec PT.nil s) fun x9 s =>
 opt2 (oMov (.v a0) rec PT.nil s) fun x10 s =>
 opt2 (oAppend 1 1 (.v x9) (.v x10) rec PT.nil s) fun x11 s =>
 opt2 (rec 12 [x11] s) fun x12 s =>
 opt2 (oMov (.v x12) rec PT.nil s) fun x13 s =>
 opt2 (oExtract (.v x13) 0 rec PT.nil s) fun x14 s =>
 opt2 (oExtract (.v x13) 1 rec PT.nil s) fun x15 s =>
 opt2 (oMov (.v x14) rec PT.nil s) fun x16 s =>
 opt2 (oMov (.v x15) rec PT.nil s) fun x17 s =>
 opt2 (oBuildSlice 0 [] [] rec PT.nil s) fun x18 s =>
 opt2 (oMov (.v a0) rec PT.nil s) fun x19 s =>
 opt2 (oAppend 1 1 (.v x18) (.v x19) rec PT.nil s) fun x20 s =>
 opt2 (oBuild [(.slice none 0 0), (.bool false)] [(0, 1, (.v x20))] rec PT.nil s) fun x21 s =>
 opt2 (oBox (.v x21) rec PT.nil s) fun x22 s =>
 opt2 (oMov (.v x22) rec PT.nil s) fun x23 s =>
 opt2 (oMov (.v x23) rec PT.nil s) fun x24 s =>
 opt2 (rec 34 [x24] s) fun x25 s =>
 opt2 (oMov (.v x23) rec PT.nil s) fun x26 s =>
 opt2 (rec 34 [x26] s) fun x27 s =>
 opt2 (oMov (.v x23) rec PT.nil s) fun x28 s =>
 opt2 (rec 34 [x28] s) fun x29 s =>
 opt2 (oMov (.v x23) rec PT.nil s) fun x30 s =>
 opt2 (rec 34 [x30] s) fun x31 s =>
 opt2 (oMov (.v x25) rec PT.nil s) fun x32 s =>
 opt2 (oMov (.v x27) rec PT.nil s) fun x33 s =>
 opt2 (oMov (.v x29) rec PT.nil s) fun x34 s =>
 opt2 (oMov (.v x31) rec PT.nil s) fun x35 s =>
 opt2 (oMov (.v x23) rec PT.nil s) fun x36 s =>
 opt2 (rec 35 [x36] s) fun x37 s =>
 opt2 (oMov (.v x37) rec PT.nil s) fun x38 s =>
 opt2 (oMov (.v x35) rec PT.nil s) fun x39 s =>
 opt2 (oMov (.v x38) rec PT.nil s) fun x40 s =>
 opt2 (rec 36 [x39, x40] s) fun x41 s =>
 opt2 (oNew [(.bool false), (.slice none 0 0)] rec PT.nil s) fun x42 s =>
 opt2 (oStore 2 (.v x42) (.v x41) rec PT.nil s) fun x43 s =>
 opt2 (rU (oMov (.v x23) rec PT.nil ⟨s.heap, s.next, 0, 0⟩) PT.nil s none) fun x44 m44 =>
 (fun s => opt2 (rU (oNilCheck (.v x44) rec PT.nil ⟨s.heap, s.next, 0, 0⟩) PT.nil s none) fun x45 m45 =>
 (fun s => opt2 (rU (oFieldAddr 1 (.v x45) rec PT.nil ⟨s.heap, s.next, 0, 0⟩) PT.nil s none) fun x46 m46 =>
 (fun s => opt2 (rU (oLoad1 (.v x46) rec PT.nil ⟨s.heap, s.next, 0, 0⟩) PT.nil s (some (.v x46))) fun x47 m47 =>
 (fun s => opt2 (rU (oNot (.v x47) rec PT.nil ⟨s.heap, s.next, 0, 0⟩) PT.nil s none) fun x48 m48 =>
 (fun s => opt2 (rU (oMov (.v x48) rec PT.nil ⟨s.heap, s.next, 0, 0⟩) PT.nil s none) fun x49 m49 =>
 (fun s => opt (gval true x49) fun x50 => opt2 (orM x50 (rU (oMov (.v x23) rec PT.nil ⟨s.heap, s.next, 0, 0⟩) PT.nil s none) s) fun x51 m51 =>
 (fun s => opt (gval true x49) fun x52 => opt2 (orM x52 (rU (oNilCheck (.v x51) rec PT.nil ⟨s.heap, s.next, 0, 0⟩) PT.nil s none) s) fun x53 m53 =>
 (fun s => opt (gval true x49) fun x54 => opt2 (orM x54 (rU (oFieldAddr 0 (.v x53) rec PT.nil ⟨s.heap, s.next, 0, 0⟩) PT.nil s none) s) fun x55 m55 =>
 (fun s => opt (gval true x49) fun x56 => opt2 (orM x56 (rU (oLoad1 (.v x55) rec PT.nil ⟨s.heap, s.next, 0, 0⟩) PT.nil s (some (.v x55))) s) fun x57 m57 =>
 (fun s => opt2 (rgA (snM (snM (snM (snM (snM (snM (snM (snM (snM (snM [] m44.1) m45.1) m46.1) m47.1) m48.1) m49.1) m51.1) m53.1) m55.1) m57.1) [(38, 39), (44, 45)] rec c6_q3 (PT.put x57 t52 (PT.put x55 t51 (PT.put x53 t50 (PT.put x51 t49 (PT.put x49 t48 (PT.put x48 t47 (PT.put x47 t46 (PT.put x46 t45 (PT.put x45 t44 (PT.put x44 t43 (PT.put x42 t11 (PT.put x41 t42 (PT.put x40 t41 (PT.put x39 t40 (PT.put x38 t10 (PT.put x37 t39 (PT.put x36 t38 (PT.put x35 t9 (PT.put x34 t8 (PT.put x33 t7 (PT.put x32 t6 (PT.put x31 t37 (PT.put x30 t36 (PT.put x29 t35 (PT.put x28 t34 (PT.put x27 t33 (PT.put x26 t32 (PT.put x25 t31 (PT.put x24 t30 (PT.put x23 t5 (PT.put x22 t29 (PT.put x21 t28 (PT.put x20 t27 (PT.put x19 t26 (PT.put x18 t25 (PT.put x17 t4 (PT.put x16 t3 (PT.put x15 t24 (PT.put x14 t23 (PT.put x13 t18 (PT.put x12 t22 (PT.put x11 t21 (PT.put x10 t20 (PT.put x9 t19 (PT.put x7 t17 (PT.put x6 t16 (PT.put x5 t15 (PT.put x3 t14 (PT.put x2 t13 (PT.put x1 t2 (PT.put a0 t0 PT.nil))))))))))))))))))))))))))))))))))))))))))))))))))) s) fun e r => opt2 (thenX (c6_j0 rec N) e r) fun e r => finX [.tmp t2] e r) m57.2) m55.2) m53.2) m51.2) m49.2) m48.2) m47.2) m46.2) m45.2) m44.2))
set_option maxHeartbeats 4000000 in
theorem d6 (rec : Rec) (N : Nat) (a0 : Value) (s : St) : callF rec N c6 [a0] s = D6 rec N a0 s := by
  rw [call_f _ _ _ _ _ rfl]
  simp (maxSteps := 4000000) only [c6, lenN, x_rgA, rgA_u, rgA_g, rgA_n, op2_bif, x_seq, x_ops, x_skip, x_ret, x_exit, x_cond, x_block, x_loop, ops_c, ops_n, op1_u, op1_gj, rq_c, rq_n, opQ_u, opQ_g, op2_op2, op2_op, op2_s, op2_cond, thenX_n, thenX_e, thenX_r, blkX_n, blkX_r, blkX_e, finX_r, finX_n, res_n, res_t, op_s, Nat.beq_refl, cond_true]
  first | done | kernel_rfl
def Q6_q4 (rec : Rec) (N : Nat) (k : Value × Value × Value × Value) (ms : List Mk) (s : St) : Out := opt2 (rU (oMov (.v k.2.2.2) rec PT.nil ⟨s.heap, s.next, 0, 0⟩) PT.nil s none) fun x1 m1 =>
 (fun s => opt (gval true x1) fun x2 => opt2 (orM x2 (rU (oMov (.v k.1) rec PT.nil ⟨s.heap, s.next, 0, 0⟩) PT.nil s none) s) fun x3 m3 =>
 (fun s => opt (gval true x1) fun x4 => opt2 (orM x4 (rU (rec 30 [x3] ⟨s.heap, s.next, 0, 0⟩) PT.nil s none) s) fun x5 m5 =>
 (fun s => opt (gval true x1) fun x6 => opt2 (orM x6 (rU (oMov (.v k.2.1) rec PT.nil ⟨s.heap, s.next, 0, 0⟩) PT.nil s none) s) fun x7 m7 =>
 (fun s => opt (gval true x1) fun x8 => opt2 (orM x8 (rU (oBin (int2 (cmpO eqI)) (.v x5) (.v x7) rec PT.nil ⟨s.heap, s.next, 0, 0⟩) PT.nil s none) s) fun x9 m9 =>
 (fun s => opt2 (rU (oPick (.v x1) (.v x9) (.v (.bool false)) rec PT.nil ⟨s.heap, s.next, 0, 0⟩) PT.nil s none) fun x10 m10 =>
 (fun s => opt2 (rU (oMov (.v x10) rec PT.nil ⟨s.heap, s.next, 0, 0⟩) PT.nil s none) fun x11 m11 =>
 (fun s => opt (gval true x11) fun x12 => opt2 (orM x12 (rU (oMov (.v k.1) rec PT.nil ⟨s.heap, s.next, 0, 0⟩) PT.nil s none) s) fun x13 m13 =>
 (fun s => opt (gval true x11) fun x14 => opt2 (orM x14 (rU (rec 31 [x13] ⟨s.heap, s.next, 0, 0⟩) PT.nil s none) s) fun x15 m15 =>
 (fun s => opt (gval true x11) fun x16 => opt2 (orM x16 (rU (oMov (.v k.2.2.1) rec PT.nil ⟨s.heap, s.next, 0, 0⟩) PT.nil s none) s) fun x17 m17 =>
 (fun s => opt (gval true x11) fun x18 => opt2 (orM x18 (rU (oBin (int2 (cmpO eqI)) (.v x15) (.v x17) rec PT.nil ⟨s.heap, s.next, 0, 0⟩) PT.nil s none) s) fun x19 m19 =>
 (fun s => opt2 (rU (oPick (.v x11) (.v x19) (.v (.bool false)) rec PT.nil ⟨s.heap, s.next, 0, 0⟩) PT.nil s none) fun x20 m20 =>
 (fun s => opt2 (rU (oMov (.v x20) rec PT.nil ⟨s.heap, s.next, 0, 0⟩) PT.nil s none) fun x21 m21 =>
 (fun s => bif apartAll (snM (snM (snM (snM (snM (snM (snM (snM (snM (snM (snM (snM (snM ms m1.1) m3.1) m5.1) m7.1) m9.1) m10.1) m11.1) m13.1) m15.1) m17.1) m19.1) m20.1) m21.1) [(3, 6), (4, 6), (5, 6), (3, 7), (4, 7), (5, 7), (11, 13), (12, 13), (17, 19), (18, 19)] then some (oneOf [x21], s) else none) m21.2) m20.2) m19.2) m17.2) m15.2) m13.2) m11.2) m10.2) m9.2) m7.2) m5.2) m3.2) m1.2
set_option maxHeartbeats 4000000 in
theorem j6_q4 (rec : Rec) (N : Nat) (ms : List Mk) (fs : Frm) (s : St) : opt2 (rgA ms [(3, 6), (4, 6), (5, 6), (3, 7), (4, 7), (5, 7), (11, 13), (12, 13), (17, 19), (18, 19)] rec c6_q4 fs s) (fun e r => opt2 (thenX (xRet rec N) e r) fun e r => finX [.tmp t2] e r) = Q6_q4 rec N (orU (fs.get t3), orU (fs.get t6), orU (fs.get t7), orU (fs.get t109)) ms s := by
  rw [d6_q4]
  unfold D6_q4 Q6_q4
  simp (maxSteps := 4000000) only [op2_bif, thenX_n, thenX_e, thenX_r, x_exit, x_skip, x_ret, blkX_n, blkX_r, blkX_e, finX_r, finX_n, res_n, res_t, op2_op2, op2_op, op2_s, op2_cond, op2_bf, mov_v]
  first | done | kernel_rfl
def J6_j0 (rec : Rec) (N : Nat) (k : Value × Value × Value × Value × Value × Value) (s : St) : Out := opt2 (oNot (.v k.2.2.2.2.2) rec PT.nil s) fun x1 s =>
 condV x1
 (opt2 (oBin (int2 (cmpO eqI)) (.v k.2.2.1) (.v (.int .i64 3)) rec PT.nil s) fun x2 s =>
 opt (gval true x2) fun x3 => opt2 (orUndef x3 (some (k.2.1, s)) s) fun x4 s =>
 opt (gval true x2) fun x5 => opt2 (orUndef x5 (oEqv eqP false (.v x4) (.v (.pointer none)) rec PT.nil s) s) fun x6 s =>
 opt2 (oPick (.v x2) (.v x6) (.v (.bool false)) rec PT.nil s) fun x7 s =>
 some (oneOf [x7], s))
 (opt2 (rU (oMov (.v k.2.2.1) rec PT.nil ⟨s.heap, s.next, 0, 0⟩) PT.nil s none) fun x8 m8 =>
 (fun s => opt2 (rU (oBin (int2 (cmpO eqI)) (.v x8) (.v (.int .i64 0)) rec PT.nil ⟨s.heap, s.next, 0, 0⟩) PT.nil s none) fun x9 m9 =>
 (fun s => opt2 (rU (oMov (.v x9) rec PT.nil ⟨s.heap, s.next, 0, 0⟩) PT.nil s none) fun x10 m10 =>
 (fun s => opt (gval true x10) fun x11 => opt2 (orM x11 (rU (oMov (.v k.2.1) rec PT.nil ⟨s.heap, s.next, 0, 0⟩) PT.nil s none) s) fun x12 m12 =>
 (fun s => opt (gval true x10) fun x13 => opt2 (orM x13 (rU (rec 24 [x12] ⟨s.heap, s.next, 0, 0⟩) PT.nil s none) s) fun x14 m14 =>
 (fun s => opt (gval true x10) fun x15 => opt2 (orM x15 (rU (oBytesStr (.v x14) rec PT.nil ⟨s.heap, s.next, 0, 0⟩) PT.nil s none) s) fun x16 m16 =>
 (fun s => opt (gval true x10) fun x17 => opt2 (orM x17 (rU (oMov (.v k.1) rec PT.nil ⟨s.heap, s.next, 0, 0⟩) PT.nil s none) s) fun x18 m18 =>
 (fun s => opt (gval true x10) fun x19 => opt2 (orM x19 (rU (oBytesStr (.v x18) rec PT.nil ⟨s.heap, s.next, 0, 0⟩) PT.nil s none) s) fun x20 m20 =>
 (fun s => opt (gval true x10) fun x21 => opt2 (orM x21 (rU (oBin (str2 (cmpS eqBytes)) (.v x16) (.v x20) rec PT.nil ⟨s.heap, s.next, 0, 0⟩) PT.nil s none) s) fun x22 m22 =>
 (fun s => opt2 (rU (oPick (.v x10) (.v x22) (.v (.bool false)) rec PT.nil ⟨s.heap, s.next, 0, 0⟩) PT.nil s none) fun x23 m23 =>
 (fun s => Q6_q4 rec N (k.2.1, k.2.2.2.1, k.2.2.2.2.1, x23) (snM (snM (snM (snM (snM (snM (snM (snM (snM (snM [] m8.1) m9.1) m10.1) m12.1) m14.1) m16.1) m18.1) m20.1) m22.1) m23.1) s) m23.2) m22.2) m20.2) m18.2) m16.2) m14.2) m12.2) m10.2) m9.2) m8.2)
set_option maxHeartbeats 4000000 in
theorem j6_j0 (rec : Rec) (N : Nat) (fs : Frm) (s : St) : opt2 (c6_j0 rec N fs s) (fun e r => finX [.tmp t2] e r) = J6_j0 rec N (orU (fs.get t0), orU (fs.get t3), orU (fs.get t4), orU (fs.get t6), orU (fs.get t7), orU (fs.get t12)) s := by
  rw [d6_j0]
  unfold D6_j0 J6_j0
  simp (maxSteps := 4000000) only [thenX_n, thenX_e, thenX_r, x_exit, x_skip, x_ret, blkX_n, blkX_r, blkX_e, finX_r, finX_n, res_n, res_t, op2_op2, op2_op, op2_s, op2_cond, op2_bf, mov_v, j6_q4 rec N]
  first | done | kernel_rfl
def Q6_q0 (rec : Rec) (N : Nat) (k : Value × Value × Value × Value × Value × Value × Value × Value × Value) (ms : List Mk) (s : St) : Out := opt (gval true k.2.2.2.2.2.2.1) fun x1 => opt2 (orM x1 (rU (rec 25 [k.2.2.2.2.2.2.2.1, k.2.2.2.2.2.2.2.2] ⟨s.heap, s.next, 0, 0⟩) PT.nil s none) s) fun x2 m2 =>
 (fun s => opt (gval true k.2.2.2.2.2.2.1) fun x3 => opt2 (orM x3 (rU (oBin (int2 (cmpO geI)) (.v x2) (.v (.int .i64 0)) rec PT.nil ⟨s.heap, s.next, 0, 0⟩) PT.nil s none) s) fun x4 m4 =>
 (fun s => opt2 (rU (oPick (.v k.2.2.2.2.2.2.1) (.v x4) (.v (.bool false)) rec PT.nil ⟨s.heap, s.next, 0, 0⟩) PT.nil s none) fun x5 m5 =>
 (fun s => opt2 (rU (oMov (.v x5) rec PT.nil ⟨s.heap, s.next, 0, 0⟩) PT.nil s none) fun x6 m6 =>
 (fun s => opt (gval true x6) fun x7 => opt2 (orM x7 (rU (oLoadN 2 (.v k.2.2.2.2.2.1) rec PT.nil ⟨s.heap, s.next, 0, 0⟩) PT.nil s none) s) fun x8 m8 =>
 (fun s => opt (gval true x6) fun x9 => opt2 (orM x9 (rU (rec 26 [] ⟨s.heap, s.next, 0, 0⟩) PT.nil s none) s) fun x10 m10 =>
 (fun s => opt (gval true x6) fun x11 => opt2 (orM x11 (rU (rec 25 [x8, x10] ⟨s.heap, s.next, 0, 0⟩) PT.nil s none) s) fun x12 m12 =>
 (fun s => opt (gval true x6) fun x13 => opt2 (orM x13 (rU (oBin (int2 (cmpO leI)) (.v x12) (.v (.int .i64 0)) rec PT.nil ⟨s.heap, s.next, 0, 0⟩) PT.nil s none) s) fun x14 m14 =>
 (fun s => opt2 (rU (oPick (.v x6) (.v x14) (.v (.bool false)) rec PT.nil ⟨s.heap, s.next, 0, 0⟩) PT.nil s none) fun x15 m15 =>
 (fun s => opt2 (rU (oMov (.v x15) rec PT.nil ⟨s.heap, s.next, 0, 0⟩) PT.nil s none) fun x16 m16 =>
 (fun s => bif apartAll (snM (snM (snM (snM (snM (snM (snM (snM (snM (snM ms m2.1) m4.1) m5.1) m6.1) m8.1) m10.1) m12.1) m14.1) m15.1) m16.1) [(38, 39), (44, 45)] then J6_j0 rec N (k.1, k.2.1, k.2.2.1, k.2.2.2.1, k.2.2.2.2.1, x16) s else none) m16.2) m15.2) m14.2) m12.2) m10.2) m8.2) m6.2) m5.2) m4.2) m2.2
set_option maxHeartbeats 4000000 in
theorem j6_q0 (rec : Rec) (N : Nat) (ms : List Mk) (fs : Frm) (s : St) : opt2 (rgA ms [(38, 39), (44, 45)] rec c6_q0 fs s) (fun e r => opt2 (thenX (c6_j0 rec N) e r) fun e r => finX [.tmp t2] e r) = Q6_q0 rec N (orU (fs.get t0), orU (fs.get t3), orU (fs.get t4), orU (fs.get t6), orU (fs.get t7), orU (fs.get t11), orU (fs.get t80), orU (fs.get t81), orU (fs.get t82)) ms s := by
  rw [d6_q0]
  unfold D6_q0 Q6_q0
  simp (maxSteps := 4000000) only [op2_bif, thenX_n, thenX_e, thenX_r, x_exit, x_skip, x_ret, blkX_n, blkX_r, blkX_e, finX_r, finX_n, res_n, res_t, op2_op2, op2_op, op2_s, op2_cond, op2_bf, mov_v, j6_j0 rec N]
  first | done | kernel_rfl
def Q6_q1 (rec : Rec) (N : Nat) (k : Value × Value × Value × Value × Value × Value × Value × Value) (ms : List Mk) (s : St) : Out := opt (gval true k.2.2.2.2.2.2.2) fun x1 => opt2 (orM x1 (rU (oMov (.v k.2.2.2.2.2.1) rec PT.nil ⟨s.heap, s.next, 0, 0⟩) PT.nil s none) s) fun x2 m2 =>
 (fun s => opt (gval true k.2.2.2.2.2.2.2) fun x3 => opt2 (orM x3 (rU (oBin (int2 (cmpO geI)) (.v x2) (.v (.int .i64 0)) rec PT.nil ⟨s.heap, s.next, 0, 0⟩) PT.nil s none) s) fun x4 m4 =>
 (fun s => opt2 (rU (oPick (.v k.2.2.2.2.2.2.2) (.v x4) (.v (.bool false)) rec PT.nil ⟨s.heap, s.next, 0, 0⟩) PT.nil s none) fun x5 m5 =>
 (fun s => opt2 (rU (oMov (.v x5) rec PT.nil ⟨s.heap, s.next, 0, 0⟩) PT.nil s none) fun x6 m6 =>
 (fun s => opt (gval true x6) fun x7 => opt2 (orM x7 (rU (oMov (.v k.2.2.2.2.2.1) rec PT.nil ⟨s.heap, s.next, 0, 0⟩) PT.nil s none) s) fun x8 m8 =>
 (fun s => opt (gval true x6) fun x9 => opt2 (orM x9 (rU (oBin (int2 (cmpO leI)) (.v x8) (.v (.int .i64 4503599627370496)) rec PT.nil ⟨s.heap, s.next, 0, 0⟩) PT.nil s none) s) fun x10 m10 =>
 (fun s => opt2 (rU (oPick (.v x6) (.v x10) (.v (.bool false)) rec PT.nil ⟨s.heap, s.next, 0, 0⟩) PT.nil s none) fun x11 m11 =>
 (fun s => opt2 (rU (oMov (.v x11) rec PT.nil ⟨s.heap, s.next, 0, 0⟩) PT.nil s none) fun x12 m12 =>
 (fun s => opt (gval true x12) fun x13 => opt2 (orM x13 (rU (oLoadN 2 (.v k.2.2.2.2.2.2.1) rec PT.nil ⟨s.heap, s.next, 0, 0⟩) PT.nil s none) s) fun x14 m14 =>
 (fun s => opt (gval true x12) fun x15 => opt2 (orM x15 (rU (rec 37 [(.int .i64 0)] ⟨s.heap, s.next, 0, 0⟩) PT.nil s none) s) fun x16 m16 =>
 (fun s => Q6_q0 rec N (k.1, k.2.1, k.2.2.1, k.2.2.2.1, k.2.2.2.2.1, k.2.2.2.2.2.2.1, x12, x14, x16) (snM (snM (snM (snM (snM (snM (snM (snM (snM (snM ms m2.1) m4.1) m5.1) m6.1) m8.1) m10.1) m11.1) m12.1) m14.1) m16.1) s) m16.2) m14.2) m12.2) m11.2) m10.2) m8.2) m6.2) m5.2) m4.2) m2.2
set_option maxHeartbeats 4000000 in
theorem j6_q1 (rec : Rec) (N : Nat) (ms : List Mk) (fs : Frm) (s : St) : opt2 (rgA ms [(38, 39), (44, 45)] rec c6_q1 fs s) (fun e r => opt2 (thenX (c6_j0 rec N) e r) fun e r => finX [.tmp t2] e r) = Q6_q1 rec N (orU (fs.get t0), orU (fs.get t3), orU (fs.get t4), orU (fs.get t6), orU (fs.get t7), orU (fs.get t8), orU (fs.get t11), orU (fs.get t72)) ms s := by
  rw [d6_q1]
  unfold D6_q1 Q6_q1
  simp (maxSteps := 4000000) only [op2_bif, thenX_n, thenX_e, thenX_r, x_exit, x_skip, x_ret, blkX_n, blkX_r, blkX_e, finX_r, finX_n, res_n, res_t, op2_op2, op2_op, op2_s, op2_cond, op2_bf, mov_v, j6_q0 rec N]
  first | done | kernel_rfl
def Q6_q2 (rec : Rec) (N : Nat) (k : Value × Value × Value × Value × Value × Value × Value × Value × Value) (ms : List Mk) (s : St) : Out := opt2 (rU (oPick (.v k.2.2.2.2.2.2.2.1) (.v k.2.2.2.2.2.2.2.2) (.v (.bool false)) rec PT.nil ⟨s.heap, s.next, 0, 0⟩) PT.nil s none) fun x1 m1 =>
 (fun s => opt2 (rU (oMov (.v x1) rec PT.nil ⟨s.heap, s.next, 0, 0⟩) PT.nil s none) fun x2 m2 =>
 (fun s => opt (gval true x2) fun x3 => opt2 (orM x3 (rU (oMov (.v k.2.2.2.2.1) rec PT.nil ⟨s.heap, s.next, 0, 0⟩) PT.nil s none) s) fun x4 m4 =>
 (fun s => opt (gval true x2) fun x5 => opt2 (orM x5 (rU (oBin (int2 (cmpO geI)) (.v x4) (.v (.int .i64 0)) rec PT.nil ⟨s.heap, s.next, 0, 0⟩) PT.nil s none) s) fun x6 m6 =>
 (fun s => opt2 (rU (oPick (.v x2) (.v x6) (.v (.bool false)) rec PT.nil ⟨s.heap, s.next, 0, 0⟩) PT.nil s none) fun x7 m7 =>
 (fun s => opt2 (rU (oMov (.v x7) rec PT.nil ⟨s.heap, s.next, 0, 0⟩) PT.nil s none) fun x8 m8 =>
 (fun s => opt (gval true x8) fun x9 => opt2 (orM x9 (rU (oMov (.v k.2.2.2.2.1) rec PT.nil ⟨s.heap, s.next, 0, 0⟩) PT.nil s none) s) fun x10 m10 =>
 (fun s => opt (gval true x8) fun x11 => opt2 (orM x11 (rU (oBin (int2 (cmpO leI)) (.v x10) (.v (.int .i64 4503599627370496)) rec PT.nil ⟨s.heap, s.next, 0, 0⟩) PT.nil s none) s) fun x12 m12 =>
 (fun s => opt2 (rU (oPick (.v x8) (.v x12) (.v (.bool false)) rec PT.nil ⟨s.heap, s.next, 0, 0⟩) PT.nil s none) fun x13 m13 =>
 (fun s => opt2 (rU (oMov (.v x13) rec PT.nil ⟨s.heap, s.next, 0, 0⟩) PT.nil s none) fun x14 m14 =>
 (fun s => Q6_q1 rec N (k.1, k.2.1, k.2.2.1, k.2.2.2.1, k.2.2.2.2.1, k.2.2.2.2.2.1, k.2.2.2.2.2.2.1, x14) (snM (snM (snM (snM (snM (snM (snM (snM (snM (snM ms m1.1) m2.1) m4.1) m6.1) m7.1) m8.1) m10.1) m12.1) m13.1) m14.1) s) m14.2) m13.2) m12.2) m10.2) m8.2) m7.2) m6.2) m4.2) m2.2) m1.2
set_option maxHeartbeats 4000000 in
theorem j6_q2 (rec : Rec) (N : Nat) (ms : List Mk) (fs : Frm) (s : St) : opt2 (rgA ms [(38, 39), (44, 45)] rec c6_q2 fs s) (fun e r => opt2 (thenX (c6_j0 rec N) e r) fun e r => finX [.tmp t2] e r) = Q6_q2 rec N (orU (fs.get t0), orU (fs.get t3), orU (fs.get t4), orU (fs.get t6), orU (fs.get t7), orU (fs.get t8), orU (fs.get t11), orU (fs.get t60), orU (fs.get t62)) ms s := by
  rw [d6_q2]
  unfold D6_q2 Q6_q2
  simp (maxSteps := 4000000) only [op2_bif, thenX_n, thenX_e, thenX_r, x_exit, x_skip, x_ret, blkX_n, blkX_r, blkX_e, finX_r, finX_n, res_n, res_t, op2_op2, op2_op, op2_s, op2_cond, op2_bf, mov_v, j6_q1 rec N]
  first | done | kernel_rfl
def Q6_q3 (rec : Rec) (N : Nat) (k : Value × Value × Value × Value × Value × Value × Value × Value × Value) (ms : List Mk) (s : St) : Out := opt (gval true k.2.2.2.2.2.2.2.1) fun x1 => opt2 (orM x1 (rU (oLenL (.v k.2.2.2.2.2.2.2.2) rec PT.nil ⟨s.heap, s.next, 0, 0⟩) PT.nil s none) s) fun x2 m2 =>
 (fun s => opt (gval true k.2.2.2.2.2.2.2.1) fun x3 => opt2 (orM x3 (rU (oBin (int2 (cmpO eqI)) (.v x2) (.v (.int .i64 0)) rec PT.nil ⟨s.heap, s.next, 0, 0⟩) PT.nil s none) s) fun x4 m4 =>
 (fun s => opt2 (rU (oPick (.v k.2.2.2.2.2.2.2.1) (.v x4) (.v (.bool false)) rec PT.nil ⟨s.heap, s.next, 0, 0⟩) PT.nil s none) fun x5 m5 =>
 (fun s => opt2 (rU (oMov (.v x5) rec PT.nil ⟨s.heap, s.next, 0, 0⟩) PT.nil s none) fun x6 m6 =>
 (fun s => opt (gval true x6) fun x7 => opt2 (orM x7 (rU (oMov (.v k.2.2.2.1) rec PT.nil ⟨s.heap, s.next, 0, 0⟩) PT.nil s none) s) fun x8 m8 =>
 (fun s => opt (gval true x6) fun x9 => opt2 (orM x9 (rU (oBin (int2 (cmpO geI)) (.v x8) (.v (.int .i64 0)) rec PT.nil ⟨s.heap, s.next, 0, 0⟩) PT.nil s none) s) fun x10 m10 =>
 (fun s => opt2 (rU (oPick (.v x6) (.v x10) (.v (.bool false)) rec PT.nil ⟨s.heap, s.next, 0, 0⟩) PT.nil s none) fun x11 m11 =>
 (fun s => opt2 (rU (oMov (.v x11) rec PT.nil ⟨s.heap, s.next, 0, 0⟩) PT.nil s none) fun x12 m12 =>
 (fun s => opt (gval true x12) fun x13 => opt2 (orM x13 (rU (oMov (.v k.2.2.2.1) rec PT.nil ⟨s.heap, s.next, 0, 0⟩) PT.nil s none) s) fun x14 m14 =>
 (fun s => opt (gval true x12) fun x15 => opt2 (orM x15 (rU (oBin (int2 (cmpO leI)) (.v x14) (.v (.int .i64 109572)) rec PT.nil ⟨s.heap, s.next, 0, 0⟩) PT.nil s none) s) fun x16 m16 =>
 (fun s => Q6_q2 rec N (k.1, k.2.1, k.2.2.1, k.2.2.2.1, k.2.2.2.2.1, k.2.2.2.2.2.1, k.2.2.2.2.2.2.1, x12, x16) (snM (snM (snM (snM (snM (snM (snM (snM (snM (snM ms m2.1) m4.1) m5.1) m6.1) m8.1) m10.1) m11.1) m12.1) m14.1) m16.1) s) m16.2) m14.2) m12.2) m11.2) m10.2) m8.2) m6.2) m5.2) m4.2) m2.2
set_option maxHeartbeats 4000000 in
theorem j6_q3 (rec : Rec) (N : Nat) (ms : List Mk) (fs : Frm) (s : St) : opt2 (rgA ms [(38, 39), (44, 45)] rec c6_q3 fs s) (fun e r => opt2 (thenX (c6_j0 rec N) e r) fun e r => finX [.tmp t2] e r) = Q6_q3 rec N (orU (fs.get t0), orU (fs.get t3), orU (fs.get t4), orU (fs.get t6), orU (fs.get t7), orU (fs.get t8), orU (fs.get t11), orU (fs.get t48), orU (fs.get t52)) ms s := by
  rw [d6_q3]
  unfold D6_q3 Q6_q3
  simp (maxSteps := 4000000) only [op2_bif, thenX_n, thenX_e, thenX_r, x_exit, x_skip, x_ret, blkX_n, blkX_r, blkX_e, finX_r, finX_n, res_n, res_t, op2_op2, op2_op, op2_s, op2_cond, op2_bf, mov_v, j6_q2 rec N]
  first | done | kernel_rfl
def F6 (rec : Rec) (N : Nat) (a0 : Value) (s : St) : Out := opt2 (rec 9 [] s) fun x1 s =>
 opt2 (oNot (.v x1) rec PT.nil s) fun x2 s =>
 condV x2
 (some (oneOf [(.bool false)], s))
 (opt2 (oLenL (.v a0) rec PT.nil s) fun x3 s =>
 opt2 (oBin (int2 (cmpO gtI)) (.v x3) (.v (.int .i64 100)) rec PT.nil s) fun x4 s =>
 condV x4
 (some (oneOf [(.bool true)], s))
 (opt2 (oBuildSlice 0 [] [] rec PT.nil s) fun x5 s =>
 opt2 (oAppend 1 1 (.v x5) (.v a0) rec PT.nil s) fun x6 s =>
 opt2 (rec 12 [x6] s) fun x7 s =>
 opt2 (oExtract (.v x7) 0 rec PT.nil s) fun x8 s =>
 opt2 (oExtract (.v x7) 1 rec PT.nil s) fun x9 s =>
 opt2 (oBuildSlice 0 [] [] rec PT.nil s) fun x10 s =>
 opt2 (oAppend 1 1 (.v x10) (.v a0) rec PT.nil s) fun x11 s =>
 opt2 (oBuild [(.slice none 0 0), (.bool false)] [(0, 1, (.v x11))] rec PT.nil s) fun x12 s =>
 opt2 (oBox (.v x12) rec PT.nil s) fun x13 s =>
 opt2 (rec 34 [x13] s) fun x14 s =>
 opt2 (rec 34 [x13] s) fun x15 s =>
 opt2 (rec 34 [x13] s) fun x16 s =>
 opt2 (rec 34 [x13] s) fun x17 s =>
 opt2 (rec 35 [x13] s) fun x18 s =>
 opt2 (rec 36 [x17, x18] s) fun x19 s =>
 opt2 (oNew [(.bool false), (.slice none 0 0)] rec PT.nil s) fun x20 s =>
 opt2 (oStore 2 (.v x20) (.v x19) rec PT.nil s) fun x21 s =>
 opt2 (rU (oMov (.v x13) rec PT.nil ⟨s.heap, s.next, 0, 0⟩) PT.nil s none) fun x22 m22 =>
 (fun s => opt2 (rU (oNilCheck (.v x22) rec PT.nil ⟨s.heap, s.next, 0, 0⟩) PT.nil s none) fun x23 m23 =>
 (fun s => opt2 (rU (oFieldAddr 1 (.v x23) rec PT.nil ⟨s.heap, s.next, 0, 0⟩) PT.nil s none) fun x24 m24 =>
 (fun s => opt2 (rU (oLoad1 (.v x24) rec PT.nil ⟨s.heap, s.next, 0, 0⟩) PT.nil s (some (.v x24))) fun x25 m25 =>
 (fun s => opt2 (rU (oNot (.v x25) rec PT.nil ⟨s.heap, s.next, 0, 0⟩) PT.nil s none) fun x26 m26 =>
 (fun s => opt2 (rU (oMov (.v x26) rec PT.nil ⟨s.heap, s.next, 0, 0⟩) PT.nil s none) fun x27 m27 =>
 (fun s => opt (gval true x27) fun x28 => opt2 (orM x28 (rU (oMov (.v x13) rec PT.nil ⟨s.heap, s.next, 0, 0⟩) PT.nil s none) s) fun x29 m29 =>
 (fun s => opt (gval true x27) fun x30 => opt2 (orM x30 (rU (oNilCheck (.v x29) rec PT.nil ⟨s.heap, s.next, 0, 0⟩) PT.nil s none) s) fun x31 m31 =>
 (fun s => opt (gval true x27) fun x32 => opt2 (orM x32 (rU (oFieldAddr 0 (.v x31) rec PT.nil ⟨s.heap, s.next, 0, 0⟩) PT.nil s none) s) fun x33 m33 =>
 (fun s => opt (gval true x27) fun x34 => opt2 (orM x34 (rU (oLoad1 (.v x33) rec PT.nil ⟨s.heap, s.next, 0, 0⟩) PT.nil s (some (.v x33))) s) fun x35 m35 =>
 (fun s => Q6_q3 rec N (a0, x8, x9, x14, x15, x16, x20, x27, x35) (snM (snM (snM (snM (snM (snM (snM (snM (snM (snM [] m22.1) m23.1) m24.1) m25.1) m26.1) m27.1) m29.1) m31.1) m33.1) m35.1) s) m35.2) m33.2) m31.2) m29.2) m27.2) m26.2) m25.2) m24.2) m23.2) m22.2))
theorem f6 (rec : Rec) (N : Nat) (a0 : Value) (s : St) : callF rec N c6 [a0] s = F6 rec N a0 s := by
  rw [d6]
  unfold D6 F6
  simp (maxSteps := 4000000) only [mov_v, op2_s, j6_q3 rec N]
  first | done | kernel_rfl
-- c12
def D12_q0 (rec : Rec) (fs : Frm) (s : St) : Option (Frm × St) := opt (gval false (orU (fs.get t49))) fun x1 => opt2 (orUndef x1 (oMov (.v (orU (fs.get t7))) rec PT.nil s) s) fun x2 s =>
 opt (gval false (orU (fs.get t49))) fun x3 => opt2 (orUndef x3 (oBin (int2 (cmpO gtI)) (.v x2) (.v (.int .i64 4503599627370496)) rec PT.nil s) s) fun x4 s =>
 opt2 (oPick (.v (orU (fs.get t49))) (.v (.bool true)) (.v x4) rec PT.nil s) fun x5 s =>
 opt2 (oMov (.v x5) rec PT.nil s) fun x6 s =>
 opt (gval false x6) fun x7 => opt2 (orUndef x7 (oFieldAddr 0 (.v (orU (fs.get t8))) rec PT.nil s) s) fun x8 s =>
 opt (gval false x6) fun x9 => opt2 (orUndef x9 (oLoad1 (.v x8) rec PT.nil s) s) fun x10 s =>
 opt (gval false x6) fun x11 => opt2 (orUndef x11 (oBin (int2 (cmpO ltI)) (.v x10) (.v (.int .i64 0)) rec PT.nil s) s) fun x12 s =>
 opt2 (oPick (.v x6) (.v (.bool true)) (.v x12) rec PT.nil s) fun x13 s =>
 opt2 (oMov (.v x13) rec PT.nil s) fun x14 s =>
 opt (gval false x14) fun x15 => opt2 (orUndef x15 (oLoadN 2 (.v (orU (fs.get t8))) rec PT.nil s) s) fun x16 s =>
 opt (gval false x14) fun x17 => opt2 (orUndef x17 (oBuild [(.int .i64 0), (.int .u64 0)] [(0, 1, (.v (.int .i64 68719476736)))] rec PT.nil s) s) fun x18 s =>
 opt (gval false x14) fun x19 => opt2 (orUndef x19 (rec 44 [x16, x18] s) s) fun x20 s =>
 opt (gval false x14) fun x21 => opt2 (orUndef x21 (oBin (int2 (cmpO gtI)) (.v x20) (.v (.int .i64 0)) rec PT.nil s) s) fun x22 s =>
 opt2 (oPick (.v x14) (.v (.bool true)) (.v x22) rec PT.nil s) fun x23 s =>
 some ((PT.put x23 t63 (PT.put x22 t62 (PT.put x20 t61 (PT.put x18 t60 (PT.put x16 t59 (PT.put x14 t58 (PT.put x13 t57 (PT.put x12 t56 (PT.put x10 t55 (PT.put x8 t54 (PT.put x6 t53 (PT.put x5 t52 (PT.put x4 t51 (PT.put x2 t50 fs)))))))))))))), s)
set_option maxHeartbeats 4000000 in
theorem d12_q0 (rec : Rec) (fs : Frm) (s : St) : runOps rec c12_q0 fs s = D12_q0 rec fs s := by
  simp (maxSteps := 4000000) only [c12_q0, ops_c, ops_n, op1_u, op1_gj, rq_c, rq_n, opQ_u, opQ_g, op2_op2, op2_op, op2_s]
  first | done | kernel_rfl
def D12_q1 (rec : Rec) (fs : Frm) (s : St) : Option (Frm × St) := opt2 (oPick (.v (orU (fs.get t33))) (.v (.bool true)) (.v (orU (fs.get t35))) rec PT.nil s) fun x1 s =>
 opt2 (oMov (.v x1) rec PT.nil s) fun x2 s =>
 opt (gval false x2) fun x3 => opt2 (orUndef x3 (oMov (.v (orU (fs.get t6))) rec PT.nil s) s) fun x4 s =>
 opt (gval false x2) fun x5 => opt2 (orUndef x5 (oBin (int2 (cmpO ltI)) (.v x4) (.v (.int .i64 0)) rec PT.nil s) s) fun x6 s =>
 opt2 (oPick (.v x2) (.v (.bool true)) (.v x6) rec PT.nil s) fun x7 s =>
 opt2 (oMov (.v x7) rec PT.nil s) fun x8 s =>
 opt (gval false x8) fun x9 => opt2 (orUndef x9 (oMov (.v (orU (fs.get t6))) rec PT.nil s) s) fun x10 s =>
 opt (gval false x8) fun x11 => opt2 (orUndef x11 (oBin (int2 (cmpO gtI)) (.v x10) (.v (.int .i64 4503599627370496)) rec PT.nil s) s) fun x12 s =>
 opt2 (oPick (.v x8) (.v (.bool true)) (.v x12) rec PT.nil s) fun x13 s =>
 opt2 (oMov (.v x13) rec PT.nil s) fun x14 s =>
 opt (gval false x14) fun x15 => opt2 (orUndef x15 (oMov (.v (orU (fs.get t7))) rec PT.nil s) s) fun x16 s =>
 opt (gval false x14) fun x17 => opt2 (orUndef x17 (oBin (int2 (cmpO ltI)) (.v x16) (.v (.int .i64 0)) rec PT.nil s) s) fun x18 s =>
 opt2 (oPick (.v x14) (.v (.bool true)) (.v x18) rec PT.nil s) fun x19 s =>
 opt2 (oMov (.v x19) rec PT.nil s) fun x20 s =>
 runOps rec c12_q0 (PT.put x20 t49 (PT.put x19 t48 (PT.put x18 t47 (PT.put x16 t46 (PT.put x14 t45 (PT.put x13 t44 (PT.put x12 t43 (PT.put x10 t42 (PT.put x8 t41 (PT.put x7 t40 (PT.put x6 t39 (PT.put x4 t38 (PT.put x2 t37 (PT.put x1 t36 fs)))))))))))))) s
set_option maxHeartbeats 4000000 in
theorem d12_q1 (rec : Rec) (fs : Frm) (s : St) : runOps rec c12_q1 fs s = D12_q1 rec fs s := by
  simp (maxSteps := 4000000) only [c12_q1, ops_c, ops_n, op1_u, op1_gj, rq_c, rq_n, opQ_u, opQ_g, op2_op2, op2_op, op2_s]
  first | done | kernel_rfl
def D12_j0 (rec : Rec) (N : Nat) (fs : Frm) (s : St) : OutX := condV (orU (fs.get t63))
 (opt2 (oMov (.v (.pointer none)) rec PT.nil s) fun x1 s =>
 opt2 (oMov (.v (.int .i64 3)) rec PT.nil s) fun x2 s =>
 some (.ret, (PT.put x2 t3 (PT.put x1 t2 fs)), s))
 (some (.norm, fs, s))
set_option maxHeartbeats 4000000 in
theorem d12_j0 (rec : Rec) (N : Nat) (fs : Frm) (s : St) : c12_j0 rec N fs s = D12_j0 rec N fs s := by
  simp (maxSteps := 4000000) only [c12_j0, lenN, x_seq, x_ops, x_skip, x_ret, x_exit, x_cond, x_block, x_loop, ops_c, ops_n, op1_u, op1_gj, rq_c, rq_n, opQ_u, opQ_g, op2_op2, op2_op, op2_s, op2_cond, thenX_n, thenX_e, thenX_r, blkX_n, blkX_r, blkX_e, finX_r, finX_n, res_n, res_t, op_s, Nat.beq_refl, cond_true]
  first | done | kernel_rfl
def D12_j1 (rec : Rec) (N : Nat) (fs : Frm) (s : St) : OutX := opt2 (oMov (.v (orU (fs.get t5))) rec PT.nil s) fun x1 s =>
 opt2 (oMov (.v (orU (fs.get t6))) rec PT.nil s) fun x2 s =>
 opt2 (oMov (.v (orU (fs.get t7))) rec PT.nil s) fun x3 s =>
 opt2 (oLoadN 2 (.v (orU (fs.get t8))) rec PT.nil s) fun x4 s =>
 opt2 (oBuild [(.int .i64 0), (.int .i64 0), (.int .i64 0), (.int .i64 0), (.int .u64 0)] [(0, 1, (.v x1)), (1, 1, (.v x2)), (2, 1, (.v x3)), (3, 2, (.v x4))] rec PT.nil s) fun x5 s =>
 opt2 (oBox (.v x5) rec PT.nil s) fun x6 s =>
 opt2 (oMov (.v x6) rec PT.nil s) fun x7 s =>
 opt2 (oMov (.v (.int .i64 0)) rec PT.nil s) fun x8 s =>
 some (.ret, (PT.put x8 t3 (PT.put x7 t2 (PT.put x6 t69 (PT.put x5 t68 (PT.put x4 t67 (PT.put x3 t66 (PT.put x2 t65 (PT.put x1 t64 fs)))))))), s)
set_option maxHeartbeats 4000000 in
theorem d12_j1 (rec : Rec) (N : Nat) (fs : Frm) (s : St) : c12_j1 rec N fs s = D12_j1 rec N fs s := by
  simp (maxSteps := 4000000) only [c12_j1, lenN, x_seq, x_ops, x_skip, x_ret, x_exit, x_cond, x_block, x_loop, ops_c, ops_n, op1_u, op1_gj, rq_c, rq_n, opQ_u, opQ_g, op2_op2, op2_op, op2_s, op2_cond, thenX_n, thenX_e, thenX_r, blkX_n, blkX_r, blkX_e, finX_r, finX_n, res_n, res_t, op_s, Nat.beq_refl, cond_true]
  first | done | kernel_rfl
def D12 (rec : Rec) (N : Nat) (a0 : Value) (s : St) : Out := opt2 (oMov (.v (.pointer none)) rec PT.nil s) fun x1 s =>
 opt2 (oMov (.v (.int .i64 0)) rec PT.nil s) fun x2 s =>
 opt2 (oMov (.v a0) rec PT.nil s) fun x3 s =>
 opt2 (rec 39 [x3] s) fun x4 s =>
 opt2 (oMov (.v x4) rec PT.nil s) fun x5 s =>
 opt2 (oMov (.v x5) rec PT.nil s) fun x6 s =>
 opt2 (rec 40 [x6] s) fun x7 s =>
 opt2 (oMov (.v x5) rec PT.nil s) fun x8 s =>
 opt2 (rec 40 [x8] s) fun x9 s =>
 opt2 (oMov (.v x5) rec PT.nil s) fun x10 s =>
 opt2 (rec 40 [x10] s) fun x11 s =>
 opt2 (oMov (.v x7) rec PT.nil s) fun x12 s =>
 opt2 (oMov (.v x9) rec PT.nil s) fun x13 s =>
 opt2 (oMov (.v x11) rec PT.nil s) fun x14 s =>
 opt2 (oMov (.v x5) rec PT.nil s) fun x15 s =>
 opt2 (rec 40 [x15] s) fun x16 s =>
 opt2 (oMov (.v x5) rec PT.nil s) fun x17 s =>
 opt2 (rec 41 [x17] s) fun x18 s =>
 opt2 (oBuild [(.int .i64 0), (.int .u64 0)] [(0, 1, (.v x16)), (1, 1, (.v x18))] rec PT.nil s) fun x19 s =>
 opt2 (oNew [(.int .i64 0), (.int .u64 0)] rec PT.nil s) fun x20 s =>
 opt2 (oStore 2 (.v x20) (.v x19) rec PT.nil s) fun x21 s =>
 opt2 (oMov (.v x5) rec PT.nil s) fun x22 s =>
 opt2 (rec 42 [x22] s) fun x23 s =>
 opt2 (oMov (.v x23) rec PT.nil s) fun x24 s =>
 opt (gval false x24) fun x25 => opt2 (orUndef x25 (oMov (.v x5) rec PT.nil s) s) fun x26 s =>
 opt (gval false x24) fun x27 => opt2 (orUndef x27 (rec 43 [x26] s) s) fun x28 s =>
 opt (gval false x24) fun x29 => opt2 (orUndef x29 (oBin (int2 (cmpO gtI)) (.v x28) (.v (.int .i64 0)) rec PT.nil s) s) fun x30 s =>
 opt2 (oPick (.v x24) (.v (.bool true)) (.v x30) rec PT.nil s) fun x31 s =>
 opt2 (oMov (.v x31) rec PT.nil s) fun x32 s =>
 opt (gval false x32) fun x33 => opt2 (orUndef x33 (oMov (.v x12) rec PT.nil s) s) fun x34 s =>
 opt (gval false x32) fun x35 => opt2 (orUndef x35 (oBin (int2 (cmpO ltI)) (.v x34) (.v (.int .i64 0)) rec PT.nil s) s) fun x36 s =>
 opt2 (oPick (.v x32) (.v (.bool true)) (.v x36) rec PT.nil s) fun x37 s =>
 opt2 (oMov (.v x37) rec PT.nil s) fun x38 s =>
 opt (gval false x38) fun x39 => opt2 (orUndef x39 (oMov (.v x12) rec PT.nil s) s) fun x40 s =>
 opt (gval false x38) fun x41 => opt2 (orUndef x41 (oBin (int2 (cmpO gtI)) (.v x40) (.v (.int .i64 109572)) rec PT.nil s) s) fun x42 s =>
 opt2 (runOps rec c12_q1 (PT.put x42 t35 (PT.put x40 t34 (PT.put x38 t33 (PT.put x37 t32 (PT.put x36 t31 (PT.put x34 t30 (PT.put x32 t29 (PT.put x31 t28 (PT.put x30 t27 (PT.put x28 t26 (PT.put x26 t25 (PT.put x24 t24 (PT.put x23 t23 (PT.put x22 t22 (PT.put x20 t8 (PT.put x19 t21 (PT.put x18 t20 (PT.put x17 t19 (PT.put x16 t18 (PT.put x15 t17 (PT.put x14 t7 (PT.put x13 t6 (PT.put x12 t5 (PT.put x11 t16 (PT.put x10 t15 (PT.put x9 t14 (PT.put x8 t13 (PT.put x7 t12 (PT.put x6 t11 (PT.put x5 t4 (PT.put x4 t10 (PT.put x3 t9 (PT.put x2 t3 (PT.put x1 t2 (PT.put a0 t0 PT.nil))))))))))))))))))))))))))))))))))) s) fun fs s =>
 opt2 (c12_j0 rec N fs s) fun e r => opt2 (thenX (c12_j1 rec N) e r) fun e r => finX [.tmp t2, .tmp t3] e r
set_option maxHeartbeats 4000000 in
theorem d12 (rec : Rec) (N : Nat) (a0 : Value) (s : St) : callF rec N c12 [a0] s = D12 rec N a0 s := by
  rw [call_f _ _ _ _ _ rfl]
  simp (maxSteps := 4000000) only [c12, lenN, x_seq, x_ops, x_skip, x_ret, x_exit, x_cond, x_block, x_loop, ops_c, ops_n, op1_u, op1_gj, rq_c, rq_n, opQ_u, opQ_g, op2_op2, op2_op, op2_s, op2_cond, thenX_n, thenX_e, thenX_r, blkX_n, blkX_r, blkX_e, finX_r, finX_n, res_n, res_t, op_s, Nat.beq_refl, cond_true]
  first | done | kernel_rfl
def J12_j1 (rec : Rec) (N : Nat) (k : Value × Value × Value × Value) (s : St) : Out := opt2 (oLoadN 2 (.v k.2.2.2) rec PT.nil s) fun x1 s =>
 opt2 (oBuild [(.int .i64 0), (.int .i64 0), (.int .i64 0), (.int .i64 0), (.int .u64 0)] [(0, 1, (.v k.1)), (1, 1, (.v k.2.1)), (2, 1, (.v k.2.2.1)), (3, 2, (.v x1))] rec PT.nil s) fun x2 s =>
 opt2 (oBox (.v x2) rec PT.nil s) fun x3 s =>
 some (oneOf [x3, (.int .i64 0)], s)
set_option maxHeartbeats 4000000 in
theorem j12_j1 (rec : Rec) (N : Nat) (fs : Frm) (s : St) : opt2 (c12_j1 rec N fs s) (fun e r => finX [.tmp t2, .tmp t3] e r) = J12_j1 rec N (orU (fs.get t5), orU (fs.get t6), orU (fs.get t7), orU (fs.get t8)) s := by
  rw [d12_j1]
  unfold D12_j1 J12_j1
  simp (maxSteps := 4000000) only [thenX_n, thenX_e, thenX_r, x_exit, x_skip, x_ret, blkX_n, blkX_r, blkX_e, finX_r, finX_n, res_n, res_t, op2_op2, op2_op, op2_s, op2_cond, op2_bf, mov_v]
  first | done | kernel_rfl
def J12_j0 (rec : Rec) (N : Nat) (k : Value × Value × Value × Value × Value) (s : St) : Out := condV k.2.2.2.2
 (some (oneOf [(.pointer none), (.int .i64 3)], s))
 (J12_j1 rec N (k.1, k.2.1, k.2.2.1, k.2.2.2.1) s)
set_option maxHeartbeats 4000000 in
theorem j12_j0 (rec : Rec) (N : Nat) (fs : Frm) (s : St) : opt2 (c12_j0 rec N fs s) (fun e r => opt2 (thenX (c12_j1 rec N) e r) fun e r => finX [.tmp t2, .tmp t3] e r) = J12_j0 rec N (orU (fs.get t5), orU (fs.get t6), orU (fs.get t7), orU (fs.get t8), orU (fs.get t63)) s := by
  rw [d12_j0]
  unfold D12_j0 J12_j0
  simp (maxSteps := 4000000) only [thenX_n, thenX_e, thenX_r, x_exit, x_skip, x_ret, blkX_n, blkX_r, blkX_e, finX_r, finX_n, res_n, res_t, op2_op2, op2_op, op2_s, op2_cond, op2_bf, mov_v, j12_j1 rec N]
  first | done | kernel_rfl
def Q12_q0 (rec : Rec) (N : Nat) (k : Value × Value × Value × Value × Value) (s : St) : Out := opt (gval false k.2.2.2.2) fun x1 => opt2 (orUndef x1 (some (k.2.2.1, s)) s) fun x2 s =>
 opt (gval false k.2.2.2.2) fun x3 => opt2 (orUndef x3 (oBin (int2 (cmpO gtI)) (.v x2) (.v (.int .i64 4503599627370496)) rec PT.nil s) s) fun x4 s =>
 opt2 (oPick (.v k.2.2.2.2) (.v (.bool true)) (.v x4) rec PT.nil s) fun x5 s =>
 opt (gval false x5) fun x6 => opt2 (orUndef x6 (oFieldAddr 0 (.v k.2.2.2.1) rec PT.nil s) s) fun x7 s =>
 opt (gval false x5) fun x8 => opt2 (orUndef x8 (oLoad1 (.v x7) rec PT.nil s) s) fun x9 s =>
 opt (gval false x5) fun x10 => opt2 (orUndef x10 (oBin (int2 (cmpO ltI)) (.v x9) (.v (.int .i64 0)) rec PT.nil s) s) fun x11 s =>
 opt2 (oPick (.v x5) (.v (.bool true)) (.v x11) rec PT.nil s) fun x12 s =>
 opt (gval false x12) fun x13 => opt2 (orUndef x13 (oLoadN 2 (.v k.2.2.2.1) rec PT.nil s) s) fun x14 s =>
 opt (gval false x12) fun x15 => opt2 (orUndef x15 (oBuild [(.int .i64 0), (.int .u64 0)] [(0, 1, (.v (.int .i64 68719476736)))] rec PT.nil s) s) fun x16 s =>
 opt (gval false x12) fun x17 => opt2 (orUndef x17 (rec 44 [x14, x16] s) s) fun x18 s =>
 opt (gval false x12) fun x19 => opt2 (orUndef x19 (oBin (int2 (cmpO gtI)) (.v x18) (.v (.int .i64 0)) rec PT.nil s) s) fun x20 s =>
 opt2 (oPick (.v x12) (.v (.bool true)) (.v x20) rec PT.nil s) fun x21 s =>
 J12_j0 rec N (k.1, k.2.1, k.2.2.1, k.2.2.2.1, x21) s
set_option maxHeartbeats 4000000 in
theorem j12_q0 (rec : Rec) (N : Nat) (fs : Frm) (s : St) : opt2 (runOps rec c12_q0 fs s) (fun fs s => opt2 (c12_j0 rec N fs s) fun e r => opt2 (thenX (c12_j1 rec N) e r) fun e r => finX [.tmp t2, .tmp t3] e r) = Q12_q0 rec N (orU (fs.get t5), orU (fs.get t6), orU (fs.get t7), orU (fs.get t8), orU (fs.get t49)) s := by
  rw [d12_q0]
  unfold D12_q0 Q12_q0
  simp (maxSteps := 4000000) only [thenX_n, thenX_e, thenX_r, x_exit, x_skip, x_ret, blkX_n, blkX_r, blkX_e, finX_r, finX_n, res_n, res_t, op2_op2, op2_op, op2_s, op2_cond, op2_bf, mov_v, j12_j0 rec N]
  first | done | kernel_rfl
def Q12_q1 (rec : Rec) (N : Nat) (k : Value × Value × Value × Value × Value × Value) (s : St) : Out := opt2 (oPick (.v k.2.2.2.2.1) (.v (.bool true)) (.v k.2.2.2.2.2) rec PT.nil s) fun x1 s =>
 opt (gval false x1) fun x2 => opt2 (orUndef x2 (some (k.2.1, s)) s) fun x3 s =>
 opt (gval false x1) fun x4 => opt2 (orUndef x4 (oBin (int2 (cmpO ltI)) (.v x3) (.v (.int .i64 0)) rec PT.nil s) s) fun x5 s =>
 opt2 (oPick (.v x1) (.v (.bool true)) (.v x5) rec PT.nil s) fun x6 s =>
 opt (gval false x6) fun x7 => opt2 (orUndef x7 (some (k.2.1, s)) s) fun x8 s =>
 opt (gval false x6) fun x9 => opt2 (orUndef x9 (oBin (int2 (cmpO gtI)) (.v x8) (.v (.int .i64 4503599627370496)) rec PT.nil s) s) fun x10 s =>
 opt2 (oPick (.v x6) (.v (.bool true)) (.v x10) rec PT.nil s) fun x11 s =>
 opt (gval false x11) fun x12 => opt2 (orUndef x12 (some (k.2.2.1, s)) s) fun x13 s =>
 opt (gval false x11) fun x14 => opt2 (orUndef x14 (oBin (int2 (cmpO ltI)) (.v x13) (.v (.int .i64 0)) rec PT.nil s) s) fun x15 s =>
 opt2 (oPick (.v x11) (.v (.bool true)) (.v x15) rec PT.nil s) fun x16 s =>
 Q12_q0 rec N (k.1, k.2.1, k.2.2.1, k.2.2.2.1, x16) s
set_option maxHeartbeats 4000000 in
theorem j12_q1 (rec : Rec) (N : Nat) (fs : Frm) (s : St) : opt2 (runOps rec c12_q1 fs s) (fun fs s => opt2 (c12_j0 rec N fs s) fun e r => opt2 (thenX (c12_j1 rec N) e r) fun e r => finX [.tmp t2, .tmp t3] e r) = Q12_q1 rec N (orU (fs.get t5), orU (fs.get t6), orU (fs.get t7), orU (fs.get t8), orU (fs.get t33), orU (fs.get t35)) s := by
  rw [d12_q1]
  unfold D12_q1 Q12_q1
  simp (maxSteps := 4000000) only [thenX_n, thenX_e, thenX_r, x_exit, x_skip, x_ret, blkX_n, blkX_r, blkX_e, finX_r, finX_n, res_n, res_t, op2_op2, op2_op, op2_s, op2_cond, op2_bf, mov_v, j12_q0 rec N]
  first | done | kernel_rfl
def F12 (rec : Rec) (N : Nat) (a0 : Value) (s : St) : Out := opt2 (rec 39 [a0] s) fun x1 s =>
 opt2 (rec 40 [x1] s) fun x2 s =>
 opt2 (rec 40 [x1] s) fun x3 s =>
 opt2 (rec 40 [x1] s) fun x4 s =>
 opt2 (rec 40 [x1] s) fun x5 s =>
 opt2 (rec 41 [x1] s) fun x6 s =>
 opt2 (oBuild [(.int .i64 0), (.int .u64 0)] [(0, 1, (.v x5)), (1, 1, (.v x6))] rec PT.nil s) fun x7 s =>
 opt2 (oNew [(.int .i64 0), (.int .u64 0)] rec PT.nil s) fun x8 s =>
 opt2 (oStore 2 (.v x8) (.v x7) rec PT.nil s) fun x9 s =>
 opt2 (rec 42 [x1] s) fun x10 s =>
 opt (gval false x10) fun x11 => opt2 (orUndef x11 (some (x1, s)) s) fun x12 s =>
 opt (gval false x10) fun x13 => opt2 (orUndef x13 (rec 43 [x12] s) s) fun x14 s =>
 opt (gval false x10) fun x15 => opt2 (orUndef x15 (oBin (int2 (cmpO gtI)) (.v x14) (.v (.int .i64 0)) rec PT.nil s) s) fun x16 s =>
 opt2 (oPick (.v x10) (.v (.bool true)) (.v x16) rec PT.nil s) fun x17 s =>
 opt (gval false x17) fun x18 => opt2 (orUndef x18 (some (x2, s)) s) fun x19 s =>
 opt (gval false x17) fun x20 => opt2 (orUndef x20 (oBin (int2 (cmpO ltI)) (.v x19) (.v (.int .i64 0)) rec PT.nil s) s) fun x21 s =>
 opt2 (oPick (.v x17) (.v (.bool true)) (.v x21) rec PT.nil s) fun x22 s =>
 opt (gval false x22) fun x23 => opt2 (orUndef x23 (some (x2, s)) s) fun x24 s =>
 opt (gval false x22) fun x25 => opt2 (orUndef x25 (oBin (int2 (cmpO gtI)) (.v x24) (.v (.int .i64 109572)) rec PT.nil s) s) fun x26 s =>
 Q12_q1 rec N (x2, x3, x4, x8, x22, x26) s
theorem f12 (rec : Rec) (N : Nat) (a0 : Value) (s : St) : callF rec N c12 [a0] s = F12 rec N a0 s := by
  rw [d12]
  unfold D12 F12
  simp (maxSteps := 4000000) only [mov_v, op2_s, j12_q1 rec N]
  first | done | kernel_rfl
-- c24
def D24 (rec : Rec) (N : Nat) (a0 : Value) (s : St) : Out := opt2 (oMov (.v (.slice none 0 0)) rec PT.nil s) fun x1 s =>
 opt2 (rU (oMov (.v a0) rec PT.nil ⟨s.heap, s.next, 0, 0⟩) PT.nil s none) fun x2 m2 =>
 (fun s => opt2 (rU (oNilCheck (.v x2) rec PT.nil ⟨s.heap, s.next, 0, 0⟩) PT.nil s none) fun x3 m3 =>
 (fun s => opt2 (rU (oFieldAddr 0 (.v x3) rec PT.nil ⟨s.heap, s.next, 0, 0⟩) PT.nil s none) fun x4 m4 =>
 (fun s => opt2 (rU (oLoad1 (.v x4) rec PT.nil ⟨s.heap, s.next, 0, 0⟩) PT.nil s (some (.v x4))) fun x5 m5 =>
 (fun s => opt2 (rU (rec 51 [(.slice none 0 0), x5] ⟨s.heap, s.next, 0, 0⟩) PT.nil s none) fun x6 m6 =>
 (fun s => opt2 (rU (oMov (.v a0) rec PT.nil ⟨s.heap, s.next, 0, 0⟩) PT.nil s none) fun x7 m7 =>
 (fun s => opt2 (rU (oNilCheck (.v x7) rec PT.nil ⟨s.heap, s.next, 0, 0⟩) PT.nil s none) fun x8 m8 =>
 (fun s => opt2 (rU (oFieldAddr 1 (.v x8) rec PT.nil ⟨s.heap, s.next, 0, 0⟩) PT.nil s none) fun x9 m9 =>
 (fun s => opt2 (rU (oLoad1 (.v x9) rec PT.nil ⟨s.heap, s.next, 0, 0⟩) PT.nil s (some (.v x9))) fun x10 m10 =>
 (fun s => opt2 (rU (rec 51 [x6, x10] ⟨s.heap, s.next, 0, 0⟩) PT.nil s none) fun x11 m11 =>
 (fun s => opt2 (rU (oMov (.v a0) rec PT.nil ⟨s.heap, s.next, 0, 0⟩) PT.nil s none) fun x12 m12 =>
 (fun s => opt2 (rU (oNilCheck (.v x12) rec PT.nil ⟨s.heap, s.next, 0, 0⟩) PT.nil s none) fun x13 m13 =>
 (fun s => opt2 (rU (oFieldAddr 2 (.v x13) rec PT.nil ⟨s.heap, s.next, 0, 0⟩) PT.nil s none) fun x14 m14 =>
 (fun s => opt2 (rU (oLoad1 (.v x14) rec PT.nil ⟨s.heap, s.next, 0, 0⟩) PT.nil s (some (.v x14))) fun x15 m15 =>
 (fun s => opt2 (rU (rec 51 [x11, x15] ⟨s.heap, s.next, 0, 0⟩) PT.nil s none) fun x16 m16 =>
 (fun s => opt2 (rU (oMov (.v x16) rec PT.nil ⟨s.heap, s.next, 0, 0⟩) PT.nil s none) fun x17 m17 =>
 (fun s => bif apartAll [m2.1, m3.1, m4.1, m5.1, m6.1, m7.1, m8.1, m9.1, m10.1, m11.1, m12.1, m13.1, m14.1, m15.1, m16.1, m17.1] [(0, 5), (1, 5), (2, 5), (3, 5), (4, 5), (0, 6), (1, 6), (2, 6), (3, 6), (4, 6), (0, 7), (1, 7), (2, 7), (3, 7), (4, 7), (0, 8), (1, 8), (2, 8), (3, 8), (4, 8), (0, 10), (1, 10), (2, 10), (3, 10), (4, 10), (5, 10), (6, 10), (7, 10), (8, 10), (9, 10), (0, 11), (1, 11), (2, 11), (3, 11), (4, 11), (5, 11), (6, 11), (7, 11), (8, 11), (9, 11), (0, 12), (1, 12), (2, 12), (3, 12), (4, 12), (5, 12), (6, 12), (7, 12), (8, 12), (9, 12), (0, 13), (1, 13), (2, 13), (3, 13), (4, 13), (5, 13), (6, 13), (7, 13), (8, 13), (9, 13)] then opt2 (rU (oMov (.v x17) rec PT.nil ⟨s.heap, s.next, 0, 0⟩) PT.nil s none) fun x18 m18 =>
 (fun s => opt2 (rU (oMov (.v a0) rec PT.nil ⟨s.heap, s.next, 0, 0⟩) PT.nil s none) fun x19 m19 =>
 (fun s => opt2 (rU (oNilCheck (.v x19) rec PT.nil ⟨s.heap, s.next, 0, 0⟩) PT.nil s none) fun x20 m20 =>
 (fun s => opt2 (rU (oFieldAddr 3 (.v x20) rec PT.nil ⟨s.heap, s.next, 0, 0⟩) PT.nil s none) fun x21 m21 =>
 (fun s => opt2 (rU (oFieldAddr 0 (.v x21) rec PT.nil ⟨s.heap, s.next, 0, 0⟩) PT.nil s none) fun x22 m22 =>
 (fun s => opt2 (rU (oLoad1 (.v x22) rec PT.nil ⟨s.heap, s.next, 0, 0⟩) PT.nil s (some (.v x22))) fun x23 m23 =>
 (fun s => opt2 (rU (rec 51 [x18, x23] ⟨s.heap, s.next, 0, 0⟩) PT.nil s none) fun x24 m24 =>
 (fun s => opt2 (rU (oMov (.v a0) rec PT.nil ⟨s.heap, s.next, 0, 0⟩) PT.nil s none) fun x25 m25 =>
 (fun s => opt2 (rU (oNilCheck (.v x25) rec PT.nil ⟨s.heap, s.next, 0, 0⟩) PT.nil s none) fun x26 m26 =>
 (fun s => opt2 (rU (oFieldAddr 3 (.v x26) rec PT.nil ⟨s.heap, s.next, 0, 0⟩) PT.nil s none) fun x27 m27 =>
 (fun s => opt2 (rU (oFieldAddr 1 (.v x27) rec PT.nil ⟨s.heap, s.next, 0, 0⟩) PT.nil s none) fun x28 m28 =>
 (fun s => opt2 (rU (oLoad1 (.v x28) rec PT.nil ⟨s.heap, s.next, 0, 0⟩) PT.nil s (some (.v x28))) fun x29 m29 =>
 (fun s => opt2 (rU (rec 52 [x24, x29] ⟨s.heap, s.next, 0, 0⟩) PT.nil s none) fun x30 m30 =>
 (fun s => opt2 (rU (oMov (.v x30) rec PT.nil ⟨s.heap, s.next, 0, 0⟩) PT.nil s none) fun x31 m31 =>
 (fun s => bif apartAll [m18.1, m19.1, m20.1, m21.1, m22.1, m23.1, m24.1, m25.1, m26.1, m27.1, m28.1, m29.1, m30.1, m31.1] [(0, 1), (0, 2), (0, 3), (0, 4), (0, 5), (0, 7), (1, 7), (2, 7), (3, 7), (4, 7), (5, 7), (6, 7), (0, 8), (1, 8), (2, 8), (3, 8), (4, 8), (5, 8), (6, 8), (0, 9), (1, 9), (2, 9), (3, 9), (4, 9), (5, 9), (6, 9), (0, 10), (1, 10), (2, 10), (3, 10), (4, 10), (5, 10), (6, 10), (0, 11), (1, 11), (2, 11), (3, 11), (4, 11), (5, 11), (6, 11)] then some (oneOf [x31], s) else none) m31.2) m30.2) m29.2) m28.2) m27.2) m26.2) m25.2) m24.2) m23.2) m22.2) m21.2) m20.2) m19.2) m18.2 else none) m17.2) m16.2) m15.2) m14.2) m13.2) m12.2) m11.2) m10.2) m9.2) m8.2) m7.2) m6.2) m5.2) m4.2) m3.2) m2.2
set_option maxHeartbeats 4000000 in
theorem d24 (rec : Rec) (N : Nat) (a0 : Value) (s : St) : callF rec N c24 [a0] s = D24 rec N a0 s := by
  rw [call_f _ _ _ _ _ rfl]
  simp (maxSteps := 4000000) only [c24, lenN, x_regc, reg_n, reg_c, reg1_u, reg1_g, op2_cons, op2_bif, x_seq, x_ops, x_skip, x_ret, x_exit, x_cond, x_block, x_loop, ops_c, ops_n, op1_u, op1_gj, rq_c, rq_n, opQ_u, opQ_g, op2_op2, op2_op, op2_s, op2_cond, thenX_n, thenX_e, thenX_r, blkX_n, blkX_r, blkX_e, finX_r, finX_n, res_n, res_t, op_s, Nat.beq_refl, cond_true]
  first | done | kernel_rfl
def F24 (rec : Rec) (N : Nat) (a0 : Value) (s : St) : Out := opt2 (oMov (.v (.slice none 0 0)) rec PT.nil s) fun x1 s =>
 opt2 (rU (oMov (.v a0) rec PT.nil ⟨s.heap, s.next, 0, 0⟩) PT.nil s none) fun x2 m2 =>
 (fun s => opt2 (rU (oNilCheck (.v x2) rec PT.nil ⟨s.heap, s.next, 0, 0⟩) PT.nil s none) fun x3 m3 =>
 (fun s => opt2 (rU (oFieldAddr 0 (.v x3) rec PT.nil ⟨s.heap, s.next, 0, 0⟩) PT.nil s none) fun x4 m4 =>
 (fun s => opt2 (rU (oLoad1 (.v x4) rec PT.nil ⟨s.heap, s.next, 0, 0⟩) PT.nil s (some (.v x4))) fun x5 m5 =>
 (fun s => opt2 (rU (rec 51 [(.slice none 0 0), x5] ⟨s.heap, s.next, 0, 0⟩) PT.nil s none) fun x6 m6 =>
 (fun s => opt2 (rU (oMov (.v a0) rec PT.nil ⟨s.heap, s.next, 0, 0⟩) PT.nil s none) fun x7 m7 =>
 (fun s => opt2 (rU (oNilCheck (.v x7) rec PT.nil ⟨s.heap, s.next, 0, 0⟩) PT.nil s none) fun x8 m8 =>
 (fun s => opt2 (rU (oFieldAddr 1 (.v x8) rec PT.nil ⟨s.heap, s.next, 0, 0⟩) PT.nil s none) fun x9 m9 =>
 (fun s => opt2 (rU (oLoad1 (.v x9) rec PT.nil ⟨s.heap, s.next, 0, 0⟩) PT.nil s (some (.v x9))) fun x10 m10 =>
 (fun s => opt2 (rU (rec 51 [x6, x10] ⟨s.heap, s.next, 0, 0⟩) PT.nil s none) fun x11 m11 =>
 (fun s => opt2 (rU (oMov (.v a0) rec PT.nil ⟨s.heap, s.next, 0, 0⟩) PT.nil s none) fun x12 m12 =>
 (fun s => opt2 (rU (oNilCheck (.v x12) rec PT.nil ⟨s.heap, s.next, 0, 0⟩) PT.nil s none) fun x13 m13 =>
 (fun s => opt2 (rU (oFieldAddr 2 (.v x13) rec PT.nil ⟨s.heap, s.next, 0, 0⟩) PT.nil s none) fun x14 m14 =>
 (fun s => opt2 (rU (oLoad1 (.v x14) rec PT.nil ⟨s.heap, s.next, 0, 0⟩) PT.nil s (some (.v x14))) fun x15 m15 =>
 (fun s => opt2 (rU (rec 51 [x11, x15] ⟨s.heap, s.next, 0, 0⟩) PT.nil s none) fun x16 m16 =>
 (fun s => opt2 (rU (oMov (.v x16) rec PT.nil ⟨s.heap, s.next, 0, 0⟩) PT.nil s none) fun x17 m17 =>
 (fun s => bif apartAll [m2.1, m3.1, m4.1, m5.1, m6.1, m7.1, m8.1, m9.1, m10.1, m11.1, m12.1, m13.1, m14.1, m15.1, m16.1, m17.1] [(0, 5), (1, 5), (2, 5), (3, 5), (4, 5), (0, 6), (1, 6), (2, 6), (3, 6), (4, 6), (0, 7), (1, 7), (2, 7), (3, 7), (4, 7), (0, 8), (1, 8), (2, 8), (3, 8), (4, 8), (0, 10), (1, 10), (2, 10), (3, 10), (4, 10), (5, 10), (6, 10), (7, 10), (8, 10), (9, 10), (0, 11), (1, 11), (2, 11), (3, 11), (4, 11), (5, 11), (6, 11), (7, 11), (8, 11), (9, 11), (0, 12), (1, 12), (2, 12), (3, 12), (4, 12), (5, 12), (6, 12), (7, 12), (8, 12), (9, 12), (0, 13), (1, 13), (2, 13), (3, 13), (4, 13), (5, 13), (6, 13), (7, 13), (8, 13), (9, 13)] then opt2 (rU (oMov (.v x17) rec PT.nil ⟨s.heap, s.next, 0, 0⟩) PT.nil s none) fun x18 m18 =>
 (fun s => opt2 (rU (oMov (.v a0) rec PT.nil ⟨s.heap, s.next, 0, 0⟩) PT.nil s none) fun x19 m19 =>
 (fun s => opt2 (rU (oNilCheck (.v x19) rec PT.nil ⟨s.heap, s.next, 0, 0⟩) PT.nil s none) fun x20 m20 =>
 (fun s => opt2 (rU (oFieldAddr 3 (.v x20) rec PT.nil ⟨s.heap, s.next, 0, 0⟩) PT.nil s none) fun x21 m21 =>
 (fun s => opt2 (rU (oFieldAddr 0 (.v x21) rec PT.nil ⟨s.heap, s.next, 0, 0⟩) PT.nil s none) fun x22 m22 =>
 (fun s => opt2 (rU (oLoad1 (.v x22) rec PT.nil ⟨s.heap, s.next, 0, 0⟩) PT.nil s (some (.v x22))) fun x23 m23 =>
 (fun s => opt2 (rU (rec 51 [x18, x23] ⟨s.heap, s.next, 0, 0⟩) PT.nil s none) fun x24 m24 =>
 (fun s => opt2 (rU (oMov (.v a0) rec PT.nil ⟨s.heap, s.next, 0, 0⟩) PT.nil s none) fun x25 m25 =>
 (fun s => opt2 (rU (oNilCheck (.v x25) rec PT.nil ⟨s.heap, s.next, 0, 0⟩) PT.nil s none) fun x26 m26 =>
 (fun s => opt2 (rU (oFieldAddr 3 (.v x26) rec PT.nil ⟨s.heap, s.next, 0, 0⟩) PT.nil s none) fun x27 m27 =>
 (fun s => opt2 (rU (oFieldAddr 1 (.v x27) rec PT.nil ⟨s.heap, s.next, 0, 0⟩) PT.nil s none) fun x28 m28 =>
 (fun s => opt2 (rU (oLoad1 (.v x28) rec PT.nil ⟨s.heap, s.next, 0, 0⟩) PT.nil s (some (.v x28))) fun x29 m29 =>
 (fun s => opt2 (rU (rec 52 [x24, x29] ⟨s.heap, s.next, 0, 0⟩) PT.nil s none) fun x30 m30 =>
 (fun s => opt2 (rU (oMov (.v x30) rec PT.nil ⟨s.heap, s.next, 0, 0⟩) PT.nil s none) fun x31 m31 =>
 (fun s => bif apartAll [m18.1, m19.1, m20.1, m21.1, m22.1, m23.1, m24.1, m25.1, m26.1, m27.1, m28.1, m29.1, m30.1, m31.1] [(0, 1), (0, 2), (0, 3), (0, 4), (0, 5), (0, 7), (1, 7), (2, 7), (3, 7), (4, 7), (5, 7), (6, 7), (0, 8), (1, 8), (2, 8), (3, 8), (4, 8), (5, 8), (6, 8), (0, 9), (1, 9), (2, 9), (3, 9), (4, 9), (5, 9), (6, 9), (0, 10), (1, 10), (2, 10), (3, 10), (4, 10), (5, 10), (6, 10), (0, 11), (1, 11), (2, 11), (3, 11), (4, 11), (5, 11), (6, 11)] then some (oneOf [x31], s) else none) m31.2) m30.2) m29.2) m28.2) m27.2) m26.2) m25.2) m24.2) m23.2) m22.2) m21.2) m20.2) m19.2) m18.2 else none) m17.2) m16.2) m15.2) m14.2) m13.2) m12.2) m11.2) m10.2) m9.2) m8.2) m7.2) m6.2) m5.2) m4.2) m3.2) m2.2
set_option maxHeartbeats 4000000 in
theorem f24 (rec : Rec) (N : Nat) (a0 : Value) (s : St) : callF rec N c24 [a0] s = F24 rec N a0 s := by
  rw [d24]
  unfold D24 F24
  first
    | done
    | rfl
    | (simp (maxSteps := 4000000) only [mov_v, op2_s]; first | done | kernel_rfl)
    | kernel_rfl
end
end Go.Proofs.Ytdnedangfnincaa.AbsAccR
