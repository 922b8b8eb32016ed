import Derived.Test.YtgbmkpbackdknaaDoorRows
import Derived.Test.YtgbmkpbackdknaaDoorAbsDueKT
import Derived.KernelRfl
namespace Go.Proofs.YtgbmkpbackdknaaDoor.AbsDueK
open Go Go.Abs Go.Proofs
set_option maxRecDepth 100000
set_option linter.unusedVariables false
noncomputable section
/-- publican/dues.numbered -/
def c32 : AFunc := ⟨10, [.tmp t4],
 (xSeq (xOps [⟨(some t4), oMov (.v (.string ⟨⟨[]⟩⟩)), none, none⟩])
 (xSeq (xOps [⟨(some t5), oMov (.t t0), none, none⟩,
   ⟨(some t6), oBin (str2 catO) (.t t5) (.v (.string ⟨⟨[32]⟩⟩)), none, none⟩,
   ⟨(some t7), oMov (.t t1), none, none⟩,
   ⟨(some t8), oCall 46 [(.t t7)], none, none⟩,
   ⟨(some t9), oBin (str2 catO) (.t t6) (.t t8), none, none⟩,
   ⟨(some t4), oMov (.t t9), none, none⟩])
 xRet))⟩
theorem ok32 : cFunc Tryd.prog gl ex Tryd.f32 = some c32 := by kernel_rfl
/-- (*publican/dues.Account).pays -/
def c33 : AFunc := ⟨108, [.tmp t6],
 (xSeq (xOps [⟨(some t6), oMov (.v (.int .i64 0)), none, none⟩])
 (xSeq (xOps [⟨(some t12), oMov (.t t0), none, none⟩,
   ⟨(some t13), oNilCheck (.t t12), none, none⟩,
   ⟨(some t14), oFieldAddr 1 (.t t13), none, none⟩,
   ⟨(some t15), oFieldAddr 1 (.t t14), none, none⟩,
   ⟨(some t16), oLoad1 (.t t15), none, (some (.t t15))⟩,
   ⟨(some t17), oCall 47 [(.t t16)], none, none⟩,
   ⟨(some t7), oMov (.t t17), none, none⟩])
 (xSeq (xOps [⟨(some t18), oMov (.t t7), none, none⟩,
   ⟨(some t19), oCall 48 [(.t t18), (.v (.func (.func 49) #[] #[]))], none, none⟩])
 (xSeq (xSeq (xOps [⟨(some t20), oMov (.t t7), none, none⟩,
   ⟨(some t21), oLenL (.t t20), none, none⟩,
   ⟨(some t22), oMov (.v (.int .i64 0)), none, none⟩])
 (xBlock 0 (xLoop (xSeq (xOps [⟨(some t23), oBin (int2 (cmpO ltI)) (.t t22) (.t t21), none, none⟩])
 (xSeq (xCond (.t t23)
 xSkip
 (xExit 0))
 (xSeq (xBlock 1 (xSeq (xOps [⟨(some t24), oIdxAddrL 1 (.t t20) (.t t22), none, none⟩,
   ⟨(some t25), oLoad1 (.t t24), none, (some (.t t24))⟩,
   ⟨(some t9), oMov (.t t25), none, none⟩])
 (xSeq (xReg [⟨(some t26), oMov (.t t0), none, none⟩,
   ⟨(some t27), oNilCheck (.t t26), none, none⟩,
   ⟨(some t28), oFieldAddr 1 (.t t27), none, none⟩,
   ⟨(some t29), oFieldAddr 2 (.t t28), none, none⟩,
   ⟨(some t30), oLoad1 (.t t29), none, (some (.t t29))⟩,
   ⟨(some t31), oMov (.t t9), none, none⟩,
   ⟨(some t32), oNilCheck (.t t31), none, none⟩,
   ⟨(some t33), oFieldAddr 0 (.t t32), none, none⟩,
   ⟨(some t34), oFieldAddr 5 (.t t33), none, none⟩,
   ⟨(some t35), oLoad1 (.t t34), none, (some (.t t34))⟩,
   ⟨(some t36), oMM false (.t t30) [(.t t35)], none, none⟩,
   ⟨(some t10), oMov (.t t36), none, none⟩] [(0, 5), (1, 5), (2, 5), (3, 5), (4, 5), (0, 6), (1, 6), (2, 6), (3, 6), (4, 6), (0, 7), (1, 7), (2, 7), (3, 7), (4, 7), (0, 8), (1, 8), (2, 8), (3, 8), (4, 8), (0, 9), (1, 9), (2, 9), (3, 9), (4, 9)])
 (xSeq (xOps [⟨(some t37), oMov (.t t9), none, none⟩,
   ⟨(some t38), oNilCheck (.t t37), none, none⟩,
   ⟨(some t39), oFieldAddr 0 (.t t38), none, none⟩,
   ⟨(some t40), oFieldAddr 5 (.t t39), none, none⟩,
   ⟨(some t41), oLoad1 (.t t40), none, (some (.t t40))⟩,
   ⟨(some t42), oMov (.t t10), none, none⟩,
   ⟨(some t43), oBin (int2 subO) (.t t41) (.t t42), none, none⟩,
   ⟨(some t44), oNilCheck (.t t37), none, none⟩,
   ⟨(some t45), oFieldAddr 0 (.t t44), none, none⟩,
   ⟨(some t46), oFieldAddr 5 (.t t45), none, none⟩,
   ⟨none, oStore 1 (.t t46) (.t t43), none, none⟩])
 (xSeq (xOps [⟨(some t47), oMov (.t t0), none, none⟩,
   ⟨(some t48), oNilCheck (.t t47), none, none⟩,
   ⟨(some t49), oFieldAddr 1 (.t t48), none, none⟩,
   ⟨(some t50), oFieldAddr 2 (.t t49), none, none⟩,
   ⟨(some t51), oLoad1 (.t t50), none, (some (.t t50))⟩,
   ⟨(some t52), oMov (.t t10), none, none⟩,
   ⟨(some t53), oBin (int2 subO) (.t t51) (.t t52), none, none⟩,
   ⟨(some t54), oNilCheck (.t t47), none, none⟩,
   ⟨(some t55), oFieldAddr 1 (.t t54), none, none⟩,
   ⟨(some t56), oFieldAddr 2 (.t t55), none, none⟩,
   ⟨none, oStore 1 (.t t56) (.t t53), none, none⟩])
 (xSeq (xReg [⟨(some t57), oMov (.t t0), none, none⟩,
   ⟨(some t58), oNilCheck (.t t57), none, none⟩,
   ⟨(some t59), oFieldAddr 1 (.t t58), none, none⟩,
   ⟨(some t60), oFieldAddr 2 (.t t59), none, none⟩,
   ⟨(some t61), oLoad1 (.t t60), none, (some (.t t60))⟩,
   ⟨(some t62), oMov (.t t9), none, none⟩,
   ⟨(some t63), oNilCheck (.t t62), none, none⟩,
   ⟨(some t64), oFieldAddr 0 (.t t63), none, none⟩,
   ⟨(some t65), oFieldAddr 4 (.t t64), none, none⟩,
   ⟨(some t66), oLoad1 (.t t65), none, (some (.t t65))⟩,
   ⟨(some t67), oMM false (.t t61) [(.t t66)], none, none⟩,
   ⟨(some t10), oMov (.t t67), none, none⟩] [(0, 5), (1, 5), (2, 5), (3, 5), (4, 5), (0, 6), (1, 6), (2, 6), (3, 6), (4, 6), (0, 7), (1, 7), (2, 7), (3, 7), (4, 7), (0, 8), (1, 8), (2, 8), (3, 8), (4, 8), (0, 9), (1, 9), (2, 9), (3, 9), (4, 9)])
 (xSeq (xSeq (xOps [⟨(some t68), oMov (.t t10), none, none⟩,
   ⟨(some t69), oBin (int2 (cmpO eqI)) (.t t68) (.v (.int .i64 0)), none, none⟩])
 (xCond (.t t69)
 (xExit 1)
 xSkip))
 (xSeq (xSeq (xReg [⟨(some t70), oMov (.t t9), none, none⟩,
   ⟨(some t71), oNilCheck (.t t70), none, none⟩,
   ⟨(some t72), oFieldAddr 6 (.t t71), none, none⟩,
   ⟨(some t73), oLoad1 (.t t72), none, (some (.t t72))⟩,
   ⟨(some t74), oMov (.t t1), none, none⟩,
   ⟨(some t75), oMov (.t t2), none, none⟩,
   ⟨(some t76), oMov (.t t9), none, none⟩,
   ⟨(some t77), oNilCheck (.t t76), none, none⟩,
   ⟨(some t78), oFieldAddr 6 (.t t77), none, none⟩,
   ⟨(some t79), oLoad1 (.t t78), none, (some (.t t78))⟩,
   ⟨(some t80), oCall 40 [(.t t79)], none, none⟩,
   ⟨(some t81), oMM true (.t t75) [(.t t80)], none, none⟩,
   ⟨(some t82), oMov (.t t10), none, none⟩,
   ⟨(some t83), oCall 39 [(.t t73), (.t t74), (.t t81), (.t t82)], none, none⟩,
   ⟨(some t11), oMov (.t t83), none, none⟩] [(0, 4), (1, 4), (2, 4), (3, 4), (0, 5), (1, 5), (2, 5), (3, 5), (4, 5), (0, 6), (1, 6), (2, 6), (3, 6), (4, 6), (5, 6), (0, 7), (1, 7), (2, 7), (3, 7), (4, 7), (5, 7), (0, 8), (1, 8), (2, 8), (3, 8), (4, 8), (5, 8), (0, 9), (1, 9), (2, 9), (3, 9), (4, 9), (5, 9), (0, 10), (1, 10), (2, 10), (3, 10), (4, 10), (5, 10), (0, 11), (1, 11), (2, 11), (3, 11), (4, 11), (0, 12), (1, 12), (2, 12), (3, 12), (4, 12), (5, 12), (6, 12), (7, 12), (8, 12), (9, 12), (10, 12), (11, 12)])
 (xSeq (xOps [⟨(some t84), oMov (.t t11), none, none⟩,
   ⟨(some t85), oBin (int2 (cmpO neI)) (.t t84) (.v (.int .i64 0)), none, none⟩])
 (xCond (.t t85)
 (xSeq (xOps [⟨(some t86), oMov (.t t11), none, none⟩,
   ⟨(some t6), oMov (.t t86), none, none⟩])
 xRet)
 xSkip)))
 (xSeq (xOps [⟨(some t87), oMov (.t t9), none, none⟩,
   ⟨(some t88), oNilCheck (.t t87), none, none⟩,
   ⟨(some t89), oFieldAddr 0 (.t t88), none, none⟩,
   ⟨(some t90), oFieldAddr 4 (.t t89), none, none⟩,
   ⟨(some t91), oLoad1 (.t t90), none, (some (.t t90))⟩,
   ⟨(some t92), oMov (.t t10), none, none⟩,
   ⟨(some t93), oBin (int2 subO) (.t t91) (.t t92), none, none⟩,
   ⟨(some t94), oNilCheck (.t t87), none, none⟩,
   ⟨(some t95), oFieldAddr 0 (.t t94), none, none⟩,
   ⟨(some t96), oFieldAddr 4 (.t t95), none, none⟩,
   ⟨none, oStore 1 (.t t96) (.t t93), none, none⟩])
 (xOps [⟨(some t97), oMov (.t t0), none, none⟩,
   ⟨(some t98), oNilCheck (.t t97), none, none⟩,
   ⟨(some t99), oFieldAddr 1 (.t t98), none, none⟩,
   ⟨(some t100), oFieldAddr 2 (.t t99), none, none⟩,
   ⟨(some t101), oLoad1 (.t t100), none, (some (.t t100))⟩,
   ⟨(some t102), oMov (.t t10), none, none⟩,
   ⟨(some t103), oBin (int2 subO) (.t t101) (.t t102), none, none⟩,
   ⟨(some t104), oNilCheck (.t t97), none, none⟩,
   ⟨(some t105), oFieldAddr 1 (.t t104), none, none⟩,
   ⟨(some t106), oFieldAddr 2 (.t t105), none, none⟩,
   ⟨none, oStore 1 (.t t106) (.t t103), none, none⟩]))))))))))
 (xOps [⟨(some t107), oBin (int2 addO) (.t t22) (.v (.int .i64 1)), none, none⟩,
   ⟨(some t22), oMov (.t t107), none, none⟩])))))))
 (xSeq (xOps [⟨(some t6), oMov (.v (.int .i64 0)), none, none⟩])
 xRet)))))⟩
theorem ok33 : cFunc Tryd.prog gl ex Tryd.f33 = some c33 := by kernel_rfl
/-- (*publican/dues.Account).Pay$1 -/
def c34 : AFunc := ⟨46, [.tmp t5],
 (xSeq (xOps [⟨(some t5), oMov (.v (.int .i64 0)), none, none⟩])
 (xSeq (xSeq (xOps [⟨(some t10), oMov (.t t0), none, none⟩,
   ⟨(some t11), oLoad1 (.t t1), none, (some (.t t1))⟩,
   ⟨(some t12), oLoad1 (.t t2), none, (some (.t t2))⟩,
   ⟨(some t13), oCall 35 [(.t t10), (.t t11), (.t t12)], none, none⟩,
   ⟨(some t9), oMov (.t t13), none, none⟩,
   ⟨(some t14), oExtract (.t t9) 0, none, none⟩,
   ⟨(some t15), oExtract (.t t9) 1, none, none⟩,
   ⟨(some t6), oMov (.t t14), none, none⟩,
   ⟨(some t7), oMov (.t t15), none, none⟩])
 (xSeq (xOps [⟨(some t16), oMov (.t t7), none, none⟩,
   ⟨(some t17), oBin (int2 (cmpO neI)) (.t t16) (.v (.int .i64 0)), none, none⟩])
 (xCond (.t t17)
 (xSeq (xOps [⟨(some t18), oMov (.t t7), none, none⟩,
   ⟨(some t5), oMov (.t t18), none, none⟩])
 xRet)
 xSkip)))
 (xSeq (xSeq (xReg [⟨(some t19), oMov (.t t0), none, none⟩,
   ⟨(some t20), oLoad1 (.t t2), none, (some (.t t2))⟩,
   ⟨(some t21), oMov (.t t0), none, none⟩,
   ⟨(some t22), oCall 30 [(.t t21)], none, none⟩,
   ⟨(some t23), oLoad1 (.t t3), none, (some (.t t3))⟩,
   ⟨(some t24), oCall 29 [(.t t19), (.t t20), (.v (.string ⟨⟨[99, 97, 115, 104]⟩⟩)), (.t t22), (.t t23), (.v (.string ⟨⟨[112, 97, 121, 109, 101, 110, 116]⟩⟩))], none, none⟩,
   ⟨(some t8), oMov (.t t24), none, none⟩] [(0, 1), (0, 2), (1, 2), (0, 3), (1, 3), (0, 4), (1, 4), (2, 4), (3, 4)])
 (xSeq (xOps [⟨(some t25), oMov (.t t8), none, none⟩,
   ⟨(some t26), oBin (int2 (cmpO neI)) (.t t25) (.v (.int .i64 0)), none, none⟩])
 (xCond (.t t26)
 (xSeq (xOps [⟨(some t27), oMov (.t t8), none, none⟩,
   ⟨(some t5), oMov (.t t27), none, none⟩])
 xRet)
 xSkip)))
 (xSeq (xReg [⟨(some t28), oMov (.t t0), none, none⟩,
   ⟨(some t29), oNilCheck (.t t28), none, none⟩,
   ⟨(some t30), oFieldAddr 1 (.t t29), none, none⟩,
   ⟨(some t31), oFieldAddr 2 (.t t30), none, none⟩,
   ⟨(some t32), oLoad1 (.t t31), none, (some (.t t31))⟩,
   ⟨(some t33), oLoad1 (.t t3), none, (some (.t t3))⟩,
   ⟨(some t34), oBin (int2 addO) (.t t32) (.t t33), none, none⟩,
   ⟨(some t35), oNilCheck (.t t28), none, none⟩,
   ⟨(some t36), oFieldAddr 1 (.t t35), none, none⟩,
   ⟨(some t37), oFieldAddr 2 (.t t36), none, none⟩,
   ⟨none, oStore 1 (.t t37) (.t t34), none, none⟩] [(0, 5), (1, 5), (2, 5), (3, 5), (4, 5)])
 (xSeq (xOps [⟨(some t38), oMov (.t t0), none, none⟩,
   ⟨(some t39), oLoad1 (.t t1), none, (some (.t t1))⟩,
   ⟨(some t40), oLoad1 (.t t2), none, (some (.t t2))⟩,
   ⟨(some t41), oCall 33 [(.t t38), (.t t39), (.t t40)], none, none⟩,
   ⟨(some t42), oMov (.t t0), none, none⟩,
   ⟨(some t43), oCall 36 [(.t t42)], none, none⟩,
   ⟨(some t44), oBuildSlice 2 [(.int .i64 0), (.int .i64 0)] [(0, 1, (.t t41)), (1, 1, (.t t43))], none, none⟩,
   ⟨(some t45), oCall 23 [(.t t44)], none, none⟩,
   ⟨(some t5), oMov (.t t45), none, none⟩])
 xRet)))))⟩
theorem ok34 : cFunc Tryd.prog gl ex Tryd.f34 = some c34 := by kernel_rfl
/-- (*publican/dues.Account).post -/
def c35 : AFunc := ⟨76, [.tmp t6, .tmp t7],
 (xSeq (xOps [⟨(some t6), oMov (.v (.int .i64 0)), none, none⟩,
   ⟨(some t7), oMov (.v (.int .i64 0)), none, none⟩])
 (xSeq (xOps [⟨(some t8), oMov (.v (.int .i64 0)), none, none⟩])
 (xSeq (xSeq (xOps [⟨(some t14), oMov (.t t0), none, none⟩,
   ⟨(some t15), oNilCheck (.t t14), none, none⟩,
   ⟨(some t16), oFieldAddr 1 (.t t15), none, none⟩,
   ⟨(some t17), oFieldAddr 1 (.t t16), none, none⟩,
   ⟨(some t18), oLoad1 (.t t17), none, (some (.t t17))⟩,
   ⟨(some t19), oLenL (.t t18), none, none⟩,
   ⟨(some t20), oMov (.v (.int .i64 0)), none, none⟩])
 (xBlock 0 (xLoop (xSeq (xOps [⟨(some t21), oBin (int2 (cmpO ltI)) (.t t20) (.t t19), none, none⟩])
 (xSeq (xCond (.t t21)
 xSkip
 (xExit 0))
 (xSeq (xBlock 1 (xSeq (xOps [⟨(some t22), oIdxAddrL 1 (.t t18) (.t t20), none, none⟩,
   ⟨(some t23), oLoad1 (.t t22), none, (some (.t t22))⟩,
   ⟨(some t10), oMov (.t t23), none, none⟩])
 (xSeq (xSeq (xOps [⟨(some t24), oMov (.t t2), none, none⟩,
   ⟨(some t25), oMov (.t t10), none, none⟩,
   ⟨(some t26), oNilCheck (.t t25), none, none⟩,
   ⟨(some t27), oFieldAddr 6 (.t t26), none, none⟩,
   ⟨(some t28), oLoad1 (.t t27), none, (some (.t t27))⟩,
   ⟨(some t29), oCall 40 [(.t t28)], none, none⟩,
   ⟨(some t30), oBin (int2 (cmpO ltI)) (.t t24) (.t t29), none, none⟩])
 (xCond (.t t30)
 (xExit 1)
 xSkip))
 (xSeq (xOps [⟨(some t32), oMov (.t t10), none, none⟩,
   ⟨(some t33), oNilCheck (.t t32), none, none⟩,
   ⟨(some t34), oFieldAddr 6 (.t t33), none, none⟩,
   ⟨(some t35), oLoad1 (.t t34), none, (some (.t t34))⟩,
   ⟨(some t36), oMov (.t t1), none, none⟩,
   ⟨(some t37), oMov (.t t2), none, none⟩,
   ⟨(some t38), oCall 51 [(.t t35), (.t t36), (.t t37)], none, none⟩,
   ⟨(some t31), oMov (.t t38), none, none⟩,
   ⟨(some t39), oExtract (.t t31) 0, none, none⟩,
   ⟨(some t40), oExtract (.t t31) 1, none, none⟩,
   ⟨(some t11), oMov (.t t39), none, none⟩,
   ⟨(some t12), oMov (.t t40), none, none⟩])
 (xSeq (xSeq (xOps [⟨(some t41), oMov (.t t12), none, none⟩,
   ⟨(some t42), oBin (int2 (cmpO neI)) (.t t41) (.v (.int .i64 0)), none, none⟩])
 (xCond (.t t42)
 (xSeq (xOps [⟨(some t43), oMov (.t t12), none, none⟩,
   ⟨(some t6), oMov (.v (.int .i64 0)), none, none⟩,
   ⟨(some t7), oMov (.t t43), none, none⟩])
 xRet)
 xSkip))
 (xSeq (xOps [⟨(some t44), oMov (.t t10), none, none⟩,
   ⟨(some t45), oNilCheck (.t t44), none, none⟩,
   ⟨(some t46), oFieldAddr 0 (.t t45), none, none⟩,
   ⟨(some t47), oFieldAddr 5 (.t t46), none, none⟩,
   ⟨(some t48), oLoad1 (.t t47), none, (some (.t t47))⟩,
   ⟨(some t49), oMov (.t t11), none, none⟩,
   ⟨(some t50), oBin (int2 addO) (.t t48) (.t t49), none, none⟩,
   ⟨(some t51), oNilCheck (.t t44), none, none⟩,
   ⟨(some t52), oFieldAddr 0 (.t t51), none, none⟩,
   ⟨(some t53), oFieldAddr 5 (.t t52), none, none⟩,
   ⟨none, oStore 1 (.t t53) (.t t50), none, none⟩])
 (xSeq (xOps [⟨(some t54), oMov (.t t8), none, none⟩,
   ⟨(some t55), oMov (.t t11), none, none⟩,
   ⟨(some t56), oBin (int2 addO) (.t t54) (.t t55), none, none⟩,
   ⟨(some t8), oMov (.t t56), none, none⟩])
 (xSeq (xSeq (xOps [⟨(some t57), oMov (.t t11), none, none⟩,
   ⟨(some t58), oBin (int2 (cmpO eqI)) (.t t57) (.v (.int .i64 0)), none, none⟩])
 (xCond (.t t58)
 (xExit 1)
 xSkip))
 (xSeq (xReg [⟨(some t59), oMov (.t t0), none, none⟩,
   ⟨(some t60), oMov (.t t2), none, none⟩,
   ⟨(some t61), oMov (.t t0), none, none⟩,
   ⟨(some t62), oCall 30 [(.t t61)], none, none⟩,
   ⟨(some t63), oMov (.t t11), none, none⟩,
   ⟨(some t64), oMov (.t t10), none, none⟩,
   ⟨(some t65), oNilCheck (.t t64), none, none⟩,
   ⟨(some t66), oFieldAddr 0 (.t t65), none, none⟩,
   ⟨(some t67), oFieldAddr 0 (.t t66), none, none⟩,
   ⟨(some t68), oLoad1 (.t t67), none, (some (.t t67))⟩,
   ⟨(some t69), oCall 32 [(.v (.string ⟨⟨[105, 110, 116, 101, 114, 101, 115, 116]⟩⟩)), (.t t68)], none, none⟩,
   ⟨(some t70), oCall 29 [(.t t59), (.t t60), (.t t62), (.v (.string ⟨⟨[105, 110, 116, 101, 114, 101, 115, 116]⟩⟩)), (.t t63), (.t t69)], none, none⟩,
   ⟨(some t13), oMov (.t t70), none, none⟩] [(0, 1), (0, 2), (1, 2), (0, 3), (1, 3), (0, 4), (1, 4), (2, 4), (3, 4), (0, 5), (1, 5), (2, 5), (3, 5), (4, 5), (0, 6), (1, 6), (2, 6), (3, 6), (4, 6), (0, 7), (1, 7), (2, 7), (3, 7), (4, 7), (0, 8), (1, 8), (2, 8), (3, 8), (4, 8), (0, 9), (1, 9), (2, 9), (3, 9), (4, 9), (0, 10), (1, 10), (4, 10)])
 (xSeq (xOps [⟨(some t71), oMov (.t t13), none, none⟩,
   ⟨(some t72), oBin (int2 (cmpO neI)) (.t t71) (.v (.int .i64 0)), none, none⟩])
 (xCond (.t t72)
 (xSeq (xOps [⟨(some t73), oMov (.t t13), none, none⟩,
   ⟨(some t6), oMov (.v (.int .i64 0)), none, none⟩,
   ⟨(some t7), oMov (.t t73), none, none⟩])
 xRet)
 xSkip)))))))))))
 (xOps [⟨(some t74), oBin (int2 addO) (.t t20) (.v (.int .i64 1)), none, none⟩,
   ⟨(some t20), oMov (.t t74), none, none⟩])))))))
 (xSeq (xOps [⟨(some t75), oMov (.t t8), none, none⟩,
   ⟨(some t6), oMov (.t t75), none, none⟩,
   ⟨(some t7), oMov (.v (.int .i64 0)), none, none⟩])
 xRet))))⟩
theorem ok35 : cFunc Tryd.prog gl ex Tryd.f35 = some c35 := by kernel_rfl
/-- (*publican/dues.Account).fits -/
def c36 : AFunc := ⟨9, [.tmp t2],
 (xSeq (xOps [⟨(some t2), oMov (.v (.int .i64 0)), none, none⟩])
 (xSeq (xSeq (xOps [⟨(some t3), oMov (.t t0), none, none⟩,
   ⟨(some t4), oNilCheck (.t t3), none, none⟩,
   ⟨(some t5), oFieldAddr 1 (.t t4), none, none⟩,
   ⟨(some t6), oFieldAddr 2 (.t t5), none, none⟩,
   ⟨(some t7), oLoad1 (.t t6), none, (some (.t t6))⟩,
   ⟨(some t8), oBin (int2 (cmpO gtI)) (.t t7) (.v (.int .i64 4503599627370496)), none, none⟩])
 (xCond (.t t8)
 (xSeq (xOps [⟨(some t2), oMov (.v (.int .i64 10)), none, none⟩])
 xRet)
 xSkip))
 (xSeq (xOps [⟨(some t2), oMov (.v (.int .i64 0)), none, none⟩])
 xRet)))⟩
theorem ok36 : cFunc Tryd.prog gl ex Tryd.f36 = some c36 := by kernel_rfl
/-- (*publican/dues.Account).give -/
def c37 : AFunc := ⟨33, [.tmp t10],
 (xSeq (xOps [⟨(some t6), oBox (.t t1), none, none⟩,
   ⟨(some t7), oBox (.t t2), none, none⟩,
   ⟨(some t8), oBox (.t t3), none, none⟩,
   ⟨(some t9), oBox (.t t4), none, none⟩,
   ⟨(some t10), oMov (.v (.int .i64 0)), none, none⟩])
 (xSeq (xSeq (xReg [⟨(some t12), oLoad1 (.t t7), none, (some (.t t7))⟩,
   ⟨(some t13), oCall 24 [(.t t12)], none, none⟩,
   ⟨(some t14), oMov (.t t0), none, none⟩,
   ⟨(some t15), oLoad1 (.t t6), none, (some (.t t6))⟩,
   ⟨(some t16), oCall 25 [(.t t14), (.t t15)], none, none⟩,
   ⟨(some t17), oBuildSlice 2 [(.int .i64 0), (.int .i64 0)] [(0, 1, (.t t13)), (1, 1, (.t t16))], none, none⟩,
   ⟨(some t18), oCall 23 [(.t t17)], none, none⟩,
   ⟨(some t11), oMov (.t t18), none, none⟩] [(0, 2), (1, 2), (0, 3), (1, 3), (2, 3)])
 (xSeq (xOps [⟨(some t19), oMov (.t t11), none, none⟩,
   ⟨(some t20), oBin (int2 (cmpO neI)) (.t t19) (.v (.int .i64 0)), none, none⟩])
 (xCond (.t t20)
 (xSeq (xOps [⟨(some t21), oMov (.t t11), none, none⟩,
   ⟨(some t10), oMov (.t t21), none, none⟩])
 xRet)
 xSkip)))
 (xSeq (xSeq (xReg [⟨(some t22), oLoad1 (.t t7), none, (some (.t t7))⟩,
   ⟨(some t23), oMov (.t t0), none, none⟩,
   ⟨(some t24), oNilCheck (.t t23), none, none⟩,
   ⟨(some t25), oFieldAddr 1 (.t t24), none, none⟩,
   ⟨(some t26), oFieldAddr 2 (.t t25), none, none⟩,
   ⟨(some t27), oLoad1 (.t t26), none, (some (.t t26))⟩,
   ⟨(some t28), oBin (int2 (cmpO gtI)) (.t t22) (.t t27), none, none⟩] [(0, 1), (0, 2), (0, 3), (0, 4), (0, 5)])
 (xCond (.t t28)
 (xSeq (xOps [⟨(some t10), oMov (.v (.int .i64 15)), none, none⟩])
 xRet)
 xSkip))
 (xSeq (xOps [⟨(some t29), oMov (.t t0), none, none⟩,
   ⟨(some t30), oLoad1 (.t t6), none, (some (.t t6))⟩,
   ⟨(some t31), oFunc (.func 52) [] [(.t t7), (.t t6), (.t t8), (.t t9)], none, none⟩,
   ⟨(some t32), oCall 26 [(.t t29), (.t t30), (.t t31)], none, none⟩,
   ⟨(some t10), oMov (.t t32), none, none⟩])
 xRet))))⟩
theorem ok37 : cFunc Tryd.prog gl ex Tryd.f37 = some c37 := by kernel_rfl
/-- (*publican/dues.Account).Less$1 -/
def c38 : AFunc := ⟨112, [.tmp t6],
 (xSeq (xOps [⟨(some t6), oMov (.v (.int .i64 0)), none, none⟩])
 (xSeq (xSeq (xOps [⟨(some t14), oMov (.t t0), none, none⟩,
   ⟨(some t15), oLoad1 (.t t1), none, (some (.t t1))⟩,
   ⟨(some t16), oLoad1 (.t t2), none, (some (.t t2))⟩,
   ⟨(some t17), oCall 35 [(.t t14), (.t t15), (.t t16)], none, none⟩,
   ⟨(some t13), oMov (.t t17), none, none⟩,
   ⟨(some t18), oExtract (.t t13) 0, none, none⟩,
   ⟨(some t19), oExtract (.t t13) 1, none, none⟩,
   ⟨(some t7), oMov (.t t18), none, none⟩,
   ⟨(some t8), oMov (.t t19), none, none⟩])
 (xSeq (xOps [⟨(some t20), oMov (.t t8), none, none⟩,
   ⟨(some t21), oBin (int2 (cmpO neI)) (.t t20) (.v (.int .i64 0)), none, none⟩])
 (xCond (.t t21)
 (xSeq (xOps [⟨(some t22), oMov (.t t8), none, none⟩,
   ⟨(some t6), oMov (.t t22), none, none⟩])
 xRet)
 xSkip)))
 (xSeq (xReg [⟨(some t23), oMov (.t t0), none, none⟩,
   ⟨(some t24), oNilCheck (.t t23), none, none⟩,
   ⟨(some t25), oFieldAddr 1 (.t t24), none, none⟩,
   ⟨(some t26), oFieldAddr 1 (.t t25), none, none⟩,
   ⟨(some t27), oLoad1 (.t t26), none, (some (.t t26))⟩,
   ⟨(some t28), oLoad1 (.t t3), none, (some (.t t3))⟩,
   ⟨(some t29), oBin (int2 subO) (.t t28) (.v (.int .i64 1)), none, none⟩,
   ⟨(some t30), oIdxAddrL 1 (.t t27) (.t t29), none, none⟩,
   ⟨(some t31), oLoad1 (.t t30), none, (some (.t t30))⟩,
   ⟨(some t9), oMov (.t t31), none, none⟩] [(0, 5), (1, 5), (2, 5), (3, 5), (4, 5), (0, 6), (1, 6), (2, 6), (3, 6), (4, 6)])
 (xSeq (xSeq (xReg [⟨(some t32), oMov (.t t0), none, none⟩,
   ⟨(some t33), oLoad1 (.t t2), none, (some (.t t2))⟩,
   ⟨(some t34), oMov (.t t9), none, none⟩,
   ⟨(some t35), oNilCheck (.t t34), none, none⟩,
   ⟨(some t36), oFieldAddr 0 (.t t35), none, none⟩,
   ⟨(some t37), oLoadN 6 (.t t36), none, none⟩,
   ⟨(some t38), oCall 31 [(.t t37)], none, none⟩,
   ⟨(some t39), oMov (.t t0), none, none⟩,
   ⟨(some t40), oCall 30 [(.t t39)], none, none⟩,
   ⟨(some t41), oLoad1 (.t t4), none, (some (.t t4))⟩,
   ⟨(some t42), oLoad1 (.t t3), none, (some (.t t3))⟩,
   ⟨(some t43), oCall 32 [(.v (.string ⟨⟨[108, 101, 115, 115]⟩⟩)), (.t t42)], none, none⟩,
   ⟨(some t44), oCall 29 [(.t t32), (.t t33), (.t t38), (.t t40), (.t t41), (.t t43)], none, none⟩,
   ⟨(some t10), oMov (.t t44), none, none⟩] [(0, 1), (0, 2), (1, 2), (0, 3), (1, 3), (0, 4), (1, 4), (0, 5), (1, 5), (0, 6), (1, 6), (0, 7), (1, 7), (2, 7), (3, 7), (4, 7), (5, 7), (6, 7), (0, 8), (1, 8), (0, 9), (1, 9), (2, 9), (3, 9), (4, 9), (5, 9), (6, 9), (7, 9), (8, 9), (0, 10), (1, 10), (2, 10), (3, 10), (4, 10), (5, 10), (6, 10), (7, 10), (8, 10), (9, 10), (0, 11), (1, 11), (9, 11)])
 (xSeq (xOps [⟨(some t45), oMov (.t t10), none, none⟩,
   ⟨(some t46), oBin (int2 (cmpO neI)) (.t t45) (.v (.int .i64 0)), none, none⟩])
 (xCond (.t t46)
 (xSeq (xOps [⟨(some t47), oMov (.t t10), none, none⟩,
   ⟨(some t6), oMov (.t t47), none, none⟩])
 xRet)
 xSkip)))
 (xSeq (xReg [⟨(some t48), oMov (.t t9), none, none⟩,
   ⟨(some t49), oNilCheck (.t t48), none, none⟩,
   ⟨(some t50), oFieldAddr 0 (.t t49), none, none⟩,
   ⟨(some t51), oFieldAddr 3 (.t t50), none, none⟩,
   ⟨(some t52), oLoad1 (.t t51), none, (some (.t t51))⟩,
   ⟨(some t53), oLoad1 (.t t4), none, (some (.t t4))⟩,
   ⟨(some t54), oBin (int2 subO) (.t t52) (.t t53), none, none⟩,
   ⟨(some t55), oNilCheck (.t t48), none, none⟩,
   ⟨(some t56), oFieldAddr 0 (.t t55), none, none⟩,
   ⟨(some t57), oFieldAddr 3 (.t t56), none, none⟩,
   ⟨none, oStore 1 (.t t57) (.t t54), none, none⟩] [(0, 5), (1, 5), (2, 5), (3, 5), (4, 5)])
 (xSeq (xReg [⟨(some t58), oLoad1 (.t t4), none, (some (.t t4))⟩,
   ⟨(some t59), oMov (.t t9), none, none⟩,
   ⟨(some t60), oNilCheck (.t t59), none, none⟩,
   ⟨(some t61), oFieldAddr 0 (.t t60), none, none⟩,
   ⟨(some t62), oFieldAddr 4 (.t t61), none, none⟩,
   ⟨(some t63), oLoad1 (.t t62), none, (some (.t t62))⟩,
   ⟨(some t64), oMM false (.t t58) [(.t t63)], none, none⟩,
   ⟨(some t11), oMov (.t t64), none, none⟩] [(0, 1), (0, 2), (0, 3), (0, 4), (0, 5)])
 (xSeq (xSeq (xReg [⟨(some t65), oMov (.t t9), none, none⟩,
   ⟨(some t66), oNilCheck (.t t65), none, none⟩,
   ⟨(some t67), oFieldAddr 6 (.t t66), none, none⟩,
   ⟨(some t68), oLoad1 (.t t67), none, (some (.t t67))⟩,
   ⟨(some t69), oLoad1 (.t t1), none, (some (.t t1))⟩,
   ⟨(some t70), oLoad1 (.t t2), none, (some (.t t2))⟩,
   ⟨(some t71), oMov (.t t9), none, none⟩,
   ⟨(some t72), oNilCheck (.t t71), none, none⟩,
   ⟨(some t73), oFieldAddr 6 (.t t72), none, none⟩,
   ⟨(some t74), oLoad1 (.t t73), none, (some (.t t73))⟩,
   ⟨(some t75), oCall 40 [(.t t74)], none, none⟩,
   ⟨(some t76), oMM true (.t t70) [(.t t75)], none, none⟩,
   ⟨(some t77), oMov (.t t11), none, none⟩,
   ⟨(some t78), oCall 39 [(.t t68), (.t t69), (.t t76), (.t t77)], none, none⟩,
   ⟨(some t12), oMov (.t t78), none, none⟩] [(0, 4), (1, 4), (2, 4), (3, 4), (0, 5), (1, 5), (2, 5), (3, 5), (4, 5), (0, 6), (1, 6), (2, 6), (3, 6), (4, 6), (5, 6), (0, 7), (1, 7), (2, 7), (3, 7), (4, 7), (5, 7), (0, 8), (1, 8), (2, 8), (3, 8), (4, 8), (5, 8), (0, 9), (1, 9), (2, 9), (3, 9), (4, 9), (5, 9), (0, 10), (1, 10), (2, 10), (3, 10), (4, 10), (5, 10), (0, 11), (1, 11), (2, 11), (3, 11), (4, 11), (0, 12), (1, 12), (2, 12), (3, 12), (4, 12), (5, 12), (6, 12), (7, 12), (8, 12), (9, 12), (10, 12), (11, 12)])
 (xSeq (xOps [⟨(some t79), oMov (.t t12), none, none⟩,
   ⟨(some t80), oBin (int2 (cmpO neI)) (.t t79) (.v (.int .i64 0)), none, none⟩])
 (xCond (.t t80)
 (xSeq (xOps [⟨(some t81), oMov (.t t12), none, none⟩,
   ⟨(some t6), oMov (.t t81), none, none⟩])
 xRet)
 xSkip)))
 (xSeq (xOps [⟨(some t82), oMov (.t t9), none, none⟩,
   ⟨(some t83), oNilCheck (.t t82), none, none⟩,
   ⟨(some t84), oFieldAddr 0 (.t t83), none, none⟩,
   ⟨(some t85), oFieldAddr 4 (.t t84), none, none⟩,
   ⟨(some t86), oLoad1 (.t t85), none, (some (.t t85))⟩,
   ⟨(some t87), oMov (.t t11), none, none⟩,
   ⟨(some t88), oBin (int2 subO) (.t t86) (.t t87), none, none⟩,
   ⟨(some t89), oNilCheck (.t t82), none, none⟩,
   ⟨(some t90), oFieldAddr 0 (.t t89), none, none⟩,
   ⟨(some t91), oFieldAddr 4 (.t t90), none, none⟩,
   ⟨none, oStore 1 (.t t91) (.t t88), none, none⟩])
 (xSeq (xReg [⟨(some t92), oMov (.t t0), none, none⟩,
   ⟨(some t93), oNilCheck (.t t92), none, none⟩,
   ⟨(some t94), oFieldAddr 1 (.t t93), none, none⟩,
   ⟨(some t95), oFieldAddr 2 (.t t94), none, none⟩,
   ⟨(some t96), oLoad1 (.t t95), none, (some (.t t95))⟩,
   ⟨(some t97), oLoad1 (.t t4), none, (some (.t t4))⟩,
   ⟨(some t98), oMov (.t t11), none, none⟩,
   ⟨(some t99), oBin (int2 subO) (.t t97) (.t t98), none, none⟩,
   ⟨(some t100), oBin (int2 addO) (.t t96) (.t t99), none, none⟩,
   ⟨(some t101), oNilCheck (.t t92), none, none⟩,
   ⟨(some t102), oFieldAddr 1 (.t t101), none, none⟩,
   ⟨(some t103), oFieldAddr 2 (.t t102), none, none⟩,
   ⟨none, oStore 1 (.t t103) (.t t100), none, none⟩] [(0, 5), (1, 5), (2, 5), (3, 5), (4, 5), (0, 6), (1, 6), (2, 6), (3, 6), (4, 6), (5, 6), (0, 7), (1, 7), (2, 7), (3, 7), (4, 7)])
 (xSeq (xReg [⟨(some t104), oMov (.t t0), none, none⟩,
   ⟨(some t105), oCall 36 [(.t t104)], none, none⟩,
   ⟨(some t106), oMov (.t t0), none, none⟩,
   ⟨(some t107), oLoad1 (.t t1), none, (some (.t t1))⟩,
   ⟨(some t108), oLoad1 (.t t2), none, (some (.t t2))⟩,
   ⟨(some t109), oCall 33 [(.t t106), (.t t107), (.t t108)], none, none⟩,
   ⟨(some t110), oBuildSlice 2 [(.int .i64 0), (.int .i64 0)] [(0, 1, (.t t105)), (1, 1, (.t t109))], none, none⟩,
   ⟨(some t111), oCall 23 [(.t t110)], none, none⟩,
   ⟨(some t6), oMov (.t t111), none, none⟩] [(0, 2), (1, 2), (0, 3), (1, 3), (2, 3), (0, 4), (1, 4), (2, 4), (3, 4)])
 xRet))))))))))⟩
theorem ok38 : cFunc Tryd.prog gl ex Tryd.f38 = some c38 := by kernel_rfl
/-- (*publican/accrue.Acc).Pay -/
def c39 : AFunc := ⟨45, [.tmp t8],
 (xSeq (xOps [⟨(some t8), oMov (.v (.int .i64 0)), none, none⟩])
 (xSeq (xSeq (xOps [⟨(some t10), oMov (.t t0), none, none⟩,
   ⟨(some t11), oMov (.t t2), none, none⟩,
   ⟨(some t12), oCall 53 [(.t t10), (.t t11)], none, none⟩,
   ⟨(some t9), oMov (.t t12), none, none⟩])
 (xSeq (xOps [⟨(some t13), oMov (.t t9), none, none⟩,
   ⟨(some t14), oBin (int2 (cmpO neI)) (.t t13) (.v (.int .i64 0)), none, none⟩])
 (xCond (.t t14)
 (xSeq (xOps [⟨(some t15), oMov (.t t9), none, none⟩,
   ⟨(some t8), oMov (.t t15), none, none⟩])
 xRet)
 xSkip)))
 (xSeq (xSeq (xOps [⟨(some t16), oMov (.t t3), none, none⟩,
   ⟨(some t17), oBin (int2 (cmpO ltI)) (.t t16) (.v (.int .i64 0)), none, none⟩,
   ⟨(some t18), oMov (.t t17), none, none⟩,
   ⟨(some t19), oMov (.t t3), (some (t18, false)), none⟩,
   ⟨(some t20), oMov (.t t0), (some (t18, false)), none⟩,
   ⟨(some t21), oNilCheck (.t t20), (some (t18, false)), none⟩,
   ⟨(some t22), oFieldAddr 1 (.t t21), (some (t18, false)), none⟩,
   ⟨(some t23), oLoad1 (.t t22), (some (t18, false)), (some (.t t22))⟩,
   ⟨(some t24), oBin (int2 (cmpO gtI)) (.t t19) (.t t23), (some (t18, false)), none⟩,
   ⟨(some t25), oPick (.t t18) (.v (.bool true)) (.t t24), none, none⟩])
 (xCond (.t t25)
 (xSeq (xOps [⟨(some t8), oMov (.v (.int .i64 1)), none, none⟩])
 xRet)
 xSkip))
 (xSeq (xOps [⟨(some t26), oMov (.t t0), none, none⟩,
   ⟨(some t27), oMov (.t t0), none, none⟩,
   ⟨(some t28), oMov (.t t0), none, none⟩,
   ⟨(some t29), oMov (.t t1), none, none⟩,
   ⟨(some t30), oMov (.t t2), none, none⟩,
   ⟨(some t31), oCall 54 [(.t t28), (.t t29), (.t t30)], none, none⟩,
   ⟨(some t32), oMov (.t t2), none, none⟩,
   ⟨(some t33), oNilCheck (.t t26), none, none⟩,
   ⟨(some t34), oFieldAddr 3 (.t t33), none, none⟩,
   ⟨none, oStore 2 (.t t34) (.t t31), none, none⟩,
   ⟨(some t35), oNilCheck (.t t27), none, none⟩,
   ⟨(some t36), oFieldAddr 0 (.t t35), none, none⟩,
   ⟨none, oStore 1 (.t t36) (.t t32), none, none⟩])
 (xSeq (xOps [⟨(some t37), oMov (.t t0), none, none⟩,
   ⟨(some t38), oNilCheck (.t t37), none, none⟩,
   ⟨(some t39), oFieldAddr 1 (.t t38), none, none⟩,
   ⟨(some t40), oLoad1 (.t t39), none, (some (.t t39))⟩,
   ⟨(some t41), oMov (.t t3), none, none⟩,
   ⟨(some t42), oBin (int2 subO) (.t t40) (.t t41), none, none⟩,
   ⟨(some t43), oNilCheck (.t t37), none, none⟩,
   ⟨(some t44), oFieldAddr 1 (.t t43), none, none⟩,
   ⟨none, oStore 1 (.t t44) (.t t42), none, none⟩])
 (xSeq (xOps [⟨(some t8), oMov (.v (.int .i64 0)), none, none⟩])
 xRet))))))⟩
theorem ok39 : cFunc Tryd.prog gl ex Tryd.f39 = some c39 := by kernel_rfl
/-- (*publican/accrue.Acc).Day -/
def c40 : AFunc := ⟨7, [.tmp t2],
 (xSeq (xOps [⟨(some t2), oMov (.v (.int .i64 0)), none, none⟩])
 (xSeq (xOps [⟨(some t3), oMov (.t t0), none, none⟩,
   ⟨(some t4), oNilCheck (.t t3), none, none⟩,
   ⟨(some t5), oFieldAddr 0 (.t t4), none, none⟩,
   ⟨(some t6), oLoad1 (.t t5), none, (some (.t t5))⟩,
   ⟨(some t2), oMov (.t t6), none, none⟩])
 xRet))⟩
theorem ok40 : cFunc Tryd.prog gl ex Tryd.f40 = some c40 := by kernel_rfl
/-- (*publican/books.Books).Copy -/
def c41 : AFunc := ⟨15, [.tmp t2],
 (xSeq (xOps [⟨(some t2), oMov (.v (.pointer none)), none, none⟩])
 (xSeq (xReg [⟨(some t3), oMov (.t t0), none, none⟩,
   ⟨(some t4), oNilCheck (.t t3), none, none⟩,
   ⟨(some t5), oFieldAddr 0 (.t t4), none, none⟩,
   ⟨(some t6), oLoad1 (.t t5), none, (some (.t t5))⟩,
   ⟨(some t7), oCall 55 [(.t t6)], none, none⟩,
   ⟨(some t8), oMov (.t t0), none, none⟩,
   ⟨(some t9), oNilCheck (.t t8), none, none⟩,
   ⟨(some t10), oFieldAddr 1 (.t t9), none, none⟩,
   ⟨(some t11), oLoad1 (.t t10), none, (some (.t t10))⟩,
   ⟨(some t12), oCall 56 [(.t t11)], none, none⟩,
   ⟨(some t13), oBuild [(.slice none 0 0), (.map none)] [(0, 1, (.t t7)), (1, 1, (.t t12))], none, none⟩,
   ⟨(some t14), oBox (.t t13), none, none⟩,
   ⟨(some t2), oMov (.t t14), none, none⟩] [(0, 5), (1, 5), (2, 5), (3, 5), (4, 5), (0, 6), (1, 6), (2, 6), (3, 6), (4, 6), (0, 7), (1, 7), (2, 7), (3, 7), (4, 7), (0, 8), (1, 8), (2, 8), (3, 8), (4, 8)])
 xRet))⟩
theorem ok41 : cFunc Tryd.prog gl ex Tryd.f41 = some c41 := by kernel_rfl
/-- (*publican/accrue.Acc).Shown -/
def c42 : AFunc := ⟨37, [.tmp t6, .tmp t7],
 (xSeq (xOps [⟨(some t6), oMov (.v (.int .i64 0)), none, none⟩,
   ⟨(some t7), oMov (.v (.int .i64 0)), none, none⟩])
 (xSeq (xSeq (xOps [⟨(some t11), oMov (.t t0), none, none⟩,
   ⟨(some t12), oMov (.t t2), none, none⟩,
   ⟨(some t13), oCall 53 [(.t t11), (.t t12)], none, none⟩,
   ⟨(some t8), oMov (.t t13), none, none⟩])
 (xSeq (xOps [⟨(some t14), oMov (.t t8), none, none⟩,
   ⟨(some t15), oBin (int2 (cmpO neI)) (.t t14) (.v (.int .i64 0)), none, none⟩])
 (xCond (.t t15)
 (xSeq (xOps [⟨(some t16), oMov (.t t8), none, none⟩,
   ⟨(some t6), oMov (.v (.int .i64 0)), none, none⟩,
   ⟨(some t7), oMov (.t t16), none, none⟩])
 xRet)
 xSkip)))
 (xSeq (xOps [⟨(some t18), oMov (.t t0), none, none⟩,
   ⟨(some t19), oMov (.t t1), none, none⟩,
   ⟨(some t20), oMov (.t t2), none, none⟩,
   ⟨(some t21), oCall 54 [(.t t18), (.t t19), (.t t20)], none, none⟩,
   ⟨(some t22), oCall 57 [(.t t21), (.v (.int .i64 365000000))], none, none⟩,
   ⟨(some t17), oMov (.t t22), none, none⟩,
   ⟨(some t23), oExtract (.t t17) 0, none, none⟩,
   ⟨(some t24), oExtract (.t t17) 1, none, none⟩,
   ⟨(some t9), oMov (.t t23), none, none⟩,
   ⟨(some t10), oMov (.t t24), none, none⟩])
 (xSeq (xSeq (xOps [⟨(some t25), oMov (.t t10), none, none⟩,
   ⟨(some t26), oNot (.t t25), none, none⟩,
   ⟨(some t27), oMov (.t t26), none, none⟩,
   ⟨(some t28), oMov (.t t9), (some (t27, false)), none⟩,
   ⟨(some t29), oBin (int2 (cmpO gtI)) (.t t28) (.v (.int .i64 4503599627370496)), (some (t27, false)), none⟩,
   ⟨(some t30), oPick (.t t27) (.v (.bool true)) (.t t29), none, none⟩])
 (xCond (.t t30)
 (xSeq (xOps [⟨(some t6), oMov (.v (.int .i64 0)), none, none⟩,
   ⟨(some t7), oMov (.v (.int .i64 10)), none, none⟩])
 xRet)
 xSkip))
 (xSeq (xOps [⟨(some t31), oMov (.t t9), none, none⟩,
   ⟨(some t32), oMov (.t t0), none, none⟩,
   ⟨(some t33), oNilCheck (.t t32), none, none⟩,
   ⟨(some t34), oFieldAddr 2 (.t t33), none, none⟩,
   ⟨(some t35), oLoad1 (.t t34), none, (some (.t t34))⟩,
   ⟨(some t36), oBin (int2 subO) (.t t31) (.t t35), none, none⟩,
   ⟨(some t6), oMov (.t t36), none, none⟩,
   ⟨(some t7), oMov (.v (.int .i64 0)), none, none⟩])
 xRet)))))⟩
theorem ok42 : cFunc Tryd.prog gl ex Tryd.f42 = some c42 := by kernel_rfl
/-- (*publican/dues.Account).Post$1 -/
def c43 : AFunc := ⟨15, [.tmp t5],
 (xSeq (xOps [⟨(some t5), oMov (.v (.int .i64 0)), none, none⟩])
 (xSeq (xOps [⟨(some t6), oMov (.v (.int .i64 0)), none, none⟩])
 (xSeq (xOps [⟨(some t8), oMov (.t t0), none, none⟩,
   ⟨(some t9), oLoad1 (.t t1), none, (some (.t t1))⟩,
   ⟨(some t10), oLoad1 (.t t2), none, (some (.t t2))⟩,
   ⟨(some t11), oCall 35 [(.t t8), (.t t9), (.t t10)], none, none⟩,
   ⟨(some t7), oMov (.t t11), none, none⟩,
   ⟨(some t12), oExtract (.t t7) 0, none, none⟩,
   ⟨(some t13), oExtract (.t t7) 1, none, none⟩,
   ⟨none, oStore 1 (.t t3) (.t t12), none, none⟩,
   ⟨(some t6), oMov (.t t13), none, none⟩])
 (xSeq (xOps [⟨(some t14), oMov (.t t6), none, none⟩,
   ⟨(some t5), oMov (.t t14), none, none⟩])
 xRet))))⟩
theorem ok43 : cFunc Tryd.prog gl ex Tryd.f43 = some c43 := by kernel_rfl
/-- (*publican/accrue.Acc).Copy -/
def c44 : AFunc := ⟨7, [.tmp t2],
 (xSeq (xOps [⟨(some t2), oMov (.v (.pointer none)), none, none⟩])
 (xSeq (xOps [⟨(some t4), oMov (.t t0), none, none⟩,
   ⟨(some t5), oNilCheck (.t t4), none, none⟩,
   ⟨(some t6), oLoadN 5 (.t t5), none, none⟩,
   ⟨(some t3), oNew [(.int .i64 0), (.int .i64 0), (.int .i64 0), (.int .i64 0), (.int .u64 0)], none, none⟩,
   ⟨none, oStore 5 (.t t3) (.t t6), none, none⟩])
 (xSeq (xOps [⟨(some t2), oMov (.t t3), none, none⟩])
 xRet)))⟩
theorem ok44 : cFunc Tryd.prog gl ex Tryd.f44 = some c44 := by kernel_rfl
/-- (*publican/books.Books).Post -/
def c45 : AFunc := ⟨42, [.tmp t4],
 (xSeq (xOps [⟨(some t3), oBox (.t t1), none, none⟩,
   ⟨(some t4), oMov (.v (.int .i64 0)), none, none⟩])
 (xSeq (xSeq (xOps [⟨(some t6), oMov (.t t0), none, none⟩,
   ⟨(some t7), oLoadN 5 (.t t3), none, none⟩,
   ⟨(some t8), oCall 58 [(.t t6), (.t t7)], none, none⟩,
   ⟨(some t5), oMov (.t t8), none, none⟩])
 (xSeq (xOps [⟨(some t9), oMov (.t t5), none, none⟩,
   ⟨(some t10), oBin (int2 (cmpO neI)) (.t t9) (.v (.int .i64 0)), none, none⟩])
 (xCond (.t t10)
 (xSeq (xOps [⟨(some t11), oMov (.t t5), none, none⟩,
   ⟨(some t4), oMov (.t t11), none, none⟩])
 xRet)
 xSkip)))
 (xSeq (xReg [⟨(some t12), oMov (.t t0), none, none⟩,
   ⟨(some t13), oMov (.t t0), none, none⟩,
   ⟨(some t14), oNilCheck (.t t13), none, none⟩,
   ⟨(some t15), oFieldAddr 0 (.t t14), none, none⟩,
   ⟨(some t16), oLoad1 (.t t15), none, (some (.t t15))⟩,
   ⟨(some t17), oLoadN 5 (.t t3), none, none⟩,
   ⟨(some t18), oBuildSlice 1 [(.int .i64 0), (.string ⟨⟨[]⟩⟩), (.string ⟨⟨[]⟩⟩), (.int .i64 0), (.string ⟨⟨[]⟩⟩)] [(0, 5, (.t t17))], none, none⟩,
   ⟨(some t19), oAppend 5 64 (.t t16) (.t t18), none, none⟩,
   ⟨(some t20), oNilCheck (.t t12), none, none⟩,
   ⟨(some t21), oFieldAddr 0 (.t t20), none, none⟩,
   ⟨none, oStore 1 (.t t21) (.t t19), none, none⟩] [(0, 1), (0, 2), (0, 3), (0, 4), (0, 5), (1, 5), (2, 5), (3, 5), (4, 5), (0, 6), (1, 6), (2, 6), (3, 6), (4, 6), (0, 7)])
 (xSeq (xReg [⟨(some t22), oMov (.t t0), none, none⟩,
   ⟨(some t23), oNilCheck (.t t22), none, none⟩,
   ⟨(some t24), oFieldAddr 1 (.t t23), none, none⟩,
   ⟨(some t25), oLoad1 (.t t24), none, (some (.t t24))⟩,
   ⟨(some t26), oFieldAddr 1 (.t t3), none, none⟩,
   ⟨(some t27), oLoad1 (.t t26), none, (some (.t t26))⟩,
   ⟨(some t28), oLookup none (.int .i64 0) false (.t t25) (.t t27), none, none⟩,
   ⟨(some t29), oFieldAddr 3 (.t t3), none, none⟩,
   ⟨(some t30), oLoad1 (.t t29), none, (some (.t t29))⟩,
   ⟨(some t31), oBin (int2 addO) (.t t28) (.t t30), none, none⟩,
   ⟨none, oMapUpdate none (.t t25) (.t t27) (.t t31), none, none⟩] [(0, 4), (1, 4), (2, 4), (3, 4), (0, 5), (1, 5), (2, 5), (3, 5), (0, 7), (1, 7), (2, 7), (3, 7), (4, 7), (5, 7), (6, 7), (0, 8), (1, 8), (2, 8), (3, 8), (4, 8), (5, 8), (6, 8)])
 (xSeq (xReg [⟨(some t32), oMov (.t t0), none, none⟩,
   ⟨(some t33), oNilCheck (.t t32), none, none⟩,
   ⟨(some t34), oFieldAddr 1 (.t t33), none, none⟩,
   ⟨(some t35), oLoad1 (.t t34), none, (some (.t t34))⟩,
   ⟨(some t36), oFieldAddr 2 (.t t3), none, none⟩,
   ⟨(some t37), oLoad1 (.t t36), none, (some (.t t36))⟩,
   ⟨(some t38), oLookup none (.int .i64 0) false (.t t35) (.t t37), none, none⟩,
   ⟨(some t39), oFieldAddr 3 (.t t3), none, none⟩,
   ⟨(some t40), oLoad1 (.t t39), none, (some (.t t39))⟩,
   ⟨(some t41), oBin (int2 subO) (.t t38) (.t t40), none, none⟩,
   ⟨none, oMapUpdate none (.t t35) (.t t37) (.t t41), none, none⟩] [(0, 4), (1, 4), (2, 4), (3, 4), (0, 5), (1, 5), (2, 5), (3, 5), (0, 7), (1, 7), (2, 7), (3, 7), (4, 7), (5, 7), (6, 7), (0, 8), (1, 8), (2, 8), (3, 8), (4, 8), (5, 8), (6, 8)])
 (xSeq (xOps [⟨(some t4), oMov (.v (.int .i64 0)), none, none⟩])
 xRet))))))⟩
theorem ok45 : cFunc Tryd.prog gl ex Tryd.f45 = some c45 := by kernel_rfl
/-- strconv.Itoa -/
def c46 : AFunc := ⟨5, [.tmp t2],
 (xSeq (xOps [⟨(some t2), oMov (.v (.string ⟨⟨[]⟩⟩)), none, none⟩])
 (xSeq (xOps [⟨(some t3), oMov (.t t0), none, none⟩,
   ⟨(some t4), oCall 59 [(.t t3)], none, none⟩,
   ⟨(some t2), oMov (.t t4), none, none⟩])
 xRet))⟩
theorem ok46 : cFunc Tryd.prog gl ex Tryd.f46 = some c46 := by kernel_rfl
/-- slices.Clone[[]*publican/dues.one,*publican/dues.one] -/
def c47 : AFunc := ⟨8, [.tmp t2],
 (xSeq (xOps [⟨(some t2), oMov (.v (.slice none 0 0)), none, none⟩])
 (xSeq (xSeq (xOps [⟨(some t3), oMov (.t t0), none, none⟩,
   ⟨(some t4), oEqv eqL false (.t t3) (.v (.slice none 0 0)), none, none⟩])
 (xCond (.t t4)
 (xSeq (xOps [⟨(some t2), oMov (.v (.slice none 0 0)), none, none⟩])
 xRet)
 xSkip))
 (xSeq (xOps [⟨(some t5), oBuildSlice 0 [] [], none, none⟩,
   ⟨(some t6), oMov (.t t0), none, none⟩,
   ⟨(some t7), oAppend 1 8 (.t t5) (.t t6), none, none⟩,
   ⟨(some t2), oMov (.t t7), none, none⟩])
 xRet)))⟩
theorem ok47 : cFunc Tryd.prog gl ex Tryd.f47 = some c47 := by kernel_rfl
/-- slices.SortStableFunc[[]*publican/dues.one,*publican/dues.one] -/
def c48 : AFunc := ⟨9, [],
 (xOps [⟨(some t4), oMov (.t t0), none, none⟩,
   ⟨(some t5), oMov (.t t0), none, none⟩,
   ⟨(some t6), oLenL (.t t5), none, none⟩,
   ⟨(some t7), oMov (.t t1), none, none⟩,
   ⟨(some t8), oCall 60 [(.t t4), (.t t6), (.t t7)], none, none⟩])⟩
theorem ok48 : cFunc Tryd.prog gl ex Tryd.f48 = some c48 := by kernel_rfl
/-- (*publican/dues.Account).pays$1 -/
def c49 : AFunc := ⟨16, [.tmp t4],
 (xSeq (xOps [⟨(some t4), oMov (.v (.int .i64 0)), none, none⟩])
 (xSeq (xReg [⟨(some t5), oMov (.t t0), none, none⟩,
   ⟨(some t6), oNilCheck (.t t5), none, none⟩,
   ⟨(some t7), oFieldAddr 0 (.t t6), none, none⟩,
   ⟨(some t8), oFieldAddr 2 (.t t7), none, none⟩,
   ⟨(some t9), oLoad1 (.t t8), none, (some (.t t8))⟩,
   ⟨(some t10), oMov (.t t1), none, none⟩,
   ⟨(some t11), oNilCheck (.t t10), none, none⟩,
   ⟨(some t12), oFieldAddr 0 (.t t11), none, none⟩,
   ⟨(some t13), oFieldAddr 2 (.t t12), none, none⟩,
   ⟨(some t14), oLoad1 (.t t13), none, (some (.t t13))⟩,
   ⟨(some t15), oCall 50 [(.t t9), (.t t14)], none, none⟩,
   ⟨(some t4), oMov (.t t15), none, none⟩] [(0, 5), (1, 5), (2, 5), (3, 5), (4, 5), (0, 6), (1, 6), (2, 6), (3, 6), (4, 6), (0, 7), (1, 7), (2, 7), (3, 7), (4, 7), (0, 8), (1, 8), (2, 8), (3, 8), (4, 8), (0, 9), (1, 9), (2, 9), (3, 9), (4, 9)])
 xRet))⟩
theorem ok49 : cFunc Tryd.prog gl ex Tryd.f49 = some c49 := by kernel_rfl
/-- cmp.Compare[int] -/
def c50 : AFunc := ⟨20, [.tmp t4],
 (xSeq (xOps [⟨(some t4), oMov (.v (.int .i64 0)), none, none⟩])
 (xSeq (xOps [⟨(some t7), oMov (.t t0), none, none⟩,
   ⟨(some t8), oCall 61 [(.t t7)], none, none⟩,
   ⟨(some t5), oMov (.t t8), none, none⟩])
 (xSeq (xOps [⟨(some t9), oMov (.t t1), none, none⟩,
   ⟨(some t10), oCall 61 [(.t t9)], none, none⟩,
   ⟨(some t6), oMov (.t t10), none, none⟩])
 (xSeq (xSeq (xOps [⟨(some t11), oMov (.t t5), none, none⟩])
 (xCond (.t t11)
 (xSeq (xSeq (xOps [⟨(some t12), oMov (.t t6), none, none⟩])
 (xCond (.t t12)
 (xSeq (xOps [⟨(some t4), oMov (.v (.int .i64 0)), none, none⟩])
 xRet)
 xSkip))
 (xSeq (xOps [⟨(some t4), oMov (.v (.int .i64 (-1))), none, none⟩])
 xRet))
 xSkip))
 (xSeq (xSeq (xOps [⟨(some t13), oMov (.t t6), none, none⟩])
 (xCond (.t t13)
 (xSeq (xOps [⟨(some t4), oMov (.v (.int .i64 1)), none, none⟩])
 xRet)
 xSkip))
 (xSeq (xSeq (xOps [⟨(some t14), oMov (.t t0), none, none⟩,
   ⟨(some t15), oMov (.t t1), none, none⟩,
   ⟨(some t16), oBin (int2 (cmpO ltI)) (.t t14) (.t t15), none, none⟩])
 (xCond (.t t16)
 (xSeq (xOps [⟨(some t4), oMov (.v (.int .i64 (-1))), none, none⟩])
 xRet)
 xSkip))
 (xSeq (xSeq (xOps [⟨(some t17), oMov (.t t0), none, none⟩,
   ⟨(some t18), oMov (.t t1), none, none⟩,
   ⟨(some t19), oBin (int2 (cmpO gtI)) (.t t17) (.t t18), none, none⟩])
 (xCond (.t t19)
 (xSeq (xOps [⟨(some t4), oMov (.v (.int .i64 1)), none, none⟩])
 xRet)
 xSkip))
 (xSeq (xOps [⟨(some t4), oMov (.v (.int .i64 0)), none, none⟩])
 xRet))))))))⟩
theorem ok50 : cFunc Tryd.prog gl ex Tryd.f50 = some c50 := by kernel_rfl
/-- (*publican/accrue.Acc).Post -/
def c51 : AFunc := ⟨37, [.tmp t6, .tmp t7],
 (xSeq (xOps [⟨(some t6), oMov (.v (.int .i64 0)), none, none⟩,
   ⟨(some t7), oMov (.v (.int .i64 0)), none, none⟩])
 (xSeq (xOps [⟨(some t12), oMov (.t t0), none, none⟩,
   ⟨(some t13), oMov (.t t1), none, none⟩,
   ⟨(some t14), oMov (.t t2), none, none⟩,
   ⟨(some t15), oCall 42 [(.t t12), (.t t13), (.t t14)], none, none⟩,
   ⟨(some t11), oMov (.t t15), none, none⟩,
   ⟨(some t16), oExtract (.t t11) 0, none, none⟩,
   ⟨(some t17), oExtract (.t t11) 1, none, none⟩,
   ⟨(some t8), oMov (.t t16), none, none⟩,
   ⟨(some t9), oMov (.t t17), none, none⟩])
 (xSeq (xSeq (xOps [⟨(some t18), oMov (.t t9), none, none⟩,
   ⟨(some t19), oBin (int2 (cmpO neI)) (.t t18) (.v (.int .i64 0)), none, none⟩])
 (xCond (.t t19)
 (xSeq (xOps [⟨(some t20), oMov (.t t9), none, none⟩,
   ⟨(some t6), oMov (.v (.int .i64 0)), none, none⟩,
   ⟨(some t7), oMov (.t t20), none, none⟩])
 xRet)
 xSkip))
 (xSeq (xSeq (xOps [⟨(some t21), oMov (.t t0), none, none⟩,
   ⟨(some t22), oMov (.t t1), none, none⟩,
   ⟨(some t23), oMov (.t t2), none, none⟩,
   ⟨(some t24), oCall 62 [(.t t21), (.t t22), (.t t23)], none, none⟩,
   ⟨(some t10), oMov (.t t24), none, none⟩])
 (xSeq (xOps [⟨(some t25), oMov (.t t10), none, none⟩,
   ⟨(some t26), oBin (int2 (cmpO neI)) (.t t25) (.v (.int .i64 0)), none, none⟩])
 (xCond (.t t26)
 (xSeq (xOps [⟨(some t27), oMov (.t t10), none, none⟩,
   ⟨(some t6), oMov (.v (.int .i64 0)), none, none⟩,
   ⟨(some t7), oMov (.t t27), none, none⟩])
 xRet)
 xSkip)))
 (xSeq (xOps [⟨(some t28), oMov (.t t0), none, none⟩,
   ⟨(some t29), oNilCheck (.t t28), none, none⟩,
   ⟨(some t30), oFieldAddr 2 (.t t29), none, none⟩,
   ⟨(some t31), oLoad1 (.t t30), none, (some (.t t30))⟩,
   ⟨(some t32), oMov (.t t8), none, none⟩,
   ⟨(some t33), oBin (int2 addO) (.t t31) (.t t32), none, none⟩,
   ⟨(some t34), oNilCheck (.t t28), none, none⟩,
   ⟨(some t35), oFieldAddr 2 (.t t34), none, none⟩,
   ⟨none, oStore 1 (.t t35) (.t t33), none, none⟩])
 (xSeq (xOps [⟨(some t36), oMov (.t t8), none, none⟩,
   ⟨(some t6), oMov (.t t36), none, none⟩,
   ⟨(some t7), oMov (.v (.int .i64 0)), none, none⟩])
 xRet))))))⟩
theorem ok51 : cFunc Tryd.prog gl ex Tryd.f51 = some c51 := by kernel_rfl
/-- (*publican/dues.Account).give$1 -/
def c52 : AFunc := ⟨25, [.tmp t6],
 (xSeq (xOps [⟨(some t6), oMov (.v (.int .i64 0)), none, none⟩])
 (xSeq (xReg [⟨(some t7), oMov (.t t0), none, none⟩,
   ⟨(some t8), oNilCheck (.t t7), none, none⟩,
   ⟨(some t9), oFieldAddr 1 (.t t8), none, none⟩,
   ⟨(some t10), oFieldAddr 2 (.t t9), none, none⟩,
   ⟨(some t11), oLoad1 (.t t10), none, (some (.t t10))⟩,
   ⟨(some t12), oLoad1 (.t t1), none, (some (.t t1))⟩,
   ⟨(some t13), oBin (int2 subO) (.t t11) (.t t12), none, none⟩,
   ⟨(some t14), oNilCheck (.t t7), none, none⟩,
   ⟨(some t15), oFieldAddr 1 (.t t14), none, none⟩,
   ⟨(some t16), oFieldAddr 2 (.t t15), none, none⟩,
   ⟨none, oStore 1 (.t t16) (.t t13), none, none⟩] [(0, 5), (1, 5), (2, 5), (3, 5), (4, 5)])
 (xSeq (xReg [⟨(some t17), oMov (.t t0), none, none⟩,
   ⟨(some t18), oLoad1 (.t t2), none, (some (.t t2))⟩,
   ⟨(some t19), oMov (.t t0), none, none⟩,
   ⟨(some t20), oCall 30 [(.t t19)], none, none⟩,
   ⟨(some t21), oLoad1 (.t t3), none, (some (.t t3))⟩,
   ⟨(some t22), oLoad1 (.t t1), none, (some (.t t1))⟩,
   ⟨(some t23), oLoad1 (.t t4), none, (some (.t t4))⟩,
   ⟨(some t24), oCall 29 [(.t t17), (.t t18), (.t t20), (.t t21), (.t t22), (.t t23)], none, none⟩,
   ⟨(some t6), oMov (.t t24), none, none⟩] [(0, 1), (0, 2), (1, 2), (0, 3), (1, 3), (0, 4), (1, 4), (2, 4), (3, 4), (0, 5), (1, 5), (2, 5), (3, 5), (4, 5), (0, 6), (1, 6), (2, 6), (3, 6), (4, 6), (5, 6)])
 xRet)))⟩
theorem ok52 : cFunc Tryd.prog gl ex Tryd.f52 = some c52 := by kernel_rfl
/-- (*publican/accrue.Acc).may -/
def c53 : AFunc := ⟨19, [.tmp t4],
 (xSeq (xOps [⟨(some t4), oMov (.v (.int .i64 0)), none, none⟩])
 (xSeq (xBlock 0 (xSeq (xOps [⟨(some t6), oMov (.t t1), none, none⟩,
   ⟨(some t7), oBin (int2 (cmpO ltI)) (.t t6) (.v (.int .i64 0)), none, none⟩,
   ⟨(some t8), oMov (.t t7), none, none⟩,
   ⟨(some t9), oMov (.t t1), (some (t8, false)), none⟩,
   ⟨(some t10), oBin (int2 (cmpO gtI)) (.t t9) (.v (.int .i64 109572)), (some (t8, false)), none⟩,
   ⟨(some t11), oPick (.t t8) (.v (.bool true)) (.t t10), none, none⟩,
   ⟨(some t5), oMov (.t t11), none, none⟩])
 (xCond (.t t5)
 (xSeq (xOps [⟨(some t4), oMov (.v (.int .i64 12)), none, none⟩])
 xRet)
 (xSeq (xOps [⟨(some t13), oMov (.t t1), none, none⟩,
   ⟨(some t14), oMov (.t t0), none, none⟩,
   ⟨(some t15), oNilCheck (.t t14), none, none⟩,
   ⟨(some t16), oFieldAddr 0 (.t t15), none, none⟩,
   ⟨(some t17), oLoad1 (.t t16), none, (some (.t t16))⟩,
   ⟨(some t18), oBin (int2 (cmpO ltI)) (.t t13) (.t t17), none, none⟩,
   ⟨(some t12), oMov (.t t18), none, none⟩])
 (xCond (.t t12)
 (xSeq (xOps [⟨(some t4), oMov (.v (.int .i64 14)), none, none⟩])
 xRet)
 xSkip)))))
 (xSeq (xOps [⟨(some t4), oMov (.v (.int .i64 0)), none, none⟩])
 xRet)))⟩
theorem ok53 : cFunc Tryd.prog gl ex Tryd.f53 = some c53 := by kernel_rfl
/-- (*publican/accrue.Acc).upTo -/
def c54 : AFunc := ⟨29, [.cell t6 (some 2)],
 (xSeq (xOps [⟨(some t6), oNew [(.int .i64 0), (.int .u64 0)], none, none⟩])
 (xSeq (xReg [⟨(some t10), oMov (.t t0), none, none⟩,
   ⟨(some t11), oNilCheck (.t t10), none, none⟩,
   ⟨(some t12), oFieldAddr 3 (.t t11), none, none⟩,
   ⟨(some t13), oLoadN 2 (.t t12), none, none⟩,
   ⟨(some t14), oMov (.t t0), none, none⟩,
   ⟨(some t15), oNilCheck (.t t14), none, none⟩,
   ⟨(some t16), oFieldAddr 1 (.t t15), none, none⟩,
   ⟨(some t17), oLoad1 (.t t16), none, (some (.t t16))⟩,
   ⟨(some t18), oMov (.t t1), none, none⟩,
   ⟨(some t19), oMov (.t t0), none, none⟩,
   ⟨(some t20), oNilCheck (.t t19), none, none⟩,
   ⟨(some t21), oFieldAddr 0 (.t t20), none, none⟩,
   ⟨(some t22), oLoad1 (.t t21), none, (some (.t t21))⟩,
   ⟨(some t23), oMov (.t t2), none, none⟩,
   ⟨(some t24), oCall 64 [(.t t18), (.t t22), (.t t23)], none, none⟩,
   ⟨(some t25), oCall 63 [(.t t13), (.t t17), (.t t24)], none, none⟩,
   ⟨(some t9), oMov (.t t25), none, none⟩,
   ⟨(some t26), oExtract (.t t9) 0, none, none⟩,
   ⟨(some t27), oExtract (.t t9) 1, none, none⟩,
   ⟨(some t7), oNew [(.int .i64 0), (.int .u64 0)], none, none⟩,
   ⟨none, oStore 2 (.t t7) (.t t26), none, none⟩,
   ⟨(some t8), oMov (.t t27), none, none⟩] [(0, 4), (1, 4), (2, 4), (3, 4), (0, 5), (1, 5), (2, 5), (3, 5), (0, 6), (1, 6), (2, 6), (3, 6), (0, 7), (1, 7), (2, 7), (3, 7), (0, 8), (1, 8), (2, 8), (3, 8), (4, 8), (5, 8), (6, 8), (7, 8), (0, 9), (1, 9), (2, 9), (3, 9), (4, 9), (5, 9), (6, 9), (7, 9), (8, 9), (0, 10), (1, 10), (2, 10), (3, 10), (4, 10), (5, 10), (6, 10), (7, 10), (8, 10), (0, 11), (1, 11), (2, 11), (3, 11), (4, 11), (5, 11), (6, 11), (7, 11), (8, 11), (0, 12), (1, 12), (2, 12), (3, 12), (4, 12), (5, 12), (6, 12), (7, 12), (8, 12), (0, 13), (1, 13), (2, 13), (3, 13), (4, 13), (5, 13), (6, 13), (7, 13), (8, 13), (9, 13), (10, 13), (11, 13), (12, 13), (0, 14), (1, 14), (2, 14), (3, 14), (4, 14), (5, 14), (6, 14), (7, 14), (17, 18), (0, 19), (1, 19), (2, 19), (3, 19), (4, 19), (5, 19), (6, 19), (7, 19), (8, 19), (9, 19), (10, 19), (11, 19), (12, 19), (13, 19), (14, 19), (15, 19), (16, 19), (17, 19), (18, 19), (18, 20)])
 (xSeq (xOps [⟨(some t28), oLoadN 2 (.t t7), none, none⟩,
   ⟨none, oStore 2 (.t t6) (.t t28), none, none⟩])
 xRet)))⟩
theorem ok54 : cFunc Tryd.prog gl ex Tryd.f54 = some c54 := by kernel_rfl
/-- slices.Clone[[]publican/books.Entry,publican/books.Entry] -/
def c55 : AFunc := ⟨8, [.tmp t2],
 (xSeq (xOps [⟨(some t2), oMov (.v (.slice none 0 0)), none, none⟩])
 (xSeq (xSeq (xOps [⟨(some t3), oMov (.t t0), none, none⟩,
   ⟨(some t4), oEqv eqL false (.t t3) (.v (.slice none 0 0)), none, none⟩])
 (xCond (.t t4)
 (xSeq (xOps [⟨(some t2), oMov (.v (.slice none 0 0)), none, none⟩])
 xRet)
 xSkip))
 (xSeq (xOps [⟨(some t5), oBuildSlice 0 [] [], none, none⟩,
   ⟨(some t6), oMov (.t t0), none, none⟩,
   ⟨(some t7), oAppend 5 64 (.t t5) (.t t6), none, none⟩,
   ⟨(some t2), oMov (.t t7), none, none⟩])
 xRet)))⟩
theorem ok55 : cFunc Tryd.prog gl ex Tryd.f55 = some c55 := by kernel_rfl
/-- (publican/num.Wide).Floor -/
def c57 : AFunc := ⟨59, [.tmp t4, .tmp t5],
 (xSeq (xOps [⟨(some t2), oBox (.t t0), none, none⟩,
   ⟨(some t4), oMov (.v (.int .i64 0)), none, none⟩,
   ⟨(some t5), oMov (.v (.bool false)), none, none⟩])
 (xSeq (xSeq (xOps [⟨(some t11), oMov (.t t1), none, none⟩,
   ⟨(some t12), oBin (int2 (cmpO ltI)) (.t t11) (.v (.int .i64 1)), none, none⟩])
 (xCond (.t t12)
 (xSeq (xOps [⟨(some t4), oMov (.v (.int .i64 0)), none, none⟩,
   ⟨(some t5), oMov (.v (.bool false)), none, none⟩])
 xRet)
 xSkip))
 (xSeq (xOps [⟨(some t13), oLoadN 2 (.t t2), none, none⟩,
   ⟨(some t6), oNew [(.int .i64 0), (.int .u64 0)], none, none⟩,
   ⟨none, oStore 2 (.t t6) (.t t13), none, none⟩])
 (xSeq (xSeq (xOps [⟨(some t14), oFieldAddr 0 (.t t2), none, none⟩,
   ⟨(some t15), oLoad1 (.t t14), none, (some (.t t14))⟩,
   ⟨(some t16), oBin (int2 (cmpO ltI)) (.t t15) (.v (.int .i64 0)), none, none⟩])
 (xCond (.t t16)
 (xOps [⟨(some t17), oLoadN 2 (.t t2), none, none⟩,
   ⟨(some t18), oCall 66 [(.t t17)], none, none⟩,
   ⟨none, oStore 2 (.t t6) (.t t18), none, none⟩])
 xSkip))
 (xSeq (xOps [⟨(some t19), oMov (.t t1), none, none⟩,
   ⟨(some t20), oConv .u64 (.t t19), none, none⟩,
   ⟨(some t7), oMov (.t t20), none, none⟩])
 (xSeq (xSeq (xOps [⟨(some t21), oFieldAddr 0 (.t t6), none, none⟩,
   ⟨(some t22), oLoad1 (.t t21), none, (some (.t t21))⟩,
   ⟨(some t23), oConv .u64 (.t t22), none, none⟩,
   ⟨(some t24), oMov (.t t7), none, none⟩,
   ⟨(some t25), oBin (int2 (cmpO geI)) (.t t23) (.t t24), none, none⟩])
 (xCond (.t t25)
 (xSeq (xOps [⟨(some t4), oMov (.v (.int .i64 0)), none, none⟩,
   ⟨(some t5), oMov (.v (.bool false)), none, none⟩])
 xRet)
 xSkip))
 (xSeq (xOps [⟨(some t27), oFieldAddr 0 (.t t6), none, none⟩,
   ⟨(some t28), oLoad1 (.t t27), none, (some (.t t27))⟩,
   ⟨(some t29), oConv .u64 (.t t28), none, none⟩,
   ⟨(some t30), oFieldAddr 1 (.t t6), none, none⟩,
   ⟨(some t31), oLoad1 (.t t30), none, (some (.t t30))⟩,
   ⟨(some t32), oMov (.t t7), none, none⟩,
   ⟨(some t33), oCall 67 [(.t t29), (.t t31), (.t t32)], none, none⟩,
   ⟨(some t26), oMov (.t t33), none, none⟩,
   ⟨(some t34), oExtract (.t t26) 0, none, none⟩,
   ⟨(some t35), oExtract (.t t26) 1, none, none⟩,
   ⟨(some t8), oMov (.t t34), none, none⟩,
   ⟨(some t9), oMov (.t t35), none, none⟩])
 (xSeq (xSeq (xOps [⟨(some t36), oFieldAddr 0 (.t t2), none, none⟩,
   ⟨(some t37), oLoad1 (.t t36), none, (some (.t t36))⟩,
   ⟨(some t38), oBin (int2 (cmpO geI)) (.t t37) (.v (.int .i64 0)), none, none⟩])
 (xCond (.t t38)
 (xSeq (xOps [⟨(some t39), oMov (.t t8), none, none⟩,
   ⟨(some t40), oBuild [(.int .i64 0), (.int .u64 0)] [(0, 1, (.v (.int .i64 0))), (1, 1, (.t t39))], none, none⟩,
   ⟨(some t41), oCall 68 [(.t t40)], none, none⟩,
   ⟨(some t42), oExtract (.t t41) 0, none, none⟩,
   ⟨(some t43), oExtract (.t t41) 1, none, none⟩,
   ⟨(some t4), oMov (.t t42), none, none⟩,
   ⟨(some t5), oMov (.t t43), none, none⟩])
 xRet)
 xSkip))
 (xSeq (xOps [⟨(some t44), oMov (.t t8), none, none⟩,
   ⟨(some t45), oBuild [(.int .i64 0), (.int .u64 0)] [(0, 1, (.v (.int .i64 0))), (1, 1, (.t t44))], none, none⟩,
   ⟨(some t46), oCall 66 [(.t t45)], none, none⟩,
   ⟨(some t10), oNew [(.int .i64 0), (.int .u64 0)], none, none⟩,
   ⟨none, oStore 2 (.t t10) (.t t46), none, none⟩])
 (xSeq (xSeq (xOps [⟨(some t47), oMov (.t t9), none, none⟩,
   ⟨(some t48), oBin (int2 (cmpO gtI)) (.t t47) (.v (.int .u64 0)), none, none⟩])
 (xCond (.t t48)
 (xReg [⟨(some t50), oLoadN 2 (.t t10), none, none⟩,
   ⟨(some t51), oCall 70 [(.v (.int .i64 (-1)))], none, none⟩,
   ⟨(some t52), oCall 69 [(.t t50), (.t t51)], none, none⟩,
   ⟨(some t49), oMov (.t t52), none, none⟩,
   ⟨(some t53), oExtract (.t t49) 0, none, none⟩,
   ⟨(some t54), oExtract (.t t49) 1, none, none⟩,
   ⟨none, oStore 2 (.t t10) (.t t53), none, none⟩] [(0, 1), (4, 5), (5, 6)])
 xSkip))
 (xSeq (xOps [⟨(some t55), oLoadN 2 (.t t10), none, none⟩,
   ⟨(some t56), oCall 68 [(.t t55)], none, none⟩,
   ⟨(some t57), oExtract (.t t56) 0, none, none⟩,
   ⟨(some t58), oExtract (.t t56) 1, none, none⟩,
   ⟨(some t4), oMov (.t t57), none, none⟩,
   ⟨(some t5), oMov (.t t58), none, none⟩])
 xRet)))))))))))⟩
theorem ok57 : cFunc Tryd.prog gl ex Tryd.f57 = some c57 := by kernel_rfl
/-- (*publican/books.Books).may -/
def c58 : AFunc := ⟨67, [.tmp t4],
 (xSeq (xOps [⟨(some t3), oBox (.t t1), none, none⟩,
   ⟨(some t4), oMov (.v (.int .i64 0)), none, none⟩])
 (xSeq (xBlock 0 (xSeq (xOps [⟨(some t6), oFieldAddr 1 (.t t3), none, none⟩,
   ⟨(some t7), oLoad1 (.t t6), none, (some (.t t6))⟩,
   ⟨(some t8), oCall 71 [(.t t7)], none, none⟩,
   ⟨(some t9), oNot (.t t8), none, none⟩,
   ⟨(some t10), oMov (.t t9), none, none⟩,
   ⟨(some t11), oFieldAddr 2 (.t t3), (some (t10, false)), none⟩,
   ⟨(some t12), oLoad1 (.t t11), (some (t10, false)), (some (.t t11))⟩,
   ⟨(some t13), oCall 71 [(.t t12)], (some (t10, false)), none⟩,
   ⟨(some t14), oNot (.t t13), (some (t10, false)), none⟩,
   ⟨(some t15), oPick (.t t10) (.v (.bool true)) (.t t14), none, none⟩,
   ⟨(some t16), oMov (.t t15), none, none⟩,
   ⟨(some t17), oFieldAddr 1 (.t t3), (some (t16, false)), none⟩,
   ⟨(some t18), oLoad1 (.t t17), (some (t16, false)), (some (.t t17))⟩,
   ⟨(some t19), oFieldAddr 2 (.t t3), (some (t16, false)), none⟩,
   ⟨(some t20), oLoad1 (.t t19), (some (t16, false)), (some (.t t19))⟩,
   ⟨(some t21), oBin (str2 (cmpS eqBytes)) (.t t18) (.t t20), (some (t16, false)), none⟩,
   ⟨(some t22), oPick (.t t16) (.v (.bool true)) (.t t21), none, none⟩,
   ⟨(some t23), oMov (.t t22), none, none⟩,
   ⟨(some t24), oFieldAddr 3 (.t t3), (some (t23, false)), none⟩,
   ⟨(some t25), oLoad1 (.t t24), (some (t23, false)), (some (.t t24))⟩,
   ⟨(some t26), oBin (int2 (cmpO ltI)) (.t t25) (.v (.int .i64 1)), (some (t23, false)), none⟩,
   ⟨(some t27), oPick (.t t23) (.v (.bool true)) (.t t26), none, none⟩,
   ⟨(some t28), oMov (.t t27), none, none⟩,
   ⟨(some t29), oFieldAddr 3 (.t t3), (some (t28, false)), none⟩,
   ⟨(some t30), oLoad1 (.t t29), (some (t28, false)), (some (.t t29))⟩,
   ⟨(some t31), oBin (int2 (cmpO gtI)) (.t t30) (.v (.int .i64 4503599627370496)), (some (t28, false)), none⟩,
   ⟨(some t32), oPick (.t t28) (.v (.bool true)) (.t t31), none, none⟩,
   ⟨(some t5), oMov (.t t32), none, none⟩])
 (xCond (.t t5)
 (xSeq (xOps [⟨(some t4), oMov (.v (.int .i64 1)), none, none⟩])
 xRet)
 (xSeq (xOps [⟨(some t34), oFieldAddr 0 (.t t3), none, none⟩,
   ⟨(some t35), oLoad1 (.t t34), none, (some (.t t34))⟩,
   ⟨(some t36), oBin (int2 (cmpO ltI)) (.t t35) (.v (.int .i64 0)), none, none⟩,
   ⟨(some t37), oMov (.t t36), none, none⟩,
   ⟨(some t38), oFieldAddr 0 (.t t3), (some (t37, false)), none⟩,
   ⟨(some t39), oLoad1 (.t t38), (some (t37, false)), (some (.t t38))⟩,
   ⟨(some t40), oBin (int2 (cmpO gtI)) (.t t39) (.v (.int .i64 109572)), (some (t37, false)), none⟩,
   ⟨(some t41), oPick (.t t37) (.v (.bool true)) (.t t40), none, none⟩,
   ⟨(some t33), oMov (.t t41), none, none⟩])
 (xCond (.t t33)
 (xSeq (xOps [⟨(some t4), oMov (.v (.int .i64 12)), none, none⟩])
 xRet)
 (xSeq (xReg [⟨(some t43), oMov (.t t0), none, none⟩,
   ⟨(some t44), oNilCheck (.t t43), none, none⟩,
   ⟨(some t45), oFieldAddr 1 (.t t44), none, none⟩,
   ⟨(some t46), oLoad1 (.t t45), none, (some (.t t45))⟩,
   ⟨(some t47), oFieldAddr 1 (.t t3), none, none⟩,
   ⟨(some t48), oLoad1 (.t t47), none, (some (.t t47))⟩,
   ⟨(some t49), oLookup none (.int .i64 0) false (.t t46) (.t t48), none, none⟩,
   ⟨(some t50), oFieldAddr 3 (.t t3), none, none⟩,
   ⟨(some t51), oLoad1 (.t t50), none, (some (.t t50))⟩,
   ⟨(some t52), oBin (int2 subO) (.v (.int .i64 4611686018427387904)) (.t t51), none, none⟩,
   ⟨(some t53), oBin (int2 (cmpO gtI)) (.t t49) (.t t52), none, none⟩,
   ⟨(some t54), oMov (.t t53), none, none⟩,
   ⟨(some t55), oMov (.t t0), (some (t54, false)), none⟩,
   ⟨(some t56), oNilCheck (.t t55), (some (t54, false)), none⟩,
   ⟨(some t57), oFieldAddr 1 (.t t56), (some (t54, false)), none⟩,
   ⟨(some t58), oLoad1 (.t t57), (some (t54, false)), (some (.t t57))⟩,
   ⟨(some t59), oFieldAddr 2 (.t t3), (some (t54, false)), none⟩,
   ⟨(some t60), oLoad1 (.t t59), (some (t54, false)), (some (.t t59))⟩,
   ⟨(some t61), oLookup none (.int .i64 0) false (.t t58) (.t t60), (some (t54, false)), none⟩,
   ⟨(some t62), oFieldAddr 3 (.t t3), (some (t54, false)), none⟩,
   ⟨(some t63), oLoad1 (.t t62), (some (t54, false)), (some (.t t62))⟩,
   ⟨(some t64), oBin (int2 subO) (.t t63) (.v (.int .i64 4611686018427387904)), (some (t54, false)), none⟩,
   ⟨(some t65), oBin (int2 (cmpO ltI)) (.t t61) (.t t64), (some (t54, false)), none⟩,
   ⟨(some t66), oPick (.t t54) (.v (.bool true)) (.t t65), none, none⟩,
   ⟨(some t42), oMov (.t t66), none, none⟩] [(0, 4), (1, 4), (2, 4), (3, 4), (0, 5), (1, 5), (2, 5), (3, 5), (0, 7), (1, 7), (2, 7), (3, 7), (4, 7), (5, 7), (6, 7), (0, 8), (1, 8), (2, 8), (3, 8), (4, 8), (5, 8), (6, 8), (0, 9), (1, 9), (2, 9), (3, 9), (4, 9), (5, 9), (6, 9), (12, 16), (13, 16), (14, 16), (15, 16), (12, 17), (13, 17), (14, 17), (15, 17), (12, 19), (13, 19), (14, 19), (15, 19), (16, 19), (17, 19), (18, 19), (12, 20), (13, 20), (14, 20), (15, 20), (16, 20), (17, 20), (18, 20), (12, 21), (13, 21), (14, 21), (15, 21), (16, 21), (17, 21), (18, 21)])
 (xCond (.t t42)
 (xSeq (xOps [⟨(some t4), oMov (.v (.int .i64 10)), none, none⟩])
 xRet)
 xSkip)))))))
 (xSeq (xOps [⟨(some t4), oMov (.v (.int .i64 0)), none, none⟩])
 xRet)))⟩
theorem ok58 : cFunc Tryd.prog gl ex Tryd.f58 = some c58 := by kernel_rfl
/-- internal/strconv.Itoa -/
def c59 : AFunc := ⟨5, [.tmp t2],
 (xSeq (xOps [⟨(some t2), oMov (.v (.string ⟨⟨[]⟩⟩)), none, none⟩])
 (xSeq (xOps [⟨(some t3), oMov (.t t0), none, none⟩,
   ⟨(some t4), oCall 72 [(.t t3), (.v (.int .i64 10))], none, none⟩,
   ⟨(some t2), oMov (.t t4), none, none⟩])
 xRet))⟩
theorem ok59 : cFunc Tryd.prog gl ex Tryd.f59 = some c59 := by kernel_rfl
/-- slices.stableCmpFunc[*publican/dues.one] -/
def c60 : AFunc := ⟨63, [],
 (xSeq (xOps [⟨(some t6), oMov (.v (.int .i64 20)), none, none⟩])
 (xSeq (xOps [⟨(some t10), oMov (.t t6), none, none⟩,
   ⟨(some t7), oMov (.v (.int .i64 0)), none, none⟩,
   ⟨(some t8), oMov (.t t10), none, none⟩])
 (xSeq (xBlock 0 (xLoop (xSeq (xSeq (xOps [⟨(some t11), oMov (.t t8), none, none⟩,
   ⟨(some t12), oMov (.t t1), none, none⟩,
   ⟨(some t13), oBin (int2 (cmpO leI)) (.t t11) (.t t12), none, none⟩])
 (xCond (.t t13)
 xSkip
 (xExit 0)))
 (xBlock 1 (xSeq (xOps [⟨(some t14), oMov (.t t0), none, none⟩,
   ⟨(some t15), oMov (.t t7), none, none⟩,
   ⟨(some t16), oMov (.t t8), none, none⟩,
   ⟨(some t17), oMov (.t t2), none, none⟩,
   ⟨(some t18), oCall 73 [(.t t14), (.t t15), (.t t16), (.t t17)], none, none⟩])
 (xSeq (xOps [⟨(some t19), oMov (.t t8), none, none⟩,
   ⟨(some t7), oMov (.t t19), none, none⟩])
 (xOps [⟨(some t20), oMov (.t t8), none, none⟩,
   ⟨(some t21), oMov (.t t6), none, none⟩,
   ⟨(some t22), oBin (int2 addO) (.t t20) (.t t21), none, none⟩,
   ⟨(some t8), oMov (.t t22), none, none⟩])))))))
 (xSeq (xOps [⟨(some t23), oMov (.t t0), none, none⟩,
   ⟨(some t24), oMov (.t t7), none, none⟩,
   ⟨(some t25), oMov (.t t1), none, none⟩,
   ⟨(some t26), oMov (.t t2), none, none⟩,
   ⟨(some t27), oCall 73 [(.t t23), (.t t24), (.t t25), (.t t26)], none, none⟩])
 (xBlock 2 (xLoop (xSeq (xSeq (xOps [⟨(some t28), oMov (.t t6), none, none⟩,
   ⟨(some t29), oMov (.t t1), none, none⟩,
   ⟨(some t30), oBin (int2 (cmpO ltI)) (.t t28) (.t t29), none, none⟩])
 (xCond (.t t30)
 xSkip
 (xExit 2)))
 (xBlock 3 (xSeq (xOps [⟨(some t31), oMov (.t t6), none, none⟩,
   ⟨(some t32), oBin (int2 mulO) (.v (.int .i64 2)) (.t t31), none, none⟩,
   ⟨(some t7), oMov (.v (.int .i64 0)), none, none⟩,
   ⟨(some t8), oMov (.t t32), none, none⟩])
 (xSeq (xBlock 4 (xLoop (xSeq (xSeq (xOps [⟨(some t33), oMov (.t t8), none, none⟩,
   ⟨(some t34), oMov (.t t1), none, none⟩,
   ⟨(some t35), oBin (int2 (cmpO leI)) (.t t33) (.t t34), none, none⟩])
 (xCond (.t t35)
 xSkip
 (xExit 4)))
 (xBlock 5 (xSeq (xOps [⟨(some t36), oMov (.t t0), none, none⟩,
   ⟨(some t37), oMov (.t t7), none, none⟩,
   ⟨(some t38), oMov (.t t7), none, none⟩,
   ⟨(some t39), oMov (.t t6), none, none⟩,
   ⟨(some t40), oBin (int2 addO) (.t t38) (.t t39), none, none⟩,
   ⟨(some t41), oMov (.t t8), none, none⟩,
   ⟨(some t42), oMov (.t t2), none, none⟩,
   ⟨(some t43), oCall 74 [(.t t36), (.t t37), (.t t40), (.t t41), (.t t42)], none, none⟩])
 (xSeq (xOps [⟨(some t44), oMov (.t t8), none, none⟩,
   ⟨(some t7), oMov (.t t44), none, none⟩])
 (xOps [⟨(some t45), oMov (.t t8), none, none⟩,
   ⟨(some t46), oMov (.t t6), none, none⟩,
   ⟨(some t47), oBin (int2 mulO) (.v (.int .i64 2)) (.t t46), none, none⟩,
   ⟨(some t48), oBin (int2 addO) (.t t45) (.t t47), none, none⟩,
   ⟨(some t8), oMov (.t t48), none, none⟩])))))))
 (xSeq (xSeq (xOps [⟨(some t49), oMov (.t t7), none, none⟩,
   ⟨(some t50), oMov (.t t6), none, none⟩,
   ⟨(some t51), oBin (int2 addO) (.t t49) (.t t50), none, none⟩,
   ⟨(some t9), oMov (.t t51), none, none⟩])
 (xSeq (xOps [⟨(some t52), oMov (.t t9), none, none⟩,
   ⟨(some t53), oMov (.t t1), none, none⟩,
   ⟨(some t54), oBin (int2 (cmpO ltI)) (.t t52) (.t t53), none, none⟩])
 (xCond (.t t54)
 (xOps [⟨(some t55), oMov (.t t0), none, none⟩,
   ⟨(some t56), oMov (.t t7), none, none⟩,
   ⟨(some t57), oMov (.t t9), none, none⟩,
   ⟨(some t58), oMov (.t t1), none, none⟩,
   ⟨(some t59), oMov (.t t2), none, none⟩,
   ⟨(some t60), oCall 74 [(.t t55), (.t t56), (.t t57), (.t t58), (.t t59)], none, none⟩])
 xSkip)))
 (xOps [⟨(some t61), oMov (.t t6), none, none⟩,
   ⟨(some t62), oBin (int2 mulO) (.t t61) (.v (.int .i64 2)), none, none⟩,
   ⟨(some t6), oMov (.t t62), none, none⟩]))))))))))))⟩
theorem ok60 : cFunc Tryd.prog gl ex Tryd.f60 = some c60 := by kernel_rfl
end
end Go.Proofs.YtgbmkpbackdknaaDoor.AbsDueK
