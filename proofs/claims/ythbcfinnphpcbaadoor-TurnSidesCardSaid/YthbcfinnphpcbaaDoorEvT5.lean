/- Printed: functions of the geometry chapters, as plain ones (own work). -/
import Derived.Test.YthbcfinnphpcbaaDoorEvT4
set_option linter.unusedVariables false
set_option linter.unusedSimpArgs false
set_option linter.unnecessarySimpa false
set_option linter.unusedSectionVars false
namespace Go.Ev.T
open Go Go.Ev Go.Ev.Ab Go.Proofs
set_option maxRecDepth 100000
noncomputable def p20 (x : Frm) (y : Frm) : Frm × Bool := let t1 := (p56 x); let t2 := (p56 y); let t3 := (p58 y.t.m x.s); let t4 := (p57 t3 y.t.d); let t5 := (p44 y.t.m x.t.m); let t6 := (p43 t5 (W (x.t.d * y.t.d))); let t7 := (p65 t4.1 y.s); let t8 := (p59 t6.1 t6.2 t7); ((⟨(⟨(⟨(⟨(sel (!t1) 0 (sel (!t2) 0 (sel (!t4.2) 0 t8.1.t.m.r0.x))), (sel (!t1) 0 (sel (!t2) 0 (sel (!t4.2) 0 t8.1.t.m.r0.y))), (sel (!t1) 0 (sel (!t2) 0 (sel (!t4.2) 0 t8.1.t.m.r0.z)))⟩ : V3), (⟨(sel (!t1) 0 (sel (!t2) 0 (sel (!t4.2) 0 t8.1.t.m.r1.x))), (sel (!t1) 0 (sel (!t2) 0 (sel (!t4.2) 0 t8.1.t.m.r1.y))), (sel (!t1) 0 (sel (!t2) 0 (sel (!t4.2) 0 t8.1.t.m.r1.z)))⟩ : V3), (⟨(sel (!t1) 0 (sel (!t2) 0 (sel (!t4.2) 0 t8.1.t.m.r2.x))), (sel (!t1) 0 (sel (!t2) 0 (sel (!t4.2) 0 t8.1.t.m.r2.y))), (sel (!t1) 0 (sel (!t2) 0 (sel (!t4.2) 0 t8.1.t.m.r2.z)))⟩ : V3)⟩ : M3), (sel (!t1) 0 (sel (!t2) 0 (sel (!t4.2) 0 t8.1.t.d)))⟩ : Trn), (⟨(sel (!t1) 0 (sel (!t2) 0 (sel (!t4.2) 0 t8.1.s.x))), (sel (!t1) 0 (sel (!t2) 0 (sel (!t4.2) 0 t8.1.s.y))), (sel (!t1) 0 (sel (!t2) 0 (sel (!t4.2) 0 t8.1.s.z)))⟩ : V3)⟩ : Frm), ((!(!t1)) && ((!(!t2)) && ((!(!t4.2)) && t8.2))))
noncomputable def g20 (x : Frm) (y : Frm) : Bool := let t1 := (p56 x); let t2 := (p56 y); let t3 := (p58 y.t.m x.s); let t4 := (p57 t3 y.t.d); let t5 := (p44 y.t.m x.t.m); let t6 := (p43 t5 (W (x.t.d * y.t.d))); let t7 := (p65 t4.1 y.s); let t8 := (p59 t6.1 t6.2 t7); ((g56 x) && ((!t1) || ((g56 y) && ((!t2) || ((g57 t3 y.t.d) && ((!t4.2) || ((g43 t5 (W (x.t.d * y.t.d))) && (g59 t6.1 t6.2 t7))))))))
noncomputable def tb20 : List (Nat × Sum) := [(56, S56), (58, S58), (57, S57), (44, S44), (43, S43), (65, S65), (59, S59)]
theorem tbo20 : TblOk Tryd.prog G tb20 := ⟨ok56, ok58, ok57, ok44, ok43, ok65, ok59, trivial⟩
noncomputable def S20 : Sum := sum2 cF cF (fun x y => DT.guard (g20 x y) (.ret (.tup [eF (p20 x y).1, b (p20 x y).2], [])))
theorem r20 (x : Frm) (y : Frm) (t1 : Bool) (ht1 : t1 = (p56 x)) (t2 : Bool) (ht2 : t2 = (p56 y)) (t3 : V3) (ht3 : t3 = (p58 y.t.m x.s)) (t4 : V3 × Bool) (ht4 : t4 = (p57 t3 y.t.d)) (t5 : M3) (ht5 : t5 = (p44 y.t.m x.t.m)) (t6 : M3 × Int) (ht6 : t6 = (p43 t5 (W (x.t.d * y.t.d)))) (t7 : V3) (ht7 : t7 = (p65 t4.1 y.s)) (t8 : Frm × Bool) (ht8 : t8 = (p59 t6.1 t6.2 t7)) : (runFn (En tb20) pf20 [cF.enc x, cF.enc y] []).run = (sel (g56 x)
 (sel (!t1)
  (some ((.tup [(.agg [(i 0), (i 0), (i 0), (i 0), (i 0), (i 0), (i 0), (i 0), (i 0), (i 0), (i 0), (i 0), (i 0)]), (b false)]), []))
  (sel (g56 y)
   (sel (!t2)
    (some ((.tup [(.agg [(i 0), (i 0), (i 0), (i 0), (i 0), (i 0), (i 0), (i 0), (i 0), (i 0), (i 0), (i 0), (i 0)]), (b false)]), []))
    (sel (g57 t3 y.t.d)
     (sel (!t4.2)
      (some ((.tup [(.agg [(i 0), (i 0), (i 0), (i 0), (i 0), (i 0), (i 0), (i 0), (i 0), (i 0), (i 0), (i 0), (i 0)]), (b false)]), []))
      (sel (g43 t5 (W (x.t.d * y.t.d)))
       (sel (g59 t6.1 t6.2 t7)
        (some ((.tup [(.agg [(i t8.1.t.m.r0.x), (i t8.1.t.m.r0.y), (i t8.1.t.m.r0.z), (i t8.1.t.m.r1.x), (i t8.1.t.m.r1.y), (i t8.1.t.m.r1.z), (i t8.1.t.m.r2.x), (i t8.1.t.m.r2.y), (i t8.1.t.m.r2.z), (i t8.1.t.d), (i t8.1.s.x), (i t8.1.s.y), (i t8.1.s.z)]), (b t8.2)]), []))
        none)
       none))
     none))
   none))
 none) := by subst ht1; subst ht2; subst ht3; subst ht4; subst ht5; subst ht6; subst ht7; subst ht8; kernel_rfl
theorem m20 (c1 c2 c3 c4 c5 c6 c7 c8 : Bool) (x : Frm) (y : Frm) (t8 : Frm × Bool) : ((sel c1
 (sel c2
  (some ((.tup [(.agg [(i 0), (i 0), (i 0), (i 0), (i 0), (i 0), (i 0), (i 0), (i 0), (i 0), (i 0), (i 0), (i 0)]), (b false)]), []))
  (sel c3
   (sel c4
    (some ((.tup [(.agg [(i 0), (i 0), (i 0), (i 0), (i 0), (i 0), (i 0), (i 0), (i 0), (i 0), (i 0), (i 0), (i 0)]), (b false)]), []))
    (sel c5
     (sel c6
      (some ((.tup [(.agg [(i 0), (i 0), (i 0), (i 0), (i 0), (i 0), (i 0), (i 0), (i 0), (i 0), (i 0), (i 0), (i 0)]), (b false)]), []))
      (sel c7
       (sel c8
        (some ((.tup [(.agg [(i t8.1.t.m.r0.x), (i t8.1.t.m.r0.y), (i t8.1.t.m.r0.z), (i t8.1.t.m.r1.x), (i t8.1.t.m.r1.y), (i t8.1.t.m.r1.z), (i t8.1.t.m.r2.x), (i t8.1.t.m.r2.y), (i t8.1.t.m.r2.z), (i t8.1.t.d), (i t8.1.s.x), (i t8.1.s.y), (i t8.1.s.z)]), (b t8.2)]), []))
        none)
       none))
     none))
   none))
 none) : Option (AVal × List ABlk)) = (sel (c1 && (c2 || (c3 && (c4 || (c5 && (c6 || (c7 && c8))))))) (some ((.tup [(.agg [(i (sel c2 0 (sel c4 0 (sel c6 0 t8.1.t.m.r0.x)))), (i (sel c2 0 (sel c4 0 (sel c6 0 t8.1.t.m.r0.y)))), (i (sel c2 0 (sel c4 0 (sel c6 0 t8.1.t.m.r0.z)))), (i (sel c2 0 (sel c4 0 (sel c6 0 t8.1.t.m.r1.x)))), (i (sel c2 0 (sel c4 0 (sel c6 0 t8.1.t.m.r1.y)))), (i (sel c2 0 (sel c4 0 (sel c6 0 t8.1.t.m.r1.z)))), (i (sel c2 0 (sel c4 0 (sel c6 0 t8.1.t.m.r2.x)))), (i (sel c2 0 (sel c4 0 (sel c6 0 t8.1.t.m.r2.y)))), (i (sel c2 0 (sel c4 0 (sel c6 0 t8.1.t.m.r2.z)))), (i (sel c2 0 (sel c4 0 (sel c6 0 t8.1.t.d)))), (i (sel c2 0 (sel c4 0 (sel c6 0 t8.1.s.x)))), (i (sel c2 0 (sel c4 0 (sel c6 0 t8.1.s.y)))), (i (sel c2 0 (sel c4 0 (sel c6 0 t8.1.s.z))))]), (b ((!c2) && ((!c4) && ((!c6) && t8.2))))]), [])) none) := by
 cases c1
 ·
  rfl
 ·
  cases c2
  ·
   cases c3
   ·
    rfl
   ·
    cases c4
    ·
     cases c5
     ·
      rfl
     ·
      cases c6
      ·
       cases c7
       ·
        rfl
       ·
        cases c8
        ·
         rfl
        ·
         rfl
      ·
       rfl
    ·
     rfl
  ·
   rfl
theorem k20 (x : Frm) (y : Frm) (t1 : Bool) (ht1 : t1 = (p56 x)) (t2 : Bool) (ht2 : t2 = (p56 y)) (t3 : V3) (ht3 : t3 = (p58 y.t.m x.s)) (t4 : V3 × Bool) (ht4 : t4 = (p57 t3 y.t.d)) (t5 : M3) (ht5 : t5 = (p44 y.t.m x.t.m)) (t6 : M3 × Int) (ht6 : t6 = (p43 t5 (W (x.t.d * y.t.d)))) (t7 : V3) (ht7 : t7 = (p65 t4.1 y.s)) (t8 : Frm × Bool) (ht8 : t8 = (p59 t6.1 t6.2 t7)) : (DT.guard (g20 x y) (.ret (.tup [eF (p20 x y).1, b (p20 x y).2], [])) : DT (AVal × List ABlk)).run = (sel ((g56 x) && ((!t1) || ((g56 y) && ((!t2) || ((g57 t3 y.t.d) && ((!t4.2) || ((g43 t5 (W (x.t.d * y.t.d))) && (g59 t6.1 t6.2 t7)))))))) (some ((.tup [(.agg [(i (sel (!t1) 0 (sel (!t2) 0 (sel (!t4.2) 0 t8.1.t.m.r0.x)))), (i (sel (!t1) 0 (sel (!t2) 0 (sel (!t4.2) 0 t8.1.t.m.r0.y)))), (i (sel (!t1) 0 (sel (!t2) 0 (sel (!t4.2) 0 t8.1.t.m.r0.z)))), (i (sel (!t1) 0 (sel (!t2) 0 (sel (!t4.2) 0 t8.1.t.m.r1.x)))), (i (sel (!t1) 0 (sel (!t2) 0 (sel (!t4.2) 0 t8.1.t.m.r1.y)))), (i (sel (!t1) 0 (sel (!t2) 0 (sel (!t4.2) 0 t8.1.t.m.r1.z)))), (i (sel (!t1) 0 (sel (!t2) 0 (sel (!t4.2) 0 t8.1.t.m.r2.x)))), (i (sel (!t1) 0 (sel (!t2) 0 (sel (!t4.2) 0 t8.1.t.m.r2.y)))), (i (sel (!t1) 0 (sel (!t2) 0 (sel (!t4.2) 0 t8.1.t.m.r2.z)))), (i (sel (!t1) 0 (sel (!t2) 0 (sel (!t4.2) 0 t8.1.t.d)))), (i (sel (!t1) 0 (sel (!t2) 0 (sel (!t4.2) 0 t8.1.s.x)))), (i (sel (!t1) 0 (sel (!t2) 0 (sel (!t4.2) 0 t8.1.s.y)))), (i (sel (!t1) 0 (sel (!t2) 0 (sel (!t4.2) 0 t8.1.s.z))))]), (b ((!(!t1)) && ((!(!t2)) && ((!(!t4.2)) && t8.2))))]), [])) none) := by subst ht1; subst ht2; subst ht3; subst ht4; subst ht5; subst ht6; subst ht7; subst ht8; rw [run_grd]; kernel_rfl
theorem ok20 : FnOk Tryd.prog G 20 S20 := sum2_ok (b20 (E := En tb20) rfl (tdeps tbo20)) fun x y r h => ((r20 x y _ rfl _ rfl _ rfl _ rfl _ rfl _ rfl _ rfl _ rfl).trans (m20 _ _ _ _ _ _ _ _ x y _)).trans ((k20 x y _ rfl _ rfl _ rfl _ rfl _ rfl _ rfl _ rfl _ rfl).symm.trans h)
noncomputable def p21 (x : Frm) (y : Frm) : Frm × Bool := let t1 := (p60 x); let t2 := (p60 y); let t3 := (p49 y.t.m.r0 (⟨x.t.m.r0.x, x.t.m.r1.x, x.t.m.r2.x⟩ : V3)); let t4 := (p49 y.t.m.r0 (⟨x.t.m.r0.y, x.t.m.r1.y, x.t.m.r2.y⟩ : V3)); let t5 := (p49 y.t.m.r0 (⟨x.t.m.r0.z, x.t.m.r1.z, x.t.m.r2.z⟩ : V3)); let t6 := (p49 y.t.m.r1 (⟨x.t.m.r0.x, x.t.m.r1.x, x.t.m.r2.x⟩ : V3)); let t7 := (p49 y.t.m.r1 (⟨x.t.m.r0.y, x.t.m.r1.y, x.t.m.r2.y⟩ : V3)); let t8 := (p49 y.t.m.r1 (⟨x.t.m.r0.z, x.t.m.r1.z, x.t.m.r2.z⟩ : V3)); let t9 := (p49 y.t.m.r2 (⟨x.t.m.r0.x, x.t.m.r1.x, x.t.m.r2.x⟩ : V3)); let t10 := (p49 y.t.m.r2 (⟨x.t.m.r0.y, x.t.m.r1.y, x.t.m.r2.y⟩ : V3)); let t11 := (p49 y.t.m.r2 (⟨x.t.m.r0.z, x.t.m.r1.z, x.t.m.r2.z⟩ : V3)); let t12 := (p52 (⟨(⟨(⟨t3, t4, t5⟩ : V3), (⟨t6, t7, t8⟩ : V3), (⟨t9, t10, t11⟩ : V3)⟩ : M3), (W (x.t.d * y.t.d))⟩ : Trn)); let t13 := (p63 y.t.m x.s); let t14 := (p62 t13 y.t.d); let t15 := (p67 t14.1 y.s); let t16 := (p60 (⟨(⟨(⟨(⟨(W (Int.tdiv t3 t12)), (W (Int.tdiv t4 t12)), (W (Int.tdiv t5 t12))⟩ : V3), (⟨(W (Int.tdiv t6 t12)), (W (Int.tdiv t7 t12)), (W (Int.tdiv t8 t12))⟩ : V3), (⟨(W (Int.tdiv t9 t12)), (W (Int.tdiv t10 t12)), (W (Int.tdiv t11 t12))⟩ : V3)⟩ : M3), (W (Int.tdiv (W (x.t.d * y.t.d)) t12))⟩ : Trn), t15⟩ : Frm)); ((⟨(⟨(⟨(⟨(sel (!t1) 0 (sel (!t2) 0 (sel (!t14.2) 0 (sel (!t16) 0 (W (Int.tdiv t3 t12)))))), (sel (!t1) 0 (sel (!t2) 0 (sel (!t14.2) 0 (sel (!t16) 0 (W (Int.tdiv t4 t12)))))), (sel (!t1) 0 (sel (!t2) 0 (sel (!t14.2) 0 (sel (!t16) 0 (W (Int.tdiv t5 t12))))))⟩ : V3), (⟨(sel (!t1) 0 (sel (!t2) 0 (sel (!t14.2) 0 (sel (!t16) 0 (W (Int.tdiv t6 t12)))))), (sel (!t1) 0 (sel (!t2) 0 (sel (!t14.2) 0 (sel (!t16) 0 (W (Int.tdiv t7 t12)))))), (sel (!t1) 0 (sel (!t2) 0 (sel (!t14.2) 0 (sel (!t16) 0 (W (Int.tdiv t8 t12))))))⟩ : V3), (⟨(sel (!t1) 0 (sel (!t2) 0 (sel (!t14.2) 0 (sel (!t16) 0 (W (Int.tdiv t9 t12)))))), (sel (!t1) 0 (sel (!t2) 0 (sel (!t14.2) 0 (sel (!t16) 0 (W (Int.tdiv t10 t12)))))), (sel (!t1) 0 (sel (!t2) 0 (sel (!t14.2) 0 (sel (!t16) 0 (W (Int.tdiv t11 t12))))))⟩ : V3)⟩ : M3), (sel (!t1) 0 (sel (!t2) 0 (sel (!t14.2) 0 (sel (!t16) 0 (W (Int.tdiv (W (x.t.d * y.t.d)) t12))))))⟩ : Trn), (⟨(sel (!t1) 0 (sel (!t2) 0 (sel (!t14.2) 0 (sel (!t16) 0 t15.x)))), (sel (!t1) 0 (sel (!t2) 0 (sel (!t14.2) 0 (sel (!t16) 0 t15.y)))), (sel (!t1) 0 (sel (!t2) 0 (sel (!t14.2) 0 (sel (!t16) 0 t15.z))))⟩ : V3)⟩ : Frm), ((!(!t1)) && ((!(!t2)) && ((!(!t14.2)) && (!(!t16))))))
noncomputable def g21 (x : Frm) (y : Frm) : Bool := let t1 := (p60 x); let t2 := (p60 y); let t3 := (p49 y.t.m.r0 (⟨x.t.m.r0.x, x.t.m.r1.x, x.t.m.r2.x⟩ : V3)); let t4 := (p49 y.t.m.r0 (⟨x.t.m.r0.y, x.t.m.r1.y, x.t.m.r2.y⟩ : V3)); let t5 := (p49 y.t.m.r0 (⟨x.t.m.r0.z, x.t.m.r1.z, x.t.m.r2.z⟩ : V3)); let t6 := (p49 y.t.m.r1 (⟨x.t.m.r0.x, x.t.m.r1.x, x.t.m.r2.x⟩ : V3)); let t7 := (p49 y.t.m.r1 (⟨x.t.m.r0.y, x.t.m.r1.y, x.t.m.r2.y⟩ : V3)); let t8 := (p49 y.t.m.r1 (⟨x.t.m.r0.z, x.t.m.r1.z, x.t.m.r2.z⟩ : V3)); let t9 := (p49 y.t.m.r2 (⟨x.t.m.r0.x, x.t.m.r1.x, x.t.m.r2.x⟩ : V3)); let t10 := (p49 y.t.m.r2 (⟨x.t.m.r0.y, x.t.m.r1.y, x.t.m.r2.y⟩ : V3)); let t11 := (p49 y.t.m.r2 (⟨x.t.m.r0.z, x.t.m.r1.z, x.t.m.r2.z⟩ : V3)); let t12 := (p52 (⟨(⟨(⟨t3, t4, t5⟩ : V3), (⟨t6, t7, t8⟩ : V3), (⟨t9, t10, t11⟩ : V3)⟩ : M3), (W (x.t.d * y.t.d))⟩ : Trn)); let t13 := (p63 y.t.m x.s); let t14 := (p62 t13 y.t.d); let t15 := (p67 t14.1 y.s); let t16 := (p60 (⟨(⟨(⟨(⟨(W (Int.tdiv t3 t12)), (W (Int.tdiv t4 t12)), (W (Int.tdiv t5 t12))⟩ : V3), (⟨(W (Int.tdiv t6 t12)), (W (Int.tdiv t7 t12)), (W (Int.tdiv t8 t12))⟩ : V3), (⟨(W (Int.tdiv t9 t12)), (W (Int.tdiv t10 t12)), (W (Int.tdiv t11 t12))⟩ : V3)⟩ : M3), (W (Int.tdiv (W (x.t.d * y.t.d)) t12))⟩ : Trn), t15⟩ : Frm)); ((g60 x) && ((!t1) || ((g60 y) && ((!t2) || ((g52 (⟨(⟨(⟨t3, t4, t5⟩ : V3), (⟨t6, t7, t8⟩ : V3), (⟨t9, t10, t11⟩ : V3)⟩ : M3), (W (x.t.d * y.t.d))⟩ : Trn)) && ((!(t12 == 0)) && ((g62 t13 y.t.d) && ((!t14.2) || (g60 (⟨(⟨(⟨(⟨(W (Int.tdiv t3 t12)), (W (Int.tdiv t4 t12)), (W (Int.tdiv t5 t12))⟩ : V3), (⟨(W (Int.tdiv t6 t12)), (W (Int.tdiv t7 t12)), (W (Int.tdiv t8 t12))⟩ : V3), (⟨(W (Int.tdiv t9 t12)), (W (Int.tdiv t10 t12)), (W (Int.tdiv t11 t12))⟩ : V3)⟩ : M3), (W (Int.tdiv (W (x.t.d * y.t.d)) t12))⟩ : Trn), t15⟩ : Frm))))))))))
noncomputable def tb21 : List (Nat × Sum) := [(60, S60), (50, S50), (66, S66), (49, S49), (52, S52), (63, S63), (62, S62), (67, S67)]
theorem tbo21 : TblOk Tryd.prog G tb21 := ⟨ok60, ok50, ok66, ok49, ok52, ok63, ok62, ok67, trivial⟩
noncomputable def S21 : Sum := sum2 cF cF (fun x y => DT.guard (g21 x y) (.ret (.tup [eF (p21 x y).1, b (p21 x y).2], [])))
theorem r21 (x : Frm) (y : Frm) (t1 : Bool) (ht1 : t1 = (p60 x)) (t2 : Bool) (ht2 : t2 = (p60 y)) (t3 : Int) (ht3 : t3 = (p49 y.t.m.r0 (⟨x.t.m.r0.x, x.t.m.r1.x, x.t.m.r2.x⟩ : V3))) (t4 : Int) (ht4 : t4 = (p49 y.t.m.r0 (⟨x.t.m.r0.y, x.t.m.r1.y, x.t.m.r2.y⟩ : V3))) (t5 : Int) (ht5 : t5 = (p49 y.t.m.r0 (⟨x.t.m.r0.z, x.t.m.r1.z, x.t.m.r2.z⟩ : V3))) (t6 : Int) (ht6 : t6 = (p49 y.t.m.r1 (⟨x.t.m.r0.x, x.t.m.r1.x, x.t.m.r2.x⟩ : V3))) (t7 : Int) (ht7 : t7 = (p49 y.t.m.r1 (⟨x.t.m.r0.y, x.t.m.r1.y, x.t.m.r2.y⟩ : V3))) (t8 : Int) (ht8 : t8 = (p49 y.t.m.r1 (⟨x.t.m.r0.z, x.t.m.r1.z, x.t.m.r2.z⟩ : V3))) (t9 : Int) (ht9 : t9 = (p49 y.t.m.r2 (⟨x.t.m.r0.x, x.t.m.r1.x, x.t.m.r2.x⟩ : V3))) (t10 : Int) (ht10 : t10 = (p49 y.t.m.r2 (⟨x.t.m.r0.y, x.t.m.r1.y, x.t.m.r2.y⟩ : V3))) (t11 : Int) (ht11 : t11 = (p49 y.t.m.r2 (⟨x.t.m.r0.z, x.t.m.r1.z, x.t.m.r2.z⟩ : V3))) (t12 : Int) (ht12 : t12 = (p52 (⟨(⟨(⟨t3, t4, t5⟩ : V3), (⟨t6, t7, t8⟩ : V3), (⟨t9, t10, t11⟩ : V3)⟩ : M3), (W (x.t.d * y.t.d))⟩ : Trn))) (t13 : V3) (ht13 : t13 = (p63 y.t.m x.s)) (t14 : V3 × Bool) (ht14 : t14 = (p62 t13 y.t.d)) (t15 : V3) (ht15 : t15 = (p67 t14.1 y.s)) (t16 : Bool) (ht16 : t16 = (p60 (⟨(⟨(⟨(⟨(W (Int.tdiv t3 t12)), (W (Int.tdiv t4 t12)), (W (Int.tdiv t5 t12))⟩ : V3), (⟨(W (Int.tdiv t6 t12)), (W (Int.tdiv t7 t12)), (W (Int.tdiv t8 t12))⟩ : V3), (⟨(W (Int.tdiv t9 t12)), (W (Int.tdiv t10 t12)), (W (Int.tdiv t11 t12))⟩ : V3)⟩ : M3), (W (Int.tdiv (W (x.t.d * y.t.d)) t12))⟩ : Trn), t15⟩ : Frm))) : (runFn (En tb21) pf21 [cF.enc x, cF.enc y] []).run = (sel (g60 x)
 (sel (!t1)
  (some ((.tup [(.agg [(i 0), (i 0), (i 0), (i 0), (i 0), (i 0), (i 0), (i 0), (i 0), (i 0), (i 0), (i 0), (i 0)]), (b false)]), []))
  (sel (g60 y)
   (sel (!t2)
    (some ((.tup [(.agg [(i 0), (i 0), (i 0), (i 0), (i 0), (i 0), (i 0), (i 0), (i 0), (i 0), (i 0), (i 0), (i 0)]), (b false)]), []))
    (sel (g52 (⟨(⟨(⟨t3, t4, t5⟩ : V3), (⟨t6, t7, t8⟩ : V3), (⟨t9, t10, t11⟩ : V3)⟩ : M3), (W (x.t.d * y.t.d))⟩ : Trn))
     (sel (t12 == 0)
      none
      (sel (t12 == 0)
       none
       (sel (t12 == 0)
        none
        (sel (t12 == 0)
         none
         (sel (t12 == 0)
          none
          (sel (t12 == 0)
           none
           (sel (t12 == 0)
            none
            (sel (t12 == 0)
             none
             (sel (t12 == 0)
              none
              (sel (t12 == 0)
               none
               (sel (g62 t13 y.t.d)
                (sel (!t14.2)
                 (some ((.tup [(.agg [(i 0), (i 0), (i 0), (i 0), (i 0), (i 0), (i 0), (i 0), (i 0), (i 0), (i 0), (i 0), (i 0)]), (b false)]), []))
                 (sel (g60 (⟨(⟨(⟨(⟨(W (Int.tdiv t3 t12)), (W (Int.tdiv t4 t12)), (W (Int.tdiv t5 t12))⟩ : V3), (⟨(W (Int.tdiv t6 t12)), (W (Int.tdiv t7 t12)), (W (Int.tdiv t8 t12))⟩ : V3), (⟨(W (Int.tdiv t9 t12)), (W (Int.tdiv t10 t12)), (W (Int.tdiv t11 t12))⟩ : V3)⟩ : M3), (W (Int.tdiv (W (x.t.d * y.t.d)) t12))⟩ : Trn), t15⟩ : Frm))
                  (sel (!t16)
                   (some ((.tup [(.agg [(i 0), (i 0), (i 0), (i 0), (i 0), (i 0), (i 0), (i 0), (i 0), (i 0), (i 0), (i 0), (i 0)]), (b false)]), []))
                   (some ((.tup [(.agg [(i (W (Int.tdiv t3 t12))), (i (W (Int.tdiv t4 t12))), (i (W (Int.tdiv t5 t12))), (i (W (Int.tdiv t6 t12))), (i (W (Int.tdiv t7 t12))), (i (W (Int.tdiv t8 t12))), (i (W (Int.tdiv t9 t12))), (i (W (Int.tdiv t10 t12))), (i (W (Int.tdiv t11 t12))), (i (W (Int.tdiv (W (x.t.d * y.t.d)) t12))), (i t15.x), (i t15.y), (i t15.z)]), (b true)]), [])))
                  none))
                none)))))))))))
     none))
   none))
 none) := by subst ht1; subst ht2; subst ht3; subst ht4; subst ht5; subst ht6; subst ht7; subst ht8; subst ht9; subst ht10; subst ht11; subst ht12; subst ht13; subst ht14; subst ht15; subst ht16; kernel_rfl
theorem m21 (c1 c2 c3 c4 c5 c6 c7 c8 c9 c10 : Bool) (x : Frm) (y : Frm) (t3 : Int) (t4 : Int) (t5 : Int) (t6 : Int) (t7 : Int) (t8 : Int) (t9 : Int) (t10 : Int) (t11 : Int) (t12 : Int) (t15 : V3) : ((sel c1
 (sel c2
  (some ((.tup [(.agg [(i 0), (i 0), (i 0), (i 0), (i 0), (i 0), (i 0), (i 0), (i 0), (i 0), (i 0), (i 0), (i 0)]), (b false)]), []))
  (sel c3
   (sel c4
    (some ((.tup [(.agg [(i 0), (i 0), (i 0), (i 0), (i 0), (i 0), (i 0), (i 0), (i 0), (i 0), (i 0), (i 0), (i 0)]), (b false)]), []))
    (sel c5
     (sel c6
      none
      (sel c6
       none
       (sel c6
        none
        (sel c6
         none
         (sel c6
          none
          (sel c6
           none
           (sel c6
            none
            (sel c6
             none
             (sel c6
              none
              (sel c6
               none
               (sel c7
                (sel c8
                 (some ((.tup [(.agg [(i 0), (i 0), (i 0), (i 0), (i 0), (i 0), (i 0), (i 0), (i 0), (i 0), (i 0), (i 0), (i 0)]), (b false)]), []))
                 (sel c9
                  (sel c10
                   (some ((.tup [(.agg [(i 0), (i 0), (i 0), (i 0), (i 0), (i 0), (i 0), (i 0), (i 0), (i 0), (i 0), (i 0), (i 0)]), (b false)]), []))
                   (some ((.tup [(.agg [(i (W (Int.tdiv t3 t12))), (i (W (Int.tdiv t4 t12))), (i (W (Int.tdiv t5 t12))), (i (W (Int.tdiv t6 t12))), (i (W (Int.tdiv t7 t12))), (i (W (Int.tdiv t8 t12))), (i (W (Int.tdiv t9 t12))), (i (W (Int.tdiv t10 t12))), (i (W (Int.tdiv t11 t12))), (i (W (Int.tdiv (W (x.t.d * y.t.d)) t12))), (i t15.x), (i t15.y), (i t15.z)]), (b true)]), [])))
                  none))
                none)))))))))))
     none))
   none))
 none) : Option (AVal × List ABlk)) = (sel (c1 && (c2 || (c3 && (c4 || (c5 && ((!c6) && (c7 && (c8 || c9)))))))) (some ((.tup [(.agg [(i (sel c2 0 (sel c4 0 (sel c8 0 (sel c10 0 (W (Int.tdiv t3 t12))))))), (i (sel c2 0 (sel c4 0 (sel c8 0 (sel c10 0 (W (Int.tdiv t4 t12))))))), (i (sel c2 0 (sel c4 0 (sel c8 0 (sel c10 0 (W (Int.tdiv t5 t12))))))), (i (sel c2 0 (sel c4 0 (sel c8 0 (sel c10 0 (W (Int.tdiv t6 t12))))))), (i (sel c2 0 (sel c4 0 (sel c8 0 (sel c10 0 (W (Int.tdiv t7 t12))))))), (i (sel c2 0 (sel c4 0 (sel c8 0 (sel c10 0 (W (Int.tdiv t8 t12))))))), (i (sel c2 0 (sel c4 0 (sel c8 0 (sel c10 0 (W (Int.tdiv t9 t12))))))), (i (sel c2 0 (sel c4 0 (sel c8 0 (sel c10 0 (W (Int.tdiv t10 t12))))))), (i (sel c2 0 (sel c4 0 (sel c8 0 (sel c10 0 (W (Int.tdiv t11 t12))))))), (i (sel c2 0 (sel c4 0 (sel c8 0 (sel c10 0 (W (Int.tdiv (W (x.t.d * y.t.d)) t12))))))), (i (sel c2 0 (sel c4 0 (sel c8 0 (sel c10 0 t15.x))))), (i (sel c2 0 (sel c4 0 (sel c8 0 (sel c10 0 t15.y))))), (i (sel c2 0 (sel c4 0 (sel c8 0 (sel c10 0 t15.z)))))]), (b ((!c2) && ((!c4) && ((!c8) && (!c10)))))]), [])) none) := by
 cases c1
 ·
  rfl
 ·
  cases c2
  ·
   cases c3
   ·
    rfl
   ·
    cases c4
    ·
     cases c5
     ·
      rfl
     ·
      cases c6
      ·
       cases c7
       ·
        rfl
       ·
        cases c8
        ·
         cases c9
         ·
          rfl
         ·
          cases c10
          ·
           rfl
          ·
           rfl
        ·
         rfl
      ·
       rfl
    ·
     rfl
  ·
   rfl
theorem k21 (x : Frm) (y : Frm) (t1 : Bool) (ht1 : t1 = (p60 x)) (t2 : Bool) (ht2 : t2 = (p60 y)) (t3 : Int) (ht3 : t3 = (p49 y.t.m.r0 (⟨x.t.m.r0.x, x.t.m.r1.x, x.t.m.r2.x⟩ : V3))) (t4 : Int) (ht4 : t4 = (p49 y.t.m.r0 (⟨x.t.m.r0.y, x.t.m.r1.y, x.t.m.r2.y⟩ : V3))) (t5 : Int) (ht5 : t5 = (p49 y.t.m.r0 (⟨x.t.m.r0.z, x.t.m.r1.z, x.t.m.r2.z⟩ : V3))) (t6 : Int) (ht6 : t6 = (p49 y.t.m.r1 (⟨x.t.m.r0.x, x.t.m.r1.x, x.t.m.r2.x⟩ : V3))) (t7 : Int) (ht7 : t7 = (p49 y.t.m.r1 (⟨x.t.m.r0.y, x.t.m.r1.y, x.t.m.r2.y⟩ : V3))) (t8 : Int) (ht8 : t8 = (p49 y.t.m.r1 (⟨x.t.m.r0.z, x.t.m.r1.z, x.t.m.r2.z⟩ : V3))) (t9 : Int) (ht9 : t9 = (p49 y.t.m.r2 (⟨x.t.m.r0.x, x.t.m.r1.x, x.t.m.r2.x⟩ : V3))) (t10 : Int) (ht10 : t10 = (p49 y.t.m.r2 (⟨x.t.m.r0.y, x.t.m.r1.y, x.t.m.r2.y⟩ : V3))) (t11 : Int) (ht11 : t11 = (p49 y.t.m.r2 (⟨x.t.m.r0.z, x.t.m.r1.z, x.t.m.r2.z⟩ : V3))) (t12 : Int) (ht12 : t12 = (p52 (⟨(⟨(⟨t3, t4, t5⟩ : V3), (⟨t6, t7, t8⟩ : V3), (⟨t9, t10, t11⟩ : V3)⟩ : M3), (W (x.t.d * y.t.d))⟩ : Trn))) (t13 : V3) (ht13 : t13 = (p63 y.t.m x.s)) (t14 : V3 × Bool) (ht14 : t14 = (p62 t13 y.t.d)) (t15 : V3) (ht15 : t15 = (p67 t14.1 y.s)) (t16 : Bool) (ht16 : t16 = (p60 (⟨(⟨(⟨(⟨(W (Int.tdiv t3 t12)), (W (Int.tdiv t4 t12)), (W (Int.tdiv t5 t12))⟩ : V3), (⟨(W (Int.tdiv t6 t12)), (W (Int.tdiv t7 t12)), (W (Int.tdiv t8 t12))⟩ : V3), (⟨(W (Int.tdiv t9 t12)), (W (Int.tdiv t10 t12)), (W (Int.tdiv t11 t12))⟩ : V3)⟩ : M3), (W (Int.tdiv (W (x.t.d * y.t.d)) t12))⟩ : Trn), t15⟩ : Frm))) : (DT.guard (g21 x y) (.ret (.tup [eF (p21 x y).1, b (p21 x y).2], [])) : DT (AVal × List ABlk)).run = (sel ((g60 x) && ((!t1) || ((g60 y) && ((!t2) || ((g52 (⟨(⟨(⟨t3, t4, t5⟩ : V3), (⟨t6, t7, t8⟩ : V3), (⟨t9, t10, t11⟩ : V3)⟩ : M3), (W (x.t.d * y.t.d))⟩ : Trn)) && ((!(t12 == 0)) && ((g62 t13 y.t.d) && ((!t14.2) || (g60 (⟨(⟨(⟨(⟨(W (Int.tdiv t3 t12)), (W (Int.tdiv t4 t12)), (W (Int.tdiv t5 t12))⟩ : V3), (⟨(W (Int.tdiv t6 t12)), (W (Int.tdiv t7 t12)), (W (Int.tdiv t8 t12))⟩ : V3), (⟨(W (Int.tdiv t9 t12)), (W (Int.tdiv t10 t12)), (W (Int.tdiv t11 t12))⟩ : V3)⟩ : M3), (W (Int.tdiv (W (x.t.d * y.t.d)) t12))⟩ : Trn), t15⟩ : Frm)))))))))) (some ((.tup [(.agg [(i (sel (!t1) 0 (sel (!t2) 0 (sel (!t14.2) 0 (sel (!t16) 0 (W (Int.tdiv t3 t12))))))), (i (sel (!t1) 0 (sel (!t2) 0 (sel (!t14.2) 0 (sel (!t16) 0 (W (Int.tdiv t4 t12))))))), (i (sel (!t1) 0 (sel (!t2) 0 (sel (!t14.2) 0 (sel (!t16) 0 (W (Int.tdiv t5 t12))))))), (i (sel (!t1) 0 (sel (!t2) 0 (sel (!t14.2) 0 (sel (!t16) 0 (W (Int.tdiv t6 t12))))))), (i (sel (!t1) 0 (sel (!t2) 0 (sel (!t14.2) 0 (sel (!t16) 0 (W (Int.tdiv t7 t12))))))), (i (sel (!t1) 0 (sel (!t2) 0 (sel (!t14.2) 0 (sel (!t16) 0 (W (Int.tdiv t8 t12))))))), (i (sel (!t1) 0 (sel (!t2) 0 (sel (!t14.2) 0 (sel (!t16) 0 (W (Int.tdiv t9 t12))))))), (i (sel (!t1) 0 (sel (!t2) 0 (sel (!t14.2) 0 (sel (!t16) 0 (W (Int.tdiv t10 t12))))))), (i (sel (!t1) 0 (sel (!t2) 0 (sel (!t14.2) 0 (sel (!t16) 0 (W (Int.tdiv t11 t12))))))), (i (sel (!t1) 0 (sel (!t2) 0 (sel (!t14.2) 0 (sel (!t16) 0 (W (Int.tdiv (W (x.t.d * y.t.d)) t12))))))), (i (sel (!t1) 0 (sel (!t2) 0 (sel (!t14.2) 0 (sel (!t16) 0 t15.x))))), (i (sel (!t1) 0 (sel (!t2) 0 (sel (!t14.2) 0 (sel (!t16) 0 t15.y))))), (i (sel (!t1) 0 (sel (!t2) 0 (sel (!t14.2) 0 (sel (!t16) 0 t15.z)))))]), (b ((!(!t1)) && ((!(!t2)) && ((!(!t14.2)) && (!(!t16))))))]), [])) none) := by subst ht1; subst ht2; subst ht3; subst ht4; subst ht5; subst ht6; subst ht7; subst ht8; subst ht9; subst ht10; subst ht11; subst ht12; subst ht13; subst ht14; subst ht15; subst ht16; rw [run_grd]; kernel_rfl
theorem ok21 : FnOk Tryd.prog G 21 S21 := sum2_ok (b21 (E := En tb21) rfl (tdeps tbo21)) fun x y r h => ((r21 x y _ rfl _ rfl _ rfl _ rfl _ rfl _ rfl _ rfl _ rfl _ rfl _ rfl _ rfl _ rfl _ rfl _ rfl _ rfl _ rfl).trans (m21 _ _ _ _ _ _ _ _ _ _ x y _ _ _ _ _ _ _ _ _ _ _)).trans ((k21 x y _ rfl _ rfl _ rfl _ rfl _ rfl _ rfl _ rfl _ rfl _ rfl _ rfl _ rfl _ rfl _ rfl _ rfl _ rfl _ rfl).symm.trans h)
noncomputable def p37 (x : Frm) (y : V3) (z : V3) : Bool := let t1 := (p22 x y); (t1.2 && ((t1.1.x == z.x) && ((t1.1.y == z.y) && ((t1.1.z == z.z) && true))))
noncomputable def g37 (x : Frm) (y : V3) (z : V3) : Bool := let t1 := (p22 x y); (g22 x y)
noncomputable def tb37 : List (Nat × Sum) := [(22, S22)]
theorem tbo37 : TblOk Tryd.prog G tb37 := ⟨ok22, trivial⟩
noncomputable def S37 : Sum := sum3 cF cV cV (fun x y z => DT.guard (g37 x y z) (.ret (b (p37 x y z), [])))
theorem r37 (x : Frm) (y : V3) (z : V3) (t1 : V3 × Bool) (ht1 : t1 = (p22 x y)) : (runFn (En tb37) pf37 [cF.enc x, cV.enc y, cV.enc z] []).run = (sel (g22 x y)
 (sel t1.2
  (some ((b ((t1.1.x == z.x) && ((t1.1.y == z.y) && ((t1.1.z == z.z) && true)))), []))
  (some ((b false), [])))
 none) := by subst ht1; kernel_rfl
theorem m37 (c1 c2 : Bool) (x : Frm) (y : V3) (z : V3) (t1 : V3 × Bool) : ((sel c1
 (sel c2
  (some ((b ((t1.1.x == z.x) && ((t1.1.y == z.y) && ((t1.1.z == z.z) && true)))), []))
  (some ((b false), [])))
 none) : Option (AVal × List ABlk)) = (sel c1 (some ((b (c2 && ((t1.1.x == z.x) && ((t1.1.y == z.y) && ((t1.1.z == z.z) && true))))), [])) none) := by
 cases c1
 ·
  rfl
 ·
  cases c2
  ·
   rfl
  ·
   rfl
theorem k37 (x : Frm) (y : V3) (z : V3) (t1 : V3 × Bool) (ht1 : t1 = (p22 x y)) : (DT.guard (g37 x y z) (.ret (b (p37 x y z), [])) : DT (AVal × List ABlk)).run = (sel (g22 x y) (some ((b (t1.2 && ((t1.1.x == z.x) && ((t1.1.y == z.y) && ((t1.1.z == z.z) && true))))), [])) none) := by subst ht1; rw [run_grd]; kernel_rfl
theorem ok37 : FnOk Tryd.prog G 37 S37 := sum3_ok (b37 (E := En tb37) rfl (tdeps tbo37)) fun x y z r h => ((r37 x y z _ rfl).trans (m37 _ _ x y z _)).trans ((k37 x y z _ rfl).symm.trans h)
noncomputable def p38 (x : Frm) (y : Pln) (z : Pln) : Bool := let t1 := (p28 x y); (t1.2 && ((t1.1.n.x == z.n.x) && ((t1.1.n.y == z.n.y) && ((t1.1.n.z == z.n.z) && ((t1.1.b == z.b) && true)))))
noncomputable def g38 (x : Frm) (y : Pln) (z : Pln) : Bool := let t1 := (p28 x y); (g28 x y)
noncomputable def tb38 : List (Nat × Sum) := [(28, S28)]
theorem tbo38 : TblOk Tryd.prog G tb38 := ⟨ok28, trivial⟩
noncomputable def S38 : Sum := sum3 cF cP cP (fun x y z => DT.guard (g38 x y z) (.ret (b (p38 x y z), [])))
theorem r38 (x : Frm) (y : Pln) (z : Pln) (t1 : Pln × Bool) (ht1 : t1 = (p28 x y)) : (runFn (En tb38) pf38 [cF.enc x, cP.enc y, cP.enc z] []).run = (sel (g28 x y)
 (sel t1.2
  (some ((b ((t1.1.n.x == z.n.x) && ((t1.1.n.y == z.n.y) && ((t1.1.n.z == z.n.z) && ((t1.1.b == z.b) && true))))), []))
  (some ((b false), [])))
 none) := by subst ht1; kernel_rfl
theorem m38 (c1 c2 : Bool) (x : Frm) (y : Pln) (z : Pln) (t1 : Pln × Bool) : ((sel c1
 (sel c2
  (some ((b ((t1.1.n.x == z.n.x) && ((t1.1.n.y == z.n.y) && ((t1.1.n.z == z.n.z) && ((t1.1.b == z.b) && true))))), []))
  (some ((b false), [])))
 none) : Option (AVal × List ABlk)) = (sel c1 (some ((b (c2 && ((t1.1.n.x == z.n.x) && ((t1.1.n.y == z.n.y) && ((t1.1.n.z == z.n.z) && ((t1.1.b == z.b) && true)))))), [])) none) := by
 cases c1
 ·
  rfl
 ·
  cases c2
  ·
   rfl
  ·
   rfl
theorem k38 (x : Frm) (y : Pln) (z : Pln) (t1 : Pln × Bool) (ht1 : t1 = (p28 x y)) : (DT.guard (g38 x y z) (.ret (b (p38 x y z), [])) : DT (AVal × List ABlk)).run = (sel (g28 x y) (some ((b (t1.2 && ((t1.1.n.x == z.n.x) && ((t1.1.n.y == z.n.y) && ((t1.1.n.z == z.n.z) && ((t1.1.b == z.b) && true)))))), [])) none) := by subst ht1; rw [run_grd]; kernel_rfl
theorem ok38 : FnOk Tryd.prog G 38 S38 := sum3_ok (b38 (E := En tb38) rfl (tdeps tbo38)) fun x y z r h => ((r38 x y z _ rfl).trans (m38 _ _ x y z _)).trans ((k38 x y z _ rfl).symm.trans h)
noncomputable def p39 (x : Int) : Trn := (⟨(⟨(⟨(sel (x == 0) 3 (sel (x == 1) 1 (sel (x == 2) 2 1))), (sel (x == 0) (-4) (sel (x == 1) (-2) (sel (x == 2) 3 0))), (sel (x == 0) 0 (sel (x == 1) 2 (sel (x == 2) 6 0)))⟩ : V3), (⟨(sel (x == 0) 4 (sel (x == 1) 2 (sel (x == 2) 3 0))), (sel (x == 0) 3 (sel (x == 1) (-1) (sel (x == 2) (-6) 1))), (sel (x == 0) 0 (sel (x == 1) (-2) (sel (x == 2) 2 0)))⟩ : V3), (⟨(sel (x == 0) 0 (sel (x == 1) 2 (sel (x == 2) 6 0))), (sel (x == 0) 0 (sel (x == 1) 2 (sel (x == 2) 2 0))), (sel (x == 0) 5 (sel (x == 1) 1 (sel (x == 2) (-3) 1)))⟩ : V3)⟩ : M3), (sel (x == 0) 5 (sel (x == 1) 3 (sel (x == 2) 7 1)))⟩ : Trn)
noncomputable def tb39 : List (Nat × Sum) := []
theorem tbo39 : TblOk Tryd.prog G tb39 := trivial
noncomputable def S39 : Sum := sum1 cI (fun x => .ret (eT (p39 x), []))
theorem r39 (x : Int)  : (runFn (En tb39) pf39 [cI.enc x] []).run = (sel (x == 0)
 (some ((.agg [(i 3), (i (-4)), (i 0), (i 4), (i 3), (i 0), (i 0), (i 0), (i 5), (i 5)]), []))
 (sel (x == 1)
  (some ((.agg [(i 1), (i (-2)), (i 2), (i 2), (i (-1)), (i (-2)), (i 2), (i 2), (i 1), (i 3)]), []))
  (sel (x == 2)
   (some ((.agg [(i 2), (i 3), (i 6), (i 3), (i (-6)), (i 2), (i 6), (i 2), (i (-3)), (i 7)]), []))
   (some ((.agg [(i 1), (i 0), (i 0), (i 0), (i 1), (i 0), (i 0), (i 0), (i 1), (i 1)]), []))))) := by kernel_rfl
theorem m39 (c1 c2 c3 : Bool) (x : Int)  : ((sel c1
 (some ((.agg [(i 3), (i (-4)), (i 0), (i 4), (i 3), (i 0), (i 0), (i 0), (i 5), (i 5)]), []))
 (sel c2
  (some ((.agg [(i 1), (i (-2)), (i 2), (i 2), (i (-1)), (i (-2)), (i 2), (i 2), (i 1), (i 3)]), []))
  (sel c3
   (some ((.agg [(i 2), (i 3), (i 6), (i 3), (i (-6)), (i 2), (i 6), (i 2), (i (-3)), (i 7)]), []))
   (some ((.agg [(i 1), (i 0), (i 0), (i 0), (i 1), (i 0), (i 0), (i 0), (i 1), (i 1)]), []))))) : Option (AVal × List ABlk)) = (some ((.agg [(i (sel c1 3 (sel c2 1 (sel c3 2 1)))), (i (sel c1 (-4) (sel c2 (-2) (sel c3 3 0)))), (i (sel c1 0 (sel c2 2 (sel c3 6 0)))), (i (sel c1 4 (sel c2 2 (sel c3 3 0)))), (i (sel c1 3 (sel c2 (-1) (sel c3 (-6) 1)))), (i (sel c1 0 (sel c2 (-2) (sel c3 2 0)))), (i (sel c1 0 (sel c2 2 (sel c3 6 0)))), (i (sel c1 0 (sel c2 2 (sel c3 2 0)))), (i (sel c1 5 (sel c2 1 (sel c3 (-3) 1)))), (i (sel c1 5 (sel c2 3 (sel c3 7 1))))]), [])) := by
 cases c1
 ·
  cases c2
  ·
   cases c3
   ·
    rfl
   ·
    rfl
  ·
   rfl
 ·
  rfl
theorem k39 (x : Int)  : (.ret (eT (p39 x), []) : DT (AVal × List ABlk)).run = (some ((.agg [(i (sel (x == 0) 3 (sel (x == 1) 1 (sel (x == 2) 2 1)))), (i (sel (x == 0) (-4) (sel (x == 1) (-2) (sel (x == 2) 3 0)))), (i (sel (x == 0) 0 (sel (x == 1) 2 (sel (x == 2) 6 0)))), (i (sel (x == 0) 4 (sel (x == 1) 2 (sel (x == 2) 3 0)))), (i (sel (x == 0) 3 (sel (x == 1) (-1) (sel (x == 2) (-6) 1)))), (i (sel (x == 0) 0 (sel (x == 1) (-2) (sel (x == 2) 2 0)))), (i (sel (x == 0) 0 (sel (x == 1) 2 (sel (x == 2) 6 0)))), (i (sel (x == 0) 0 (sel (x == 1) 2 (sel (x == 2) 2 0)))), (i (sel (x == 0) 5 (sel (x == 1) 1 (sel (x == 2) (-3) 1)))), (i (sel (x == 0) 5 (sel (x == 1) 3 (sel (x == 2) 7 1))))]), [])) := by kernel_rfl
theorem ok39 : FnOk Tryd.prog G 39 S39 := sum1_ok (b39 (E := En tb39) rfl (tdeps tbo39)) fun x r h => ((r39 x ).trans (m39 _ _ _ x )).trans ((k39 x ).symm.trans h)

end Go.Ev.T
