/- Printed: functions of the geometry chapters, as plain ones (own work). -/
import Derived.Test.YthbcfinnphpcbaaDoorEvT3
set_option linter.unusedVariables false
set_option linter.unusedSimpArgs false
set_option linter.unnecessarySimpa false
set_option linter.unusedSectionVars false
namespace Go.Ev.T
open Go Go.Ev Go.Ev.Ab Go.Proofs
set_option maxRecDepth 100000
noncomputable def p12 (x : Trn) : Bool := let t1 := (p42 x.m x.d); let t2 := (p43 x.m x.d); let t3 := (p45 x.m); let t4 := (p44 x.m t3); let t5 := (p46 (⟨(⟨1, 0, 0⟩ : V3), (⟨0, 1, 0⟩ : V3), (⟨0, 0, 1⟩ : V3)⟩ : M3) (W (x.d * x.d))); let t6 := (p47 x.m); ((!(decide (x.d < 1))) && ((!(decide (x.d > 25))) && ((!(!t1)) && (((t4.r0.x == t5.r0.x) && ((t4.r0.y == t5.r0.y) && ((t4.r0.z == t5.r0.z) && ((t4.r1.x == t5.r1.x) && ((t4.r1.y == t5.r1.y) && ((t4.r1.z == t5.r1.z) && ((t4.r2.x == t5.r2.x) && ((t4.r2.y == t5.r2.y) && ((t4.r2.z == t5.r2.z) && true))))))))) && ((t6 == (W ((W (x.d * x.d)) * x.d))) && (t2.2 == x.d))))))
noncomputable def g12 (x : Trn) : Bool := let t1 := (p42 x.m x.d); let t2 := (p43 x.m x.d); let t3 := (p45 x.m); let t4 := (p44 x.m t3); let t5 := (p46 (⟨(⟨1, 0, 0⟩ : V3), (⟨0, 1, 0⟩ : V3), (⟨0, 0, 1⟩ : V3)⟩ : M3) (W (x.d * x.d))); let t6 := (p47 x.m); ((decide (x.d < 1)) || ((decide (x.d > 25)) || ((!t1) || (g43 x.m x.d))))
noncomputable def tb12 : List (Nat × Sum) := [(42, S42), (43, S43), (45, S45), (44, S44), (46, S46), (47, S47)]
theorem tbo12 : TblOk Tryd.prog G tb12 := ⟨ok42, ok43, ok45, ok44, ok46, ok47, trivial⟩
noncomputable def S12 : Sum := sum1 cT (fun x => DT.guard (g12 x) (.ret (b (p12 x), [])))
theorem r12 (x : Trn) (t1 : Bool) (ht1 : t1 = (p42 x.m x.d)) (t2 : M3 × Int) (ht2 : t2 = (p43 x.m x.d)) (t3 : M3) (ht3 : t3 = (p45 x.m)) (t4 : M3) (ht4 : t4 = (p44 x.m t3)) (t5 : M3) (ht5 : t5 = (p46 (⟨(⟨1, 0, 0⟩ : V3), (⟨0, 1, 0⟩ : V3), (⟨0, 0, 1⟩ : V3)⟩ : M3) (W (x.d * x.d)))) (t6 : Int) (ht6 : t6 = (p47 x.m)) : (runFn (En tb12) pf12 [cT.enc x] []).run = (sel (decide (x.d < 1))
 (some ((b false), []))
 (sel (decide (x.d > 25))
  (some ((b false), []))
  (sel (!t1)
   (some ((b false), []))
   (sel (g43 x.m x.d)
    (sel ((t4.r0.x == t5.r0.x) && ((t4.r0.y == t5.r0.y) && ((t4.r0.z == t5.r0.z) && ((t4.r1.x == t5.r1.x) && ((t4.r1.y == t5.r1.y) && ((t4.r1.z == t5.r1.z) && ((t4.r2.x == t5.r2.x) && ((t4.r2.y == t5.r2.y) && ((t4.r2.z == t5.r2.z) && true)))))))))
     (sel (t6 == (W ((W (x.d * x.d)) * x.d)))
      (some ((b (t2.2 == x.d)), []))
      (some ((b false), [])))
     (some ((b false), [])))
    none)))) := by subst ht1; subst ht2; subst ht3; subst ht4; subst ht5; subst ht6; kernel_rfl
theorem m12 (c1 c2 c3 c4 c5 c6 : Bool) (x : Trn) (t2 : M3 × Int) : ((sel c1
 (some ((b false), []))
 (sel c2
  (some ((b false), []))
  (sel c3
   (some ((b false), []))
   (sel c4
    (sel c5
     (sel c6
      (some ((b (t2.2 == x.d)), []))
      (some ((b false), [])))
     (some ((b false), [])))
    none)))) : Option (AVal × List ABlk)) = (sel (c1 || (c2 || (c3 || c4))) (some ((b ((!c1) && ((!c2) && ((!c3) && (c5 && (c6 && (t2.2 == x.d))))))), [])) none) := by
 cases c1
 ·
  cases c2
  ·
   cases c3
   ·
    cases c4
    ·
     rfl
    ·
     cases c5
     ·
      rfl
     ·
      cases c6
      ·
       rfl
      ·
       rfl
   ·
    rfl
  ·
   rfl
 ·
  rfl
theorem k12 (x : Trn) (t1 : Bool) (ht1 : t1 = (p42 x.m x.d)) (t2 : M3 × Int) (ht2 : t2 = (p43 x.m x.d)) (t3 : M3) (ht3 : t3 = (p45 x.m)) (t4 : M3) (ht4 : t4 = (p44 x.m t3)) (t5 : M3) (ht5 : t5 = (p46 (⟨(⟨1, 0, 0⟩ : V3), (⟨0, 1, 0⟩ : V3), (⟨0, 0, 1⟩ : V3)⟩ : M3) (W (x.d * x.d)))) (t6 : Int) (ht6 : t6 = (p47 x.m)) : (DT.guard (g12 x) (.ret (b (p12 x), [])) : DT (AVal × List ABlk)).run = (sel ((decide (x.d < 1)) || ((decide (x.d > 25)) || ((!t1) || (g43 x.m x.d)))) (some ((b ((!(decide (x.d < 1))) && ((!(decide (x.d > 25))) && ((!(!t1)) && (((t4.r0.x == t5.r0.x) && ((t4.r0.y == t5.r0.y) && ((t4.r0.z == t5.r0.z) && ((t4.r1.x == t5.r1.x) && ((t4.r1.y == t5.r1.y) && ((t4.r1.z == t5.r1.z) && ((t4.r2.x == t5.r2.x) && ((t4.r2.y == t5.r2.y) && ((t4.r2.z == t5.r2.z) && true))))))))) && ((t6 == (W ((W (x.d * x.d)) * x.d))) && (t2.2 == x.d))))))), [])) none) := by subst ht1; subst ht2; subst ht3; subst ht4; subst ht5; subst ht6; rw [run_grd]; kernel_rfl
theorem ok12 : FnOk Tryd.prog G 12 S12 := sum1_ok (b12 (E := En tb12) rfl (tdeps tbo12)) fun x r h => ((r12 x _ rfl _ rfl _ rfl _ rfl _ rfl _ rfl).trans (m12 _ _ _ _ _ _ x _)).trans ((k12 x _ rfl _ rfl _ rfl _ rfl _ rfl _ rfl).symm.trans h)
noncomputable def p13 (x : Trn) : Bool := let t1 := (p48 x); let t2 := (p49 x.m.r0 x.m.r0); let t3 := (p49 x.m.r0 x.m.r1); let t4 := (p49 x.m.r0 x.m.r2); let t5 := (p49 x.m.r1 x.m.r0); let t6 := (p49 x.m.r1 x.m.r1); let t7 := (p49 x.m.r1 x.m.r2); let t8 := (p49 x.m.r2 x.m.r0); let t9 := (p49 x.m.r2 x.m.r1); let t10 := (p49 x.m.r2 x.m.r2); let t11 := (p51 x.m.r0 x.m.r1); let t12 := (p49 t11 x.m.r2); let t13 := (p52 x); ((!(decide (x.d < 1))) && ((!(decide (x.d > 25))) && ((!(!t1)) && ((!(t2 != (W (x.d * x.d)))) && ((!(t3 != 0)) && ((!(t4 != 0)) && ((!(t5 != 0)) && ((!(t6 != (W (x.d * x.d)))) && ((!(t7 != 0)) && ((!(t8 != 0)) && ((!(t9 != 0)) && ((!(t10 != (W (x.d * x.d)))) && ((t12 == (W ((W (x.d * x.d)) * x.d))) && (t13 == 1))))))))))))))
noncomputable def g13 (x : Trn) : Bool := let t1 := (p48 x); let t2 := (p49 x.m.r0 x.m.r0); let t3 := (p49 x.m.r0 x.m.r1); let t4 := (p49 x.m.r0 x.m.r2); let t5 := (p49 x.m.r1 x.m.r0); let t6 := (p49 x.m.r1 x.m.r1); let t7 := (p49 x.m.r1 x.m.r2); let t8 := (p49 x.m.r2 x.m.r0); let t9 := (p49 x.m.r2 x.m.r1); let t10 := (p49 x.m.r2 x.m.r2); let t11 := (p51 x.m.r0 x.m.r1); let t12 := (p49 t11 x.m.r2); let t13 := (p52 x); ((decide (x.d < 1)) || ((decide (x.d > 25)) || ((!t1) || ((t2 != (W (x.d * x.d))) || ((t3 != 0) || ((t4 != 0) || ((t5 != 0) || ((t6 != (W (x.d * x.d))) || ((t7 != 0) || ((t8 != 0) || ((t9 != 0) || ((t10 != (W (x.d * x.d))) || ((!(t12 == (W ((W (x.d * x.d)) * x.d)))) || (g52 x))))))))))))))
noncomputable def tb13 : List (Nat × Sum) := [(48, S48), (50, S50), (49, S49), (51, S51), (52, S52)]
theorem tbo13 : TblOk Tryd.prog G tb13 := ⟨ok48, ok50, ok49, ok51, ok52, trivial⟩
noncomputable def S13 : Sum := sum1 cT (fun x => DT.guard (g13 x) (.ret (b (p13 x), [])))
theorem r13 (x : Trn) (t1 : Bool) (ht1 : t1 = (p48 x)) (t2 : Int) (ht2 : t2 = (p49 x.m.r0 x.m.r0)) (t3 : Int) (ht3 : t3 = (p49 x.m.r0 x.m.r1)) (t4 : Int) (ht4 : t4 = (p49 x.m.r0 x.m.r2)) (t5 : Int) (ht5 : t5 = (p49 x.m.r1 x.m.r0)) (t6 : Int) (ht6 : t6 = (p49 x.m.r1 x.m.r1)) (t7 : Int) (ht7 : t7 = (p49 x.m.r1 x.m.r2)) (t8 : Int) (ht8 : t8 = (p49 x.m.r2 x.m.r0)) (t9 : Int) (ht9 : t9 = (p49 x.m.r2 x.m.r1)) (t10 : Int) (ht10 : t10 = (p49 x.m.r2 x.m.r2)) (t11 : V3) (ht11 : t11 = (p51 x.m.r0 x.m.r1)) (t12 : Int) (ht12 : t12 = (p49 t11 x.m.r2)) (t13 : Int) (ht13 : t13 = (p52 x)) : (runFn (En tb13) pf13 [cT.enc x] []).run = (sel (decide (x.d < 1))
 (some ((b false), []))
 (sel (decide (x.d > 25))
  (some ((b false), []))
  (sel (!t1)
   (some ((b false), []))
   (sel (t2 != (W (x.d * x.d)))
    (some ((b false), []))
    (sel (t3 != 0)
     (some ((b false), []))
     (sel (t4 != 0)
      (some ((b false), []))
      (sel (t5 != 0)
       (some ((b false), []))
       (sel (t6 != (W (x.d * x.d)))
        (some ((b false), []))
        (sel (t7 != 0)
         (some ((b false), []))
         (sel (t8 != 0)
          (some ((b false), []))
          (sel (t9 != 0)
           (some ((b false), []))
           (sel (t10 != (W (x.d * x.d)))
            (some ((b false), []))
            (sel (t12 == (W ((W (x.d * x.d)) * x.d)))
             (sel (g52 x)
              (some ((b (t13 == 1)), []))
              none)
             (some ((b false), []))))))))))))))) := by subst ht1; subst ht2; subst ht3; subst ht4; subst ht5; subst ht6; subst ht7; subst ht8; subst ht9; subst ht10; subst ht11; subst ht12; subst ht13; kernel_rfl
theorem m13 (c1 c2 c3 c4 c5 c6 c7 c8 c9 c10 c11 c12 c13 c14 : Bool) (x : Trn) (t13 : Int) : ((sel c1
 (some ((b false), []))
 (sel c2
  (some ((b false), []))
  (sel c3
   (some ((b false), []))
   (sel c4
    (some ((b false), []))
    (sel c5
     (some ((b false), []))
     (sel c6
      (some ((b false), []))
      (sel c7
       (some ((b false), []))
       (sel c8
        (some ((b false), []))
        (sel c9
         (some ((b false), []))
         (sel c10
          (some ((b false), []))
          (sel c11
           (some ((b false), []))
           (sel c12
            (some ((b false), []))
            (sel c13
             (sel c14
              (some ((b (t13 == 1)), []))
              none)
             (some ((b false), []))))))))))))))) : Option (AVal × List ABlk)) = (sel (c1 || (c2 || (c3 || (c4 || (c5 || (c6 || (c7 || (c8 || (c9 || (c10 || (c11 || (c12 || ((!c13) || c14))))))))))))) (some ((b ((!c1) && ((!c2) && ((!c3) && ((!c4) && ((!c5) && ((!c6) && ((!c7) && ((!c8) && ((!c9) && ((!c10) && ((!c11) && ((!c12) && (c13 && (t13 == 1))))))))))))))), [])) none) := by
 cases c1
 ·
  cases c2
  ·
   cases c3
   ·
    cases c4
    ·
     cases c5
     ·
      cases c6
      ·
       cases c7
       ·
        cases c8
        ·
         cases c9
         ·
          cases c10
          ·
           cases c11
           ·
            cases c12
            ·
             cases c13
             ·
              rfl
             ·
              cases c14
              ·
               rfl
              ·
               rfl
            ·
             rfl
           ·
            rfl
          ·
           rfl
         ·
          rfl
        ·
         rfl
       ·
        rfl
      ·
       rfl
     ·
      rfl
    ·
     rfl
   ·
    rfl
  ·
   rfl
 ·
  rfl
theorem k13 (x : Trn) (t1 : Bool) (ht1 : t1 = (p48 x)) (t2 : Int) (ht2 : t2 = (p49 x.m.r0 x.m.r0)) (t3 : Int) (ht3 : t3 = (p49 x.m.r0 x.m.r1)) (t4 : Int) (ht4 : t4 = (p49 x.m.r0 x.m.r2)) (t5 : Int) (ht5 : t5 = (p49 x.m.r1 x.m.r0)) (t6 : Int) (ht6 : t6 = (p49 x.m.r1 x.m.r1)) (t7 : Int) (ht7 : t7 = (p49 x.m.r1 x.m.r2)) (t8 : Int) (ht8 : t8 = (p49 x.m.r2 x.m.r0)) (t9 : Int) (ht9 : t9 = (p49 x.m.r2 x.m.r1)) (t10 : Int) (ht10 : t10 = (p49 x.m.r2 x.m.r2)) (t11 : V3) (ht11 : t11 = (p51 x.m.r0 x.m.r1)) (t12 : Int) (ht12 : t12 = (p49 t11 x.m.r2)) (t13 : Int) (ht13 : t13 = (p52 x)) : (DT.guard (g13 x) (.ret (b (p13 x), [])) : DT (AVal × List ABlk)).run = (sel ((decide (x.d < 1)) || ((decide (x.d > 25)) || ((!t1) || ((t2 != (W (x.d * x.d))) || ((t3 != 0) || ((t4 != 0) || ((t5 != 0) || ((t6 != (W (x.d * x.d))) || ((t7 != 0) || ((t8 != 0) || ((t9 != 0) || ((t10 != (W (x.d * x.d))) || ((!(t12 == (W ((W (x.d * x.d)) * x.d)))) || (g52 x)))))))))))))) (some ((b ((!(decide (x.d < 1))) && ((!(decide (x.d > 25))) && ((!(!t1)) && ((!(t2 != (W (x.d * x.d)))) && ((!(t3 != 0)) && ((!(t4 != 0)) && ((!(t5 != 0)) && ((!(t6 != (W (x.d * x.d)))) && ((!(t7 != 0)) && ((!(t8 != 0)) && ((!(t9 != 0)) && ((!(t10 != (W (x.d * x.d)))) && ((t12 == (W ((W (x.d * x.d)) * x.d))) && (t13 == 1))))))))))))))), [])) none) := by subst ht1; subst ht2; subst ht3; subst ht4; subst ht5; subst ht6; subst ht7; subst ht8; subst ht9; subst ht10; subst ht11; subst ht12; subst ht13; rw [run_grd]; kernel_rfl
theorem ok13 : FnOk Tryd.prog G 13 S13 := sum1_ok (b13 (E := En tb13) rfl (tdeps tbo13)) fun x r h => ((r13 x _ rfl _ rfl _ rfl _ rfl _ rfl _ rfl _ rfl _ rfl _ rfl _ rfl _ rfl _ rfl _ rfl).trans (m13 _ _ _ _ _ _ _ _ _ _ _ _ _ _ x _)).trans ((k13 x _ rfl _ rfl _ rfl _ rfl _ rfl _ rfl _ rfl _ rfl _ rfl _ rfl _ rfl _ rfl _ rfl).symm.trans h)
noncomputable def p56 (x : Frm) : Bool := let t1 := (p80 x.s); let t2 := (p12 x.t); (t1 && t2)
noncomputable def g56 (x : Frm) : Bool := let t1 := (p80 x.s); let t2 := (p12 x.t); ((!t1) || (g12 x.t))
noncomputable def tb56 : List (Nat × Sum) := [(80, S80), (12, S12)]
theorem tbo56 : TblOk Tryd.prog G tb56 := ⟨ok80, ok12, trivial⟩
noncomputable def S56 : Sum := sum1 cF (fun x => DT.guard (g56 x) (.ret (b (p56 x), [])))
theorem r56 (x : Frm) (t1 : Bool) (ht1 : t1 = (p80 x.s)) (t2 : Bool) (ht2 : t2 = (p12 x.t)) : (runFn (En tb56) pf56 [cF.enc x] []).run = (sel t1
 (sel (g12 x.t)
  (some ((b t2), []))
  none)
 (some ((b false), []))) := by subst ht1; subst ht2; kernel_rfl
theorem m56 (c1 c2 : Bool) (x : Frm) (t2 : Bool) : ((sel c1
 (sel c2
  (some ((b t2), []))
  none)
 (some ((b false), []))) : Option (AVal × List ABlk)) = (sel ((!c1) || c2) (some ((b (c1 && t2)), [])) none) := by
 cases c1
 ·
  rfl
 ·
  cases c2
  ·
   rfl
  ·
   rfl
theorem k56 (x : Frm) (t1 : Bool) (ht1 : t1 = (p80 x.s)) (t2 : Bool) (ht2 : t2 = (p12 x.t)) : (DT.guard (g56 x) (.ret (b (p56 x), [])) : DT (AVal × List ABlk)).run = (sel ((!t1) || (g12 x.t)) (some ((b (t1 && t2)), [])) none) := by subst ht1; subst ht2; rw [run_grd]; kernel_rfl
theorem ok56 : FnOk Tryd.prog G 56 S56 := sum1_ok (b56 (E := En tb56) rfl (tdeps tbo56)) fun x r h => ((r56 x _ rfl _ rfl).trans (m56 _ _ x _)).trans ((k56 x _ rfl _ rfl).symm.trans h)
noncomputable def p60 (x : Frm) : Bool := let t1 := (p13 x.t); let t2 := (p81 x.s); (t1 && t2)
noncomputable def g60 (x : Frm) : Bool := let t1 := (p13 x.t); let t2 := (p81 x.s); (g13 x.t)
noncomputable def tb60 : List (Nat × Sum) := [(13, S13), (81, S81)]
theorem tbo60 : TblOk Tryd.prog G tb60 := ⟨ok13, ok81, trivial⟩
noncomputable def S60 : Sum := sum1 cF (fun x => DT.guard (g60 x) (.ret (b (p60 x), [])))
theorem r60 (x : Frm) (t1 : Bool) (ht1 : t1 = (p13 x.t)) (t2 : Bool) (ht2 : t2 = (p81 x.s)) : (runFn (En tb60) pf60 [cF.enc x] []).run = (sel (g13 x.t)
 (sel t1
  (some ((b t2), []))
  (some ((b false), [])))
 none) := by subst ht1; subst ht2; kernel_rfl
theorem m60 (c1 c2 : Bool) (x : Frm) (t2 : Bool) : ((sel c1
 (sel c2
  (some ((b t2), []))
  (some ((b false), [])))
 none) : Option (AVal × List ABlk)) = (sel c1 (some ((b (c2 && t2)), [])) none) := by
 cases c1
 ·
  rfl
 ·
  cases c2
  ·
   rfl
  ·
   rfl
theorem k60 (x : Frm) (t1 : Bool) (ht1 : t1 = (p13 x.t)) (t2 : Bool) (ht2 : t2 = (p81 x.s)) : (DT.guard (g60 x) (.ret (b (p60 x), [])) : DT (AVal × List ABlk)).run = (sel (g13 x.t) (some ((b (t1 && t2)), [])) none) := by subst ht1; subst ht2; rw [run_grd]; kernel_rfl
theorem ok60 : FnOk Tryd.prog G 60 S60 := sum1_ok (b60 (E := En tb60) rfl (tdeps tbo60)) fun x r h => ((r60 x _ rfl _ rfl).trans (m60 _ _ x _)).trans ((k60 x _ rfl _ rfl).symm.trans h)
noncomputable def p59 (x : M3) (y : Int) (z : V3) : Frm × Bool := let t1 := (p56 (⟨(⟨x, y⟩ : Trn), z⟩ : Frm)); ((⟨(⟨(⟨(⟨(sel (!t1) 0 x.r0.x), (sel (!t1) 0 x.r0.y), (sel (!t1) 0 x.r0.z)⟩ : V3), (⟨(sel (!t1) 0 x.r1.x), (sel (!t1) 0 x.r1.y), (sel (!t1) 0 x.r1.z)⟩ : V3), (⟨(sel (!t1) 0 x.r2.x), (sel (!t1) 0 x.r2.y), (sel (!t1) 0 x.r2.z)⟩ : V3)⟩ : M3), (sel (!t1) 0 y)⟩ : Trn), (⟨(sel (!t1) 0 z.x), (sel (!t1) 0 z.y), (sel (!t1) 0 z.z)⟩ : V3)⟩ : Frm), (!(!t1)))
noncomputable def g59 (x : M3) (y : Int) (z : V3) : Bool := let t1 := (p56 (⟨(⟨x, y⟩ : Trn), z⟩ : Frm)); (g56 (⟨(⟨x, y⟩ : Trn), z⟩ : Frm))
noncomputable def tb59 : List (Nat × Sum) := [(56, S56)]
theorem tbo59 : TblOk Tryd.prog G tb59 := ⟨ok56, trivial⟩
noncomputable def S59 : Sum := sum3 cM cI cV (fun x y z => DT.guard (g59 x y z) (.ret (.tup [eF (p59 x y z).1, b (p59 x y z).2], [])))
theorem r59 (x : M3) (y : Int) (z : V3) (t1 : Bool) (ht1 : t1 = (p56 (⟨(⟨x, y⟩ : Trn), z⟩ : Frm))) : (runFn (En tb59) pf59 [cM.enc x, cI.enc y, cV.enc z] []).run = (sel (g56 (⟨(⟨x, y⟩ : Trn), z⟩ : Frm))
 (sel (!t1)
  (some ((.tup [(.agg [(i 0), (i 0), (i 0), (i 0), (i 0), (i 0), (i 0), (i 0), (i 0), (i 0), (i 0), (i 0), (i 0)]), (b false)]), []))
  (some ((.tup [(.agg [(i x.r0.x), (i x.r0.y), (i x.r0.z), (i x.r1.x), (i x.r1.y), (i x.r1.z), (i x.r2.x), (i x.r2.y), (i x.r2.z), (i y), (i z.x), (i z.y), (i z.z)]), (b true)]), [])))
 none) := by subst ht1; kernel_rfl
theorem m59 (c1 c2 : Bool) (x : M3) (y : Int) (z : V3)  : ((sel c1
 (sel c2
  (some ((.tup [(.agg [(i 0), (i 0), (i 0), (i 0), (i 0), (i 0), (i 0), (i 0), (i 0), (i 0), (i 0), (i 0), (i 0)]), (b false)]), []))
  (some ((.tup [(.agg [(i x.r0.x), (i x.r0.y), (i x.r0.z), (i x.r1.x), (i x.r1.y), (i x.r1.z), (i x.r2.x), (i x.r2.y), (i x.r2.z), (i y), (i z.x), (i z.y), (i z.z)]), (b true)]), [])))
 none) : Option (AVal × List ABlk)) = (sel c1 (some ((.tup [(.agg [(i (sel c2 0 x.r0.x)), (i (sel c2 0 x.r0.y)), (i (sel c2 0 x.r0.z)), (i (sel c2 0 x.r1.x)), (i (sel c2 0 x.r1.y)), (i (sel c2 0 x.r1.z)), (i (sel c2 0 x.r2.x)), (i (sel c2 0 x.r2.y)), (i (sel c2 0 x.r2.z)), (i (sel c2 0 y)), (i (sel c2 0 z.x)), (i (sel c2 0 z.y)), (i (sel c2 0 z.z))]), (b (!c2))]), [])) none) := by
 cases c1
 ·
  rfl
 ·
  cases c2
  ·
   rfl
  ·
   rfl
theorem k59 (x : M3) (y : Int) (z : V3) (t1 : Bool) (ht1 : t1 = (p56 (⟨(⟨x, y⟩ : Trn), z⟩ : Frm))) : (DT.guard (g59 x y z) (.ret (.tup [eF (p59 x y z).1, b (p59 x y z).2], [])) : DT (AVal × List ABlk)).run = (sel (g56 (⟨(⟨x, y⟩ : Trn), z⟩ : Frm)) (some ((.tup [(.agg [(i (sel (!t1) 0 x.r0.x)), (i (sel (!t1) 0 x.r0.y)), (i (sel (!t1) 0 x.r0.z)), (i (sel (!t1) 0 x.r1.x)), (i (sel (!t1) 0 x.r1.y)), (i (sel (!t1) 0 x.r1.z)), (i (sel (!t1) 0 x.r2.x)), (i (sel (!t1) 0 x.r2.y)), (i (sel (!t1) 0 x.r2.z)), (i (sel (!t1) 0 y)), (i (sel (!t1) 0 z.x)), (i (sel (!t1) 0 z.y)), (i (sel (!t1) 0 z.z))]), (b (!(!t1)))]), [])) none) := by subst ht1; rw [run_grd]; kernel_rfl
theorem ok59 : FnOk Tryd.prog G 59 S59 := sum3_ok (b59 (E := En tb59) rfl (tdeps tbo59)) fun x y z r h => ((r59 x y z _ rfl).trans (m59 _ _ x y z )).trans ((k59 x y z _ rfl).symm.trans h)
noncomputable def p18 (x : Frm) : Frm × Bool := let t1 := (p56 x); let t2 := (p45 x.t.m); let t3 := (p58 t2 x.s); let t4 := (p57 t3 x.t.d); let t5 := (p53 (⟨0, 0, 0⟩ : V3) t4.1); let t6 := (p59 t2 x.t.d t5); ((⟨(⟨(⟨(⟨(sel (!t1) 0 (sel (!t4.2) 0 t6.1.t.m.r0.x)), (sel (!t1) 0 (sel (!t4.2) 0 t6.1.t.m.r0.y)), (sel (!t1) 0 (sel (!t4.2) 0 t6.1.t.m.r0.z))⟩ : V3), (⟨(sel (!t1) 0 (sel (!t4.2) 0 t6.1.t.m.r1.x)), (sel (!t1) 0 (sel (!t4.2) 0 t6.1.t.m.r1.y)), (sel (!t1) 0 (sel (!t4.2) 0 t6.1.t.m.r1.z))⟩ : V3), (⟨(sel (!t1) 0 (sel (!t4.2) 0 t6.1.t.m.r2.x)), (sel (!t1) 0 (sel (!t4.2) 0 t6.1.t.m.r2.y)), (sel (!t1) 0 (sel (!t4.2) 0 t6.1.t.m.r2.z))⟩ : V3)⟩ : M3), (sel (!t1) 0 (sel (!t4.2) 0 t6.1.t.d))⟩ : Trn), (⟨(sel (!t1) 0 (sel (!t4.2) 0 t6.1.s.x)), (sel (!t1) 0 (sel (!t4.2) 0 t6.1.s.y)), (sel (!t1) 0 (sel (!t4.2) 0 t6.1.s.z))⟩ : V3)⟩ : Frm), ((!(!t1)) && ((!(!t4.2)) && t6.2)))
noncomputable def g18 (x : Frm) : Bool := let t1 := (p56 x); let t2 := (p45 x.t.m); let t3 := (p58 t2 x.s); let t4 := (p57 t3 x.t.d); let t5 := (p53 (⟨0, 0, 0⟩ : V3) t4.1); let t6 := (p59 t2 x.t.d t5); ((g56 x) && ((!t1) || ((g57 t3 x.t.d) && ((!t4.2) || (g59 t2 x.t.d t5)))))
noncomputable def tb18 : List (Nat × Sum) := [(56, S56), (45, S45), (58, S58), (57, S57), (53, S53), (59, S59)]
theorem tbo18 : TblOk Tryd.prog G tb18 := ⟨ok56, ok45, ok58, ok57, ok53, ok59, trivial⟩
noncomputable def S18 : Sum := sum1 cF (fun x => DT.guard (g18 x) (.ret (.tup [eF (p18 x).1, b (p18 x).2], [])))
theorem r18 (x : Frm) (t1 : Bool) (ht1 : t1 = (p56 x)) (t2 : M3) (ht2 : t2 = (p45 x.t.m)) (t3 : V3) (ht3 : t3 = (p58 t2 x.s)) (t4 : V3 × Bool) (ht4 : t4 = (p57 t3 x.t.d)) (t5 : V3) (ht5 : t5 = (p53 (⟨0, 0, 0⟩ : V3) t4.1)) (t6 : Frm × Bool) (ht6 : t6 = (p59 t2 x.t.d t5)) : (runFn (En tb18) pf18 [cF.enc x] []).run = (sel (g56 x)
 (sel (!t1)
  (some ((.tup [(.agg [(i 0), (i 0), (i 0), (i 0), (i 0), (i 0), (i 0), (i 0), (i 0), (i 0), (i 0), (i 0), (i 0)]), (b false)]), []))
  (sel (g57 t3 x.t.d)
   (sel (!t4.2)
    (some ((.tup [(.agg [(i 0), (i 0), (i 0), (i 0), (i 0), (i 0), (i 0), (i 0), (i 0), (i 0), (i 0), (i 0), (i 0)]), (b false)]), []))
    (sel (g59 t2 x.t.d t5)
     (some ((.tup [(.agg [(i t6.1.t.m.r0.x), (i t6.1.t.m.r0.y), (i t6.1.t.m.r0.z), (i t6.1.t.m.r1.x), (i t6.1.t.m.r1.y), (i t6.1.t.m.r1.z), (i t6.1.t.m.r2.x), (i t6.1.t.m.r2.y), (i t6.1.t.m.r2.z), (i t6.1.t.d), (i t6.1.s.x), (i t6.1.s.y), (i t6.1.s.z)]), (b t6.2)]), []))
     none))
   none))
 none) := by subst ht1; subst ht2; subst ht3; subst ht4; subst ht5; subst ht6; kernel_rfl
theorem m18 (c1 c2 c3 c4 c5 : Bool) (x : Frm) (t6 : Frm × Bool) : ((sel c1
 (sel c2
  (some ((.tup [(.agg [(i 0), (i 0), (i 0), (i 0), (i 0), (i 0), (i 0), (i 0), (i 0), (i 0), (i 0), (i 0), (i 0)]), (b false)]), []))
  (sel c3
   (sel c4
    (some ((.tup [(.agg [(i 0), (i 0), (i 0), (i 0), (i 0), (i 0), (i 0), (i 0), (i 0), (i 0), (i 0), (i 0), (i 0)]), (b false)]), []))
    (sel c5
     (some ((.tup [(.agg [(i t6.1.t.m.r0.x), (i t6.1.t.m.r0.y), (i t6.1.t.m.r0.z), (i t6.1.t.m.r1.x), (i t6.1.t.m.r1.y), (i t6.1.t.m.r1.z), (i t6.1.t.m.r2.x), (i t6.1.t.m.r2.y), (i t6.1.t.m.r2.z), (i t6.1.t.d), (i t6.1.s.x), (i t6.1.s.y), (i t6.1.s.z)]), (b t6.2)]), []))
     none))
   none))
 none) : Option (AVal × List ABlk)) = (sel (c1 && (c2 || (c3 && (c4 || c5)))) (some ((.tup [(.agg [(i (sel c2 0 (sel c4 0 t6.1.t.m.r0.x))), (i (sel c2 0 (sel c4 0 t6.1.t.m.r0.y))), (i (sel c2 0 (sel c4 0 t6.1.t.m.r0.z))), (i (sel c2 0 (sel c4 0 t6.1.t.m.r1.x))), (i (sel c2 0 (sel c4 0 t6.1.t.m.r1.y))), (i (sel c2 0 (sel c4 0 t6.1.t.m.r1.z))), (i (sel c2 0 (sel c4 0 t6.1.t.m.r2.x))), (i (sel c2 0 (sel c4 0 t6.1.t.m.r2.y))), (i (sel c2 0 (sel c4 0 t6.1.t.m.r2.z))), (i (sel c2 0 (sel c4 0 t6.1.t.d))), (i (sel c2 0 (sel c4 0 t6.1.s.x))), (i (sel c2 0 (sel c4 0 t6.1.s.y))), (i (sel c2 0 (sel c4 0 t6.1.s.z)))]), (b ((!c2) && ((!c4) && t6.2)))]), [])) none) := by
 cases c1
 ·
  rfl
 ·
  cases c2
  ·
   cases c3
   ·
    rfl
   ·
    cases c4
    ·
     cases c5
     ·
      rfl
     ·
      rfl
    ·
     rfl
  ·
   rfl
theorem k18 (x : Frm) (t1 : Bool) (ht1 : t1 = (p56 x)) (t2 : M3) (ht2 : t2 = (p45 x.t.m)) (t3 : V3) (ht3 : t3 = (p58 t2 x.s)) (t4 : V3 × Bool) (ht4 : t4 = (p57 t3 x.t.d)) (t5 : V3) (ht5 : t5 = (p53 (⟨0, 0, 0⟩ : V3) t4.1)) (t6 : Frm × Bool) (ht6 : t6 = (p59 t2 x.t.d t5)) : (DT.guard (g18 x) (.ret (.tup [eF (p18 x).1, b (p18 x).2], [])) : DT (AVal × List ABlk)).run = (sel ((g56 x) && ((!t1) || ((g57 t3 x.t.d) && ((!t4.2) || (g59 t2 x.t.d t5))))) (some ((.tup [(.agg [(i (sel (!t1) 0 (sel (!t4.2) 0 t6.1.t.m.r0.x))), (i (sel (!t1) 0 (sel (!t4.2) 0 t6.1.t.m.r0.y))), (i (sel (!t1) 0 (sel (!t4.2) 0 t6.1.t.m.r0.z))), (i (sel (!t1) 0 (sel (!t4.2) 0 t6.1.t.m.r1.x))), (i (sel (!t1) 0 (sel (!t4.2) 0 t6.1.t.m.r1.y))), (i (sel (!t1) 0 (sel (!t4.2) 0 t6.1.t.m.r1.z))), (i (sel (!t1) 0 (sel (!t4.2) 0 t6.1.t.m.r2.x))), (i (sel (!t1) 0 (sel (!t4.2) 0 t6.1.t.m.r2.y))), (i (sel (!t1) 0 (sel (!t4.2) 0 t6.1.t.m.r2.z))), (i (sel (!t1) 0 (sel (!t4.2) 0 t6.1.t.d))), (i (sel (!t1) 0 (sel (!t4.2) 0 t6.1.s.x))), (i (sel (!t1) 0 (sel (!t4.2) 0 t6.1.s.y))), (i (sel (!t1) 0 (sel (!t4.2) 0 t6.1.s.z)))]), (b ((!(!t1)) && ((!(!t4.2)) && t6.2)))]), [])) none) := by subst ht1; subst ht2; subst ht3; subst ht4; subst ht5; subst ht6; rw [run_grd]; kernel_rfl
theorem ok18 : FnOk Tryd.prog G 18 S18 := sum1_ok (b18 (E := En tb18) rfl (tdeps tbo18)) fun x r h => ((r18 x _ rfl _ rfl _ rfl _ rfl _ rfl _ rfl).trans (m18 _ _ _ _ _ x _)).trans ((k18 x _ rfl _ rfl _ rfl _ rfl _ rfl _ rfl).symm.trans h)
noncomputable def p19 (x : Frm) : Frm × Bool := let t1 := (p60 x); let t2 := (p61 x.t.m); let t3 := (p63 t2 x.s); let t4 := (p62 t3 x.t.d); let t5 := (p64 (⟨0, 0, 0⟩ : V3) t4.1); let t6 := (p60 (⟨(⟨t2, x.t.d⟩ : Trn), t5⟩ : Frm)); ((⟨(⟨(⟨(⟨(sel (!t1) 0 (sel (!t4.2) 0 (sel (!t6) 0 t2.r0.x))), (sel (!t1) 0 (sel (!t4.2) 0 (sel (!t6) 0 t2.r0.y))), (sel (!t1) 0 (sel (!t4.2) 0 (sel (!t6) 0 t2.r0.z)))⟩ : V3), (⟨(sel (!t1) 0 (sel (!t4.2) 0 (sel (!t6) 0 t2.r1.x))), (sel (!t1) 0 (sel (!t4.2) 0 (sel (!t6) 0 t2.r1.y))), (sel (!t1) 0 (sel (!t4.2) 0 (sel (!t6) 0 t2.r1.z)))⟩ : V3), (⟨(sel (!t1) 0 (sel (!t4.2) 0 (sel (!t6) 0 t2.r2.x))), (sel (!t1) 0 (sel (!t4.2) 0 (sel (!t6) 0 t2.r2.y))), (sel (!t1) 0 (sel (!t4.2) 0 (sel (!t6) 0 t2.r2.z)))⟩ : V3)⟩ : M3), (sel (!t1) 0 (sel (!t4.2) 0 (sel (!t6) 0 x.t.d)))⟩ : Trn), (⟨(sel (!t1) 0 (sel (!t4.2) 0 (sel (!t6) 0 t5.x))), (sel (!t1) 0 (sel (!t4.2) 0 (sel (!t6) 0 t5.y))), (sel (!t1) 0 (sel (!t4.2) 0 (sel (!t6) 0 t5.z)))⟩ : V3)⟩ : Frm), ((!(!t1)) && ((!(!t4.2)) && (!(!t6)))))
noncomputable def g19 (x : Frm) : Bool := let t1 := (p60 x); let t2 := (p61 x.t.m); let t3 := (p63 t2 x.s); let t4 := (p62 t3 x.t.d); let t5 := (p64 (⟨0, 0, 0⟩ : V3) t4.1); let t6 := (p60 (⟨(⟨t2, x.t.d⟩ : Trn), t5⟩ : Frm)); ((g60 x) && ((!t1) || ((g62 t3 x.t.d) && ((!t4.2) || (g60 (⟨(⟨t2, x.t.d⟩ : Trn), t5⟩ : Frm))))))
noncomputable def tb19 : List (Nat × Sum) := [(60, S60), (61, S61), (63, S63), (62, S62), (64, S64)]
theorem tbo19 : TblOk Tryd.prog G tb19 := ⟨ok60, ok61, ok63, ok62, ok64, trivial⟩
noncomputable def S19 : Sum := sum1 cF (fun x => DT.guard (g19 x) (.ret (.tup [eF (p19 x).1, b (p19 x).2], [])))
theorem r19 (x : Frm) (t1 : Bool) (ht1 : t1 = (p60 x)) (t2 : M3) (ht2 : t2 = (p61 x.t.m)) (t3 : V3) (ht3 : t3 = (p63 t2 x.s)) (t4 : V3 × Bool) (ht4 : t4 = (p62 t3 x.t.d)) (t5 : V3) (ht5 : t5 = (p64 (⟨0, 0, 0⟩ : V3) t4.1)) (t6 : Bool) (ht6 : t6 = (p60 (⟨(⟨t2, x.t.d⟩ : Trn), t5⟩ : Frm))) : (runFn (En tb19) pf19 [cF.enc x] []).run = (sel (g60 x)
 (sel (!t1)
  (some ((.tup [(.agg [(i 0), (i 0), (i 0), (i 0), (i 0), (i 0), (i 0), (i 0), (i 0), (i 0), (i 0), (i 0), (i 0)]), (b false)]), []))
  (sel (g62 t3 x.t.d)
   (sel (!t4.2)
    (some ((.tup [(.agg [(i 0), (i 0), (i 0), (i 0), (i 0), (i 0), (i 0), (i 0), (i 0), (i 0), (i 0), (i 0), (i 0)]), (b false)]), []))
    (sel (g60 (⟨(⟨t2, x.t.d⟩ : Trn), t5⟩ : Frm))
     (sel (!t6)
      (some ((.tup [(.agg [(i 0), (i 0), (i 0), (i 0), (i 0), (i 0), (i 0), (i 0), (i 0), (i 0), (i 0), (i 0), (i 0)]), (b false)]), []))
      (some ((.tup [(.agg [(i t2.r0.x), (i t2.r0.y), (i t2.r0.z), (i t2.r1.x), (i t2.r1.y), (i t2.r1.z), (i t2.r2.x), (i t2.r2.y), (i t2.r2.z), (i x.t.d), (i t5.x), (i t5.y), (i t5.z)]), (b true)]), [])))
     none))
   none))
 none) := by subst ht1; subst ht2; subst ht3; subst ht4; subst ht5; subst ht6; kernel_rfl
theorem m19 (c1 c2 c3 c4 c5 c6 : Bool) (x : Frm) (t2 : M3) (t5 : V3) : ((sel c1
 (sel c2
  (some ((.tup [(.agg [(i 0), (i 0), (i 0), (i 0), (i 0), (i 0), (i 0), (i 0), (i 0), (i 0), (i 0), (i 0), (i 0)]), (b false)]), []))
  (sel c3
   (sel c4
    (some ((.tup [(.agg [(i 0), (i 0), (i 0), (i 0), (i 0), (i 0), (i 0), (i 0), (i 0), (i 0), (i 0), (i 0), (i 0)]), (b false)]), []))
    (sel c5
     (sel c6
      (some ((.tup [(.agg [(i 0), (i 0), (i 0), (i 0), (i 0), (i 0), (i 0), (i 0), (i 0), (i 0), (i 0), (i 0), (i 0)]), (b false)]), []))
      (some ((.tup [(.agg [(i t2.r0.x), (i t2.r0.y), (i t2.r0.z), (i t2.r1.x), (i t2.r1.y), (i t2.r1.z), (i t2.r2.x), (i t2.r2.y), (i t2.r2.z), (i x.t.d), (i t5.x), (i t5.y), (i t5.z)]), (b true)]), [])))
     none))
   none))
 none) : Option (AVal × List ABlk)) = (sel (c1 && (c2 || (c3 && (c4 || c5)))) (some ((.tup [(.agg [(i (sel c2 0 (sel c4 0 (sel c6 0 t2.r0.x)))), (i (sel c2 0 (sel c4 0 (sel c6 0 t2.r0.y)))), (i (sel c2 0 (sel c4 0 (sel c6 0 t2.r0.z)))), (i (sel c2 0 (sel c4 0 (sel c6 0 t2.r1.x)))), (i (sel c2 0 (sel c4 0 (sel c6 0 t2.r1.y)))), (i (sel c2 0 (sel c4 0 (sel c6 0 t2.r1.z)))), (i (sel c2 0 (sel c4 0 (sel c6 0 t2.r2.x)))), (i (sel c2 0 (sel c4 0 (sel c6 0 t2.r2.y)))), (i (sel c2 0 (sel c4 0 (sel c6 0 t2.r2.z)))), (i (sel c2 0 (sel c4 0 (sel c6 0 x.t.d)))), (i (sel c2 0 (sel c4 0 (sel c6 0 t5.x)))), (i (sel c2 0 (sel c4 0 (sel c6 0 t5.y)))), (i (sel c2 0 (sel c4 0 (sel c6 0 t5.z))))]), (b ((!c2) && ((!c4) && (!c6))))]), [])) none) := by
 cases c1
 ·
  rfl
 ·
  cases c2
  ·
   cases c3
   ·
    rfl
   ·
    cases c4
    ·
     cases c5
     ·
      rfl
     ·
      cases c6
      ·
       rfl
      ·
       rfl
    ·
     rfl
  ·
   rfl
theorem k19 (x : Frm) (t1 : Bool) (ht1 : t1 = (p60 x)) (t2 : M3) (ht2 : t2 = (p61 x.t.m)) (t3 : V3) (ht3 : t3 = (p63 t2 x.s)) (t4 : V3 × Bool) (ht4 : t4 = (p62 t3 x.t.d)) (t5 : V3) (ht5 : t5 = (p64 (⟨0, 0, 0⟩ : V3) t4.1)) (t6 : Bool) (ht6 : t6 = (p60 (⟨(⟨t2, x.t.d⟩ : Trn), t5⟩ : Frm))) : (DT.guard (g19 x) (.ret (.tup [eF (p19 x).1, b (p19 x).2], [])) : DT (AVal × List ABlk)).run = (sel ((g60 x) && ((!t1) || ((g62 t3 x.t.d) && ((!t4.2) || (g60 (⟨(⟨t2, x.t.d⟩ : Trn), t5⟩ : Frm)))))) (some ((.tup [(.agg [(i (sel (!t1) 0 (sel (!t4.2) 0 (sel (!t6) 0 t2.r0.x)))), (i (sel (!t1) 0 (sel (!t4.2) 0 (sel (!t6) 0 t2.r0.y)))), (i (sel (!t1) 0 (sel (!t4.2) 0 (sel (!t6) 0 t2.r0.z)))), (i (sel (!t1) 0 (sel (!t4.2) 0 (sel (!t6) 0 t2.r1.x)))), (i (sel (!t1) 0 (sel (!t4.2) 0 (sel (!t6) 0 t2.r1.y)))), (i (sel (!t1) 0 (sel (!t4.2) 0 (sel (!t6) 0 t2.r1.z)))), (i (sel (!t1) 0 (sel (!t4.2) 0 (sel (!t6) 0 t2.r2.x)))), (i (sel (!t1) 0 (sel (!t4.2) 0 (sel (!t6) 0 t2.r2.y)))), (i (sel (!t1) 0 (sel (!t4.2) 0 (sel (!t6) 0 t2.r2.z)))), (i (sel (!t1) 0 (sel (!t4.2) 0 (sel (!t6) 0 x.t.d)))), (i (sel (!t1) 0 (sel (!t4.2) 0 (sel (!t6) 0 t5.x)))), (i (sel (!t1) 0 (sel (!t4.2) 0 (sel (!t6) 0 t5.y)))), (i (sel (!t1) 0 (sel (!t4.2) 0 (sel (!t6) 0 t5.z))))]), (b ((!(!t1)) && ((!(!t4.2)) && (!(!t6)))))]), [])) none) := by subst ht1; subst ht2; subst ht3; subst ht4; subst ht5; subst ht6; rw [run_grd]; kernel_rfl
theorem ok19 : FnOk Tryd.prog G 19 S19 := sum1_ok (b19 (E := En tb19) rfl (tdeps tbo19)) fun x r h => ((r19 x _ rfl _ rfl _ rfl _ rfl _ rfl _ rfl).trans (m19 _ _ _ _ _ _ x _ _)).trans ((k19 x _ rfl _ rfl _ rfl _ rfl _ rfl _ rfl).symm.trans h)
noncomputable def p22 (x : Frm) (y : V3) : V3 × Bool := let t1 := (p56 x); let t2 := (p68 y); let t3 := (p58 x.t.m y); let t4 := (p57 t3 x.t.d); let t5 := (p65 t4.1 x.s); let t6 := (p68 t5); ((⟨(sel (!t1) 0 (sel (!t2) 0 (sel (!t4.2) 0 (sel (!t6) 0 t5.x)))), (sel (!t1) 0 (sel (!t2) 0 (sel (!t4.2) 0 (sel (!t6) 0 t5.y)))), (sel (!t1) 0 (sel (!t2) 0 (sel (!t4.2) 0 (sel (!t6) 0 t5.z))))⟩ : V3), ((!(!t1)) && ((!(!t2)) && ((!(!t4.2)) && (!(!t6))))))
noncomputable def g22 (x : Frm) (y : V3) : Bool := let t1 := (p56 x); let t2 := (p68 y); let t3 := (p58 x.t.m y); let t4 := (p57 t3 x.t.d); let t5 := (p65 t4.1 x.s); let t6 := (p68 t5); ((g56 x) && ((!t1) || ((!t2) || (g57 t3 x.t.d))))
noncomputable def tb22 : List (Nat × Sum) := [(56, S56), (68, S68), (58, S58), (57, S57), (65, S65)]
theorem tbo22 : TblOk Tryd.prog G tb22 := ⟨ok56, ok68, ok58, ok57, ok65, trivial⟩
noncomputable def S22 : Sum := sum2 cF cV (fun x y => DT.guard (g22 x y) (.ret (.tup [eV (p22 x y).1, b (p22 x y).2], [])))
theorem r22 (x : Frm) (y : V3) (t1 : Bool) (ht1 : t1 = (p56 x)) (t2 : Bool) (ht2 : t2 = (p68 y)) (t3 : V3) (ht3 : t3 = (p58 x.t.m y)) (t4 : V3 × Bool) (ht4 : t4 = (p57 t3 x.t.d)) (t5 : V3) (ht5 : t5 = (p65 t4.1 x.s)) (t6 : Bool) (ht6 : t6 = (p68 t5)) : (runFn (En tb22) pf22 [cF.enc x, cV.enc y] []).run = (sel (g56 x)
 (sel (!t1)
  (some ((.tup [(.agg [(i 0), (i 0), (i 0)]), (b false)]), []))
  (sel (!t2)
   (some ((.tup [(.agg [(i 0), (i 0), (i 0)]), (b false)]), []))
   (sel (g57 t3 x.t.d)
    (sel (!t4.2)
     (some ((.tup [(.agg [(i 0), (i 0), (i 0)]), (b false)]), []))
     (sel (!t6)
      (some ((.tup [(.agg [(i 0), (i 0), (i 0)]), (b false)]), []))
      (some ((.tup [(.agg [(i t5.x), (i t5.y), (i t5.z)]), (b true)]), []))))
    none)))
 none) := by subst ht1; subst ht2; subst ht3; subst ht4; subst ht5; subst ht6; kernel_rfl
theorem m22 (c1 c2 c3 c4 c5 c6 : Bool) (x : Frm) (y : V3) (t5 : V3) : ((sel c1
 (sel c2
  (some ((.tup [(.agg [(i 0), (i 0), (i 0)]), (b false)]), []))
  (sel c3
   (some ((.tup [(.agg [(i 0), (i 0), (i 0)]), (b false)]), []))
   (sel c4
    (sel c5
     (some ((.tup [(.agg [(i 0), (i 0), (i 0)]), (b false)]), []))
     (sel c6
      (some ((.tup [(.agg [(i 0), (i 0), (i 0)]), (b false)]), []))
      (some ((.tup [(.agg [(i t5.x), (i t5.y), (i t5.z)]), (b true)]), []))))
    none)))
 none) : Option (AVal × List ABlk)) = (sel (c1 && (c2 || (c3 || c4))) (some ((.tup [(.agg [(i (sel c2 0 (sel c3 0 (sel c5 0 (sel c6 0 t5.x))))), (i (sel c2 0 (sel c3 0 (sel c5 0 (sel c6 0 t5.y))))), (i (sel c2 0 (sel c3 0 (sel c5 0 (sel c6 0 t5.z)))))]), (b ((!c2) && ((!c3) && ((!c5) && (!c6)))))]), [])) none) := by
 cases c1
 ·
  rfl
 ·
  cases c2
  ·
   cases c3
   ·
    cases c4
    ·
     rfl
    ·
     cases c5
     ·
      cases c6
      ·
       rfl
      ·
       rfl
     ·
      rfl
   ·
    rfl
  ·
   rfl
theorem k22 (x : Frm) (y : V3) (t1 : Bool) (ht1 : t1 = (p56 x)) (t2 : Bool) (ht2 : t2 = (p68 y)) (t3 : V3) (ht3 : t3 = (p58 x.t.m y)) (t4 : V3 × Bool) (ht4 : t4 = (p57 t3 x.t.d)) (t5 : V3) (ht5 : t5 = (p65 t4.1 x.s)) (t6 : Bool) (ht6 : t6 = (p68 t5)) : (DT.guard (g22 x y) (.ret (.tup [eV (p22 x y).1, b (p22 x y).2], [])) : DT (AVal × List ABlk)).run = (sel ((g56 x) && ((!t1) || ((!t2) || (g57 t3 x.t.d)))) (some ((.tup [(.agg [(i (sel (!t1) 0 (sel (!t2) 0 (sel (!t4.2) 0 (sel (!t6) 0 t5.x))))), (i (sel (!t1) 0 (sel (!t2) 0 (sel (!t4.2) 0 (sel (!t6) 0 t5.y))))), (i (sel (!t1) 0 (sel (!t2) 0 (sel (!t4.2) 0 (sel (!t6) 0 t5.z)))))]), (b ((!(!t1)) && ((!(!t2)) && ((!(!t4.2)) && (!(!t6))))))]), [])) none) := by subst ht1; subst ht2; subst ht3; subst ht4; subst ht5; subst ht6; rw [run_grd]; kernel_rfl
theorem ok22 : FnOk Tryd.prog G 22 S22 := sum2_ok (b22 (E := En tb22) rfl (tdeps tbo22)) fun x y r h => ((r22 x y _ rfl _ rfl _ rfl _ rfl _ rfl _ rfl).trans (m22 _ _ _ _ _ _ x y _)).trans ((k22 x y _ rfl _ rfl _ rfl _ rfl _ rfl _ rfl).symm.trans h)
noncomputable def p27 (x : Frm) (y : V3) : V3 × Bool := let t1 := (p60 x); let t2 := (p70 y); let t3 := (p63 x.t.m y); let t4 := (p62 t3 x.t.d); let t5 := (p67 t4.1 x.s); let t6 := (p70 t5); ((⟨(sel (!t1) 0 (sel (!t2) 0 (sel (!t4.2) 0 (sel (!t6) 0 t5.x)))), (sel (!t1) 0 (sel (!t2) 0 (sel (!t4.2) 0 (sel (!t6) 0 t5.y)))), (sel (!t1) 0 (sel (!t2) 0 (sel (!t4.2) 0 (sel (!t6) 0 t5.z))))⟩ : V3), ((!(!t1)) && ((!(!t2)) && ((!(!t4.2)) && (!(!t6))))))
noncomputable def g27 (x : Frm) (y : V3) : Bool := let t1 := (p60 x); let t2 := (p70 y); let t3 := (p63 x.t.m y); let t4 := (p62 t3 x.t.d); let t5 := (p67 t4.1 x.s); let t6 := (p70 t5); ((g60 x) && ((!t1) || ((!t2) || (g62 t3 x.t.d))))
noncomputable def tb27 : List (Nat × Sum) := [(60, S60), (70, S70), (63, S63), (62, S62), (67, S67)]
theorem tbo27 : TblOk Tryd.prog G tb27 := ⟨ok60, ok70, ok63, ok62, ok67, trivial⟩
noncomputable def S27 : Sum := sum2 cF cV (fun x y => DT.guard (g27 x y) (.ret (.tup [eV (p27 x y).1, b (p27 x y).2], [])))
theorem r27 (x : Frm) (y : V3) (t1 : Bool) (ht1 : t1 = (p60 x)) (t2 : Bool) (ht2 : t2 = (p70 y)) (t3 : V3) (ht3 : t3 = (p63 x.t.m y)) (t4 : V3 × Bool) (ht4 : t4 = (p62 t3 x.t.d)) (t5 : V3) (ht5 : t5 = (p67 t4.1 x.s)) (t6 : Bool) (ht6 : t6 = (p70 t5)) : (runFn (En tb27) pf27 [cF.enc x, cV.enc y] []).run = (sel (g60 x)
 (sel (!t1)
  (some ((.tup [(.agg [(i 0), (i 0), (i 0)]), (b false)]), []))
  (sel (!t2)
   (some ((.tup [(.agg [(i 0), (i 0), (i 0)]), (b false)]), []))
   (sel (g62 t3 x.t.d)
    (sel (!t4.2)
     (some ((.tup [(.agg [(i 0), (i 0), (i 0)]), (b false)]), []))
     (sel (!t6)
      (some ((.tup [(.agg [(i 0), (i 0), (i 0)]), (b false)]), []))
      (some ((.tup [(.agg [(i t5.x), (i t5.y), (i t5.z)]), (b true)]), []))))
    none)))
 none) := by subst ht1; subst ht2; subst ht3; subst ht4; subst ht5; subst ht6; kernel_rfl
theorem m27 (c1 c2 c3 c4 c5 c6 : Bool) (x : Frm) (y : V3) (t5 : V3) : ((sel c1
 (sel c2
  (some ((.tup [(.agg [(i 0), (i 0), (i 0)]), (b false)]), []))
  (sel c3
   (some ((.tup [(.agg [(i 0), (i 0), (i 0)]), (b false)]), []))
   (sel c4
    (sel c5
     (some ((.tup [(.agg [(i 0), (i 0), (i 0)]), (b false)]), []))
     (sel c6
      (some ((.tup [(.agg [(i 0), (i 0), (i 0)]), (b false)]), []))
      (some ((.tup [(.agg [(i t5.x), (i t5.y), (i t5.z)]), (b true)]), []))))
    none)))
 none) : Option (AVal × List ABlk)) = (sel (c1 && (c2 || (c3 || c4))) (some ((.tup [(.agg [(i (sel c2 0 (sel c3 0 (sel c5 0 (sel c6 0 t5.x))))), (i (sel c2 0 (sel c3 0 (sel c5 0 (sel c6 0 t5.y))))), (i (sel c2 0 (sel c3 0 (sel c5 0 (sel c6 0 t5.z)))))]), (b ((!c2) && ((!c3) && ((!c5) && (!c6)))))]), [])) none) := by
 cases c1
 ·
  rfl
 ·
  cases c2
  ·
   cases c3
   ·
    cases c4
    ·
     rfl
    ·
     cases c5
     ·
      cases c6
      ·
       rfl
      ·
       rfl
     ·
      rfl
   ·
    rfl
  ·
   rfl
theorem k27 (x : Frm) (y : V3) (t1 : Bool) (ht1 : t1 = (p60 x)) (t2 : Bool) (ht2 : t2 = (p70 y)) (t3 : V3) (ht3 : t3 = (p63 x.t.m y)) (t4 : V3 × Bool) (ht4 : t4 = (p62 t3 x.t.d)) (t5 : V3) (ht5 : t5 = (p67 t4.1 x.s)) (t6 : Bool) (ht6 : t6 = (p70 t5)) : (DT.guard (g27 x y) (.ret (.tup [eV (p27 x y).1, b (p27 x y).2], [])) : DT (AVal × List ABlk)).run = (sel ((g60 x) && ((!t1) || ((!t2) || (g62 t3 x.t.d)))) (some ((.tup [(.agg [(i (sel (!t1) 0 (sel (!t2) 0 (sel (!t4.2) 0 (sel (!t6) 0 t5.x))))), (i (sel (!t1) 0 (sel (!t2) 0 (sel (!t4.2) 0 (sel (!t6) 0 t5.y))))), (i (sel (!t1) 0 (sel (!t2) 0 (sel (!t4.2) 0 (sel (!t6) 0 t5.z)))))]), (b ((!(!t1)) && ((!(!t2)) && ((!(!t4.2)) && (!(!t6))))))]), [])) none) := by subst ht1; subst ht2; subst ht3; subst ht4; subst ht5; subst ht6; rw [run_grd]; kernel_rfl
theorem ok27 : FnOk Tryd.prog G 27 S27 := sum2_ok (b27 (E := En tb27) rfl (tdeps tbo27)) fun x y r h => ((r27 x y _ rfl _ rfl _ rfl _ rfl _ rfl _ rfl).trans (m27 _ _ _ _ _ _ x y _)).trans ((k27 x y _ rfl _ rfl _ rfl _ rfl _ rfl _ rfl).symm.trans h)
noncomputable def p28 (x : Frm) (y : Pln) : Pln × Bool := let t1 := (p56 x); let t2 := (p34 y); let t3 := (p58 x.t.m y.n); let t4 := (p71 t3); let t5 := (p54 t4.1 x.s); let t6 := (p34 (⟨t4.1, (W ((W (Int.tdiv (W (x.t.d * y.b)) t4.2)) + t5))⟩ : Pln)); ((⟨(⟨(sel (!t1) 0 (sel (!t2) 0 (sel (t4.2 == 0) 0 (sel ((Int.tmod (W (x.t.d * y.b)) t4.2) != 0) 0 (sel (!t6) 0 t4.1.x))))), (sel (!t1) 0 (sel (!t2) 0 (sel (t4.2 == 0) 0 (sel ((Int.tmod (W (x.t.d * y.b)) t4.2) != 0) 0 (sel (!t6) 0 t4.1.y))))), (sel (!t1) 0 (sel (!t2) 0 (sel (t4.2 == 0) 0 (sel ((Int.tmod (W (x.t.d * y.b)) t4.2) != 0) 0 (sel (!t6) 0 t4.1.z)))))⟩ : V3), (sel (!t1) 0 (sel (!t2) 0 (sel (t4.2 == 0) 0 (sel ((Int.tmod (W (x.t.d * y.b)) t4.2) != 0) 0 (sel (!t6) 0 (W ((W (Int.tdiv (W (x.t.d * y.b)) t4.2)) + t5)))))))⟩ : Pln), ((!(!t1)) && ((!(!t2)) && ((!(t4.2 == 0)) && ((!((Int.tmod (W (x.t.d * y.b)) t4.2) != 0)) && (!(!t6)))))))
noncomputable def g28 (x : Frm) (y : Pln) : Bool := let t1 := (p56 x); let t2 := (p34 y); let t3 := (p58 x.t.m y.n); let t4 := (p71 t3); let t5 := (p54 t4.1 x.s); let t6 := (p34 (⟨t4.1, (W ((W (Int.tdiv (W (x.t.d * y.b)) t4.2)) + t5))⟩ : Pln)); ((g56 x) && ((!t1) || ((g34 y) && ((!t2) || ((g71 t3) && ((t4.2 == 0) || (((Int.tmod (W (x.t.d * y.b)) t4.2) != 0) || (g34 (⟨t4.1, (W ((W (Int.tdiv (W (x.t.d * y.b)) t4.2)) + t5))⟩ : Pln)))))))))
noncomputable def tb28 : List (Nat × Sum) := [(56, S56), (34, S34), (58, S58), (71, S71), (54, S54)]
theorem tbo28 : TblOk Tryd.prog G tb28 := ⟨ok56, ok34, ok58, ok71, ok54, trivial⟩
noncomputable def S28 : Sum := sum2 cF cP (fun x y => DT.guard (g28 x y) (.ret (.tup [eP (p28 x y).1, b (p28 x y).2], [])))
theorem r28 (x : Frm) (y : Pln) (t1 : Bool) (ht1 : t1 = (p56 x)) (t2 : Bool) (ht2 : t2 = (p34 y)) (t3 : V3) (ht3 : t3 = (p58 x.t.m y.n)) (t4 : V3 × Int) (ht4 : t4 = (p71 t3)) (t5 : Int) (ht5 : t5 = (p54 t4.1 x.s)) (t6 : Bool) (ht6 : t6 = (p34 (⟨t4.1, (W ((W (Int.tdiv (W (x.t.d * y.b)) t4.2)) + t5))⟩ : Pln))) : (runFn (En tb28) pf28 [cF.enc x, cP.enc y] []).run = (sel (g56 x)
 (sel (!t1)
  (some ((.tup [(.agg [(i 0), (i 0), (i 0), (i 0)]), (b false)]), []))
  (sel (g34 y)
   (sel (!t2)
    (some ((.tup [(.agg [(i 0), (i 0), (i 0), (i 0)]), (b false)]), []))
    (sel (g71 t3)
     (sel (t4.2 == 0)
      (some ((.tup [(.agg [(i 0), (i 0), (i 0), (i 0)]), (b false)]), []))
      (sel (t4.2 == 0)
       none
       (sel ((Int.tmod (W (x.t.d * y.b)) t4.2) != 0)
        (some ((.tup [(.agg [(i 0), (i 0), (i 0), (i 0)]), (b false)]), []))
        (sel (t4.2 == 0)
         none
         (sel (g34 (⟨t4.1, (W ((W (Int.tdiv (W (x.t.d * y.b)) t4.2)) + t5))⟩ : Pln))
          (sel (!t6)
           (some ((.tup [(.agg [(i 0), (i 0), (i 0), (i 0)]), (b false)]), []))
           (some ((.tup [(.agg [(i t4.1.x), (i t4.1.y), (i t4.1.z), (i (W ((W (Int.tdiv (W (x.t.d * y.b)) t4.2)) + t5)))]), (b true)]), [])))
          none)))))
     none))
   none))
 none) := by subst ht1; subst ht2; subst ht3; subst ht4; subst ht5; subst ht6; kernel_rfl
theorem m28 (c1 c2 c3 c4 c5 c6 c7 c8 c9 : Bool) (x : Frm) (y : Pln) (t4 : V3 × Int) (t5 : Int) : ((sel c1
 (sel c2
  (some ((.tup [(.agg [(i 0), (i 0), (i 0), (i 0)]), (b false)]), []))
  (sel c3
   (sel c4
    (some ((.tup [(.agg [(i 0), (i 0), (i 0), (i 0)]), (b false)]), []))
    (sel c5
     (sel c6
      (some ((.tup [(.agg [(i 0), (i 0), (i 0), (i 0)]), (b false)]), []))
      (sel c6
       none
       (sel c7
        (some ((.tup [(.agg [(i 0), (i 0), (i 0), (i 0)]), (b false)]), []))
        (sel c6
         none
         (sel c8
          (sel c9
           (some ((.tup [(.agg [(i 0), (i 0), (i 0), (i 0)]), (b false)]), []))
           (some ((.tup [(.agg [(i t4.1.x), (i t4.1.y), (i t4.1.z), (i (W ((W (Int.tdiv (W (x.t.d * y.b)) t4.2)) + t5)))]), (b true)]), [])))
          none)))))
     none))
   none))
 none) : Option (AVal × List ABlk)) = (sel (c1 && (c2 || (c3 && (c4 || (c5 && (c6 || (c7 || c8))))))) (some ((.tup [(.agg [(i (sel c2 0 (sel c4 0 (sel c6 0 (sel c7 0 (sel c9 0 t4.1.x)))))), (i (sel c2 0 (sel c4 0 (sel c6 0 (sel c7 0 (sel c9 0 t4.1.y)))))), (i (sel c2 0 (sel c4 0 (sel c6 0 (sel c7 0 (sel c9 0 t4.1.z)))))), (i (sel c2 0 (sel c4 0 (sel c6 0 (sel c7 0 (sel c9 0 (W ((W (Int.tdiv (W (x.t.d * y.b)) t4.2)) + t5))))))))]), (b ((!c2) && ((!c4) && ((!c6) && ((!c7) && (!c9))))))]), [])) none) := by
 cases c1
 ·
  rfl
 ·
  cases c2
  ·
   cases c3
   ·
    rfl
   ·
    cases c4
    ·
     cases c5
     ·
      rfl
     ·
      cases c6
      ·
       cases c7
       ·
        cases c8
        ·
         rfl
        ·
         cases c9
         ·
          rfl
         ·
          rfl
       ·
        rfl
      ·
       rfl
    ·
     rfl
  ·
   rfl
theorem k28 (x : Frm) (y : Pln) (t1 : Bool) (ht1 : t1 = (p56 x)) (t2 : Bool) (ht2 : t2 = (p34 y)) (t3 : V3) (ht3 : t3 = (p58 x.t.m y.n)) (t4 : V3 × Int) (ht4 : t4 = (p71 t3)) (t5 : Int) (ht5 : t5 = (p54 t4.1 x.s)) (t6 : Bool) (ht6 : t6 = (p34 (⟨t4.1, (W ((W (Int.tdiv (W (x.t.d * y.b)) t4.2)) + t5))⟩ : Pln))) : (DT.guard (g28 x y) (.ret (.tup [eP (p28 x y).1, b (p28 x y).2], [])) : DT (AVal × List ABlk)).run = (sel ((g56 x) && ((!t1) || ((g34 y) && ((!t2) || ((g71 t3) && ((t4.2 == 0) || (((Int.tmod (W (x.t.d * y.b)) t4.2) != 0) || (g34 (⟨t4.1, (W ((W (Int.tdiv (W (x.t.d * y.b)) t4.2)) + t5))⟩ : Pln))))))))) (some ((.tup [(.agg [(i (sel (!t1) 0 (sel (!t2) 0 (sel (t4.2 == 0) 0 (sel ((Int.tmod (W (x.t.d * y.b)) t4.2) != 0) 0 (sel (!t6) 0 t4.1.x)))))), (i (sel (!t1) 0 (sel (!t2) 0 (sel (t4.2 == 0) 0 (sel ((Int.tmod (W (x.t.d * y.b)) t4.2) != 0) 0 (sel (!t6) 0 t4.1.y)))))), (i (sel (!t1) 0 (sel (!t2) 0 (sel (t4.2 == 0) 0 (sel ((Int.tmod (W (x.t.d * y.b)) t4.2) != 0) 0 (sel (!t6) 0 t4.1.z)))))), (i (sel (!t1) 0 (sel (!t2) 0 (sel (t4.2 == 0) 0 (sel ((Int.tmod (W (x.t.d * y.b)) t4.2) != 0) 0 (sel (!t6) 0 (W ((W (Int.tdiv (W (x.t.d * y.b)) t4.2)) + t5))))))))]), (b ((!(!t1)) && ((!(!t2)) && ((!(t4.2 == 0)) && ((!((Int.tmod (W (x.t.d * y.b)) t4.2) != 0)) && (!(!t6)))))))]), [])) none) := by subst ht1; subst ht2; subst ht3; subst ht4; subst ht5; subst ht6; rw [run_grd]; kernel_rfl
theorem ok28 : FnOk Tryd.prog G 28 S28 := sum2_ok (b28 (E := En tb28) rfl (tdeps tbo28)) fun x y r h => ((r28 x y _ rfl _ rfl _ rfl _ rfl _ rfl _ rfl).trans (m28 _ _ _ _ _ _ _ _ _ x y _ _)).trans ((k28 x y _ rfl _ rfl _ rfl _ rfl _ rfl _ rfl).symm.trans h)
noncomputable def p29 (x : Frm) (y : Pln) : Pln × Bool := let t1 := (p60 x); let t2 := (p72 y); let t3 := (p63 x.t.m y.n); let t4 := (p73 t3); let t5 := (p49 t4.1 x.s); let t6 := (p72 (⟨t4.1, (W ((W (Int.tdiv (W (x.t.d * y.b)) t4.2)) + t5))⟩ : Pln)); ((⟨(⟨(sel (!t1) 0 (sel (!t2) 0 (sel (t4.2 == 0) 0 (sel ((Int.tmod (W (x.t.d * y.b)) t4.2) != 0) 0 (sel (!t6) 0 t4.1.x))))), (sel (!t1) 0 (sel (!t2) 0 (sel (t4.2 == 0) 0 (sel ((Int.tmod (W (x.t.d * y.b)) t4.2) != 0) 0 (sel (!t6) 0 t4.1.y))))), (sel (!t1) 0 (sel (!t2) 0 (sel (t4.2 == 0) 0 (sel ((Int.tmod (W (x.t.d * y.b)) t4.2) != 0) 0 (sel (!t6) 0 t4.1.z)))))⟩ : V3), (sel (!t1) 0 (sel (!t2) 0 (sel (t4.2 == 0) 0 (sel ((Int.tmod (W (x.t.d * y.b)) t4.2) != 0) 0 (sel (!t6) 0 (W ((W (Int.tdiv (W (x.t.d * y.b)) t4.2)) + t5)))))))⟩ : Pln), ((!(!t1)) && ((!(!t2)) && ((!(t4.2 == 0)) && ((!((Int.tmod (W (x.t.d * y.b)) t4.2) != 0)) && (!(!t6)))))))
noncomputable def g29 (x : Frm) (y : Pln) : Bool := let t1 := (p60 x); let t2 := (p72 y); let t3 := (p63 x.t.m y.n); let t4 := (p73 t3); let t5 := (p49 t4.1 x.s); let t6 := (p72 (⟨t4.1, (W ((W (Int.tdiv (W (x.t.d * y.b)) t4.2)) + t5))⟩ : Pln)); ((g60 x) && ((!t1) || ((g72 y) && ((!t2) || ((g73 t3) && ((t4.2 == 0) || (((Int.tmod (W (x.t.d * y.b)) t4.2) != 0) || (g72 (⟨t4.1, (W ((W (Int.tdiv (W (x.t.d * y.b)) t4.2)) + t5))⟩ : Pln)))))))))
noncomputable def tb29 : List (Nat × Sum) := [(60, S60), (72, S72), (63, S63), (73, S73), (49, S49)]
theorem tbo29 : TblOk Tryd.prog G tb29 := ⟨ok60, ok72, ok63, ok73, ok49, trivial⟩
noncomputable def S29 : Sum := sum2 cF cP (fun x y => DT.guard (g29 x y) (.ret (.tup [eP (p29 x y).1, b (p29 x y).2], [])))
theorem r29 (x : Frm) (y : Pln) (t1 : Bool) (ht1 : t1 = (p60 x)) (t2 : Bool) (ht2 : t2 = (p72 y)) (t3 : V3) (ht3 : t3 = (p63 x.t.m y.n)) (t4 : V3 × Int) (ht4 : t4 = (p73 t3)) (t5 : Int) (ht5 : t5 = (p49 t4.1 x.s)) (t6 : Bool) (ht6 : t6 = (p72 (⟨t4.1, (W ((W (Int.tdiv (W (x.t.d * y.b)) t4.2)) + t5))⟩ : Pln))) : (runFn (En tb29) pf29 [cF.enc x, cP.enc y] []).run = (sel (g60 x)
 (sel (!t1)
  (some ((.tup [(.agg [(i 0), (i 0), (i 0), (i 0)]), (b false)]), []))
  (sel (g72 y)
   (sel (!t2)
    (some ((.tup [(.agg [(i 0), (i 0), (i 0), (i 0)]), (b false)]), []))
    (sel (g73 t3)
     (sel (t4.2 == 0)
      (some ((.tup [(.agg [(i 0), (i 0), (i 0), (i 0)]), (b false)]), []))
      (sel (t4.2 == 0)
       none
       (sel ((Int.tmod (W (x.t.d * y.b)) t4.2) != 0)
        (some ((.tup [(.agg [(i 0), (i 0), (i 0), (i 0)]), (b false)]), []))
        (sel (t4.2 == 0)
         none
         (sel (g72 (⟨t4.1, (W ((W (Int.tdiv (W (x.t.d * y.b)) t4.2)) + t5))⟩ : Pln))
          (sel (!t6)
           (some ((.tup [(.agg [(i 0), (i 0), (i 0), (i 0)]), (b false)]), []))
           (some ((.tup [(.agg [(i t4.1.x), (i t4.1.y), (i t4.1.z), (i (W ((W (Int.tdiv (W (x.t.d * y.b)) t4.2)) + t5)))]), (b true)]), [])))
          none)))))
     none))
   none))
 none) := by subst ht1; subst ht2; subst ht3; subst ht4; subst ht5; subst ht6; kernel_rfl
theorem m29 (c1 c2 c3 c4 c5 c6 c7 c8 c9 : Bool) (x : Frm) (y : Pln) (t4 : V3 × Int) (t5 : Int) : ((sel c1
 (sel c2
  (some ((.tup [(.agg [(i 0), (i 0), (i 0), (i 0)]), (b false)]), []))
  (sel c3
   (sel c4
    (some ((.tup [(.agg [(i 0), (i 0), (i 0), (i 0)]), (b false)]), []))
    (sel c5
     (sel c6
      (some ((.tup [(.agg [(i 0), (i 0), (i 0), (i 0)]), (b false)]), []))
      (sel c6
       none
       (sel c7
        (some ((.tup [(.agg [(i 0), (i 0), (i 0), (i 0)]), (b false)]), []))
        (sel c6
         none
         (sel c8
          (sel c9
           (some ((.tup [(.agg [(i 0), (i 0), (i 0), (i 0)]), (b false)]), []))
           (some ((.tup [(.agg [(i t4.1.x), (i t4.1.y), (i t4.1.z), (i (W ((W (Int.tdiv (W (x.t.d * y.b)) t4.2)) + t5)))]), (b true)]), [])))
          none)))))
     none))
   none))
 none) : Option (AVal × List ABlk)) = (sel (c1 && (c2 || (c3 && (c4 || (c5 && (c6 || (c7 || c8))))))) (some ((.tup [(.agg [(i (sel c2 0 (sel c4 0 (sel c6 0 (sel c7 0 (sel c9 0 t4.1.x)))))), (i (sel c2 0 (sel c4 0 (sel c6 0 (sel c7 0 (sel c9 0 t4.1.y)))))), (i (sel c2 0 (sel c4 0 (sel c6 0 (sel c7 0 (sel c9 0 t4.1.z)))))), (i (sel c2 0 (sel c4 0 (sel c6 0 (sel c7 0 (sel c9 0 (W ((W (Int.tdiv (W (x.t.d * y.b)) t4.2)) + t5))))))))]), (b ((!c2) && ((!c4) && ((!c6) && ((!c7) && (!c9))))))]), [])) none) := by
 cases c1
 ·
  rfl
 ·
  cases c2
  ·
   cases c3
   ·
    rfl
   ·
    cases c4
    ·
     cases c5
     ·
      rfl
     ·
      cases c6
      ·
       cases c7
       ·
        cases c8
        ·
         rfl
        ·
         cases c9
         ·
          rfl
         ·
          rfl
       ·
        rfl
      ·
       rfl
    ·
     rfl
  ·
   rfl
theorem k29 (x : Frm) (y : Pln) (t1 : Bool) (ht1 : t1 = (p60 x)) (t2 : Bool) (ht2 : t2 = (p72 y)) (t3 : V3) (ht3 : t3 = (p63 x.t.m y.n)) (t4 : V3 × Int) (ht4 : t4 = (p73 t3)) (t5 : Int) (ht5 : t5 = (p49 t4.1 x.s)) (t6 : Bool) (ht6 : t6 = (p72 (⟨t4.1, (W ((W (Int.tdiv (W (x.t.d * y.b)) t4.2)) + t5))⟩ : Pln))) : (DT.guard (g29 x y) (.ret (.tup [eP (p29 x y).1, b (p29 x y).2], [])) : DT (AVal × List ABlk)).run = (sel ((g60 x) && ((!t1) || ((g72 y) && ((!t2) || ((g73 t3) && ((t4.2 == 0) || (((Int.tmod (W (x.t.d * y.b)) t4.2) != 0) || (g72 (⟨t4.1, (W ((W (Int.tdiv (W (x.t.d * y.b)) t4.2)) + t5))⟩ : Pln))))))))) (some ((.tup [(.agg [(i (sel (!t1) 0 (sel (!t2) 0 (sel (t4.2 == 0) 0 (sel ((Int.tmod (W (x.t.d * y.b)) t4.2) != 0) 0 (sel (!t6) 0 t4.1.x)))))), (i (sel (!t1) 0 (sel (!t2) 0 (sel (t4.2 == 0) 0 (sel ((Int.tmod (W (x.t.d * y.b)) t4.2) != 0) 0 (sel (!t6) 0 t4.1.y)))))), (i (sel (!t1) 0 (sel (!t2) 0 (sel (t4.2 == 0) 0 (sel ((Int.tmod (W (x.t.d * y.b)) t4.2) != 0) 0 (sel (!t6) 0 t4.1.z)))))), (i (sel (!t1) 0 (sel (!t2) 0 (sel (t4.2 == 0) 0 (sel ((Int.tmod (W (x.t.d * y.b)) t4.2) != 0) 0 (sel (!t6) 0 (W ((W (Int.tdiv (W (x.t.d * y.b)) t4.2)) + t5))))))))]), (b ((!(!t1)) && ((!(!t2)) && ((!(t4.2 == 0)) && ((!((Int.tmod (W (x.t.d * y.b)) t4.2) != 0)) && (!(!t6)))))))]), [])) none) := by subst ht1; subst ht2; subst ht3; subst ht4; subst ht5; subst ht6; rw [run_grd]; kernel_rfl
theorem ok29 : FnOk Tryd.prog G 29 S29 := sum2_ok (b29 (E := En tb29) rfl (tdeps tbo29)) fun x y r h => ((r29 x y _ rfl _ rfl _ rfl _ rfl _ rfl _ rfl).trans (m29 _ _ _ _ _ _ _ _ _ x y _ _)).trans ((k29 x y _ rfl _ rfl _ rfl _ rfl _ rfl _ rfl).symm.trans h)

end Go.Ev.T
