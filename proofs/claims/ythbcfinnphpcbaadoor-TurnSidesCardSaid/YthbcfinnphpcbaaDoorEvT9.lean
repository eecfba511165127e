/- Printed: functions of the geometry chapters, as plain ones (own work). -/
import Derived.Test.YthbcfinnphpcbaaDoorEvT7
set_option linter.unusedVariables false
set_option linter.unusedSimpArgs false
set_option linter.unnecessarySimpa false
set_option linter.unusedSectionVars false
namespace Go.Ev.T
open Go Go.Ev Go.Ev.Ab Go.Proofs
set_option maxRecDepth 100000
noncomputable def p3 (x : IL) (y : Q2) (z : Trn) : Bool := let t1 := (p10 x); let t2 := (p11 t1.t y.a); let t3 := (p11 t2 y.b); let t4 := (p12 t1.t); let t5 := (p13 t1.t); let t6 := (p12 t2); let t7 := (p13 t2); let t8 := (p12 t3); let t9 := (p13 t3); let t10 := (p12 z); let t11 := (p13 z); ((!(!(t4 == t5))) && ((!(!(t6 == t7))) && ((!(!(t8 == t9))) && ((!(!(t10 == t11))) && t4))))
noncomputable def g3 (x : IL) (y : Q2) (z : Trn) : Bool := let t1 := (p10 x); let t2 := (p11 t1.t y.a); let t3 := (p11 t2 y.b); let t4 := (p12 t1.t); let t5 := (p13 t1.t); let t6 := (p12 t2); let t7 := (p13 t2); let t8 := (p12 t3); let t9 := (p13 t3); let t10 := (p12 z); let t11 := (p13 z); ((okInts x.n (fun k => [i (x.g k)])) && ((g10 x) && ((g11 t1.t y.a) && ((g11 t2 y.b) && ((g12 t1.t) && ((g13 t1.t) && ((!(t4 == t5)) || ((g12 t2) && ((g13 t2) && ((!(t6 == t7)) || ((g12 t3) && ((g13 t3) && ((!(t8 == t9)) || ((g12 z) && (g13 z)))))))))))))))
noncomputable def tb3 : List (Nat × Sum) := [(9, S9), (10, S10), (11, S11), (12, S12), (13, S13), (14, S14), (15, S15)]
theorem tbo3 : TblOk Tryd.prog G tb3 := ⟨ok9, ok10, ok11, ok12, ok13, ok14, ok15, trivial⟩
noncomputable def S3 : Sum := sum3 cL cQ cT (fun x y z => DT.guard (g3 x y z) (.ret (b (p3 x y z), [])))
theorem r3 (x : IL) (y : Q2) (z : Trn) (t1 : Frm) (ht1 : t1 = (p10 x)) (t2 : Trn) (ht2 : t2 = (p11 t1.t y.a)) (t3 : Trn) (ht3 : t3 = (p11 t2 y.b)) (t4 : Bool) (ht4 : t4 = (p12 t1.t)) (t5 : Bool) (ht5 : t5 = (p13 t1.t)) (t6 : Bool) (ht6 : t6 = (p12 t2)) (t7 : Bool) (ht7 : t7 = (p13 t2)) (t8 : Bool) (ht8 : t8 = (p12 t3)) (t9 : Bool) (ht9 : t9 = (p13 t3)) (t10 : Bool) (ht10 : t10 = (p12 z)) (t11 : Bool) (ht11 : t11 = (p13 z)) : (runFn (En tb3) pf3 [cL.enc x, cQ.enc y, cT.enc z] []).run = (sel (okInts x.n (fun k => [i (x.g k)]))
 (sel (g10 x)
  (sel (g11 t1.t y.a)
   (sel (g11 t2 y.b)
    (sel (g12 t1.t)
     (sel (g13 t1.t)
      (sel (!(t4 == t5))
       (some ((b false), []))
       (sel (g12 t2)
        (sel (g13 t2)
         (sel (!(t6 == t7))
          (some ((b false), []))
          (sel (g12 t3)
           (sel (g13 t3)
            (sel (!(t8 == t9))
             (some ((b false), []))
             (sel (g12 z)
              (sel (g13 z)
               (sel (!(t10 == t11))
                (some ((b false), []))
                (sel (g12 t1.t)
                 (some ((b t4), []))
                 none))
               none)
              none))
            none)
           none))
         none)
        none))
      none)
     none)
    none)
   none)
  none)
 none) := by subst ht1; subst ht2; subst ht3; subst ht4; subst ht5; subst ht6; subst ht7; subst ht8; subst ht9; subst ht10; subst ht11; kernel_rfl
theorem m3 (c1 c2 c3 c4 c5 c6 c7 c8 c9 c10 c11 c12 c13 c14 c15 c16 : Bool) (x : IL) (y : Q2) (z : Trn) (t4 : Bool) : ((sel c1
 (sel c2
  (sel c3
   (sel c4
    (sel c5
     (sel c6
      (sel c7
       (some ((b false), []))
       (sel c8
        (sel c9
         (sel c10
          (some ((b false), []))
          (sel c11
           (sel c12
            (sel c13
             (some ((b false), []))
             (sel c14
              (sel c15
               (sel c16
                (some ((b false), []))
                (sel c5
                 (some ((b t4), []))
                 none))
               none)
              none))
            none)
           none))
         none)
        none))
      none)
     none)
    none)
   none)
  none)
 none) : Option (AVal × List ABlk)) = (sel (c1 && (c2 && (c3 && (c4 && (c5 && (c6 && (c7 || (c8 && (c9 && (c10 || (c11 && (c12 && (c13 || (c14 && c15)))))))))))))) (some ((b ((!c7) && ((!c10) && ((!c13) && ((!c16) && t4))))), [])) none) := by
 cases c1
 ·
  rfl
 ·
  cases c2
  ·
   rfl
  ·
   cases c3
   ·
    rfl
   ·
    cases c4
    ·
     rfl
    ·
     cases c5
     ·
      rfl
     ·
      cases c6
      ·
       rfl
      ·
       cases c7
       ·
        cases c8
        ·
         rfl
        ·
         cases c9
         ·
          rfl
         ·
          cases c10
          ·
           cases c11
           ·
            rfl
           ·
            cases c12
            ·
             rfl
            ·
             cases c13
             ·
              cases c14
              ·
               rfl
              ·
               cases c15
               ·
                rfl
               ·
                cases c16
                ·
                 rfl
                ·
                 rfl
             ·
              rfl
          ·
           rfl
       ·
        rfl
theorem k3 (x : IL) (y : Q2) (z : Trn) (t1 : Frm) (ht1 : t1 = (p10 x)) (t2 : Trn) (ht2 : t2 = (p11 t1.t y.a)) (t3 : Trn) (ht3 : t3 = (p11 t2 y.b)) (t4 : Bool) (ht4 : t4 = (p12 t1.t)) (t5 : Bool) (ht5 : t5 = (p13 t1.t)) (t6 : Bool) (ht6 : t6 = (p12 t2)) (t7 : Bool) (ht7 : t7 = (p13 t2)) (t8 : Bool) (ht8 : t8 = (p12 t3)) (t9 : Bool) (ht9 : t9 = (p13 t3)) (t10 : Bool) (ht10 : t10 = (p12 z)) (t11 : Bool) (ht11 : t11 = (p13 z)) : (DT.guard (g3 x y z) (.ret (b (p3 x y z), [])) : DT (AVal × List ABlk)).run = (sel ((okInts x.n (fun k => [i (x.g k)])) && ((g10 x) && ((g11 t1.t y.a) && ((g11 t2 y.b) && ((g12 t1.t) && ((g13 t1.t) && ((!(t4 == t5)) || ((g12 t2) && ((g13 t2) && ((!(t6 == t7)) || ((g12 t3) && ((g13 t3) && ((!(t8 == t9)) || ((g12 z) && (g13 z))))))))))))))) (some ((b ((!(!(t4 == t5))) && ((!(!(t6 == t7))) && ((!(!(t8 == t9))) && ((!(!(t10 == t11))) && t4))))), [])) none) := by subst ht1; subst ht2; subst ht3; subst ht4; subst ht5; subst ht6; subst ht7; subst ht8; subst ht9; subst ht10; subst ht11; rw [run_grd]; kernel_rfl
theorem ok3 : FnOk Tryd.prog G 3 S3 := sum3_ok (b3 (E := En tb3) rfl (tdeps tbo3)) fun x y z r h => ((r3 x y z _ rfl _ rfl _ rfl _ rfl _ rfl _ rfl _ rfl _ rfl _ rfl _ rfl _ rfl).trans (m3 _ _ _ _ _ _ _ _ _ _ _ _ _ _ _ _ x y z _)).trans ((k3 x y z _ rfl _ rfl _ rfl _ rfl _ rfl _ rfl _ rfl _ rfl _ rfl _ rfl _ rfl).symm.trans h)

end Go.Ev.T
