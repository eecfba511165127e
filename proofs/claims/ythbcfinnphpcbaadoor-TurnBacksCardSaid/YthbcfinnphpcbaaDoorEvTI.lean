/- Printed: functions of the geometry chapters, as plain ones (own work). -/
import Derived.Test.YthbcfinnphpcbaaDoorEvTE
set_option linter.unusedVariables false
set_option linter.unusedSimpArgs false
set_option linter.unnecessarySimpa false
set_option linter.unusedSectionVars false
namespace Go.Ev.T
open Go Go.Ev Go.Ev.Ab Go.Proofs
set_option maxRecDepth 100000
noncomputable def p5 (x : LL) (y : V3) : Bool := let t1 := (p10 x.a); let t2 := (p10 x.b); let t3 := (p17 y.x 9); let t4 := (p17 y.y 9); let t5 := (p17 y.z 9); let t6 := (p16 (W ((W (Int.tdiv (W (t3 - 4)) (W (t1.t.d * t2.t.d)))) * (W (t1.t.d * t2.t.d)))) (W ((W (Int.tdiv (W (t4 - 4)) (W (t1.t.d * t2.t.d)))) * (W (t1.t.d * t2.t.d)))) (W ((W (Int.tdiv (W (t5 - 4)) (W (t1.t.d * t2.t.d)))) * (W (t1.t.d * t2.t.d))))); let t7 := (p22 t1 t6); let t8 := (p18 t1); let t9 := (p22 t8.1 t7.1); let t10 := (p18 t8.1); let t11 := (p20 t1 t8.1); let t12 := (p22 t11.1 t6); let t13 := (p20 t1 t2); let t14 := (p22 t2 t7.1); let t15 := (p22 t13.1 t6); ((!(!t7.2)) && (sel t8.2 ((!(!t9.2)) && ((!(!((t9.1.x == t6.x) && ((t9.1.y == t6.y) && ((t9.1.z == t6.z) && true))))) && ((!(!t10.2)) && ((!(!((t10.1.t.m.r0.x == t1.t.m.r0.x) && ((t10.1.t.m.r0.y == t1.t.m.r0.y) && ((t10.1.t.m.r0.z == t1.t.m.r0.z) && ((t10.1.t.m.r1.x == t1.t.m.r1.x) && ((t10.1.t.m.r1.y == t1.t.m.r1.y) && ((t10.1.t.m.r1.z == t1.t.m.r1.z) && ((t10.1.t.m.r2.x == t1.t.m.r2.x) && ((t10.1.t.m.r2.y == t1.t.m.r2.y) && ((t10.1.t.m.r2.z == t1.t.m.r2.z) && ((t10.1.t.d == t1.t.d) && ((t10.1.s.x == t1.s.x) && ((t10.1.s.y == t1.s.y) && ((t10.1.s.z == t1.s.z) && true))))))))))))))) && ((!(!t11.2)) && ((!(!t12.2)) && ((!(!((t12.1.x == t6.x) && ((t12.1.y == t6.y) && ((t12.1.z == t6.z) && true))))) && (sel t13.2 (sel t14.2 ((!(!t15.2)) && ((!(!((t15.1.x == t14.1.x) && ((t15.1.y == t14.1.y) && ((t15.1.z == t14.1.z) && true))))) && ((decide ((W (t1.t.d * t2.t.d)) > 1)) || t14.2))) ((decide ((W (t1.t.d * t2.t.d)) > 1)) || t14.2)) (decide ((W (t1.t.d * t2.t.d)) > 1)))))))))) (sel t13.2 (sel t14.2 ((!(!t15.2)) && ((!(!((t15.1.x == t14.1.x) && ((t15.1.y == t14.1.y) && ((t15.1.z == t14.1.z) && true))))) && ((decide (t1.t.d > 1)) && ((decide ((W (t1.t.d * t2.t.d)) > 1)) || t14.2)))) ((decide (t1.t.d > 1)) && ((decide ((W (t1.t.d * t2.t.d)) > 1)) || t14.2))) ((decide (t1.t.d > 1)) && (decide ((W (t1.t.d * t2.t.d)) > 1))))))
noncomputable def g5 (x : LL) (y : V3) : Bool := let t1 := (p10 x.a); let t2 := (p10 x.b); let t3 := (p17 y.x 9); let t4 := (p17 y.y 9); let t5 := (p17 y.z 9); let t6 := (p16 (W ((W (Int.tdiv (W (t3 - 4)) (W (t1.t.d * t2.t.d)))) * (W (t1.t.d * t2.t.d)))) (W ((W (Int.tdiv (W (t4 - 4)) (W (t1.t.d * t2.t.d)))) * (W (t1.t.d * t2.t.d)))) (W ((W (Int.tdiv (W (t5 - 4)) (W (t1.t.d * t2.t.d)))) * (W (t1.t.d * t2.t.d))))); let t7 := (p22 t1 t6); let t8 := (p18 t1); let t9 := (p22 t8.1 t7.1); let t10 := (p18 t8.1); let t11 := (p20 t1 t8.1); let t12 := (p22 t11.1 t6); let t13 := (p20 t1 t2); let t14 := (p22 t2 t7.1); let t15 := (p22 t13.1 t6); ((okInts x.a.n (fun k => [i (x.a.g k)])) && ((g10 x.a) && ((okInts x.b.n (fun k => [i (x.b.g k)])) && ((g10 x.b) && ((g17 y.x 9) && ((!((W (t1.t.d * t2.t.d)) == 0)) && ((g17 y.y 9) && ((g17 y.z 9) && ((g22 t1 t6) && ((!t7.2) || ((g18 t1) && (sel t8.2 ((g22 t8.1 t7.1) && ((g18 t8.1) && ((g20 t1 t8.1) && ((g22 t11.1 t6) && ((!t9.2) || ((!((t9.1.x == t6.x) && ((t9.1.y == t6.y) && ((t9.1.z == t6.z) && true)))) || ((!t10.2) || ((!((t10.1.t.m.r0.x == t1.t.m.r0.x) && ((t10.1.t.m.r0.y == t1.t.m.r0.y) && ((t10.1.t.m.r0.z == t1.t.m.r0.z) && ((t10.1.t.m.r1.x == t1.t.m.r1.x) && ((t10.1.t.m.r1.y == t1.t.m.r1.y) && ((t10.1.t.m.r1.z == t1.t.m.r1.z) && ((t10.1.t.m.r2.x == t1.t.m.r2.x) && ((t10.1.t.m.r2.y == t1.t.m.r2.y) && ((t10.1.t.m.r2.z == t1.t.m.r2.z) && ((t10.1.t.d == t1.t.d) && ((t10.1.s.x == t1.s.x) && ((t10.1.s.y == t1.s.y) && ((t10.1.s.z == t1.s.z) && true)))))))))))))) || ((!t11.2) || ((!t12.2) || ((!((t12.1.x == t6.x) && ((t12.1.y == t6.y) && ((t12.1.z == t6.z) && true)))) || ((g20 t1 t2) && ((g22 t2 t7.1) && ((!t13.2) || ((!t14.2) || (g22 t13.1 t6)))))))))))))))) ((g20 t1 t2) && ((g22 t2 t7.1) && ((!t13.2) || ((!t14.2) || (g22 t13.1 t6)))))))))))))))))
noncomputable def tb5 : List (Nat × Sum) := [(9, S9), (10, S10), (17, S17), (16, S16), (22, S22), (18, S18), (20, S20)]
theorem tbo5 : TblOk Tryd.prog G tb5 := ⟨ok9, ok10, ok17, ok16, ok22, ok18, ok20, trivial⟩
noncomputable def S5 : Sum := sum2 cLL cV (fun x y => DT.guard (g5 x y) (.ret (b (p5 x y), [])))
theorem r5 (x : LL) (y : V3) (t1 : Frm) (ht1 : t1 = (p10 x.a)) (t2 : Frm) (ht2 : t2 = (p10 x.b)) (t3 : Int) (ht3 : t3 = (p17 y.x 9)) (t4 : Int) (ht4 : t4 = (p17 y.y 9)) (t5 : Int) (ht5 : t5 = (p17 y.z 9)) (t6 : V3) (ht6 : t6 = (p16 (W ((W (Int.tdiv (W (t3 - 4)) (W (t1.t.d * t2.t.d)))) * (W (t1.t.d * t2.t.d)))) (W ((W (Int.tdiv (W (t4 - 4)) (W (t1.t.d * t2.t.d)))) * (W (t1.t.d * t2.t.d)))) (W ((W (Int.tdiv (W (t5 - 4)) (W (t1.t.d * t2.t.d)))) * (W (t1.t.d * t2.t.d)))))) (t7 : V3 × Bool) (ht7 : t7 = (p22 t1 t6)) (t8 : Frm × Bool) (ht8 : t8 = (p18 t1)) (t9 : V3 × Bool) (ht9 : t9 = (p22 t8.1 t7.1)) (t10 : Frm × Bool) (ht10 : t10 = (p18 t8.1)) (t11 : Frm × Bool) (ht11 : t11 = (p20 t1 t8.1)) (t12 : V3 × Bool) (ht12 : t12 = (p22 t11.1 t6)) (t13 : Frm × Bool) (ht13 : t13 = (p20 t1 t2)) (t14 : V3 × Bool) (ht14 : t14 = (p22 t2 t7.1)) (t15 : V3 × Bool) (ht15 : t15 = (p22 t13.1 t6)) : (runFn (En tb5) pf5 [cLL.enc x, cV.enc y] []).run = (sel (okInts x.a.n (fun k => [i (x.a.g k)]))
 (sel (g10 x.a)
  (sel (okInts x.b.n (fun k => [i (x.b.g k)]))
   (sel (g10 x.b)
    (sel (g17 y.x 9)
     (sel ((W (t1.t.d * t2.t.d)) == 0)
      none
      (sel (g17 y.y 9)
       (sel ((W (t1.t.d * t2.t.d)) == 0)
        none
        (sel (g17 y.z 9)
         (sel ((W (t1.t.d * t2.t.d)) == 0)
          none
          (sel (g22 t1 t6)
           (sel (!t7.2)
            (some ((b false), []))
            (sel (g18 t1)
             (sel t8.2
              (sel (g22 t8.1 t7.1)
               (sel (g18 t8.1)
                (sel (g20 t1 t8.1)
                 (sel (g22 t11.1 t6)
                  (sel (!t9.2)
                   (some ((b false), []))
                   (sel (!((t9.1.x == t6.x) && ((t9.1.y == t6.y) && ((t9.1.z == t6.z) && true))))
                    (some ((b false), []))
                    (sel (!t10.2)
                     (some ((b false), []))
                     (sel (!((t10.1.t.m.r0.x == t1.t.m.r0.x) && ((t10.1.t.m.r0.y == t1.t.m.r0.y) && ((t10.1.t.m.r0.z == t1.t.m.r0.z) && ((t10.1.t.m.r1.x == t1.t.m.r1.x) && ((t10.1.t.m.r1.y == t1.t.m.r1.y) && ((t10.1.t.m.r1.z == t1.t.m.r1.z) && ((t10.1.t.m.r2.x == t1.t.m.r2.x) && ((t10.1.t.m.r2.y == t1.t.m.r2.y) && ((t10.1.t.m.r2.z == t1.t.m.r2.z) && ((t10.1.t.d == t1.t.d) && ((t10.1.s.x == t1.s.x) && ((t10.1.s.y == t1.s.y) && ((t10.1.s.z == t1.s.z) && true))))))))))))))
                      (some ((b false), []))
                      (sel (!t11.2)
                       (some ((b false), []))
                       (sel (!t12.2)
                        (some ((b false), []))
                        (sel (!((t12.1.x == t6.x) && ((t12.1.y == t6.y) && ((t12.1.z == t6.z) && true))))
                         (some ((b false), []))
                         (sel (g20 t1 t2)
                          (sel (g22 t2 t7.1)
                           (sel t13.2
                            (sel t14.2
                             (sel (g22 t13.1 t6)
                              (sel (!t15.2)
                               (some ((b false), []))
                               (sel (!((t15.1.x == t14.1.x) && ((t15.1.y == t14.1.y) && ((t15.1.z == t14.1.z) && true))))
                                (some ((b false), []))
                                (sel (decide (t1.t.d > 1))
                                 (sel (decide ((W (t1.t.d * t2.t.d)) > 1))
                                  (some ((b true), []))
                                  (sel t13.2
                                   (some ((b t14.2), []))
                                   (some ((b false), []))))
                                 (sel t8.2
                                  (sel (decide ((W (t1.t.d * t2.t.d)) > 1))
                                   (some ((b true), []))
                                   (sel t13.2
                                    (some ((b t14.2), []))
                                    (some ((b false), []))))
                                  (some ((b false), []))))))
                              none)
                             (sel (decide (t1.t.d > 1))
                              (sel (decide ((W (t1.t.d * t2.t.d)) > 1))
                               (some ((b true), []))
                               (sel t13.2
                                (some ((b t14.2), []))
                                (some ((b false), []))))
                              (sel t8.2
                               (sel (decide ((W (t1.t.d * t2.t.d)) > 1))
                                (some ((b true), []))
                                (sel t13.2
                                 (some ((b t14.2), []))
                                 (some ((b false), []))))
                               (some ((b false), [])))))
                            (sel (decide (t1.t.d > 1))
                             (sel (decide ((W (t1.t.d * t2.t.d)) > 1))
                              (some ((b true), []))
                              (sel t13.2
                               (some ((b t14.2), []))
                               (some ((b false), []))))
                             (sel t8.2
                              (sel (decide ((W (t1.t.d * t2.t.d)) > 1))
                               (some ((b true), []))
                               (sel t13.2
                                (some ((b t14.2), []))
                                (some ((b false), []))))
                              (some ((b false), [])))))
                           none)
                          none))))))))
                  none)
                 none)
                none)
               none)
              (sel (g20 t1 t2)
               (sel (g22 t2 t7.1)
                (sel t13.2
                 (sel t14.2
                  (sel (g22 t13.1 t6)
                   (sel (!t15.2)
                    (some ((b false), []))
                    (sel (!((t15.1.x == t14.1.x) && ((t15.1.y == t14.1.y) && ((t15.1.z == t14.1.z) && true))))
                     (some ((b false), []))
                     (sel (decide (t1.t.d > 1))
                      (sel (decide ((W (t1.t.d * t2.t.d)) > 1))
                       (some ((b true), []))
                       (sel t13.2
                        (some ((b t14.2), []))
                        (some ((b false), []))))
                      (sel t8.2
                       (sel (decide ((W (t1.t.d * t2.t.d)) > 1))
                        (some ((b true), []))
                        (sel t13.2
                         (some ((b t14.2), []))
                         (some ((b false), []))))
                       (some ((b false), []))))))
                   none)
                  (sel (decide (t1.t.d > 1))
                   (sel (decide ((W (t1.t.d * t2.t.d)) > 1))
                    (some ((b true), []))
                    (sel t13.2
                     (some ((b t14.2), []))
                     (some ((b false), []))))
                   (sel t8.2
                    (sel (decide ((W (t1.t.d * t2.t.d)) > 1))
                     (some ((b true), []))
                     (sel t13.2
                      (some ((b t14.2), []))
                      (some ((b false), []))))
                    (some ((b false), [])))))
                 (sel (decide (t1.t.d > 1))
                  (sel (decide ((W (t1.t.d * t2.t.d)) > 1))
                   (some ((b true), []))
                   (sel t13.2
                    (some ((b t14.2), []))
                    (some ((b false), []))))
                  (sel t8.2
                   (sel (decide ((W (t1.t.d * t2.t.d)) > 1))
                    (some ((b true), []))
                    (sel t13.2
                     (some ((b t14.2), []))
                     (some ((b false), []))))
                   (some ((b false), [])))))
                none)
               none))
             none))
           none))
         none))
       none))
     none)
    none)
   none)
  none)
 none) := by subst ht1; subst ht2; subst ht3; subst ht4; subst ht5; subst ht6; subst ht7; subst ht8; subst ht9; subst ht10; subst ht11; subst ht12; subst ht13; subst ht14; subst ht15; kernel_rfl
theorem m5 (c1 c2 c3 c4 c5 c6 c7 c8 c9 c10 c11 c12 c13 c14 c15 c16 c17 c18 c19 c20 c21 c22 c23 c24 c25 c26 c27 c28 c29 c30 c31 c32 : Bool) (x : LL) (y : V3) (t14 : V3 × Bool) : ((sel c1
 (sel c2
  (sel c3
   (sel c4
    (sel c5
     (sel c6
      none
      (sel c7
       (sel c6
        none
        (sel c8
         (sel c6
          none
          (sel c9
           (sel c10
            (some ((b false), []))
            (sel c11
             (sel c12
              (sel c13
               (sel c14
                (sel c15
                 (sel c16
                  (sel c17
                   (some ((b false), []))
                   (sel c18
                    (some ((b false), []))
                    (sel c19
                     (some ((b false), []))
                     (sel c20
                      (some ((b false), []))
                      (sel c21
                       (some ((b false), []))
                       (sel c22
                        (some ((b false), []))
                        (sel c23
                         (some ((b false), []))
                         (sel c24
                          (sel c25
                           (sel c26
                            (sel c27
                             (sel c28
                              (sel c29
                               (some ((b false), []))
                               (sel c30
                                (some ((b false), []))
                                (sel c31
                                 (sel c32
                                  (some ((b true), []))
                                  (sel c26
                                   (some ((b t14.2), []))
                                   (some ((b false), []))))
                                 (sel c12
                                  (sel c32
                                   (some ((b true), []))
                                   (sel c26
                                    (some ((b t14.2), []))
                                    (some ((b false), []))))
                                  (some ((b false), []))))))
                              none)
                             (sel c31
                              (sel c32
                               (some ((b true), []))
                               (sel c26
                                (some ((b t14.2), []))
                                (some ((b false), []))))
                              (sel c12
                               (sel c32
                                (some ((b true), []))
                                (sel c26
                                 (some ((b t14.2), []))
                                 (some ((b false), []))))
                               (some ((b false), [])))))
                            (sel c31
                             (sel c32
                              (some ((b true), []))
                              (sel c26
                               (some ((b t14.2), []))
                               (some ((b false), []))))
                             (sel c12
                              (sel c32
                               (some ((b true), []))
                               (sel c26
                                (some ((b t14.2), []))
                                (some ((b false), []))))
                              (some ((b false), [])))))
                           none)
                          none))))))))
                  none)
                 none)
                none)
               none)
              (sel c24
               (sel c25
                (sel c26
                 (sel c27
                  (sel c28
                   (sel c29
                    (some ((b false), []))
                    (sel c30
                     (some ((b false), []))
                     (sel c31
                      (sel c32
                       (some ((b true), []))
                       (sel c26
                        (some ((b t14.2), []))
                        (some ((b false), []))))
                      (sel c12
                       (sel c32
                        (some ((b true), []))
                        (sel c26
                         (some ((b t14.2), []))
                         (some ((b false), []))))
                       (some ((b false), []))))))
                   none)
                  (sel c31
                   (sel c32
                    (some ((b true), []))
                    (sel c26
                     (some ((b t14.2), []))
                     (some ((b false), []))))
                   (sel c12
                    (sel c32
                     (some ((b true), []))
                     (sel c26
                      (some ((b t14.2), []))
                      (some ((b false), []))))
                    (some ((b false), [])))))
                 (sel c31
                  (sel c32
                   (some ((b true), []))
                   (sel c26
                    (some ((b t14.2), []))
                    (some ((b false), []))))
                  (sel c12
                   (sel c32
                    (some ((b true), []))
                    (sel c26
                     (some ((b t14.2), []))
                     (some ((b false), []))))
                   (some ((b false), [])))))
                none)
               none))
             none))
           none))
         none))
       none))
     none)
    none)
   none)
  none)
 none) : Option (AVal × List ABlk)) = (sel (c1 && (c2 && (c3 && (c4 && (c5 && ((!c6) && (c7 && (c8 && (c9 && (c10 || (c11 && (sel c12 (c13 && (c14 && (c15 && (c16 && (c17 || (c18 || (c19 || (c20 || (c21 || (c22 || (c23 || (c24 && (c25 && ((!c26) || ((!c27) || c28))))))))))))))) (c24 && (c25 && ((!c26) || ((!c27) || c28)))))))))))))))) (some ((b ((!c10) && (sel c12 ((!c17) && ((!c18) && ((!c19) && ((!c20) && ((!c21) && ((!c22) && ((!c23) && (sel c26 (sel c27 ((!c29) && ((!c30) && (c32 || t14.2))) (c32 || t14.2)) c32)))))))) (sel c26 (sel c27 ((!c29) && ((!c30) && (c31 && (c32 || t14.2)))) (c31 && (c32 || t14.2))) (c31 && c32))))), [])) none) := by
 cases c1
 ·
  rfl
 ·
  cases c2
  ·
   rfl
  ·
   cases c3
   ·
    rfl
   ·
    cases c4
    ·
     rfl
    ·
     cases c5
     ·
      rfl
     ·
      cases c6
      ·
       cases c7
       ·
        rfl
       ·
        cases c8
        ·
         rfl
        ·
         cases c9
         ·
          rfl
         ·
          cases c10
          ·
           cases c11
           ·
            rfl
           ·
            cases c12
            ·
             cases c24
             ·
              rfl
             ·
              cases c25
              ·
               rfl
              ·
               cases c26
               ·
                cases c31
                ·
                 rfl
                ·
                 cases c32
                 ·
                  rfl
                 ·
                  rfl
               ·
                cases c27
                ·
                 cases c31
                 ·
                  rfl
                 ·
                  cases c32
                  ·
                   rfl
                  ·
                   rfl
                ·
                 cases c28
                 ·
                  rfl
                 ·
                  cases c29
                  ·
                   cases c30
                   ·
                    cases c31
                    ·
                     rfl
                    ·
                     cases c32
                     ·
                      rfl
                     ·
                      rfl
                   ·
                    rfl
                  ·
                   rfl
            ·
             cases c13
             ·
              rfl
             ·
              cases c14
              ·
               rfl
              ·
               cases c15
               ·
                rfl
               ·
                cases c16
                ·
                 rfl
                ·
                 cases c17
                 ·
                  cases c18
                  ·
                   cases c19
                   ·
                    cases c20
                    ·
                     cases c21
                     ·
                      cases c22
                      ·
                       cases c23
                       ·
                        cases c24
                        ·
                         rfl
                        ·
                         cases c25
                         ·
                          rfl
                         ·
                          cases c26
                          ·
                           cases c31
                           ·
                            cases c32
                            ·
                             rfl
                            ·
                             rfl
                           ·
                            cases c32
                            ·
                             rfl
                            ·
                             rfl
                          ·
                           cases c27
                           ·
                            cases c31
                            ·
                             cases c32
                             ·
                              rfl
                             ·
                              rfl
                            ·
                             cases c32
                             ·
                              rfl
                             ·
                              rfl
                           ·
                            cases c28
                            ·
                             rfl
                            ·
                             cases c29
                             ·
                              cases c30
                              ·
                               cases c31
                               ·
                                cases c32
                                ·
                                 rfl
                                ·
                                 rfl
                               ·
                                cases c32
                                ·
                                 rfl
                                ·
                                 rfl
                              ·
                               rfl
                             ·
                              rfl
                       ·
                        rfl
                      ·
                       rfl
                     ·
                      rfl
                    ·
                     rfl
                   ·
                    rfl
                  ·
                   rfl
                 ·
                  rfl
          ·
           rfl
      ·
       rfl
theorem k5 (x : LL) (y : V3) (t1 : Frm) (ht1 : t1 = (p10 x.a)) (t2 : Frm) (ht2 : t2 = (p10 x.b)) (t3 : Int) (ht3 : t3 = (p17 y.x 9)) (t4 : Int) (ht4 : t4 = (p17 y.y 9)) (t5 : Int) (ht5 : t5 = (p17 y.z 9)) (t6 : V3) (ht6 : t6 = (p16 (W ((W (Int.tdiv (W (t3 - 4)) (W (t1.t.d * t2.t.d)))) * (W (t1.t.d * t2.t.d)))) (W ((W (Int.tdiv (W (t4 - 4)) (W (t1.t.d * t2.t.d)))) * (W (t1.t.d * t2.t.d)))) (W ((W (Int.tdiv (W (t5 - 4)) (W (t1.t.d * t2.t.d)))) * (W (t1.t.d * t2.t.d)))))) (t7 : V3 × Bool) (ht7 : t7 = (p22 t1 t6)) (t8 : Frm × Bool) (ht8 : t8 = (p18 t1)) (t9 : V3 × Bool) (ht9 : t9 = (p22 t8.1 t7.1)) (t10 : Frm × Bool) (ht10 : t10 = (p18 t8.1)) (t11 : Frm × Bool) (ht11 : t11 = (p20 t1 t8.1)) (t12 : V3 × Bool) (ht12 : t12 = (p22 t11.1 t6)) (t13 : Frm × Bool) (ht13 : t13 = (p20 t1 t2)) (t14 : V3 × Bool) (ht14 : t14 = (p22 t2 t7.1)) (t15 : V3 × Bool) (ht15 : t15 = (p22 t13.1 t6)) : (DT.guard (g5 x y) (.ret (b (p5 x y), [])) : DT (AVal × List ABlk)).run = (sel ((okInts x.a.n (fun k => [i (x.a.g k)])) && ((g10 x.a) && ((okInts x.b.n (fun k => [i (x.b.g k)])) && ((g10 x.b) && ((g17 y.x 9) && ((!((W (t1.t.d * t2.t.d)) == 0)) && ((g17 y.y 9) && ((g17 y.z 9) && ((g22 t1 t6) && ((!t7.2) || ((g18 t1) && (sel t8.2 ((g22 t8.1 t7.1) && ((g18 t8.1) && ((g20 t1 t8.1) && ((g22 t11.1 t6) && ((!t9.2) || ((!((t9.1.x == t6.x) && ((t9.1.y == t6.y) && ((t9.1.z == t6.z) && true)))) || ((!t10.2) || ((!((t10.1.t.m.r0.x == t1.t.m.r0.x) && ((t10.1.t.m.r0.y == t1.t.m.r0.y) && ((t10.1.t.m.r0.z == t1.t.m.r0.z) && ((t10.1.t.m.r1.x == t1.t.m.r1.x) && ((t10.1.t.m.r1.y == t1.t.m.r1.y) && ((t10.1.t.m.r1.z == t1.t.m.r1.z) && ((t10.1.t.m.r2.x == t1.t.m.r2.x) && ((t10.1.t.m.r2.y == t1.t.m.r2.y) && ((t10.1.t.m.r2.z == t1.t.m.r2.z) && ((t10.1.t.d == t1.t.d) && ((t10.1.s.x == t1.s.x) && ((t10.1.s.y == t1.s.y) && ((t10.1.s.z == t1.s.z) && true)))))))))))))) || ((!t11.2) || ((!t12.2) || ((!((t12.1.x == t6.x) && ((t12.1.y == t6.y) && ((t12.1.z == t6.z) && true)))) || ((g20 t1 t2) && ((g22 t2 t7.1) && ((!t13.2) || ((!t14.2) || (g22 t13.1 t6)))))))))))))))) ((g20 t1 t2) && ((g22 t2 t7.1) && ((!t13.2) || ((!t14.2) || (g22 t13.1 t6))))))))))))))))) (some ((b ((!(!t7.2)) && (sel t8.2 ((!(!t9.2)) && ((!(!((t9.1.x == t6.x) && ((t9.1.y == t6.y) && ((t9.1.z == t6.z) && true))))) && ((!(!t10.2)) && ((!(!((t10.1.t.m.r0.x == t1.t.m.r0.x) && ((t10.1.t.m.r0.y == t1.t.m.r0.y) && ((t10.1.t.m.r0.z == t1.t.m.r0.z) && ((t10.1.t.m.r1.x == t1.t.m.r1.x) && ((t10.1.t.m.r1.y == t1.t.m.r1.y) && ((t10.1.t.m.r1.z == t1.t.m.r1.z) && ((t10.1.t.m.r2.x == t1.t.m.r2.x) && ((t10.1.t.m.r2.y == t1.t.m.r2.y) && ((t10.1.t.m.r2.z == t1.t.m.r2.z) && ((t10.1.t.d == t1.t.d) && ((t10.1.s.x == t1.s.x) && ((t10.1.s.y == t1.s.y) && ((t10.1.s.z == t1.s.z) && true))))))))))))))) && ((!(!t11.2)) && ((!(!t12.2)) && ((!(!((t12.1.x == t6.x) && ((t12.1.y == t6.y) && ((t12.1.z == t6.z) && true))))) && (sel t13.2 (sel t14.2 ((!(!t15.2)) && ((!(!((t15.1.x == t14.1.x) && ((t15.1.y == t14.1.y) && ((t15.1.z == t14.1.z) && true))))) && ((decide ((W (t1.t.d * t2.t.d)) > 1)) || t14.2))) ((decide ((W (t1.t.d * t2.t.d)) > 1)) || t14.2)) (decide ((W (t1.t.d * t2.t.d)) > 1)))))))))) (sel t13.2 (sel t14.2 ((!(!t15.2)) && ((!(!((t15.1.x == t14.1.x) && ((t15.1.y == t14.1.y) && ((t15.1.z == t14.1.z) && true))))) && ((decide (t1.t.d > 1)) && ((decide ((W (t1.t.d * t2.t.d)) > 1)) || t14.2)))) ((decide (t1.t.d > 1)) && ((decide ((W (t1.t.d * t2.t.d)) > 1)) || t14.2))) ((decide (t1.t.d > 1)) && (decide ((W (t1.t.d * t2.t.d)) > 1))))))), [])) none) := by subst ht1; subst ht2; subst ht3; subst ht4; subst ht5; subst ht6; subst ht7; subst ht8; subst ht9; subst ht10; subst ht11; subst ht12; subst ht13; subst ht14; subst ht15; rw [run_grd]; kernel_rfl
theorem ok5 : FnOk Tryd.prog G 5 S5 := sum2_ok (b5 (E := En tb5) rfl (tdeps tbo5)) fun x y r h => ((r5 x y _ rfl _ rfl _ rfl _ rfl _ rfl _ rfl _ rfl _ rfl _ rfl _ rfl _ rfl _ rfl _ rfl _ rfl _ rfl).trans (m5 _ _ _ _ _ _ _ _ _ _ _ _ _ _ _ _ _ _ _ _ _ _ _ _ _ _ _ _ _ _ _ _ x y _)).trans ((k5 x y _ rfl _ rfl _ rfl _ rfl _ rfl _ rfl _ rfl _ rfl _ rfl _ rfl _ rfl _ rfl _ rfl _ rfl _ rfl).symm.trans h)

end Go.Ev.T
