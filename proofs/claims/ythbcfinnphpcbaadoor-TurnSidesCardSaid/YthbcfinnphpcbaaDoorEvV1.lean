/- Printed: functions of the geometry chapters, as plain ones (own work). -/
import Derived.Test.YthbcfinnphpcbaaDoorEvU4
set_option linter.unusedVariables false
set_option linter.unusedSimpArgs false
set_option linter.unnecessarySimpa false
set_option linter.unusedSectionVars false
namespace Go.Ev.T
open Go Go.Ev Go.Ev.Ab Go.Proofs
set_option maxRecDepth 100000
noncomputable def tb8 : List (Nat × Sum) := [(9, S9), (10, S10), (25, S25), (17, S17), (16, S16), (22, S22), (28, S28), (33, S33), (30, S30), (34, S34), (35, S35), (32, S32)]
theorem tbo8 : TblOk Tryd.prog G tb8 := ⟨ok9, ok10, ok25, ok17, ok16, ok22, ok28, ok33, ok30, ok34, ok35, ok32, trivial⟩
noncomputable def p8 (x : IL) (y : IL) (z : V3) : Bool := let t1 := (p10 x); let t2 := (p25 y); let t3 := (p17 z.x 17); let t4 := (p17 z.y 17); let t5 := (p17 z.z 17); let t6 := (p16 (W ((W (Int.tdiv (W (t3 - 8)) t1.t.d)) * t1.t.d)) (W ((W (Int.tdiv (W (t4 - 8)) t1.t.d)) * t1.t.d)) (W ((W (Int.tdiv (W (t5 - 8)) t1.t.d)) * t1.t.d))); let t7 := (p22 t1 t6); let t8 := (p28 t1 t2); let t9 := (p33 t2); let t10 := (p28 t1 t9); let t11 := (p30 t1 (lsP 2 (fun k => getRow [[(i t2.n.x), (i t2.n.y), (i t2.n.z), (i t2.b)], [(i t9.n.x), (i t9.n.y), (i t9.n.z), (i t9.b)]] (0 + k)))); let t12 := (p34 t8.1); let t13 := (p35 t8.1 t7.1); let t14 := (p35 t2 t6); let t15 := (p33 t8.1); let t16 := (p32 (lsP (List.length t11.1) (fun k => rP (gP t11.1 k))) (lsP 2 (fun k => getRow [[(i t8.1.n.x), (i t8.1.n.y), (i t8.1.n.z), (i t8.1.b)], [(i t10.1.n.x), (i t10.1.n.y), (i t10.1.n.z), (i t10.1.b)]] (0 + k)))); ((!(!t7.2)) && ((!(!(t8.2 == t10.2))) && (sel (!t8.2) ((!t11.2) && (((↑(List.length t11.1) : Int) == 0) && (decide (t1.t.d > 1)))) (t12 && ((t13 == t14) && (((t10.1.n.x == t15.n.x) && ((t10.1.n.y == t15.n.y) && ((t10.1.n.z == t15.n.z) && ((t10.1.b == t15.b) && true)))) && (t11.2 && t16)))))))
noncomputable def g8 (x : IL) (y : IL) (z : V3) : Bool := let t1 := (p10 x); let t2 := (p25 y); let t3 := (p17 z.x 17); let t4 := (p17 z.y 17); let t5 := (p17 z.z 17); let t6 := (p16 (W ((W (Int.tdiv (W (t3 - 8)) t1.t.d)) * t1.t.d)) (W ((W (Int.tdiv (W (t4 - 8)) t1.t.d)) * t1.t.d)) (W ((W (Int.tdiv (W (t5 - 8)) t1.t.d)) * t1.t.d))); let t7 := (p22 t1 t6); let t8 := (p28 t1 t2); let t9 := (p33 t2); let t10 := (p28 t1 t9); let t11 := (p30 t1 (lsP 2 (fun k => getRow [[(i t2.n.x), (i t2.n.y), (i t2.n.z), (i t2.b)], [(i t9.n.x), (i t9.n.y), (i t9.n.z), (i t9.b)]] (0 + k)))); let t12 := (p34 t8.1); let t13 := (p35 t8.1 t7.1); let t14 := (p35 t2 t6); let t15 := (p33 t8.1); let t16 := (p32 (lsP (List.length t11.1) (fun k => rP (gP t11.1 k))) (lsP 2 (fun k => getRow [[(i t8.1.n.x), (i t8.1.n.y), (i t8.1.n.z), (i t8.1.b)], [(i t10.1.n.x), (i t10.1.n.y), (i t10.1.n.z), (i t10.1.b)]] (0 + k)))); ((okInts x.n (fun k => [i (x.g k)])) && ((g10 x) && ((okInts y.n (fun k => [i (y.g k)])) && ((g25 y) && ((g17 z.x 17) && ((!(t1.t.d == 0)) && ((g17 z.y 17) && ((g17 z.z 17) && ((g22 t1 t6) && ((g28 t1 t2) && ((g28 t1 t9) && ((!t7.2) || ((!(t8.2 == t10.2)) || ((okPs 2 (fun k => getRow [[(i t2.n.x), (i t2.n.y), (i t2.n.z), (i t2.b)], [(i t9.n.x), (i t9.n.y), (i t9.n.z), (i t9.b)]] (0 + k))) && ((g30 t1 (lsP 2 (fun k => getRow [[(i t2.n.x), (i t2.n.y), (i t2.n.z), (i t2.b)], [(i t9.n.x), (i t9.n.y), (i t9.n.z), (i t9.b)]] (0 + k)))) && ((!t8.2) || ((g34 t8.1) && ((!t12) || ((g35 t8.1 t7.1) && ((g35 t2 t6) && ((!(t13 == t14)) || ((!((t10.1.n.x == t15.n.x) && ((t10.1.n.y == t15.n.y) && ((t10.1.n.z == t15.n.z) && ((t10.1.b == t15.b) && true))))) || ((!t11.2) || ((okPs (List.length t11.1) (fun k => rP (gP t11.1 k))) && ((okPs 2 (fun k => getRow [[(i t8.1.n.x), (i t8.1.n.y), (i t8.1.n.z), (i t8.1.b)], [(i t10.1.n.x), (i t10.1.n.y), (i t10.1.n.z), (i t10.1.b)]] (0 + k))) && (g32 (lsP (List.length t11.1) (fun k => rP (gP t11.1 k))) (lsP 2 (fun k => getRow [[(i t8.1.n.x), (i t8.1.n.y), (i t8.1.n.z), (i t8.1.b)], [(i t10.1.n.x), (i t10.1.n.y), (i t10.1.n.z), (i t10.1.b)]] (0 + k)))))))))))))))))))))))))))))
noncomputable def S8 : Sum := sum3 cL cL cV (fun x y z => DT.guard (g8 x y z) (.ret (b (p8 x y z), [])))
theorem r8 (x : IL) (y : IL) (z : V3) (t1 : Frm) (ht1 : t1 = (p10 x)) (t2 : Pln) (ht2 : t2 = (p25 y)) (t3 : Int) (ht3 : t3 = (p17 z.x 17)) (t4 : Int) (ht4 : t4 = (p17 z.y 17)) (t5 : Int) (ht5 : t5 = (p17 z.z 17)) (t6 : V3) (ht6 : t6 = (p16 (W ((W (Int.tdiv (W (t3 - 8)) t1.t.d)) * t1.t.d)) (W ((W (Int.tdiv (W (t4 - 8)) t1.t.d)) * t1.t.d)) (W ((W (Int.tdiv (W (t5 - 8)) t1.t.d)) * t1.t.d)))) (t7 : V3 × Bool) (ht7 : t7 = (p22 t1 t6)) (t8 : Pln × Bool) (ht8 : t8 = (p28 t1 t2)) (t9 : Pln) (ht9 : t9 = (p33 t2)) (t10 : Pln × Bool) (ht10 : t10 = (p28 t1 t9)) (t11 : List Pln × Bool) (ht11 : t11 = (p30 t1 (lsP 2 (fun k => getRow [[(i t2.n.x), (i t2.n.y), (i t2.n.z), (i t2.b)], [(i t9.n.x), (i t9.n.y), (i t9.n.z), (i t9.b)]] (0 + k))))) (t12 : Bool) (ht12 : t12 = (p34 t8.1)) (t13 : Int) (ht13 : t13 = (p35 t8.1 t7.1)) (t14 : Int) (ht14 : t14 = (p35 t2 t6)) (t15 : Pln) (ht15 : t15 = (p33 t8.1)) (t16 : Bool) (ht16 : t16 = (p32 (lsP (List.length t11.1) (fun k => rP (gP t11.1 k))) (lsP 2 (fun k => getRow [[(i t8.1.n.x), (i t8.1.n.y), (i t8.1.n.z), (i t8.1.b)], [(i t10.1.n.x), (i t10.1.n.y), (i t10.1.n.z), (i t10.1.b)]] (0 + k))))) : (runFn (En tb8) pf8 [cL.enc x, cL.enc y, cV.enc z] []).run = (sel (okInts x.n (fun k => [i (x.g k)]))
 (sel (g10 x)
  (sel (okInts y.n (fun k => [i (y.g k)]))
   (sel (g25 y)
    (sel (g17 z.x 17)
     (sel (t1.t.d == 0)
      none
      (sel (g17 z.y 17)
       (sel (t1.t.d == 0)
        none
        (sel (g17 z.z 17)
         (sel (t1.t.d == 0)
          none
          (sel (g22 t1 t6)
           (sel (g28 t1 t2)
            (sel (g28 t1 t9)
             (sel (!t7.2)
              (some ((b false), []))
              (sel (!(t8.2 == t10.2))
               (some ((b false), []))
               (sel (okPs 2 (fun k => getRow [[(i t2.n.x), (i t2.n.y), (i t2.n.z), (i t2.b)], [(i t9.n.x), (i t9.n.y), (i t9.n.z), (i t9.b)]] (0 + k)))
                (sel (g30 t1 (lsP 2 (fun k => getRow [[(i t2.n.x), (i t2.n.y), (i t2.n.z), (i t2.b)], [(i t9.n.x), (i t9.n.y), (i t9.n.z), (i t9.b)]] (0 + k))))
                 (sel (!t8.2)
                  (sel (!t11.2)
                   (sel ((↑(List.length t11.1) : Int) == 0)
                    (some ((b (decide (t1.t.d > 1))), []))
                    (some ((b false), [])))
                   (some ((b false), [])))
                  (sel (g34 t8.1)
                   (sel t12
                    (sel (g35 t8.1 t7.1)
                     (sel (g35 t2 t6)
                      (sel (t13 == t14)
                       (sel ((t10.1.n.x == t15.n.x) && ((t10.1.n.y == t15.n.y) && ((t10.1.n.z == t15.n.z) && ((t10.1.b == t15.b) && true))))
                        (sel t11.2
                         (sel (okPs (List.length t11.1) (fun k => rP (gP t11.1 k)))
                          (sel (okPs 2 (fun k => getRow [[(i t8.1.n.x), (i t8.1.n.y), (i t8.1.n.z), (i t8.1.b)], [(i t10.1.n.x), (i t10.1.n.y), (i t10.1.n.z), (i t10.1.b)]] (0 + k)))
                           (sel (g32 (lsP (List.length t11.1) (fun k => rP (gP t11.1 k))) (lsP 2 (fun k => getRow [[(i t8.1.n.x), (i t8.1.n.y), (i t8.1.n.z), (i t8.1.b)], [(i t10.1.n.x), (i t10.1.n.y), (i t10.1.n.z), (i t10.1.b)]] (0 + k))))
                            (some ((b t16), []))
                            none)
                           none)
                          none)
                         (some ((b false), [])))
                        (some ((b false), [])))
                       (some ((b false), [])))
                      none)
                     none)
                    (some ((b false), [])))
                   none))
                 none)
                none)))
             none)
            none)
           none))
         none))
       none))
     none)
    none)
   none)
  none)
 none) := by subst ht1; subst ht2; subst ht3; subst ht4; subst ht5; subst ht6; subst ht7; subst ht8; subst ht9; subst ht10; subst ht11; subst ht12; subst ht13; subst ht14; subst ht15; subst ht16; kernel_rfl
theorem m8 (c1 c2 c3 c4 c5 c6 c7 c8 c9 c10 c11 c12 c13 c14 c15 c16 c17 c18 c19 c20 c21 c22 c23 c24 c25 c26 c27 c28 : Bool) (x : IL) (y : IL) (z : V3) (t1 : Frm) (t16 : Bool) : ((sel c1
 (sel c2
  (sel c3
   (sel c4
    (sel c5
     (sel c6
      none
      (sel c7
       (sel c6
        none
        (sel c8
         (sel c6
          none
          (sel c9
           (sel c10
            (sel c11
             (sel c12
              (some ((b false), []))
              (sel c13
               (some ((b false), []))
               (sel c14
                (sel c15
                 (sel c16
                  (sel c17
                   (sel c18
                    (some ((b (decide (t1.t.d > 1))), []))
                    (some ((b false), [])))
                   (some ((b false), [])))
                  (sel c19
                   (sel c20
                    (sel c21
                     (sel c22
                      (sel c23
                       (sel c24
                        (sel c25
                         (sel c26
                          (sel c27
                           (sel c28
                            (some ((b t16), []))
                            none)
                           none)
                          none)
                         (some ((b false), [])))
                        (some ((b false), [])))
                       (some ((b false), [])))
                      none)
                     none)
                    (some ((b false), [])))
                   none))
                 none)
                none)))
             none)
            none)
           none))
         none))
       none))
     none)
    none)
   none)
  none)
 none) : Option (AVal × List ABlk)) = (sel (c1 && (c2 && (c3 && (c4 && (c5 && ((!c6) && (c7 && (c8 && (c9 && (c10 && (c11 && (c12 || (c13 || (c14 && (c15 && (c16 || (c19 && ((!c20) || (c21 && (c22 && ((!c23) || ((!c24) || ((!c25) || (c26 && (c27 && c28))))))))))))))))))))))))) (some ((b ((!c12) && ((!c13) && (sel c16 (c17 && (c18 && (decide (t1.t.d > 1)))) (c20 && (c23 && (c24 && (c25 && t16)))))))), [])) none) := by
 cases c1
 ·
  rfl
 ·
  cases c2
  ·
   rfl
  ·
   cases c3
   ·
    rfl
   ·
    cases c4
    ·
     rfl
    ·
     cases c5
     ·
      rfl
     ·
      cases c6
      ·
       cases c7
       ·
        rfl
       ·
        cases c8
        ·
         rfl
        ·
         cases c9
         ·
          rfl
         ·
          cases c10
          ·
           rfl
          ·
           cases c11
           ·
            rfl
           ·
            cases c12
            ·
             cases c13
             ·
              cases c14
              ·
               rfl
              ·
               cases c15
               ·
                rfl
               ·
                cases c16
                ·
                 cases c19
                 ·
                  rfl
                 ·
                  cases c20
                  ·
                   rfl
                  ·
                   cases c21
                   ·
                    rfl
                   ·
                    cases c22
                    ·
                     rfl
                    ·
                     cases c23
                     ·
                      rfl
                     ·
                      cases c24
                      ·
                       rfl
                      ·
                       cases c25
                       ·
                        rfl
                       ·
                        cases c26
                        ·
                         rfl
                        ·
                         cases c27
                         ·
                          rfl
                         ·
                          cases c28
                          ·
                           rfl
                          ·
                           rfl
                ·
                 cases c17
                 ·
                  rfl
                 ·
                  cases c18
                  ·
                   rfl
                  ·
                   rfl
             ·
              rfl
            ·
             rfl
      ·
       rfl
theorem k8 (x : IL) (y : IL) (z : V3) (t1 : Frm) (ht1 : t1 = (p10 x)) (t2 : Pln) (ht2 : t2 = (p25 y)) (t3 : Int) (ht3 : t3 = (p17 z.x 17)) (t4 : Int) (ht4 : t4 = (p17 z.y 17)) (t5 : Int) (ht5 : t5 = (p17 z.z 17)) (t6 : V3) (ht6 : t6 = (p16 (W ((W (Int.tdiv (W (t3 - 8)) t1.t.d)) * t1.t.d)) (W ((W (Int.tdiv (W (t4 - 8)) t1.t.d)) * t1.t.d)) (W ((W (Int.tdiv (W (t5 - 8)) t1.t.d)) * t1.t.d)))) (t7 : V3 × Bool) (ht7 : t7 = (p22 t1 t6)) (t8 : Pln × Bool) (ht8 : t8 = (p28 t1 t2)) (t9 : Pln) (ht9 : t9 = (p33 t2)) (t10 : Pln × Bool) (ht10 : t10 = (p28 t1 t9)) (t11 : List Pln × Bool) (ht11 : t11 = (p30 t1 (lsP 2 (fun k => getRow [[(i t2.n.x), (i t2.n.y), (i t2.n.z), (i t2.b)], [(i t9.n.x), (i t9.n.y), (i t9.n.z), (i t9.b)]] (0 + k))))) (t12 : Bool) (ht12 : t12 = (p34 t8.1)) (t13 : Int) (ht13 : t13 = (p35 t8.1 t7.1)) (t14 : Int) (ht14 : t14 = (p35 t2 t6)) (t15 : Pln) (ht15 : t15 = (p33 t8.1)) (t16 : Bool) (ht16 : t16 = (p32 (lsP (List.length t11.1) (fun k => rP (gP t11.1 k))) (lsP 2 (fun k => getRow [[(i t8.1.n.x), (i t8.1.n.y), (i t8.1.n.z), (i t8.1.b)], [(i t10.1.n.x), (i t10.1.n.y), (i t10.1.n.z), (i t10.1.b)]] (0 + k))))) : (DT.guard (g8 x y z) (.ret (b (p8 x y z), [])) : DT (AVal × List ABlk)).run = (sel ((okInts x.n (fun k => [i (x.g k)])) && ((g10 x) && ((okInts y.n (fun k => [i (y.g k)])) && ((g25 y) && ((g17 z.x 17) && ((!(t1.t.d == 0)) && ((g17 z.y 17) && ((g17 z.z 17) && ((g22 t1 t6) && ((g28 t1 t2) && ((g28 t1 t9) && ((!t7.2) || ((!(t8.2 == t10.2)) || ((okPs 2 (fun k => getRow [[(i t2.n.x), (i t2.n.y), (i t2.n.z), (i t2.b)], [(i t9.n.x), (i t9.n.y), (i t9.n.z), (i t9.b)]] (0 + k))) && ((g30 t1 (lsP 2 (fun k => getRow [[(i t2.n.x), (i t2.n.y), (i t2.n.z), (i t2.b)], [(i t9.n.x), (i t9.n.y), (i t9.n.z), (i t9.b)]] (0 + k)))) && ((!t8.2) || ((g34 t8.1) && ((!t12) || ((g35 t8.1 t7.1) && ((g35 t2 t6) && ((!(t13 == t14)) || ((!((t10.1.n.x == t15.n.x) && ((t10.1.n.y == t15.n.y) && ((t10.1.n.z == t15.n.z) && ((t10.1.b == t15.b) && true))))) || ((!t11.2) || ((okPs (List.length t11.1) (fun k => rP (gP t11.1 k))) && ((okPs 2 (fun k => getRow [[(i t8.1.n.x), (i t8.1.n.y), (i t8.1.n.z), (i t8.1.b)], [(i t10.1.n.x), (i t10.1.n.y), (i t10.1.n.z), (i t10.1.b)]] (0 + k))) && (g32 (lsP (List.length t11.1) (fun k => rP (gP t11.1 k))) (lsP 2 (fun k => getRow [[(i t8.1.n.x), (i t8.1.n.y), (i t8.1.n.z), (i t8.1.b)], [(i t10.1.n.x), (i t10.1.n.y), (i t10.1.n.z), (i t10.1.b)]] (0 + k))))))))))))))))))))))))))))) (some ((b ((!(!t7.2)) && ((!(!(t8.2 == t10.2))) && (sel (!t8.2) ((!t11.2) && (((↑(List.length t11.1) : Int) == 0) && (decide (t1.t.d > 1)))) (t12 && ((t13 == t14) && (((t10.1.n.x == t15.n.x) && ((t10.1.n.y == t15.n.y) && ((t10.1.n.z == t15.n.z) && ((t10.1.b == t15.b) && true)))) && (t11.2 && t16)))))))), [])) none) := by subst ht1; subst ht2; subst ht3; subst ht4; subst ht5; subst ht6; subst ht7; subst ht8; subst ht9; subst ht10; subst ht11; subst ht12; subst ht13; subst ht14; subst ht15; subst ht16; rw [run_grd]; kernel_rfl
theorem ok8 : FnOk Tryd.prog G 8 S8 := sum3_ok (b8 (E := En tb8) rfl (tdeps tbo8)) fun x y z r h => ((r8 x y z _ rfl _ rfl _ rfl _ rfl _ rfl _ rfl _ rfl _ rfl _ rfl _ rfl _ rfl _ rfl _ rfl _ rfl _ rfl _ rfl).trans (m8 _ _ _ _ _ _ _ _ _ _ _ _ _ _ _ _ _ _ _ _ _ _ _ _ _ _ _ _ x y z _ _)).trans ((k8 x y z _ rfl _ rfl _ rfl _ rfl _ rfl _ rfl _ rfl _ rfl _ rfl _ rfl _ rfl _ rfl _ rfl _ rfl _ rfl _ rfl).symm.trans h)

end Go.Ev.T
