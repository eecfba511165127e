/- Printed: functions of the wear chapter, as plain ones (own work). -/
import Derived.Test.YtblhkhjdkjjheaaEvW3
set_option linter.unusedVariables false
set_option linter.unusedSimpArgs false
set_option linter.unnecessarySimpa false
set_option linter.unusedSectionVars false
namespace Go.Ev.W
open Go Go.Ev Go.Ev.Ab Go.Proofs
set_option maxRecDepth 100000
noncomputable def tb22t : List (Nat × Sum) := [(45, S45)]
theorem tbo22t : TblOk Try.prog G tb22t := ⟨ok45, trivial⟩
noncomputable def p22t (x : Int) (y : Int) : Int × Int := ((sel (decide (x ≥ 0)) (sel (!(decide (x ≤ 1048576))) 0 (sel (decide (y < 0)) 0 (sel (decide (y > 100)) 0 (W (Int.tdiv (W ((W ((W (x * y)) + 10)) - 1)) 10))))) 0), (sel (decide (x ≥ 0)) (sel (!(decide (x ≤ 1048576))) 3 (sel (decide (y < 0)) 3 (sel (decide (y > 100)) 3 0))) 3))
noncomputable def S22t : Sum := sum2 cI cI (fun x y => .ret (.tup [i (p22t x y).1, i (p22t x y).2], []))
theorem r22t (x : Int) (y : Int)  : (runFn (En tb22t) pf22 [cI.enc x, cI.enc y] []).run = (sel (decide (x ≥ 0))
 (sel (!(decide (x ≤ 1048576)))
  (some ((.tup [(i 0), (i 3)]), []))
  (sel (decide (y < 0))
   (some ((.tup [(i 0), (i 3)]), []))
   (sel (decide (y > 100))
    (some ((.tup [(i 0), (i 3)]), []))
    (some ((.tup [(i (W (Int.tdiv (W ((W ((W (x * y)) + 10)) - 1)) 10))), (i 0)]), [])))))
 (some ((.tup [(i 0), (i 3)]), []))) := by kernel_rfl
theorem m22t (c1 c2 c3 c4 : Bool) (x : Int) (y : Int)  : ((sel c1
 (sel c2
  (some ((.tup [(i 0), (i 3)]), []))
  (sel c3
   (some ((.tup [(i 0), (i 3)]), []))
   (sel c4
    (some ((.tup [(i 0), (i 3)]), []))
    (some ((.tup [(i (W (Int.tdiv (W ((W ((W (x * y)) + 10)) - 1)) 10))), (i 0)]), [])))))
 (some ((.tup [(i 0), (i 3)]), []))) : Option (AVal × List ABlk)) = (some ((.tup [(i (sel c1 (sel c2 0 (sel c3 0 (sel c4 0 (W (Int.tdiv (W ((W ((W (x * y)) + 10)) - 1)) 10))))) 0)), (i (sel c1 (sel c2 3 (sel c3 3 (sel c4 3 0))) 3))]), [])) := by
 cases c1
 ·
  rfl
 ·
  cases c2
  ·
   cases c3
   ·
    cases c4
    ·
     rfl
    ·
     rfl
   ·
    rfl
  ·
   rfl
theorem k22t (x : Int) (y : Int)  : (.ret (.tup [i (p22t x y).1, i (p22t x y).2], []) : DT (AVal × List ABlk)).run = (some ((.tup [(i (sel (decide (x ≥ 0)) (sel (!(decide (x ≤ 1048576))) 0 (sel (decide (y < 0)) 0 (sel (decide (y > 100)) 0 (W (Int.tdiv (W ((W ((W (x * y)) + 10)) - 1)) 10))))) 0)), (i (sel (decide (x ≥ 0)) (sel (!(decide (x ≤ 1048576))) 3 (sel (decide (y < 0)) 3 (sel (decide (y > 100)) 3 0))) 3))]), [])) := by kernel_rfl
theorem ok22t : FnOk Try.prog G 22 S22t := sum2_ok (b22 (E := En tb22t) rfl (tdeps tbo22t)) fun x y r h => ((r22t x y ).trans (m22t _ _ _ _ x y )).trans ((k22t x y ).symm.trans h)
noncomputable def tb8 : List (Nat × Sum) := [(9, S9), (22, S22t)]
theorem tbo8 : TblOk Try.prog G tb8 := ⟨ok9, ok22t, trivial⟩
noncomputable def p8 (x : X2) (y : U2) : Bool := let t1 := (p22t (Int.tmod (W x.a) 5000) (Int.tmod (W y.a) 101)); let t2 := (p22t (Int.tmod (W x.b) 5000) (Int.tmod (W y.a) 101)); let t3 := (p22t (W ((Int.tmod (W x.a) 5000) + (Int.tmod (W x.b) 5000))) (Int.tmod (W y.a) 101)); let t4 := (p22t (Int.tmod (W x.a) 5000) (if (Int.tmod (W y.b) 101) > (Int.tmod (W y.a) 101) then (Int.tmod (W y.b) 101) else (Int.tmod (W y.a) 101))); ((!(t1.2 != 0)) && ((!(t2.2 != 0)) && ((!(t3.2 != 0)) && ((!(t4.2 != 0)) && ((decide ((W (10 * t1.1)) ≥ (W ((Int.tmod (W x.a) 5000) * (Int.tmod (W y.a) 101))))) && ((decide ((W (10 * (W (t1.1 - 1)))) < (W ((Int.tmod (W x.a) 5000) * (Int.tmod (W y.a) 101))))) && ((decide (t3.1 ≤ (W (t1.1 + t2.1)))) && ((decide ((W (t1.1 + t2.1)) ≤ (W (t3.1 + 1)))) && ((decide (t3.1 ≥ t1.1)) && (decide (t4.1 ≥ t1.1)))))))))))
noncomputable def S8 : Sum := sum2 cX cU (fun x y => .ret (b (p8 x y), []))
theorem r8 (x : X2) (y : U2) (t1 : Int × Int) (ht1 : t1 = (p22t (Int.tmod (W x.a) 5000) (Int.tmod (W y.a) 101))) (t2 : Int × Int) (ht2 : t2 = (p22t (Int.tmod (W x.b) 5000) (Int.tmod (W y.a) 101))) (t3 : Int × Int) (ht3 : t3 = (p22t (W ((Int.tmod (W x.a) 5000) + (Int.tmod (W x.b) 5000))) (Int.tmod (W y.a) 101))) (t4 : Int × Int) (ht4 : t4 = (p22t (Int.tmod (W x.a) 5000) (if (Int.tmod (W y.b) 101) > (Int.tmod (W y.a) 101) then (Int.tmod (W y.b) 101) else (Int.tmod (W y.a) 101)))) : (runFn (En tb8) pf8 [cX.enc x, cU.enc y] []).run = (sel (t1.2 != 0)
 (some ((b false), []))
 (sel (t2.2 != 0)
  (some ((b false), []))
  (sel (t3.2 != 0)
   (some ((b false), []))
   (sel (t4.2 != 0)
    (some ((b false), []))
    (sel (decide ((W (10 * t1.1)) ≥ (W ((Int.tmod (W x.a) 5000) * (Int.tmod (W y.a) 101)))))
     (sel (decide ((W (10 * (W (t1.1 - 1)))) < (W ((Int.tmod (W x.a) 5000) * (Int.tmod (W y.a) 101)))))
      (sel (decide (t3.1 ≤ (W (t1.1 + t2.1))))
       (sel (decide ((W (t1.1 + t2.1)) ≤ (W (t3.1 + 1))))
        (sel (decide (t3.1 ≥ t1.1))
         (some ((b (decide (t4.1 ≥ t1.1))), []))
         (some ((b false), [])))
        (some ((b false), [])))
       (some ((b false), [])))
      (some ((b false), [])))
     (some ((b false), []))))))) := by subst ht1; subst ht2; subst ht3; subst ht4; kernel_rfl
theorem m8 (c1 c2 c3 c4 c5 c6 c7 c8 c9 : Bool) (x : X2) (y : U2) (t1 : Int × Int) (t4 : Int × Int) : ((sel c1
 (some ((b false), []))
 (sel c2
  (some ((b false), []))
  (sel c3
   (some ((b false), []))
   (sel c4
    (some ((b false), []))
    (sel c5
     (sel c6
      (sel c7
       (sel c8
        (sel c9
         (some ((b (decide (t4.1 ≥ t1.1))), []))
         (some ((b false), [])))
        (some ((b false), [])))
       (some ((b false), [])))
      (some ((b false), [])))
     (some ((b false), []))))))) : Option (AVal × List ABlk)) = (some ((b ((!c1) && ((!c2) && ((!c3) && ((!c4) && (c5 && (c6 && (c7 && (c8 && (c9 && (decide (t4.1 ≥ t1.1)))))))))))), [])) := by
 cases c1
 ·
  cases c2
  ·
   cases c3
   ·
    cases c4
    ·
     cases c5
     ·
      rfl
     ·
      cases c6
      ·
       rfl
      ·
       cases c7
       ·
        rfl
       ·
        cases c8
        ·
         rfl
        ·
         cases c9
         ·
          rfl
         ·
          rfl
    ·
     rfl
   ·
    rfl
  ·
   rfl
 ·
  rfl
theorem k8 (x : X2) (y : U2) (t1 : Int × Int) (ht1 : t1 = (p22t (Int.tmod (W x.a) 5000) (Int.tmod (W y.a) 101))) (t2 : Int × Int) (ht2 : t2 = (p22t (Int.tmod (W x.b) 5000) (Int.tmod (W y.a) 101))) (t3 : Int × Int) (ht3 : t3 = (p22t (W ((Int.tmod (W x.a) 5000) + (Int.tmod (W x.b) 5000))) (Int.tmod (W y.a) 101))) (t4 : Int × Int) (ht4 : t4 = (p22t (Int.tmod (W x.a) 5000) (if (Int.tmod (W y.b) 101) > (Int.tmod (W y.a) 101) then (Int.tmod (W y.b) 101) else (Int.tmod (W y.a) 101)))) : (.ret (b (p8 x y), []) : DT (AVal × List ABlk)).run = (some ((b ((!(t1.2 != 0)) && ((!(t2.2 != 0)) && ((!(t3.2 != 0)) && ((!(t4.2 != 0)) && ((decide ((W (10 * t1.1)) ≥ (W ((Int.tmod (W x.a) 5000) * (Int.tmod (W y.a) 101))))) && ((decide ((W (10 * (W (t1.1 - 1)))) < (W ((Int.tmod (W x.a) 5000) * (Int.tmod (W y.a) 101))))) && ((decide (t3.1 ≤ (W (t1.1 + t2.1)))) && ((decide ((W (t1.1 + t2.1)) ≤ (W (t3.1 + 1)))) && ((decide (t3.1 ≥ t1.1)) && (decide (t4.1 ≥ t1.1)))))))))))), [])) := by subst ht1; subst ht2; subst ht3; subst ht4; kernel_rfl
theorem ok8 : FnOk Try.prog G 8 S8 := sum2_ok (b8 (E := En tb8) rfl (tdeps tbo8)) fun x y r h => ((r8 x y _ rfl _ rfl _ rfl _ rfl).trans (m8 _ _ _ _ _ _ _ _ _ x y _ _)).trans ((k8 x y _ rfl _ rfl _ rfl _ rfl).symm.trans h)

end Go.Ev.W
