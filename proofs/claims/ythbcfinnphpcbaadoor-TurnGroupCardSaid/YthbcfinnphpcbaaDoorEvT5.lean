/- Printed: functions of the geometry chapters, as plain ones (own work). -/
import Derived.Test.YthbcfinnphpcbaaDoorEvT4
set_option linter.unusedVariables false
set_option linter.unusedSimpArgs false
set_option linter.unnecessarySimpa false
set_option linter.unusedSectionVars false
namespace Go.Ev.T
open Go Go.Ev Go.Ev.Ab Go.Proofs
set_option maxRecDepth 100000
noncomputable def p20 (x : Frm) (y : Frm) : Frm × Bool := let t1 := (p56 x); let t2 := (p56 y); let t3 := (p58 y.t.m x.s); let t4 := (p57 t3 y.t.d); let t5 := (p44 y.t.m x.t.m); let t6 := (p43 t5 (W (x.t.d * y.t.d))); let t7 := (p65 t4.1 y.s); let t8 := (p59 t6.1 t6.2 t7); ((⟨(⟨(⟨(⟨(sel (!t1) 0 (sel (!t2) 0 (sel (!t4.2) 0 t8.1.t.m.r0.x))), (sel (!t1) 0 (sel (!t2) 0 (sel (!t4.2) 0 t8.1.t.m.r0.y))), (sel (!t1) 0 (sel (!t2) 0 (sel (!t4.2) 0 t8.1.t.m.r0.z)))⟩ : V3), (⟨(sel (!t1) 0 (sel (!t2) 0 (sel (!t4.2) 0 t8.1.t.m.r1.x))), (sel (!t1) 0 (sel (!t2) 0 (sel (!t4.2) 0 t8.1.t.m.r1.y))), (sel (!t1) 0 (sel (!t2) 0 (sel (!t4.2) 0 t8.1.t.m.r1.z)))⟩ : V3), (⟨(sel (!t1) 0 (sel (!t2) 0 (sel (!t4.2) 0 t8.1.t.m.r2.x))), (sel (!t1) 0 (sel (!t2) 0 (sel (!t4.2) 0 t8.1.t.m.r2.y))), (sel (!t1) 0 (sel (!t2) 0 (sel (!t4.2) 0 t8.1.t.m.r2.z)))⟩ : V3)⟩ : M3), (sel (!t1) 0 (sel (!t2) 0 (sel (!t4.2) 0 t8.1.t.d)))⟩ : Trn), (⟨(sel (!t1) 0 (sel (!t2) 0 (sel (!t4.2) 0 t8.1.s.x))), (sel (!t1) 0 (sel (!t2) 0 (sel (!t4.2) 0 t8.1.s.y))), (sel (!t1) 0 (sel (!t2) 0 (sel (!t4.2) 0 t8.1.s.z)))⟩ : V3)⟩ : Frm), ((!(!t1)) && ((!(!t2)) && ((!(!t4.2)) && t8.2))))
noncomputable def g20 (x : Frm) (y : Frm) : Bool := let t1 := (p56 x); let t2 := (p56 y); let t3 := (p58 y.t.m x.s); let t4 := (p57 t3 y.t.d); let t5 := (p44 y.t.m x.t.m); let t6 := (p43 t5 (W (x.t.d * y.t.d))); let t7 := (p65 t4.1 y.s); let t8 := (p59 t6.1 t6.2 t7); ((g56 x) && ((!t1) || ((g56 y) && ((!t2) || ((g57 t3 y.t.d) && ((!t4.2) || ((g43 t5 (W (x.t.d * y.t.d))) && (g59 t6.1 t6.2 t7))))))))
noncomputable def tb20 : List (Nat × Sum) := [(56, S56), (58, S58), (57, S57), (44, S44), (43, S43), (65, S65), (59, S59)]
theorem tbo20 : TblOk Tryd.prog G tb20 := ⟨ok56, ok58, ok57, ok44, ok43, ok65, ok59, trivial⟩
noncomputable def S20 : Sum := sum2 cF cF (fun x y => DT.guard (g20 x y) (.ret (.tup [eF (p20 x y).1, b (p20 x y).2], [])))
theorem r20 (x : Frm) (y : Frm) (t1 : Bool) (ht1 : t1 = (p56 x)) (t2 : Bool) (ht2 : t2 = (p56 y)) (t3 : V3) (ht3 : t3 = (p58 y.t.m x.s)) (t4 : V3 × Bool) (ht4 : t4 = (p57 t3 y.t.d)) (t5 : M3) (ht5 : t5 = (p44 y.t.m x.t.m)) (t6 : M3 × Int) (ht6 : t6 = (p43 t5 (W (x.t.d * y.t.d)))) (t7 : V3) (ht7 : t7 = (p65 t4.1 y.s)) (t8 : Frm × Bool) (ht8 : t8 = (p59 t6.1 t6.2 t7)) : (runFn (En tb20) pf20 [cF.enc x, cF.enc y] []).run = (sel (g56 x)
 (sel (!t1)
  (some ((.tup [(.agg [(i 0), (i 0), (i 0), (i 0), (i 0), (i 0), (i 0), (i 0), (i 0), (i 0), (i 0), (i 0), (i 0)]), (b false)]), []))
  (sel (g56 y)
   (sel (!t2)
    (some ((.tup [(.agg [(i 0), (i 0), (i 0), (i 0), (i 0), (i 0), (i 0), (i 0), (i 0), (i 0), (i 0), (i 0), (i 0)]), (b false)]), []))
    (sel (g57 t3 y.t.d)
     (sel (!t4.2)
      (some ((.tup [(.agg [(i 0), (i 0), (i 0), (i 0), (i 0), (i 0), (i 0), (i 0), (i 0), (i 0), (i 0), (i 0), (i 0)]), (b false)]), []))
      (sel (g43 t5 (W (x.t.d * y.t.d)))
       (sel (g59 t6.1 t6.2 t7)
        (some ((.tup [(.agg [(i t8.1.t.m.r0.x), (i t8.1.t.m.r0.y), (i t8.1.t.m.r0.z), (i t8.1.t.m.r1.x), (i t8.1.t.m.r1.y), (i t8.1.t.m.r1.z), (i t8.1.t.m.r2.x), (i t8.1.t.m.r2.y), (i t8.1.t.m.r2.z), (i t8.1.t.d), (i t8.1.s.x), (i t8.1.s.y), (i t8.1.s.z)]), (b t8.2)]), []))
        none)
       none))
     none))
   none))
 none) := by subst ht1; subst ht2; subst ht3; subst ht4; subst ht5; subst ht6; subst ht7; subst ht8; kernel_rfl
theorem m20 (c1 c2 c3 c4 c5 c6 c7 c8 : Bool) (x : Frm) (y : Frm) (t8 : Frm × Bool) : ((sel c1
 (sel c2
  (some ((.tup [(.agg [(i 0), (i 0), (i 0), (i 0), (i 0), (i 0), (i 0), (i 0), (i 0), (i 0), (i 0), (i 0), (i 0)]), (b false)]), []))
  (sel c3
   (sel c4
    (some ((.tup [(.agg [(i 0), (i 0), (i 0), (i 0), (i 0), (i 0), (i 0), (i 0), (i 0), (i 0), (i 0), (i 0), (i 0)]), (b false)]), []))
    (sel c5
     (sel c6
      (some ((.tup [(.agg [(i 0), (i 0), (i 0), (i 0), (i 0), (i 0), (i 0), (i 0), (i 0), (i 0), (i 0), (i 0), (i 0)]), (b false)]), []))
      (sel c7
       (sel c8
        (some ((.tup [(.agg [(i t8.1.t.m.r0.x), (i t8.1.t.m.r0.y), (i t8.1.t.m.r0.z), (i t8.1.t.m.r1.x), (i t8.1.t.m.r1.y), (i t8.1.t.m.r1.z), (i t8.1.t.m.r2.x), (i t8.1.t.m.r2.y), (i t8.1.t.m.r2.z), (i t8.1.t.d), (i t8.1.s.x), (i t8.1.s.y), (i t8.1.s.z)]), (b t8.2)]), []))
        none)
       none))
     none))
   none))
 none) : Option (AVal × List ABlk)) = (sel (c1 && (c2 || (c3 && (c4 || (c5 && (c6 || (c7 && c8))))))) (some ((.tup [(.agg [(i (sel c2 0 (sel c4 0 (sel c6 0 t8.1.t.m.r0.x)))), (i (sel c2 0 (sel c4 0 (sel c6 0 t8.1.t.m.r0.y)))), (i (sel c2 0 (sel c4 0 (sel c6 0 t8.1.t.m.r0.z)))), (i (sel c2 0 (sel c4 0 (sel c6 0 t8.1.t.m.r1.x)))), (i (sel c2 0 (sel c4 0 (sel c6 0 t8.1.t.m.r1.y)))), (i (sel c2 0 (sel c4 0 (sel c6 0 t8.1.t.m.r1.z)))), (i (sel c2 0 (sel c4 0 (sel c6 0 t8.1.t.m.r2.x)))), (i (sel c2 0 (sel c4 0 (sel c6 0 t8.1.t.m.r2.y)))), (i (sel c2 0 (sel c4 0 (sel c6 0 t8.1.t.m.r2.z)))), (i (sel c2 0 (sel c4 0 (sel c6 0 t8.1.t.d)))), (i (sel c2 0 (sel c4 0 (sel c6 0 t8.1.s.x)))), (i (sel c2 0 (sel c4 0 (sel c6 0 t8.1.s.y)))), (i (sel c2 0 (sel c4 0 (sel c6 0 t8.1.s.z))))]), (b ((!c2) && ((!c4) && ((!c6) && t8.2))))]), [])) none) := by
 cases c1
 ·
  rfl
 ·
  cases c2
  ·
   cases c3
   ·
    rfl
   ·
    cases c4
    ·
     cases c5
     ·
      rfl
     ·
      cases c6
      ·
       cases c7
       ·
        rfl
       ·
        cases c8
        ·
         rfl
        ·
         rfl
      ·
       rfl
    ·
     rfl
  ·
   rfl
theorem k20 (x : Frm) (y : Frm) (t1 : Bool) (ht1 : t1 = (p56 x)) (t2 : Bool) (ht2 : t2 = (p56 y)) (t3 : V3) (ht3 : t3 = (p58 y.t.m x.s)) (t4 : V3 × Bool) (ht4 : t4 = (p57 t3 y.t.d)) (t5 : M3) (ht5 : t5 = (p44 y.t.m x.t.m)) (t6 : M3 × Int) (ht6 : t6 = (p43 t5 (W (x.t.d * y.t.d)))) (t7 : V3) (ht7 : t7 = (p65 t4.1 y.s)) (t8 : Frm × Bool) (ht8 : t8 = (p59 t6.1 t6.2 t7)) : (DT.guard (g20 x y) (.ret (.tup [eF (p20 x y).1, b (p20 x y).2], [])) : DT (AVal × List ABlk)).run = (sel ((g56 x) && ((!t1) || ((g56 y) && ((!t2) || ((g57 t3 y.t.d) && ((!t4.2) || ((g43 t5 (W (x.t.d * y.t.d))) && (g59 t6.1 t6.2 t7)))))))) (some ((.tup [(.agg [(i (sel (!t1) 0 (sel (!t2) 0 (sel (!t4.2) 0 t8.1.t.m.r0.x)))), (i (sel (!t1) 0 (sel (!t2) 0 (sel (!t4.2) 0 t8.1.t.m.r0.y)))), (i (sel (!t1) 0 (sel (!t2) 0 (sel (!t4.2) 0 t8.1.t.m.r0.z)))), (i (sel (!t1) 0 (sel (!t2) 0 (sel (!t4.2) 0 t8.1.t.m.r1.x)))), (i (sel (!t1) 0 (sel (!t2) 0 (sel (!t4.2) 0 t8.1.t.m.r1.y)))), (i (sel (!t1) 0 (sel (!t2) 0 (sel (!t4.2) 0 t8.1.t.m.r1.z)))), (i (sel (!t1) 0 (sel (!t2) 0 (sel (!t4.2) 0 t8.1.t.m.r2.x)))), (i (sel (!t1) 0 (sel (!t2) 0 (sel (!t4.2) 0 t8.1.t.m.r2.y)))), (i (sel (!t1) 0 (sel (!t2) 0 (sel (!t4.2) 0 t8.1.t.m.r2.z)))), (i (sel (!t1) 0 (sel (!t2) 0 (sel (!t4.2) 0 t8.1.t.d)))), (i (sel (!t1) 0 (sel (!t2) 0 (sel (!t4.2) 0 t8.1.s.x)))), (i (sel (!t1) 0 (sel (!t2) 0 (sel (!t4.2) 0 t8.1.s.y)))), (i (sel (!t1) 0 (sel (!t2) 0 (sel (!t4.2) 0 t8.1.s.z))))]), (b ((!(!t1)) && ((!(!t2)) && ((!(!t4.2)) && t8.2))))]), [])) none) := by subst ht1; subst ht2; subst ht3; subst ht4; subst ht5; subst ht6; subst ht7; subst ht8; rw [run_grd]; kernel_rfl
theorem ok20 : FnOk Tryd.prog G 20 S20 := sum2_ok (b20 (E := En tb20) rfl (tdeps tbo20)) fun x y r h => ((r20 x y _ rfl _ rfl _ rfl _ rfl _ rfl _ rfl _ rfl _ rfl).trans (m20 _ _ _ _ _ _ _ _ x y _)).trans ((k20 x y _ rfl _ rfl _ rfl _ rfl _ rfl _ rfl _ rfl _ rfl).symm.trans h)
noncomputable def p37 (x : Frm) (y : V3) (z : V3) : Bool := let t1 := (p22 x y); (t1.2 && ((t1.1.x == z.x) && ((t1.1.y == z.y) && ((t1.1.z == z.z) && true))))
noncomputable def g37 (x : Frm) (y : V3) (z : V3) : Bool := let t1 := (p22 x y); (g22 x y)
noncomputable def tb37 : List (Nat × Sum) := [(22, S22)]
theorem tbo37 : TblOk Tryd.prog G tb37 := ⟨ok22, trivial⟩
noncomputable def S37 : Sum := sum3 cF cV cV (fun x y z => DT.guard (g37 x y z) (.ret (b (p37 x y z), [])))
theorem r37 (x : Frm) (y : V3) (z : V3) (t1 : V3 × Bool) (ht1 : t1 = (p22 x y)) : (runFn (En tb37) pf37 [cF.enc x, cV.enc y, cV.enc z] []).run = (sel (g22 x y)
 (sel t1.2
  (some ((b ((t1.1.x == z.x) && ((t1.1.y == z.y) && ((t1.1.z == z.z) && true)))), []))
  (some ((b false), [])))
 none) := by subst ht1; kernel_rfl
theorem m37 (c1 c2 : Bool) (x : Frm) (y : V3) (z : V3) (t1 : V3 × Bool) : ((sel c1
 (sel c2
  (some ((b ((t1.1.x == z.x) && ((t1.1.y == z.y) && ((t1.1.z == z.z) && true)))), []))
  (some ((b false), [])))
 none) : Option (AVal × List ABlk)) = (sel c1 (some ((b (c2 && ((t1.1.x == z.x) && ((t1.1.y == z.y) && ((t1.1.z == z.z) && true))))), [])) none) := by
 cases c1
 ·
  rfl
 ·
  cases c2
  ·
   rfl
  ·
   rfl
theorem k37 (x : Frm) (y : V3) (z : V3) (t1 : V3 × Bool) (ht1 : t1 = (p22 x y)) : (DT.guard (g37 x y z) (.ret (b (p37 x y z), [])) : DT (AVal × List ABlk)).run = (sel (g22 x y) (some ((b (t1.2 && ((t1.1.x == z.x) && ((t1.1.y == z.y) && ((t1.1.z == z.z) && true))))), [])) none) := by subst ht1; rw [run_grd]; kernel_rfl
theorem ok37 : FnOk Tryd.prog G 37 S37 := sum3_ok (b37 (E := En tb37) rfl (tdeps tbo37)) fun x y z r h => ((r37 x y z _ rfl).trans (m37 _ _ x y z _)).trans ((k37 x y z _ rfl).symm.trans h)
noncomputable def p38 (x : Frm) (y : Pln) (z : Pln) : Bool := let t1 := (p28 x y); (t1.2 && ((t1.1.n.x == z.n.x) && ((t1.1.n.y == z.n.y) && ((t1.1.n.z == z.n.z) && ((t1.1.b == z.b) && true)))))
noncomputable def g38 (x : Frm) (y : Pln) (z : Pln) : Bool := let t1 := (p28 x y); (g28 x y)
noncomputable def tb38 : List (Nat × Sum) := [(28, S28)]
theorem tbo38 : TblOk Tryd.prog G tb38 := ⟨ok28, trivial⟩
noncomputable def S38 : Sum := sum3 cF cP cP (fun x y z => DT.guard (g38 x y z) (.ret (b (p38 x y z), [])))
theorem r38 (x : Frm) (y : Pln) (z : Pln) (t1 : Pln × Bool) (ht1 : t1 = (p28 x y)) : (runFn (En tb38) pf38 [cF.enc x, cP.enc y, cP.enc z] []).run = (sel (g28 x y)
 (sel t1.2
  (some ((b ((t1.1.n.x == z.n.x) && ((t1.1.n.y == z.n.y) && ((t1.1.n.z == z.n.z) && ((t1.1.b == z.b) && true))))), []))
  (some ((b false), [])))
 none) := by subst ht1; kernel_rfl
theorem m38 (c1 c2 : Bool) (x : Frm) (y : Pln) (z : Pln) (t1 : Pln × Bool) : ((sel c1
 (sel c2
  (some ((b ((t1.1.n.x == z.n.x) && ((t1.1.n.y == z.n.y) && ((t1.1.n.z == z.n.z) && ((t1.1.b == z.b) && true))))), []))
  (some ((b false), [])))
 none) : Option (AVal × List ABlk)) = (sel c1 (some ((b (c2 && ((t1.1.n.x == z.n.x) && ((t1.1.n.y == z.n.y) && ((t1.1.n.z == z.n.z) && ((t1.1.b == z.b) && true)))))), [])) none) := by
 cases c1
 ·
  rfl
 ·
  cases c2
  ·
   rfl
  ·
   rfl
theorem k38 (x : Frm) (y : Pln) (z : Pln) (t1 : Pln × Bool) (ht1 : t1 = (p28 x y)) : (DT.guard (g38 x y z) (.ret (b (p38 x y z), [])) : DT (AVal × List ABlk)).run = (sel (g28 x y) (some ((b (t1.2 && ((t1.1.n.x == z.n.x) && ((t1.1.n.y == z.n.y) && ((t1.1.n.z == z.n.z) && ((t1.1.b == z.b) && true)))))), [])) none) := by subst ht1; rw [run_grd]; kernel_rfl
theorem ok38 : FnOk Tryd.prog G 38 S38 := sum3_ok (b38 (E := En tb38) rfl (tdeps tbo38)) fun x y z r h => ((r38 x y z _ rfl).trans (m38 _ _ x y z _)).trans ((k38 x y z _ rfl).symm.trans h)
end Go.Ev.T
