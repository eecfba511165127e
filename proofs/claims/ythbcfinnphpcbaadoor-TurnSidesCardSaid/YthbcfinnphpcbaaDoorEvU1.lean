/- Printed: functions of the geometry chapters, as plain ones (own work). -/
import Derived.Test.YthbcfinnphpcbaaDoorEvU0
set_option linter.unusedVariables false
set_option linter.unusedSimpArgs false
set_option linter.unnecessarySimpa false
set_option linter.unusedSectionVars false
namespace Go.Ev.T
open Go Go.Ev Go.Ev.Ab Go.Proofs
set_option maxRecDepth 100000
noncomputable def tb25 : List (Nat × Sum) := [(40, S40), (41, S41), (69, S69), (17, S17)]
theorem tbo25 : TblOk Tryd.prog G tb25 := ⟨ok40, ok41, ok69, ok17, trivial⟩
noncomputable def p25 (x : IL) : Pln := let t1 := (p40u ⟨8, x.n, (fun k => [i (x.g k)]), 0⟩); let t2 := (p40u ⟨17, x.n, (fun k => [i (x.g k)]), t1.ih0_0_1⟩); let t3 := (p41u ⟨8, x.n, (fun k => [i (x.g k)]), t2.ih0_0_1⟩); let t4 := (p41u ⟨8, x.n, (fun k => [i (x.g k)]), t3.ih0_0_1⟩); let t5 := (p41u ⟨8, x.n, (fun k => [i (x.g k)]), t4.ih0_0_1⟩); let t6 := (p69 (⟨t3.is0_0, t3.is0_1, t3.is0_2⟩ : V3) (⟨t4.is0_0, t4.is0_1, t4.is0_2⟩ : V3) (⟨t5.is0_0, t5.is0_1, t5.is0_2⟩ : V3)); let t7 := (p17 (W (t2.is0 - 8)) 3); (⟨(⟨(sel (decide (t1.is0 > 1)) (sel t6.2 t6.1.n.x (sel (t7 == 1) 0 (sel (t7 == 2) 0 (W (1 - (W (2 * (Int.tmod t1.is0 2)))))))) (sel (t7 == 1) 0 (sel (t7 == 2) 0 (W (1 - (W (2 * (Int.tmod t1.is0 2)))))))), (sel (decide (t1.is0 > 1)) (sel t6.2 t6.1.n.y (sel (t7 == 1) (W (1 - (W (2 * (Int.tmod t1.is0 2))))) 0)) (sel (t7 == 1) (W (1 - (W (2 * (Int.tmod t1.is0 2))))) 0)), (sel (decide (t1.is0 > 1)) (sel t6.2 t6.1.n.z (sel (t7 == 1) 0 (sel (t7 == 2) (W (1 - (W (2 * (Int.tmod t1.is0 2))))) 0))) (sel (t7 == 1) 0 (sel (t7 == 2) (W (1 - (W (2 * (Int.tmod t1.is0 2))))) 0)))⟩ : V3), (sel (decide (t1.is0 > 1)) (sel t6.2 t6.1.b (W (t2.is0 - 8))) (W (t2.is0 - 8)))⟩ : Pln)
noncomputable def g25 (x : IL) : Bool := let t1 := (p40u ⟨8, x.n, (fun k => [i (x.g k)]), 0⟩); let t2 := (p40u ⟨17, x.n, (fun k => [i (x.g k)]), t1.ih0_0_1⟩); let t3 := (p41u ⟨8, x.n, (fun k => [i (x.g k)]), t2.ih0_0_1⟩); let t4 := (p41u ⟨8, x.n, (fun k => [i (x.g k)]), t3.ih0_0_1⟩); let t5 := (p41u ⟨8, x.n, (fun k => [i (x.g k)]), t4.ih0_0_1⟩); let t6 := (p69 (⟨t3.is0_0, t3.is0_1, t3.is0_2⟩ : V3) (⟨t4.is0_0, t4.is0_1, t4.is0_2⟩ : V3) (⟨t5.is0_0, t5.is0_1, t5.is0_2⟩ : V3)); let t7 := (p17 (W (t2.is0 - 8)) 3); ((Nat.beq t1.alt 1) && ((Nat.beq t2.alt 1) && ((Nat.beq t3.alt 1) && ((Nat.beq t4.alt 1) && ((Nat.beq t5.alt 1) && ((g69 (⟨t3.is0_0, t3.is0_1, t3.is0_2⟩ : V3) (⟨t4.is0_0, t4.is0_1, t4.is0_2⟩ : V3) (⟨t5.is0_0, t5.is0_1, t5.is0_2⟩ : V3)) && (sel (decide (t1.is0 > 1)) (t6.2 || (g17 (W (t2.is0 - 8)) 3)) (g17 (W (t2.is0 - 8)) 3))))))))
noncomputable def S25 : Sum := sum1 cL (fun x => DT.guard (g25 x) (.ret (eP (p25 x), [])))
theorem r25 (x : IL) (t1 : Rg40) (ht1 : t1 = (p40u ⟨8, x.n, (fun k => [i (x.g k)]), 0⟩)) (t2 : Rg40) (ht2 : t2 = (p40u ⟨17, x.n, (fun k => [i (x.g k)]), t1.ih0_0_1⟩)) (t3 : Rg41) (ht3 : t3 = (p41u ⟨8, x.n, (fun k => [i (x.g k)]), t2.ih0_0_1⟩)) (t4 : Rg41) (ht4 : t4 = (p41u ⟨8, x.n, (fun k => [i (x.g k)]), t3.ih0_0_1⟩)) (t5 : Rg41) (ht5 : t5 = (p41u ⟨8, x.n, (fun k => [i (x.g k)]), t4.ih0_0_1⟩)) (t6 : Pln × Bool) (ht6 : t6 = (p69 (⟨t3.is0_0, t3.is0_1, t3.is0_2⟩ : V3) (⟨t4.is0_0, t4.is0_1, t4.is0_2⟩ : V3) (⟨t5.is0_0, t5.is0_1, t5.is0_2⟩ : V3))) (t7 : Int) (ht7 : t7 = (p17 (W (t2.is0 - 8)) 3)) : (runFn (En tb25) pf25 [cL.enc x] []).run = (sel (Nat.beq t1.alt 1)
 (sel (Nat.beq t2.alt 1)
  (sel (Nat.beq t3.alt 1)
   (sel (Nat.beq t4.alt 1)
    (sel (Nat.beq t5.alt 1)
     (sel (g69 (⟨t3.is0_0, t3.is0_1, t3.is0_2⟩ : V3) (⟨t4.is0_0, t4.is0_1, t4.is0_2⟩ : V3) (⟨t5.is0_0, t5.is0_1, t5.is0_2⟩ : V3))
      (sel (decide (t1.is0 > 1))
       (sel t6.2
        (some ((.agg [(i t6.1.n.x), (i t6.1.n.y), (i t6.1.n.z), (i t6.1.b)]), []))
        (sel (g17 (W (t2.is0 - 8)) 3)
         (sel (t7 == 1)
          (some ((.agg [(i 0), (i (W (1 - (W (2 * (Int.tmod t1.is0 2)))))), (i 0), (i (W (t2.is0 - 8)))]), []))
          (sel (t7 == 2)
           (some ((.agg [(i 0), (i 0), (i (W (1 - (W (2 * (Int.tmod t1.is0 2)))))), (i (W (t2.is0 - 8)))]), []))
           (some ((.agg [(i (W (1 - (W (2 * (Int.tmod t1.is0 2)))))), (i 0), (i 0), (i (W (t2.is0 - 8)))]), []))))
         none))
       (sel (g17 (W (t2.is0 - 8)) 3)
        (sel (t7 == 1)
         (some ((.agg [(i 0), (i (W (1 - (W (2 * (Int.tmod t1.is0 2)))))), (i 0), (i (W (t2.is0 - 8)))]), []))
         (sel (t7 == 2)
          (some ((.agg [(i 0), (i 0), (i (W (1 - (W (2 * (Int.tmod t1.is0 2)))))), (i (W (t2.is0 - 8)))]), []))
          (some ((.agg [(i (W (1 - (W (2 * (Int.tmod t1.is0 2)))))), (i 0), (i 0), (i (W (t2.is0 - 8)))]), []))))
        none))
      none)
     none)
    none)
   none)
  none)
 none) := by subst ht1; subst ht2; subst ht3; subst ht4; subst ht5; subst ht6; subst ht7; kernel_rfl
theorem m25 (c1 c2 c3 c4 c5 c6 c7 c8 c9 c10 c11 : Bool) (x : IL) (t1 : Rg40) (t2 : Rg40) (t6 : Pln × Bool) : ((sel c1
 (sel c2
  (sel c3
   (sel c4
    (sel c5
     (sel c6
      (sel c7
       (sel c8
        (some ((.agg [(i t6.1.n.x), (i t6.1.n.y), (i t6.1.n.z), (i t6.1.b)]), []))
        (sel c9
         (sel c10
          (some ((.agg [(i 0), (i (W (1 - (W (2 * (Int.tmod t1.is0 2)))))), (i 0), (i (W (t2.is0 - 8)))]), []))
          (sel c11
           (some ((.agg [(i 0), (i 0), (i (W (1 - (W (2 * (Int.tmod t1.is0 2)))))), (i (W (t2.is0 - 8)))]), []))
           (some ((.agg [(i (W (1 - (W (2 * (Int.tmod t1.is0 2)))))), (i 0), (i 0), (i (W (t2.is0 - 8)))]), []))))
         none))
       (sel c9
        (sel c10
         (some ((.agg [(i 0), (i (W (1 - (W (2 * (Int.tmod t1.is0 2)))))), (i 0), (i (W (t2.is0 - 8)))]), []))
         (sel c11
          (some ((.agg [(i 0), (i 0), (i (W (1 - (W (2 * (Int.tmod t1.is0 2)))))), (i (W (t2.is0 - 8)))]), []))
          (some ((.agg [(i (W (1 - (W (2 * (Int.tmod t1.is0 2)))))), (i 0), (i 0), (i (W (t2.is0 - 8)))]), []))))
        none))
      none)
     none)
    none)
   none)
  none)
 none) : Option (AVal × List ABlk)) = (sel (c1 && (c2 && (c3 && (c4 && (c5 && (c6 && (sel c7 (c8 || c9) c9))))))) (some ((.agg [(i (sel c7 (sel c8 t6.1.n.x (sel c10 0 (sel c11 0 (W (1 - (W (2 * (Int.tmod t1.is0 2)))))))) (sel c10 0 (sel c11 0 (W (1 - (W (2 * (Int.tmod t1.is0 2))))))))), (i (sel c7 (sel c8 t6.1.n.y (sel c10 (W (1 - (W (2 * (Int.tmod t1.is0 2))))) 0)) (sel c10 (W (1 - (W (2 * (Int.tmod t1.is0 2))))) 0))), (i (sel c7 (sel c8 t6.1.n.z (sel c10 0 (sel c11 (W (1 - (W (2 * (Int.tmod t1.is0 2))))) 0))) (sel c10 0 (sel c11 (W (1 - (W (2 * (Int.tmod t1.is0 2))))) 0)))), (i (sel c7 (sel c8 t6.1.b (W (t2.is0 - 8))) (W (t2.is0 - 8))))]), [])) none) := by
 cases c1
 ·
  rfl
 ·
  cases c2
  ·
   rfl
  ·
   cases c3
   ·
    rfl
   ·
    cases c4
    ·
     rfl
    ·
     cases c5
     ·
      rfl
     ·
      cases c6
      ·
       rfl
      ·
       cases c7
       ·
        cases c9
        ·
         rfl
        ·
         cases c10
         ·
          cases c11
          ·
           rfl
          ·
           rfl
         ·
          rfl
       ·
        cases c8
        ·
         cases c9
         ·
          rfl
         ·
          cases c10
          ·
           cases c11
           ·
            rfl
           ·
            rfl
          ·
           rfl
        ·
         rfl
theorem k25 (x : IL) (t1 : Rg40) (ht1 : t1 = (p40u ⟨8, x.n, (fun k => [i (x.g k)]), 0⟩)) (t2 : Rg40) (ht2 : t2 = (p40u ⟨17, x.n, (fun k => [i (x.g k)]), t1.ih0_0_1⟩)) (t3 : Rg41) (ht3 : t3 = (p41u ⟨8, x.n, (fun k => [i (x.g k)]), t2.ih0_0_1⟩)) (t4 : Rg41) (ht4 : t4 = (p41u ⟨8, x.n, (fun k => [i (x.g k)]), t3.ih0_0_1⟩)) (t5 : Rg41) (ht5 : t5 = (p41u ⟨8, x.n, (fun k => [i (x.g k)]), t4.ih0_0_1⟩)) (t6 : Pln × Bool) (ht6 : t6 = (p69 (⟨t3.is0_0, t3.is0_1, t3.is0_2⟩ : V3) (⟨t4.is0_0, t4.is0_1, t4.is0_2⟩ : V3) (⟨t5.is0_0, t5.is0_1, t5.is0_2⟩ : V3))) (t7 : Int) (ht7 : t7 = (p17 (W (t2.is0 - 8)) 3)) : (DT.guard (g25 x) (.ret (eP (p25 x), [])) : DT (AVal × List ABlk)).run = (sel ((Nat.beq t1.alt 1) && ((Nat.beq t2.alt 1) && ((Nat.beq t3.alt 1) && ((Nat.beq t4.alt 1) && ((Nat.beq t5.alt 1) && ((g69 (⟨t3.is0_0, t3.is0_1, t3.is0_2⟩ : V3) (⟨t4.is0_0, t4.is0_1, t4.is0_2⟩ : V3) (⟨t5.is0_0, t5.is0_1, t5.is0_2⟩ : V3)) && (sel (decide (t1.is0 > 1)) (t6.2 || (g17 (W (t2.is0 - 8)) 3)) (g17 (W (t2.is0 - 8)) 3)))))))) (some ((.agg [(i (sel (decide (t1.is0 > 1)) (sel t6.2 t6.1.n.x (sel (t7 == 1) 0 (sel (t7 == 2) 0 (W (1 - (W (2 * (Int.tmod t1.is0 2)))))))) (sel (t7 == 1) 0 (sel (t7 == 2) 0 (W (1 - (W (2 * (Int.tmod t1.is0 2))))))))), (i (sel (decide (t1.is0 > 1)) (sel t6.2 t6.1.n.y (sel (t7 == 1) (W (1 - (W (2 * (Int.tmod t1.is0 2))))) 0)) (sel (t7 == 1) (W (1 - (W (2 * (Int.tmod t1.is0 2))))) 0))), (i (sel (decide (t1.is0 > 1)) (sel t6.2 t6.1.n.z (sel (t7 == 1) 0 (sel (t7 == 2) (W (1 - (W (2 * (Int.tmod t1.is0 2))))) 0))) (sel (t7 == 1) 0 (sel (t7 == 2) (W (1 - (W (2 * (Int.tmod t1.is0 2))))) 0)))), (i (sel (decide (t1.is0 > 1)) (sel t6.2 t6.1.b (W (t2.is0 - 8))) (W (t2.is0 - 8))))]), [])) none) := by subst ht1; subst ht2; subst ht3; subst ht4; subst ht5; subst ht6; subst ht7; rw [run_grd]; kernel_rfl
theorem ok25 : FnOk Tryd.prog G 25 S25 := sum1_ok (b25 (E := En tb25) rfl (tdeps tbo25)) fun x r h => ((r25 x _ rfl _ rfl _ rfl _ rfl _ rfl _ rfl _ rfl).trans (m25 _ _ _ _ _ _ _ _ _ _ _ x _ _ _)).trans ((k25 x _ rfl _ rfl _ rfl _ rfl _ rfl _ rfl _ rfl).symm.trans h)
noncomputable def tb26 : List (Nat × Sum) := [(17, S17)]
theorem tbo26 : TblOk Tryd.prog G tb26 := ⟨ok17, trivial⟩
noncomputable def p26 (x : Pln) (y : V3) : Pln := let t1 := (p17 y.z 9); let t2 := (p17 y.x 5); (⟨(⟨(sel (t2 == 0) (toI (hdA (getRow [[(i y.y)], [(i 0)], [(i 4608)], [(i 4609)], [(i (-4609))], [(i (W (2 * x.n.x)))], [(i 2097152)], [(i 2097153)], [(i (-2097152))]] (0 + t1.toNat)))) (sel (t2 == 1) x.n.x (sel (t2 == 2) x.n.x (sel (t2 == 3) x.n.x (sel (t2 == 4) (W (2 * x.n.x)) x.n.x))))), (sel (t2 == 0) x.n.y (sel (t2 == 1) (toI (hdA (getRow [[(i y.y)], [(i 0)], [(i 4608)], [(i 4609)], [(i (-4609))], [(i (W (2 * x.n.x)))], [(i 2097152)], [(i 2097153)], [(i (-2097152))]] (0 + t1.toNat)))) (sel (t2 == 2) x.n.y (sel (t2 == 3) x.n.y (sel (t2 == 4) (W (2 * x.n.y)) x.n.y))))), (sel (t2 == 0) x.n.z (sel (t2 == 1) x.n.z (sel (t2 == 2) (toI (hdA (getRow [[(i y.y)], [(i 0)], [(i 4608)], [(i 4609)], [(i (-4609))], [(i (W (2 * x.n.x)))], [(i 2097152)], [(i 2097153)], [(i (-2097152))]] (0 + t1.toNat)))) (sel (t2 == 3) x.n.z (sel (t2 == 4) (W (2 * x.n.z)) x.n.z)))))⟩ : V3), (sel (t2 == 0) x.b (sel (t2 == 1) x.b (sel (t2 == 2) x.b (sel (t2 == 3) (toI (hdA (getRow [[(i y.y)], [(i 0)], [(i 4608)], [(i 4609)], [(i (-4609))], [(i (W (2 * x.n.x)))], [(i 2097152)], [(i 2097153)], [(i (-2097152))]] (0 + t1.toNat)))) x.b))))⟩ : Pln)
noncomputable def g26 (x : Pln) (y : V3) : Bool := let t1 := (p17 y.z 9); let t2 := (p17 y.x 5); ((g17 y.z 9) && ((inB t1 9) && (((Nat.ble 1 (len (getRow [[(i y.y)], [(i 0)], [(i 4608)], [(i 4609)], [(i (-4609))], [(i (W (2 * x.n.x)))], [(i 2097152)], [(i 2097153)], [(i (-2097152))]] (0 + t1.toNat)))) && (okCKs [(CK.int .i64)] (getRow [[(i y.y)], [(i 0)], [(i 4608)], [(i 4609)], [(i (-4609))], [(i (W (2 * x.n.x)))], [(i 2097152)], [(i 2097153)], [(i (-2097152))]] (0 + t1.toNat)))) && (g17 y.x 5))))
noncomputable def S26 : Sum := sum2 cP cV (fun x y => DT.guard (g26 x y) (.ret (eP (p26 x y), [])))
theorem r26 (x : Pln) (y : V3) (t1 : Int) (ht1 : t1 = (p17 y.z 9)) (t2 : Int) (ht2 : t2 = (p17 y.x 5)) : (runFn (En tb26) pf26 [cP.enc x, cV.enc y] []).run = (sel (g17 y.z 9)
 (sel (inB t1 9)
  (sel ((Nat.ble 1 (len (getRow [[(i y.y)], [(i 0)], [(i 4608)], [(i 4609)], [(i (-4609))], [(i (W (2 * x.n.x)))], [(i 2097152)], [(i 2097153)], [(i (-2097152))]] (0 + t1.toNat)))) && (okCKs [(CK.int .i64)] (getRow [[(i y.y)], [(i 0)], [(i 4608)], [(i 4609)], [(i (-4609))], [(i (W (2 * x.n.x)))], [(i 2097152)], [(i 2097153)], [(i (-2097152))]] (0 + t1.toNat))))
   (sel (g17 y.x 5)
    (sel (t2 == 0)
     (some ((.agg [(i (toI (hdA (getRow [[(i y.y)], [(i 0)], [(i 4608)], [(i 4609)], [(i (-4609))], [(i (W (2 * x.n.x)))], [(i 2097152)], [(i 2097153)], [(i (-2097152))]] (0 + t1.toNat))))), (i x.n.y), (i x.n.z), (i x.b)]), []))
     (sel (t2 == 1)
      (some ((.agg [(i x.n.x), (i (toI (hdA (getRow [[(i y.y)], [(i 0)], [(i 4608)], [(i 4609)], [(i (-4609))], [(i (W (2 * x.n.x)))], [(i 2097152)], [(i 2097153)], [(i (-2097152))]] (0 + t1.toNat))))), (i x.n.z), (i x.b)]), []))
      (sel (t2 == 2)
       (some ((.agg [(i x.n.x), (i x.n.y), (i (toI (hdA (getRow [[(i y.y)], [(i 0)], [(i 4608)], [(i 4609)], [(i (-4609))], [(i (W (2 * x.n.x)))], [(i 2097152)], [(i 2097153)], [(i (-2097152))]] (0 + t1.toNat))))), (i x.b)]), []))
       (sel (t2 == 3)
        (some ((.agg [(i x.n.x), (i x.n.y), (i x.n.z), (i (toI (hdA (getRow [[(i y.y)], [(i 0)], [(i 4608)], [(i 4609)], [(i (-4609))], [(i (W (2 * x.n.x)))], [(i 2097152)], [(i 2097153)], [(i (-2097152))]] (0 + t1.toNat)))))]), []))
        (sel (t2 == 4)
         (some ((.agg [(i (W (2 * x.n.x))), (i (W (2 * x.n.y))), (i (W (2 * x.n.z))), (i x.b)]), []))
         (some ((.agg [(i x.n.x), (i x.n.y), (i x.n.z), (i x.b)]), [])))))))
    none)
   none)
  none)
 none) := by subst ht1; subst ht2; kernel_rfl
theorem m26 (c1 c2 c3 c4 c5 c6 c7 c8 c9 : Bool) (x : Pln) (y : V3) (t1 : Int) : ((sel c1
 (sel c2
  (sel c3
   (sel c4
    (sel c5
     (some ((.agg [(i (toI (hdA (getRow [[(i y.y)], [(i 0)], [(i 4608)], [(i 4609)], [(i (-4609))], [(i (W (2 * x.n.x)))], [(i 2097152)], [(i 2097153)], [(i (-2097152))]] (0 + t1.toNat))))), (i x.n.y), (i x.n.z), (i x.b)]), []))
     (sel c6
      (some ((.agg [(i x.n.x), (i (toI (hdA (getRow [[(i y.y)], [(i 0)], [(i 4608)], [(i 4609)], [(i (-4609))], [(i (W (2 * x.n.x)))], [(i 2097152)], [(i 2097153)], [(i (-2097152))]] (0 + t1.toNat))))), (i x.n.z), (i x.b)]), []))
      (sel c7
       (some ((.agg [(i x.n.x), (i x.n.y), (i (toI (hdA (getRow [[(i y.y)], [(i 0)], [(i 4608)], [(i 4609)], [(i (-4609))], [(i (W (2 * x.n.x)))], [(i 2097152)], [(i 2097153)], [(i (-2097152))]] (0 + t1.toNat))))), (i x.b)]), []))
       (sel c8
        (some ((.agg [(i x.n.x), (i x.n.y), (i x.n.z), (i (toI (hdA (getRow [[(i y.y)], [(i 0)], [(i 4608)], [(i 4609)], [(i (-4609))], [(i (W (2 * x.n.x)))], [(i 2097152)], [(i 2097153)], [(i (-2097152))]] (0 + t1.toNat)))))]), []))
        (sel c9
         (some ((.agg [(i (W (2 * x.n.x))), (i (W (2 * x.n.y))), (i (W (2 * x.n.z))), (i x.b)]), []))
         (some ((.agg [(i x.n.x), (i x.n.y), (i x.n.z), (i x.b)]), [])))))))
    none)
   none)
  none)
 none) : Option (AVal × List ABlk)) = (sel (c1 && (c2 && (c3 && c4))) (some ((.agg [(i (sel c5 (toI (hdA (getRow [[(i y.y)], [(i 0)], [(i 4608)], [(i 4609)], [(i (-4609))], [(i (W (2 * x.n.x)))], [(i 2097152)], [(i 2097153)], [(i (-2097152))]] (0 + t1.toNat)))) (sel c6 x.n.x (sel c7 x.n.x (sel c8 x.n.x (sel c9 (W (2 * x.n.x)) x.n.x)))))), (i (sel c5 x.n.y (sel c6 (toI (hdA (getRow [[(i y.y)], [(i 0)], [(i 4608)], [(i 4609)], [(i (-4609))], [(i (W (2 * x.n.x)))], [(i 2097152)], [(i 2097153)], [(i (-2097152))]] (0 + t1.toNat)))) (sel c7 x.n.y (sel c8 x.n.y (sel c9 (W (2 * x.n.y)) x.n.y)))))), (i (sel c5 x.n.z (sel c6 x.n.z (sel c7 (toI (hdA (getRow [[(i y.y)], [(i 0)], [(i 4608)], [(i 4609)], [(i (-4609))], [(i (W (2 * x.n.x)))], [(i 2097152)], [(i 2097153)], [(i (-2097152))]] (0 + t1.toNat)))) (sel c8 x.n.z (sel c9 (W (2 * x.n.z)) x.n.z)))))), (i (sel c5 x.b (sel c6 x.b (sel c7 x.b (sel c8 (toI (hdA (getRow [[(i y.y)], [(i 0)], [(i 4608)], [(i 4609)], [(i (-4609))], [(i (W (2 * x.n.x)))], [(i 2097152)], [(i 2097153)], [(i (-2097152))]] (0 + t1.toNat)))) x.b)))))]), [])) none) := by
 cases c1
 ·
  rfl
 ·
  cases c2
  ·
   rfl
  ·
   cases c3
   ·
    rfl
   ·
    cases c4
    ·
     rfl
    ·
     cases c5
     ·
      cases c6
      ·
       cases c7
       ·
        cases c8
        ·
         cases c9
         ·
          rfl
         ·
          rfl
        ·
         rfl
       ·
        rfl
      ·
       rfl
     ·
      rfl
theorem k26 (x : Pln) (y : V3) (t1 : Int) (ht1 : t1 = (p17 y.z 9)) (t2 : Int) (ht2 : t2 = (p17 y.x 5)) : (DT.guard (g26 x y) (.ret (eP (p26 x y), [])) : DT (AVal × List ABlk)).run = (sel ((g17 y.z 9) && ((inB t1 9) && (((Nat.ble 1 (len (getRow [[(i y.y)], [(i 0)], [(i 4608)], [(i 4609)], [(i (-4609))], [(i (W (2 * x.n.x)))], [(i 2097152)], [(i 2097153)], [(i (-2097152))]] (0 + t1.toNat)))) && (okCKs [(CK.int .i64)] (getRow [[(i y.y)], [(i 0)], [(i 4608)], [(i 4609)], [(i (-4609))], [(i (W (2 * x.n.x)))], [(i 2097152)], [(i 2097153)], [(i (-2097152))]] (0 + t1.toNat)))) && (g17 y.x 5)))) (some ((.agg [(i (sel (t2 == 0) (toI (hdA (getRow [[(i y.y)], [(i 0)], [(i 4608)], [(i 4609)], [(i (-4609))], [(i (W (2 * x.n.x)))], [(i 2097152)], [(i 2097153)], [(i (-2097152))]] (0 + t1.toNat)))) (sel (t2 == 1) x.n.x (sel (t2 == 2) x.n.x (sel (t2 == 3) x.n.x (sel (t2 == 4) (W (2 * x.n.x)) x.n.x)))))), (i (sel (t2 == 0) x.n.y (sel (t2 == 1) (toI (hdA (getRow [[(i y.y)], [(i 0)], [(i 4608)], [(i 4609)], [(i (-4609))], [(i (W (2 * x.n.x)))], [(i 2097152)], [(i 2097153)], [(i (-2097152))]] (0 + t1.toNat)))) (sel (t2 == 2) x.n.y (sel (t2 == 3) x.n.y (sel (t2 == 4) (W (2 * x.n.y)) x.n.y)))))), (i (sel (t2 == 0) x.n.z (sel (t2 == 1) x.n.z (sel (t2 == 2) (toI (hdA (getRow [[(i y.y)], [(i 0)], [(i 4608)], [(i 4609)], [(i (-4609))], [(i (W (2 * x.n.x)))], [(i 2097152)], [(i 2097153)], [(i (-2097152))]] (0 + t1.toNat)))) (sel (t2 == 3) x.n.z (sel (t2 == 4) (W (2 * x.n.z)) x.n.z)))))), (i (sel (t2 == 0) x.b (sel (t2 == 1) x.b (sel (t2 == 2) x.b (sel (t2 == 3) (toI (hdA (getRow [[(i y.y)], [(i 0)], [(i 4608)], [(i 4609)], [(i (-4609))], [(i (W (2 * x.n.x)))], [(i 2097152)], [(i 2097153)], [(i (-2097152))]] (0 + t1.toNat)))) x.b)))))]), [])) none) := by subst ht1; subst ht2; rw [run_grd]; kernel_rfl
theorem ok26 : FnOk Tryd.prog G 26 S26 := sum2_ok (b26 (E := En tb26) rfl (tdeps tbo26)) fun x y r h => ((r26 x y _ rfl _ rfl).trans (m26 _ _ _ _ _ _ _ _ _ x y _)).trans ((k26 x y _ rfl _ rfl).symm.trans h)

end Go.Ev.T
