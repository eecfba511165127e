/- Printed: functions of the geometry chapters, as plain ones (own work). -/
import Derived.Test.YthbcfinnphpcbaaDoorEvT1
set_option linter.unusedVariables false
set_option linter.unusedSimpArgs false
set_option linter.unnecessarySimpa false
set_option linter.unusedSectionVars false
namespace Go.Ev.T
open Go Go.Ev Go.Ev.Ab Go.Proofs
set_option maxRecDepth 100000
noncomputable def tb77 : List (Nat × Sum) := []
theorem tbo77 : TblOk Tryd.prog G tb77 := trivial
@[reducible] noncomputable def S77 : Sum := runFn (En tb77) pf77
theorem ok77 : FnOk Tryd.prog G 77 S77 := b77 (E := En tb77) rfl (tdeps tbo77)
noncomputable def p17 (x : Int) (y : Int) : Int := (sel (decide (y < 1)) 0 (Int.tmod (W ((Int.tmod x y) + y)) y))
noncomputable def g17 (x : Int) (y : Int) : Bool := ((decide (y < 1)) || (!(y == 0)))
noncomputable def tb17 : List (Nat × Sum) := []
theorem tbo17 : TblOk Tryd.prog G tb17 := trivial
noncomputable def S17 : Sum := sum2 cI cI (fun x y => DT.guard (g17 x y) (.ret (i (p17 x y), [])))
theorem r17 (x : Int) (y : Int)  : (runFn (En tb17) pf17 [cI.enc x, cI.enc y] []).run = (sel (decide (y < 1))
 (some ((i 0), []))
 (sel (y == 0)
  none
  (sel (y == 0)
   none
   (some ((i (Int.tmod (W ((Int.tmod x y) + y)) y)), []))))) := by kernel_rfl
theorem m17 (c1 c2 : Bool) (x : Int) (y : Int)  : ((sel c1
 (some ((i 0), []))
 (sel c2
  none
  (sel c2
   none
   (some ((i (Int.tmod (W ((Int.tmod x y) + y)) y)), []))))) : Option (AVal × List ABlk)) = (sel (c1 || (!c2)) (some ((i (sel c1 0 (Int.tmod (W ((Int.tmod x y) + y)) y))), [])) none) := by
 cases c1
 ·
  cases c2
  ·
   rfl
  ·
   rfl
 ·
  rfl
theorem k17 (x : Int) (y : Int)  : (DT.guard (g17 x y) (.ret (i (p17 x y), [])) : DT (AVal × List ABlk)).run = (sel ((decide (y < 1)) || (!(y == 0))) (some ((i (sel (decide (y < 1)) 0 (Int.tmod (W ((Int.tmod x y) + y)) y))), [])) none) := by rw [run_grd]; kernel_rfl
theorem ok17 : FnOk Tryd.prog G 17 S17 := sum2_ok (b17 (E := En tb17) rfl (tdeps tbo17)) fun x y r h => ((r17 x y ).trans (m17 _ _ x y )).trans ((k17 x y ).symm.trans h)
noncomputable def p16 (x : Int) (y : Int) (z : Int) : V3 := (⟨x, y, z⟩ : V3)
noncomputable def tb16 : List (Nat × Sum) := []
theorem tbo16 : TblOk Tryd.prog G tb16 := trivial
noncomputable def S16 : Sum := sum3 cI cI cI (fun x y z => .ret (eV (p16 x y z), []))
theorem r16 (x : Int) (y : Int) (z : Int)  : (runFn (En tb16) pf16 [cI.enc x, cI.enc y, cI.enc z] []).run = some (eV (p16 x y z), []) := by kernel_rfl
theorem ok16 : FnOk Tryd.prog G 16 S16 := sum3_ok (b16 (E := En tb16) rfl (tdeps tbo16)) fun x y z r h => (r16 x y z).trans h
noncomputable def p36 (x : M3) (y : Int) (z : V3) : Frm := (⟨(⟨x, y⟩ : Trn), z⟩ : Frm)
noncomputable def tb36 : List (Nat × Sum) := []
theorem tbo36 : TblOk Tryd.prog G tb36 := trivial
noncomputable def S36 : Sum := sum3 cM cI cV (fun x y z => .ret (eF (p36 x y z), []))
theorem r36 (x : M3) (y : Int) (z : V3)  : (runFn (En tb36) pf36 [cM.enc x, cI.enc y, cV.enc z] []).run = some (eF (p36 x y z), []) := by kernel_rfl
theorem ok36 : FnOk Tryd.prog G 36 S36 := sum3_ok (b36 (E := En tb36) rfl (tdeps tbo36)) fun x y z r h => (r36 x y z).trans h
noncomputable def p42 (x : M3) (y : Int) : Bool := ((!(decide (x.r0.x < (W (0 - y))))) && ((!(decide (x.r0.x > y))) && ((!(decide (x.r0.y < (W (0 - y))))) && ((!(decide (x.r0.y > y))) && ((!(decide (x.r0.z < (W (0 - y))))) && ((!(decide (x.r0.z > y))) && ((!(decide (x.r1.x < (W (0 - y))))) && ((!(decide (x.r1.x > y))) && ((!(decide (x.r1.y < (W (0 - y))))) && ((!(decide (x.r1.y > y))) && ((!(decide (x.r1.z < (W (0 - y))))) && ((!(decide (x.r1.z > y))) && ((!(decide (x.r2.x < (W (0 - y))))) && ((!(decide (x.r2.x > y))) && ((!(decide (x.r2.y < (W (0 - y))))) && ((!(decide (x.r2.y > y))) && ((!(decide (x.r2.z < (W (0 - y))))) && (!(decide (x.r2.z > y))))))))))))))))))))
noncomputable def tb42 : List (Nat × Sum) := []
theorem tbo42 : TblOk Tryd.prog G tb42 := trivial
noncomputable def S42 : Sum := sum2 cM cI (fun x y => .ret (b (p42 x y), []))
theorem r42 (x : M3) (y : Int)  : (runFn (En tb42) pf42 [cM.enc x, cI.enc y] []).run = (sel (decide (x.r0.x < (W (0 - y))))
 (some ((b false), []))
 (sel (decide (x.r0.x > y))
  (some ((b false), []))
  (sel (decide (x.r0.y < (W (0 - y))))
   (some ((b false), []))
   (sel (decide (x.r0.y > y))
    (some ((b false), []))
    (sel (decide (x.r0.z < (W (0 - y))))
     (some ((b false), []))
     (sel (decide (x.r0.z > y))
      (some ((b false), []))
      (sel (decide (x.r1.x < (W (0 - y))))
       (some ((b false), []))
       (sel (decide (x.r1.x > y))
        (some ((b false), []))
        (sel (decide (x.r1.y < (W (0 - y))))
         (some ((b false), []))
         (sel (decide (x.r1.y > y))
          (some ((b false), []))
          (sel (decide (x.r1.z < (W (0 - y))))
           (some ((b false), []))
           (sel (decide (x.r1.z > y))
            (some ((b false), []))
            (sel (decide (x.r2.x < (W (0 - y))))
             (some ((b false), []))
             (sel (decide (x.r2.x > y))
              (some ((b false), []))
              (sel (decide (x.r2.y < (W (0 - y))))
               (some ((b false), []))
               (sel (decide (x.r2.y > y))
                (some ((b false), []))
                (sel (decide (x.r2.z < (W (0 - y))))
                 (some ((b false), []))
                 (sel (decide (x.r2.z > y))
                  (some ((b false), []))
                  (some ((b true), [])))))))))))))))))))) := by kernel_rfl
theorem m42 (c1 c2 c3 c4 c5 c6 c7 c8 c9 c10 c11 c12 c13 c14 c15 c16 c17 c18 : Bool) (x : M3) (y : Int)  : ((sel c1
 (some ((b false), []))
 (sel c2
  (some ((b false), []))
  (sel c3
   (some ((b false), []))
   (sel c4
    (some ((b false), []))
    (sel c5
     (some ((b false), []))
     (sel c6
      (some ((b false), []))
      (sel c7
       (some ((b false), []))
       (sel c8
        (some ((b false), []))
        (sel c9
         (some ((b false), []))
         (sel c10
          (some ((b false), []))
          (sel c11
           (some ((b false), []))
           (sel c12
            (some ((b false), []))
            (sel c13
             (some ((b false), []))
             (sel c14
              (some ((b false), []))
              (sel c15
               (some ((b false), []))
               (sel c16
                (some ((b false), []))
                (sel c17
                 (some ((b false), []))
                 (sel c18
                  (some ((b false), []))
                  (some ((b true), [])))))))))))))))))))) : Option (AVal × List ABlk)) = (some ((b ((!c1) && ((!c2) && ((!c3) && ((!c4) && ((!c5) && ((!c6) && ((!c7) && ((!c8) && ((!c9) && ((!c10) && ((!c11) && ((!c12) && ((!c13) && ((!c14) && ((!c15) && ((!c16) && ((!c17) && (!c18))))))))))))))))))), [])) := by
 cases c1
 ·
  cases c2
  ·
   cases c3
   ·
    cases c4
    ·
     cases c5
     ·
      cases c6
      ·
       cases c7
       ·
        cases c8
        ·
         cases c9
         ·
          cases c10
          ·
           cases c11
           ·
            cases c12
            ·
             cases c13
             ·
              cases c14
              ·
               cases c15
               ·
                cases c16
                ·
                 cases c17
                 ·
                  cases c18
                  ·
                   rfl
                  ·
                   rfl
                 ·
                  rfl
                ·
                 rfl
               ·
                rfl
              ·
               rfl
             ·
              rfl
            ·
             rfl
           ·
            rfl
          ·
           rfl
         ·
          rfl
        ·
         rfl
       ·
        rfl
      ·
       rfl
     ·
      rfl
    ·
     rfl
   ·
    rfl
  ·
   rfl
 ·
  rfl
theorem k42 (x : M3) (y : Int)  : (.ret (b (p42 x y), []) : DT (AVal × List ABlk)).run = (some ((b ((!(decide (x.r0.x < (W (0 - y))))) && ((!(decide (x.r0.x > y))) && ((!(decide (x.r0.y < (W (0 - y))))) && ((!(decide (x.r0.y > y))) && ((!(decide (x.r0.z < (W (0 - y))))) && ((!(decide (x.r0.z > y))) && ((!(decide (x.r1.x < (W (0 - y))))) && ((!(decide (x.r1.x > y))) && ((!(decide (x.r1.y < (W (0 - y))))) && ((!(decide (x.r1.y > y))) && ((!(decide (x.r1.z < (W (0 - y))))) && ((!(decide (x.r1.z > y))) && ((!(decide (x.r2.x < (W (0 - y))))) && ((!(decide (x.r2.x > y))) && ((!(decide (x.r2.y < (W (0 - y))))) && ((!(decide (x.r2.y > y))) && ((!(decide (x.r2.z < (W (0 - y))))) && (!(decide (x.r2.z > y))))))))))))))))))))), [])) := by kernel_rfl
theorem ok42 : FnOk Tryd.prog G 42 S42 := sum2_ok (b42 (E := En tb42) rfl (tdeps tbo42)) fun x y r h => ((r42 x y ).trans (m42 _ _ _ _ _ _ _ _ _ _ _ _ _ _ _ _ _ _ x y )).trans ((k42 x y ).symm.trans h)
noncomputable def p44 (x : M3) (y : M3) : M3 := (⟨(⟨(W ((W ((W (0 + (W (x.r0.x * y.r0.x)))) + (W (x.r0.y * y.r1.x)))) + (W (x.r0.z * y.r2.x)))), (W ((W ((W (0 + (W (x.r0.x * y.r0.y)))) + (W (x.r0.y * y.r1.y)))) + (W (x.r0.z * y.r2.y)))), (W ((W ((W (0 + (W (x.r0.x * y.r0.z)))) + (W (x.r0.y * y.r1.z)))) + (W (x.r0.z * y.r2.z))))⟩ : V3), (⟨(W ((W ((W (0 + (W (x.r1.x * y.r0.x)))) + (W (x.r1.y * y.r1.x)))) + (W (x.r1.z * y.r2.x)))), (W ((W ((W (0 + (W (x.r1.x * y.r0.y)))) + (W (x.r1.y * y.r1.y)))) + (W (x.r1.z * y.r2.y)))), (W ((W ((W (0 + (W (x.r1.x * y.r0.z)))) + (W (x.r1.y * y.r1.z)))) + (W (x.r1.z * y.r2.z))))⟩ : V3), (⟨(W ((W ((W (0 + (W (x.r2.x * y.r0.x)))) + (W (x.r2.y * y.r1.x)))) + (W (x.r2.z * y.r2.x)))), (W ((W ((W (0 + (W (x.r2.x * y.r0.y)))) + (W (x.r2.y * y.r1.y)))) + (W (x.r2.z * y.r2.y)))), (W ((W ((W (0 + (W (x.r2.x * y.r0.z)))) + (W (x.r2.y * y.r1.z)))) + (W (x.r2.z * y.r2.z))))⟩ : V3)⟩ : M3)
noncomputable def tb44 : List (Nat × Sum) := []
theorem tbo44 : TblOk Tryd.prog G tb44 := trivial
noncomputable def S44 : Sum := sum2 cM cM (fun x y => .ret (eM (p44 x y), []))
theorem r44 (x : M3) (y : M3)  : (runFn (En tb44) pf44 [cM.enc x, cM.enc y] []).run = some (eM (p44 x y), []) := by kernel_rfl
theorem ok44 : FnOk Tryd.prog G 44 S44 := sum2_ok (b44 (E := En tb44) rfl (tdeps tbo44)) fun x y r h => (r44 x y).trans h
noncomputable def p45 (x : M3) : M3 := (⟨(⟨x.r0.x, x.r1.x, x.r2.x⟩ : V3), (⟨x.r0.y, x.r1.y, x.r2.y⟩ : V3), (⟨x.r0.z, x.r1.z, x.r2.z⟩ : V3)⟩ : M3)
noncomputable def tb45 : List (Nat × Sum) := []
theorem tbo45 : TblOk Tryd.prog G tb45 := trivial
noncomputable def S45 : Sum := sum1 cM (fun x => .ret (eM (p45 x), []))
theorem r45 (x : M3)  : (runFn (En tb45) pf45 [cM.enc x] []).run = some (eM (p45 x), []) := by kernel_rfl
theorem ok45 : FnOk Tryd.prog G 45 S45 := sum1_ok (b45 (E := En tb45) rfl (tdeps tbo45)) fun x r h => (r45 x).trans h
noncomputable def p46 (x : M3) (y : Int) : M3 := (⟨(⟨(W (x.r0.x * y)), (W (x.r0.y * y)), (W (x.r0.z * y))⟩ : V3), (⟨(W (x.r1.x * y)), (W (x.r1.y * y)), (W (x.r1.z * y))⟩ : V3), (⟨(W (x.r2.x * y)), (W (x.r2.y * y)), (W (x.r2.z * y))⟩ : V3)⟩ : M3)
noncomputable def tb46 : List (Nat × Sum) := []
theorem tbo46 : TblOk Tryd.prog G tb46 := trivial
noncomputable def S46 : Sum := sum2 cM cI (fun x y => .ret (eM (p46 x y), []))
theorem r46 (x : M3) (y : Int)  : (runFn (En tb46) pf46 [cM.enc x, cI.enc y] []).run = some (eM (p46 x y), []) := by kernel_rfl
theorem ok46 : FnOk Tryd.prog G 46 S46 := sum2_ok (b46 (E := En tb46) rfl (tdeps tbo46)) fun x y r h => (r46 x y).trans h
noncomputable def p49 (x : V3) (y : V3) : Int := (W ((W ((W (x.x * y.x)) + (W (x.y * y.y)))) + (W (x.z * y.z))))
noncomputable def tb49 : List (Nat × Sum) := []
theorem tbo49 : TblOk Tryd.prog G tb49 := trivial
noncomputable def S49 : Sum := sum2 cV cV (fun x y => .ret (i (p49 x y), []))
theorem r49 (x : V3) (y : V3)  : (runFn (En tb49) pf49 [cV.enc x, cV.enc y] []).run = some (i (p49 x y), []) := by kernel_rfl
theorem ok49 : FnOk Tryd.prog G 49 S49 := sum2_ok (b49 (E := En tb49) rfl (tdeps tbo49)) fun x y r h => (r49 x y).trans h
noncomputable def p50 (x : M3) (y : Int) : V3 := (⟨(toI (hdA (dropN [(i x.r0.x), (i x.r0.y), (i x.r0.z), (i x.r1.x), (i x.r1.y), (i x.r1.z), (i x.r2.x), (i x.r2.y), (i x.r2.z)] ((0 + (y.toNat * 3)) + 0)))), (toI (hdA (dropN [(i x.r0.x), (i x.r0.y), (i x.r0.z), (i x.r1.x), (i x.r1.y), (i x.r1.z), (i x.r2.x), (i x.r2.y), (i x.r2.z)] ((0 + (y.toNat * 3)) + 1)))), (toI (hdA (dropN [(i x.r0.x), (i x.r0.y), (i x.r0.z), (i x.r1.x), (i x.r1.y), (i x.r1.z), (i x.r2.x), (i x.r2.y), (i x.r2.z)] ((0 + (y.toNat * 3)) + 2))))⟩ : V3)
noncomputable def g50 (x : M3) (y : Int) : Bool := ((inB y 3) && (((Nat.ble (((0 + (y.toNat * 3)) + 0) + 1) 9) && (okCKs [(CK.int .i64)] (dropN [(i x.r0.x), (i x.r0.y), (i x.r0.z), (i x.r1.x), (i x.r1.y), (i x.r1.z), (i x.r2.x), (i x.r2.y), (i x.r2.z)] ((0 + (y.toNat * 3)) + 0)))) && (((Nat.ble (((0 + (y.toNat * 3)) + 1) + 1) 9) && (okCKs [(CK.int .i64)] (dropN [(i x.r0.x), (i x.r0.y), (i x.r0.z), (i x.r1.x), (i x.r1.y), (i x.r1.z), (i x.r2.x), (i x.r2.y), (i x.r2.z)] ((0 + (y.toNat * 3)) + 1)))) && ((Nat.ble (((0 + (y.toNat * 3)) + 2) + 1) 9) && (okCKs [(CK.int .i64)] (dropN [(i x.r0.x), (i x.r0.y), (i x.r0.z), (i x.r1.x), (i x.r1.y), (i x.r1.z), (i x.r2.x), (i x.r2.y), (i x.r2.z)] ((0 + (y.toNat * 3)) + 2)))))))
noncomputable def tb50 : List (Nat × Sum) := []
theorem tbo50 : TblOk Tryd.prog G tb50 := trivial
noncomputable def S50 : Sum := sum2 cM cI (fun x y => DT.guard (g50 x y) (.ret (eV (p50 x y), [])))
theorem r50 (x : M3) (y : Int)  : (runFn (En tb50) pf50 [cM.enc x, cI.enc y] []).run = (sel (inB y 3)
 (sel ((Nat.ble (((0 + (y.toNat * 3)) + 0) + 1) 9) && (okCKs [(CK.int .i64)] (dropN [(i x.r0.x), (i x.r0.y), (i x.r0.z), (i x.r1.x), (i x.r1.y), (i x.r1.z), (i x.r2.x), (i x.r2.y), (i x.r2.z)] ((0 + (y.toNat * 3)) + 0))))
  (sel (inB y 3)
   (sel ((Nat.ble (((0 + (y.toNat * 3)) + 1) + 1) 9) && (okCKs [(CK.int .i64)] (dropN [(i x.r0.x), (i x.r0.y), (i x.r0.z), (i x.r1.x), (i x.r1.y), (i x.r1.z), (i x.r2.x), (i x.r2.y), (i x.r2.z)] ((0 + (y.toNat * 3)) + 1))))
    (sel (inB y 3)
     (sel ((Nat.ble (((0 + (y.toNat * 3)) + 2) + 1) 9) && (okCKs [(CK.int .i64)] (dropN [(i x.r0.x), (i x.r0.y), (i x.r0.z), (i x.r1.x), (i x.r1.y), (i x.r1.z), (i x.r2.x), (i x.r2.y), (i x.r2.z)] ((0 + (y.toNat * 3)) + 2))))
      (some ((.agg [(i (toI (hdA (dropN [(i x.r0.x), (i x.r0.y), (i x.r0.z), (i x.r1.x), (i x.r1.y), (i x.r1.z), (i x.r2.x), (i x.r2.y), (i x.r2.z)] ((0 + (y.toNat * 3)) + 0))))), (i (toI (hdA (dropN [(i x.r0.x), (i x.r0.y), (i x.r0.z), (i x.r1.x), (i x.r1.y), (i x.r1.z), (i x.r2.x), (i x.r2.y), (i x.r2.z)] ((0 + (y.toNat * 3)) + 1))))), (i (toI (hdA (dropN [(i x.r0.x), (i x.r0.y), (i x.r0.z), (i x.r1.x), (i x.r1.y), (i x.r1.z), (i x.r2.x), (i x.r2.y), (i x.r2.z)] ((0 + (y.toNat * 3)) + 2)))))]), []))
      none)
     none)
    none)
   none)
  none)
 none) := by kernel_rfl
theorem m50 (c1 c2 c3 c4 : Bool) (x : M3) (y : Int)  : ((sel c1
 (sel c2
  (sel c1
   (sel c3
    (sel c1
     (sel c4
      (some ((.agg [(i (toI (hdA (dropN [(i x.r0.x), (i x.r0.y), (i x.r0.z), (i x.r1.x), (i x.r1.y), (i x.r1.z), (i x.r2.x), (i x.r2.y), (i x.r2.z)] ((0 + (y.toNat * 3)) + 0))))), (i (toI (hdA (dropN [(i x.r0.x), (i x.r0.y), (i x.r0.z), (i x.r1.x), (i x.r1.y), (i x.r1.z), (i x.r2.x), (i x.r2.y), (i x.r2.z)] ((0 + (y.toNat * 3)) + 1))))), (i (toI (hdA (dropN [(i x.r0.x), (i x.r0.y), (i x.r0.z), (i x.r1.x), (i x.r1.y), (i x.r1.z), (i x.r2.x), (i x.r2.y), (i x.r2.z)] ((0 + (y.toNat * 3)) + 2)))))]), []))
      none)
     none)
    none)
   none)
  none)
 none) : Option (AVal × List ABlk)) = (sel (c1 && (c2 && (c3 && c4))) (some ((.agg [(i (toI (hdA (dropN [(i x.r0.x), (i x.r0.y), (i x.r0.z), (i x.r1.x), (i x.r1.y), (i x.r1.z), (i x.r2.x), (i x.r2.y), (i x.r2.z)] ((0 + (y.toNat * 3)) + 0))))), (i (toI (hdA (dropN [(i x.r0.x), (i x.r0.y), (i x.r0.z), (i x.r1.x), (i x.r1.y), (i x.r1.z), (i x.r2.x), (i x.r2.y), (i x.r2.z)] ((0 + (y.toNat * 3)) + 1))))), (i (toI (hdA (dropN [(i x.r0.x), (i x.r0.y), (i x.r0.z), (i x.r1.x), (i x.r1.y), (i x.r1.z), (i x.r2.x), (i x.r2.y), (i x.r2.z)] ((0 + (y.toNat * 3)) + 2)))))]), [])) none) := by
 cases c1
 ·
  rfl
 ·
  cases c2
  ·
   rfl
  ·
   cases c3
   ·
    rfl
   ·
    cases c4
    ·
     rfl
    ·
     rfl
theorem k50 (x : M3) (y : Int)  : (DT.guard (g50 x y) (.ret (eV (p50 x y), [])) : DT (AVal × List ABlk)).run = (sel ((inB y 3) && (((Nat.ble (((0 + (y.toNat * 3)) + 0) + 1) 9) && (okCKs [(CK.int .i64)] (dropN [(i x.r0.x), (i x.r0.y), (i x.r0.z), (i x.r1.x), (i x.r1.y), (i x.r1.z), (i x.r2.x), (i x.r2.y), (i x.r2.z)] ((0 + (y.toNat * 3)) + 0)))) && (((Nat.ble (((0 + (y.toNat * 3)) + 1) + 1) 9) && (okCKs [(CK.int .i64)] (dropN [(i x.r0.x), (i x.r0.y), (i x.r0.z), (i x.r1.x), (i x.r1.y), (i x.r1.z), (i x.r2.x), (i x.r2.y), (i x.r2.z)] ((0 + (y.toNat * 3)) + 1)))) && ((Nat.ble (((0 + (y.toNat * 3)) + 2) + 1) 9) && (okCKs [(CK.int .i64)] (dropN [(i x.r0.x), (i x.r0.y), (i x.r0.z), (i x.r1.x), (i x.r1.y), (i x.r1.z), (i x.r2.x), (i x.r2.y), (i x.r2.z)] ((0 + (y.toNat * 3)) + 2))))))) (some ((.agg [(i (toI (hdA (dropN [(i x.r0.x), (i x.r0.y), (i x.r0.z), (i x.r1.x), (i x.r1.y), (i x.r1.z), (i x.r2.x), (i x.r2.y), (i x.r2.z)] ((0 + (y.toNat * 3)) + 0))))), (i (toI (hdA (dropN [(i x.r0.x), (i x.r0.y), (i x.r0.z), (i x.r1.x), (i x.r1.y), (i x.r1.z), (i x.r2.x), (i x.r2.y), (i x.r2.z)] ((0 + (y.toNat * 3)) + 1))))), (i (toI (hdA (dropN [(i x.r0.x), (i x.r0.y), (i x.r0.z), (i x.r1.x), (i x.r1.y), (i x.r1.z), (i x.r2.x), (i x.r2.y), (i x.r2.z)] ((0 + (y.toNat * 3)) + 2)))))]), [])) none) := by rw [run_grd]; kernel_rfl
theorem ok50 : FnOk Tryd.prog G 50 S50 := sum2_ok (b50 (E := En tb50) rfl (tdeps tbo50)) fun x y r h => ((r50 x y ).trans (m50 _ _ _ _ x y )).trans ((k50 x y ).symm.trans h)
noncomputable def p51 (x : V3) (y : V3) : V3 := (⟨(W ((W (x.y * y.z)) - (W (x.z * y.y)))), (W ((W (x.z * y.x)) - (W (x.x * y.z)))), (W ((W (x.x * y.y)) - (W (x.y * y.x))))⟩ : V3)
noncomputable def tb51 : List (Nat × Sum) := []
theorem tbo51 : TblOk Tryd.prog G tb51 := trivial
noncomputable def S51 : Sum := sum2 cV cV (fun x y => .ret (eV (p51 x y), []))
theorem r51 (x : V3) (y : V3)  : (runFn (En tb51) pf51 [cV.enc x, cV.enc y] []).run = some (eV (p51 x y), []) := by kernel_rfl
theorem ok51 : FnOk Tryd.prog G 51 S51 := sum2_ok (b51 (E := En tb51) rfl (tdeps tbo51)) fun x y r h => (r51 x y).trans h
noncomputable def p53 (x : V3) (y : V3) : V3 := (⟨(W (x.x - y.x)), (W (x.y - y.y)), (W (x.z - y.z))⟩ : V3)
noncomputable def tb53 : List (Nat × Sum) := []
theorem tbo53 : TblOk Tryd.prog G tb53 := trivial
noncomputable def S53 : Sum := sum2 cV cV (fun x y => .ret (eV (p53 x y), []))
theorem r53 (x : V3) (y : V3)  : (runFn (En tb53) pf53 [cV.enc x, cV.enc y] []).run = some (eV (p53 x y), []) := by kernel_rfl
theorem ok53 : FnOk Tryd.prog G 53 S53 := sum2_ok (b53 (E := En tb53) rfl (tdeps tbo53)) fun x y r h => (r53 x y).trans h
noncomputable def p54 (x : V3) (y : V3) : Int := (W ((W ((W (x.x * y.x)) + (W (x.y * y.y)))) + (W (x.z * y.z))))
noncomputable def tb54 : List (Nat × Sum) := []
theorem tbo54 : TblOk Tryd.prog G tb54 := trivial
noncomputable def S54 : Sum := sum2 cV cV (fun x y => .ret (i (p54 x y), []))
theorem r54 (x : V3) (y : V3)  : (runFn (En tb54) pf54 [cV.enc x, cV.enc y] []).run = some (i (p54 x y), []) := by kernel_rfl
theorem ok54 : FnOk Tryd.prog G 54 S54 := sum2_ok (b54 (E := En tb54) rfl (tdeps tbo54)) fun x y r h => (r54 x y).trans h
noncomputable def p55 (x : V3) (y : V3) : V3 := (⟨(W ((W (x.y * y.z)) - (W (x.z * y.y)))), (W ((W (x.z * y.x)) - (W (x.x * y.z)))), (W ((W (x.x * y.y)) - (W (x.y * y.x))))⟩ : V3)
noncomputable def tb55 : List (Nat × Sum) := []
theorem tbo55 : TblOk Tryd.prog G tb55 := trivial
noncomputable def S55 : Sum := sum2 cV cV (fun x y => .ret (eV (p55 x y), []))
theorem r55 (x : V3) (y : V3)  : (runFn (En tb55) pf55 [cV.enc x, cV.enc y] []).run = some (eV (p55 x y), []) := by kernel_rfl
theorem ok55 : FnOk Tryd.prog G 55 S55 := sum2_ok (b55 (E := En tb55) rfl (tdeps tbo55)) fun x y r h => (r55 x y).trans h
noncomputable def p47 (x : M3) : Int := let t1 := (p55 x.r1 x.r2); let t2 := (p54 x.r0 t1); t2
noncomputable def tb47 : List (Nat × Sum) := [(55, S55), (54, S54), (77, S77)]
theorem tbo47 : TblOk Tryd.prog G tb47 := ⟨ok55, ok54, ok77, trivial⟩
noncomputable def S47 : Sum := sum1 cM (fun x => .ret (i (p47 x), []))
theorem r47 (x : M3)  : (runFn (En tb47) pf47 [cM.enc x] []).run = some (i (p47 x), []) := by kernel_rfl
theorem ok47 : FnOk Tryd.prog G 47 S47 := sum1_ok (b47 (E := En tb47) rfl (tdeps tbo47)) fun x r h => (r47 x).trans h
noncomputable def p57 (x : V3) (y : Int) : V3 × Bool := ((⟨(W (Int.tdiv x.x y)), (W (Int.tdiv x.y y)), (W (Int.tdiv x.z y))⟩ : V3), (((Int.tmod x.x y) == 0) && (((Int.tmod x.y y) == 0) && ((Int.tmod x.z y) == 0))))
noncomputable def g57 (x : V3) (y : Int) : Bool := (!(y == 0))
noncomputable def tb57 : List (Nat × Sum) := []
theorem tbo57 : TblOk Tryd.prog G tb57 := trivial
noncomputable def S57 : Sum := sum2 cV cI (fun x y => DT.guard (g57 x y) (.ret (.tup [eV (p57 x y).1, b (p57 x y).2], [])))
theorem r57 (x : V3) (y : Int)  : (runFn (En tb57) pf57 [cV.enc x, cI.enc y] []).run = (sel (y == 0)
 none
 (sel (y == 0)
  none
  (sel (y == 0)
   none
   (sel (y == 0)
    none
    (sel ((Int.tmod x.x y) == 0)
     (sel (y == 0)
      none
      (sel ((Int.tmod x.y y) == 0)
       (sel (y == 0)
        none
        (some ((.tup [(.agg [(i (W (Int.tdiv x.x y))), (i (W (Int.tdiv x.y y))), (i (W (Int.tdiv x.z y)))]), (b ((Int.tmod x.z y) == 0))]), [])))
       (some ((.tup [(.agg [(i (W (Int.tdiv x.x y))), (i (W (Int.tdiv x.y y))), (i (W (Int.tdiv x.z y)))]), (b false)]), []))))
     (some ((.tup [(.agg [(i (W (Int.tdiv x.x y))), (i (W (Int.tdiv x.y y))), (i (W (Int.tdiv x.z y)))]), (b false)]), []))))))) := by kernel_rfl
theorem m57 (c1 c2 c3 : Bool) (x : V3) (y : Int)  : ((sel c1
 none
 (sel c1
  none
  (sel c1
   none
   (sel c1
    none
    (sel c2
     (sel c1
      none
      (sel c3
       (sel c1
        none
        (some ((.tup [(.agg [(i (W (Int.tdiv x.x y))), (i (W (Int.tdiv x.y y))), (i (W (Int.tdiv x.z y)))]), (b ((Int.tmod x.z y) == 0))]), [])))
       (some ((.tup [(.agg [(i (W (Int.tdiv x.x y))), (i (W (Int.tdiv x.y y))), (i (W (Int.tdiv x.z y)))]), (b false)]), []))))
     (some ((.tup [(.agg [(i (W (Int.tdiv x.x y))), (i (W (Int.tdiv x.y y))), (i (W (Int.tdiv x.z y)))]), (b false)]), []))))))) : Option (AVal × List ABlk)) = (sel (!c1) (some ((.tup [(.agg [(i (W (Int.tdiv x.x y))), (i (W (Int.tdiv x.y y))), (i (W (Int.tdiv x.z y)))]), (b (c2 && (c3 && ((Int.tmod x.z y) == 0))))]), [])) none) := by
 cases c1
 ·
  cases c2
  ·
   rfl
  ·
   cases c3
   ·
    rfl
   ·
    rfl
 ·
  rfl
theorem k57 (x : V3) (y : Int)  : (DT.guard (g57 x y) (.ret (.tup [eV (p57 x y).1, b (p57 x y).2], [])) : DT (AVal × List ABlk)).run = (sel (!(y == 0)) (some ((.tup [(.agg [(i (W (Int.tdiv x.x y))), (i (W (Int.tdiv x.y y))), (i (W (Int.tdiv x.z y)))]), (b (((Int.tmod x.x y) == 0) && (((Int.tmod x.y y) == 0) && ((Int.tmod x.z y) == 0))))]), [])) none) := by rw [run_grd]; kernel_rfl
theorem ok57 : FnOk Tryd.prog G 57 S57 := sum2_ok (b57 (E := En tb57) rfl (tdeps tbo57)) fun x y r h => ((r57 x y ).trans (m57 _ _ _ x y )).trans ((k57 x y ).symm.trans h)
noncomputable def p58 (x : M3) (y : V3) : V3 := (⟨(W ((W ((W (x.r0.x * y.x)) + (W (x.r0.y * y.y)))) + (W (x.r0.z * y.z)))), (W ((W ((W (x.r1.x * y.x)) + (W (x.r1.y * y.y)))) + (W (x.r1.z * y.z)))), (W ((W ((W (x.r2.x * y.x)) + (W (x.r2.y * y.y)))) + (W (x.r2.z * y.z))))⟩ : V3)
noncomputable def tb58 : List (Nat × Sum) := []
theorem tbo58 : TblOk Tryd.prog G tb58 := trivial
noncomputable def S58 : Sum := sum2 cM cV (fun x y => .ret (eV (p58 x y), []))
theorem r58 (x : M3) (y : V3)  : (runFn (En tb58) pf58 [cM.enc x, cV.enc y] []).run = some (eV (p58 x y), []) := by kernel_rfl
theorem ok58 : FnOk Tryd.prog G 58 S58 := sum2_ok (b58 (E := En tb58) rfl (tdeps tbo58)) fun x y r h => (r58 x y).trans h
noncomputable def p61 (x : M3) : M3 := (⟨(⟨x.r0.x, x.r1.x, x.r2.x⟩ : V3), (⟨x.r0.y, x.r1.y, x.r2.y⟩ : V3), (⟨x.r0.z, x.r1.z, x.r2.z⟩ : V3)⟩ : M3)
noncomputable def tb61 : List (Nat × Sum) := []
theorem tbo61 : TblOk Tryd.prog G tb61 := trivial
noncomputable def S61 : Sum := sum1 cM (fun x => .ret (eM (p61 x), []))
theorem r61 (x : M3)  : (runFn (En tb61) pf61 [cM.enc x] []).run = some (eM (p61 x), []) := by kernel_rfl
theorem ok61 : FnOk Tryd.prog G 61 S61 := sum1_ok (b61 (E := En tb61) rfl (tdeps tbo61)) fun x r h => (r61 x).trans h
noncomputable def p62 (x : V3) (y : Int) : V3 × Bool := ((⟨(sel ((Int.tmod x.x y) != 0) 0 (sel ((Int.tmod x.y y) != 0) 0 (sel ((Int.tmod x.z y) != 0) 0 (W (Int.tdiv x.x y))))), (sel ((Int.tmod x.x y) != 0) 0 (sel ((Int.tmod x.y y) != 0) 0 (sel ((Int.tmod x.z y) != 0) 0 (W (Int.tdiv x.y y))))), (sel ((Int.tmod x.x y) != 0) 0 (sel ((Int.tmod x.y y) != 0) 0 (sel ((Int.tmod x.z y) != 0) 0 (W (Int.tdiv x.z y)))))⟩ : V3), ((!((Int.tmod x.x y) != 0)) && ((!((Int.tmod x.y y) != 0)) && (!((Int.tmod x.z y) != 0)))))
noncomputable def g62 (x : V3) (y : Int) : Bool := (!(y == 0))
noncomputable def tb62 : List (Nat × Sum) := []
theorem tbo62 : TblOk Tryd.prog G tb62 := trivial
noncomputable def S62 : Sum := sum2 cV cI (fun x y => DT.guard (g62 x y) (.ret (.tup [eV (p62 x y).1, b (p62 x y).2], [])))
theorem r62 (x : V3) (y : Int)  : (runFn (En tb62) pf62 [cV.enc x, cI.enc y] []).run = (sel (y == 0)
 none
 (sel ((Int.tmod x.x y) != 0)
  (some ((.tup [(.agg [(i 0), (i 0), (i 0)]), (b false)]), []))
  (sel (y == 0)
   none
   (sel ((Int.tmod x.y y) != 0)
    (some ((.tup [(.agg [(i 0), (i 0), (i 0)]), (b false)]), []))
    (sel (y == 0)
     none
     (sel ((Int.tmod x.z y) != 0)
      (some ((.tup [(.agg [(i 0), (i 0), (i 0)]), (b false)]), []))
      (sel (y == 0)
       none
       (sel (y == 0)
        none
        (sel (y == 0)
         none
         (some ((.tup [(.agg [(i (W (Int.tdiv x.x y))), (i (W (Int.tdiv x.y y))), (i (W (Int.tdiv x.z y)))]), (b true)]), []))))))))))) := by kernel_rfl
theorem m62 (c1 c2 c3 c4 : Bool) (x : V3) (y : Int)  : ((sel c1
 none
 (sel c2
  (some ((.tup [(.agg [(i 0), (i 0), (i 0)]), (b false)]), []))
  (sel c1
   none
   (sel c3
    (some ((.tup [(.agg [(i 0), (i 0), (i 0)]), (b false)]), []))
    (sel c1
     none
     (sel c4
      (some ((.tup [(.agg [(i 0), (i 0), (i 0)]), (b false)]), []))
      (sel c1
       none
       (sel c1
        none
        (sel c1
         none
         (some ((.tup [(.agg [(i (W (Int.tdiv x.x y))), (i (W (Int.tdiv x.y y))), (i (W (Int.tdiv x.z y)))]), (b true)]), []))))))))))) : Option (AVal × List ABlk)) = (sel (!c1) (some ((.tup [(.agg [(i (sel c2 0 (sel c3 0 (sel c4 0 (W (Int.tdiv x.x y)))))), (i (sel c2 0 (sel c3 0 (sel c4 0 (W (Int.tdiv x.y y)))))), (i (sel c2 0 (sel c3 0 (sel c4 0 (W (Int.tdiv x.z y))))))]), (b ((!c2) && ((!c3) && (!c4))))]), [])) none) := by
 cases c1
 ·
  cases c2
  ·
   cases c3
   ·
    cases c4
    ·
     rfl
    ·
     rfl
   ·
    rfl
  ·
   rfl
 ·
  rfl
theorem k62 (x : V3) (y : Int)  : (DT.guard (g62 x y) (.ret (.tup [eV (p62 x y).1, b (p62 x y).2], [])) : DT (AVal × List ABlk)).run = (sel (!(y == 0)) (some ((.tup [(.agg [(i (sel ((Int.tmod x.x y) != 0) 0 (sel ((Int.tmod x.y y) != 0) 0 (sel ((Int.tmod x.z y) != 0) 0 (W (Int.tdiv x.x y)))))), (i (sel ((Int.tmod x.x y) != 0) 0 (sel ((Int.tmod x.y y) != 0) 0 (sel ((Int.tmod x.z y) != 0) 0 (W (Int.tdiv x.y y)))))), (i (sel ((Int.tmod x.x y) != 0) 0 (sel ((Int.tmod x.y y) != 0) 0 (sel ((Int.tmod x.z y) != 0) 0 (W (Int.tdiv x.z y))))))]), (b ((!((Int.tmod x.x y) != 0)) && ((!((Int.tmod x.y y) != 0)) && (!((Int.tmod x.z y) != 0)))))]), [])) none) := by rw [run_grd]; kernel_rfl
theorem ok62 : FnOk Tryd.prog G 62 S62 := sum2_ok (b62 (E := En tb62) rfl (tdeps tbo62)) fun x y r h => ((r62 x y ).trans (m62 _ _ _ _ x y )).trans ((k62 x y ).symm.trans h)
noncomputable def p66 (x : M3) (y : Int) : V3 := (⟨(toI (hdA (dropN [(i x.r0.x), (i x.r0.y), (i x.r0.z), (i x.r1.x), (i x.r1.y), (i x.r1.z), (i x.r2.x), (i x.r2.y), (i x.r2.z)] (0 + (y.toNat * 1))))), (toI (hdA (dropN [(i x.r0.x), (i x.r0.y), (i x.r0.z), (i x.r1.x), (i x.r1.y), (i x.r1.z), (i x.r2.x), (i x.r2.y), (i x.r2.z)] (3 + (y.toNat * 1))))), (toI (hdA (dropN [(i x.r0.x), (i x.r0.y), (i x.r0.z), (i x.r1.x), (i x.r1.y), (i x.r1.z), (i x.r2.x), (i x.r2.y), (i x.r2.z)] (6 + (y.toNat * 1)))))⟩ : V3)
noncomputable def g66 (x : M3) (y : Int) : Bool := ((inB y 3) && (((Nat.ble ((0 + (y.toNat * 1)) + 1) 9) && (okCKs [(CK.int .i64)] (dropN [(i x.r0.x), (i x.r0.y), (i x.r0.z), (i x.r1.x), (i x.r1.y), (i x.r1.z), (i x.r2.x), (i x.r2.y), (i x.r2.z)] (0 + (y.toNat * 1))))) && (((Nat.ble ((3 + (y.toNat * 1)) + 1) 9) && (okCKs [(CK.int .i64)] (dropN [(i x.r0.x), (i x.r0.y), (i x.r0.z), (i x.r1.x), (i x.r1.y), (i x.r1.z), (i x.r2.x), (i x.r2.y), (i x.r2.z)] (3 + (y.toNat * 1))))) && ((Nat.ble ((6 + (y.toNat * 1)) + 1) 9) && (okCKs [(CK.int .i64)] (dropN [(i x.r0.x), (i x.r0.y), (i x.r0.z), (i x.r1.x), (i x.r1.y), (i x.r1.z), (i x.r2.x), (i x.r2.y), (i x.r2.z)] (6 + (y.toNat * 1))))))))
noncomputable def tb66 : List (Nat × Sum) := []
theorem tbo66 : TblOk Tryd.prog G tb66 := trivial
noncomputable def S66 : Sum := sum2 cM cI (fun x y => DT.guard (g66 x y) (.ret (eV (p66 x y), [])))
theorem r66 (x : M3) (y : Int)  : (runFn (En tb66) pf66 [cM.enc x, cI.enc y] []).run = (sel (inB y 3)
 (sel ((Nat.ble ((0 + (y.toNat * 1)) + 1) 9) && (okCKs [(CK.int .i64)] (dropN [(i x.r0.x), (i x.r0.y), (i x.r0.z), (i x.r1.x), (i x.r1.y), (i x.r1.z), (i x.r2.x), (i x.r2.y), (i x.r2.z)] (0 + (y.toNat * 1)))))
  (sel (inB y 3)
   (sel ((Nat.ble ((3 + (y.toNat * 1)) + 1) 9) && (okCKs [(CK.int .i64)] (dropN [(i x.r0.x), (i x.r0.y), (i x.r0.z), (i x.r1.x), (i x.r1.y), (i x.r1.z), (i x.r2.x), (i x.r2.y), (i x.r2.z)] (3 + (y.toNat * 1)))))
    (sel (inB y 3)
     (sel ((Nat.ble ((6 + (y.toNat * 1)) + 1) 9) && (okCKs [(CK.int .i64)] (dropN [(i x.r0.x), (i x.r0.y), (i x.r0.z), (i x.r1.x), (i x.r1.y), (i x.r1.z), (i x.r2.x), (i x.r2.y), (i x.r2.z)] (6 + (y.toNat * 1)))))
      (some ((.agg [(i (toI (hdA (dropN [(i x.r0.x), (i x.r0.y), (i x.r0.z), (i x.r1.x), (i x.r1.y), (i x.r1.z), (i x.r2.x), (i x.r2.y), (i x.r2.z)] (0 + (y.toNat * 1)))))), (i (toI (hdA (dropN [(i x.r0.x), (i x.r0.y), (i x.r0.z), (i x.r1.x), (i x.r1.y), (i x.r1.z), (i x.r2.x), (i x.r2.y), (i x.r2.z)] (3 + (y.toNat * 1)))))), (i (toI (hdA (dropN [(i x.r0.x), (i x.r0.y), (i x.r0.z), (i x.r1.x), (i x.r1.y), (i x.r1.z), (i x.r2.x), (i x.r2.y), (i x.r2.z)] (6 + (y.toNat * 1))))))]), []))
      none)
     none)
    none)
   none)
  none)
 none) := by kernel_rfl
theorem m66 (c1 c2 c3 c4 : Bool) (x : M3) (y : Int)  : ((sel c1
 (sel c2
  (sel c1
   (sel c3
    (sel c1
     (sel c4
      (some ((.agg [(i (toI (hdA (dropN [(i x.r0.x), (i x.r0.y), (i x.r0.z), (i x.r1.x), (i x.r1.y), (i x.r1.z), (i x.r2.x), (i x.r2.y), (i x.r2.z)] (0 + (y.toNat * 1)))))), (i (toI (hdA (dropN [(i x.r0.x), (i x.r0.y), (i x.r0.z), (i x.r1.x), (i x.r1.y), (i x.r1.z), (i x.r2.x), (i x.r2.y), (i x.r2.z)] (3 + (y.toNat * 1)))))), (i (toI (hdA (dropN [(i x.r0.x), (i x.r0.y), (i x.r0.z), (i x.r1.x), (i x.r1.y), (i x.r1.z), (i x.r2.x), (i x.r2.y), (i x.r2.z)] (6 + (y.toNat * 1))))))]), []))
      none)
     none)
    none)
   none)
  none)
 none) : Option (AVal × List ABlk)) = (sel (c1 && (c2 && (c3 && c4))) (some ((.agg [(i (toI (hdA (dropN [(i x.r0.x), (i x.r0.y), (i x.r0.z), (i x.r1.x), (i x.r1.y), (i x.r1.z), (i x.r2.x), (i x.r2.y), (i x.r2.z)] (0 + (y.toNat * 1)))))), (i (toI (hdA (dropN [(i x.r0.x), (i x.r0.y), (i x.r0.z), (i x.r1.x), (i x.r1.y), (i x.r1.z), (i x.r2.x), (i x.r2.y), (i x.r2.z)] (3 + (y.toNat * 1)))))), (i (toI (hdA (dropN [(i x.r0.x), (i x.r0.y), (i x.r0.z), (i x.r1.x), (i x.r1.y), (i x.r1.z), (i x.r2.x), (i x.r2.y), (i x.r2.z)] (6 + (y.toNat * 1))))))]), [])) none) := by
 cases c1
 ·
  rfl
 ·
  cases c2
  ·
   rfl
  ·
   cases c3
   ·
    rfl
   ·
    cases c4
    ·
     rfl
    ·
     rfl
theorem k66 (x : M3) (y : Int)  : (DT.guard (g66 x y) (.ret (eV (p66 x y), [])) : DT (AVal × List ABlk)).run = (sel ((inB y 3) && (((Nat.ble ((0 + (y.toNat * 1)) + 1) 9) && (okCKs [(CK.int .i64)] (dropN [(i x.r0.x), (i x.r0.y), (i x.r0.z), (i x.r1.x), (i x.r1.y), (i x.r1.z), (i x.r2.x), (i x.r2.y), (i x.r2.z)] (0 + (y.toNat * 1))))) && (((Nat.ble ((3 + (y.toNat * 1)) + 1) 9) && (okCKs [(CK.int .i64)] (dropN [(i x.r0.x), (i x.r0.y), (i x.r0.z), (i x.r1.x), (i x.r1.y), (i x.r1.z), (i x.r2.x), (i x.r2.y), (i x.r2.z)] (3 + (y.toNat * 1))))) && ((Nat.ble ((6 + (y.toNat * 1)) + 1) 9) && (okCKs [(CK.int .i64)] (dropN [(i x.r0.x), (i x.r0.y), (i x.r0.z), (i x.r1.x), (i x.r1.y), (i x.r1.z), (i x.r2.x), (i x.r2.y), (i x.r2.z)] (6 + (y.toNat * 1)))))))) (some ((.agg [(i (toI (hdA (dropN [(i x.r0.x), (i x.r0.y), (i x.r0.z), (i x.r1.x), (i x.r1.y), (i x.r1.z), (i x.r2.x), (i x.r2.y), (i x.r2.z)] (0 + (y.toNat * 1)))))), (i (toI (hdA (dropN [(i x.r0.x), (i x.r0.y), (i x.r0.z), (i x.r1.x), (i x.r1.y), (i x.r1.z), (i x.r2.x), (i x.r2.y), (i x.r2.z)] (3 + (y.toNat * 1)))))), (i (toI (hdA (dropN [(i x.r0.x), (i x.r0.y), (i x.r0.z), (i x.r1.x), (i x.r1.y), (i x.r1.z), (i x.r2.x), (i x.r2.y), (i x.r2.z)] (6 + (y.toNat * 1))))))]), [])) none) := by rw [run_grd]; kernel_rfl
theorem ok66 : FnOk Tryd.prog G 66 S66 := sum2_ok (b66 (E := En tb66) rfl (tdeps tbo66)) fun x y r h => ((r66 x y ).trans (m66 _ _ _ _ x y )).trans ((k66 x y ).symm.trans h)
noncomputable def p63 (x : M3) (y : V3) : V3 := let t1 := (p49 x.r0 y); let t2 := (p49 x.r1 y); let t3 := (p49 x.r2 y); (⟨t1, t2, t3⟩ : V3)
noncomputable def tb63 : List (Nat × Sum) := [(50, S50), (49, S49)]
theorem tbo63 : TblOk Tryd.prog G tb63 := ⟨ok50, ok49, trivial⟩
noncomputable def S63 : Sum := sum2 cM cV (fun x y => .ret (eV (p63 x y), []))
theorem r63 (x : M3) (y : V3)  : (runFn (En tb63) pf63 [cM.enc x, cV.enc y] []).run = some (eV (p63 x y), []) := by kernel_rfl
theorem ok63 : FnOk Tryd.prog G 63 S63 := sum2_ok (b63 (E := En tb63) rfl (tdeps tbo63)) fun x y r h => (r63 x y).trans h
noncomputable def p64 (x : V3) (y : V3) : V3 := (⟨(W (x.x - y.x)), (W (x.y - y.y)), (W (x.z - y.z))⟩ : V3)
noncomputable def tb64 : List (Nat × Sum) := []
theorem tbo64 : TblOk Tryd.prog G tb64 := trivial
noncomputable def S64 : Sum := sum2 cV cV (fun x y => .ret (eV (p64 x y), []))
theorem r64 (x : V3) (y : V3)  : (runFn (En tb64) pf64 [cV.enc x, cV.enc y] []).run = some (eV (p64 x y), []) := by kernel_rfl
theorem ok64 : FnOk Tryd.prog G 64 S64 := sum2_ok (b64 (E := En tb64) rfl (tdeps tbo64)) fun x y r h => (r64 x y).trans h
noncomputable def p65 (x : V3) (y : V3) : V3 := (⟨(W (x.x + y.x)), (W (x.y + y.y)), (W (x.z + y.z))⟩ : V3)
noncomputable def tb65 : List (Nat × Sum) := []
theorem tbo65 : TblOk Tryd.prog G tb65 := trivial
noncomputable def S65 : Sum := sum2 cV cV (fun x y => .ret (eV (p65 x y), []))
theorem r65 (x : V3) (y : V3)  : (runFn (En tb65) pf65 [cV.enc x, cV.enc y] []).run = some (eV (p65 x y), []) := by kernel_rfl
theorem ok65 : FnOk Tryd.prog G 65 S65 := sum2_ok (b65 (E := En tb65) rfl (tdeps tbo65)) fun x y r h => (r65 x y).trans h
noncomputable def p67 (x : V3) (y : V3) : V3 := (⟨(W (x.x + y.x)), (W (x.y + y.y)), (W (x.z + y.z))⟩ : V3)
noncomputable def tb67 : List (Nat × Sum) := []
theorem tbo67 : TblOk Tryd.prog G tb67 := trivial
noncomputable def S67 : Sum := sum2 cV cV (fun x y => .ret (eV (p67 x y), []))
theorem r67 (x : V3) (y : V3)  : (runFn (En tb67) pf67 [cV.enc x, cV.enc y] []).run = some (eV (p67 x y), []) := by kernel_rfl
theorem ok67 : FnOk Tryd.prog G 67 S67 := sum2_ok (b67 (E := En tb67) rfl (tdeps tbo67)) fun x y r h => (r67 x y).trans h
noncomputable def p76 (x : Int) (y : Int) : Int := (sel (decide (x < y)) (-1) (sel (decide (x > y)) 1 0))
noncomputable def tb76 : List (Nat × Sum) := []
theorem tbo76 : TblOk Tryd.prog G tb76 := trivial
noncomputable def S76 : Sum := sum2 cI cI (fun x y => .ret (i (p76 x y), []))
theorem r76 (x : Int) (y : Int)  : (runFn (En tb76) pf76 [cI.enc x, cI.enc y] []).run = (sel (decide (x < y))
 (some ((i (-1)), []))
 (sel (decide (x > y))
  (some ((i 1), []))
  (some ((i 0), [])))) := by kernel_rfl
theorem m76 (c1 c2 : Bool) (x : Int) (y : Int)  : ((sel c1
 (some ((i (-1)), []))
 (sel c2
  (some ((i 1), []))
  (some ((i 0), [])))) : Option (AVal × List ABlk)) = (some ((i (sel c1 (-1) (sel c2 1 0))), [])) := by
 cases c1
 ·
  cases c2
  ·
   rfl
  ·
   rfl
 ·
  rfl
theorem k76 (x : Int) (y : Int)  : (.ret (i (p76 x y), []) : DT (AVal × List ABlk)).run = (some ((i (sel (decide (x < y)) (-1) (sel (decide (x > y)) 1 0))), [])) := by kernel_rfl
theorem ok76 : FnOk Tryd.prog G 76 S76 := sum2_ok (b76 (E := En tb76) rfl (tdeps tbo76)) fun x y r h => ((r76 x y ).trans (m76 _ _ x y )).trans ((k76 x y ).symm.trans h)
noncomputable def p78 (x : Int) : Int := (if (W (0 - x)) > x then (W (0 - x)) else x)
noncomputable def tb78 : List (Nat × Sum) := []
theorem tbo78 : TblOk Tryd.prog G tb78 := trivial
noncomputable def S78 : Sum := sum1 cI (fun x => .ret (i (p78 x), []))
theorem r78 (x : Int)  : (runFn (En tb78) pf78 [cI.enc x] []).run = some (i (p78 x), []) := by kernel_rfl
theorem ok78 : FnOk Tryd.prog G 78 S78 := sum1_ok (b78 (E := En tb78) rfl (tdeps tbo78)) fun x r h => (r78 x).trans h
noncomputable def p80 (x : V3) : Bool := ((!(decide (x.x < (-96)))) && ((!(decide (x.x > 96))) && ((!(decide (x.y < (-96)))) && ((!(decide (x.y > 96))) && ((!(decide (x.z < (-96)))) && (!(decide (x.z > 96))))))))
noncomputable def tb80 : List (Nat × Sum) := []
theorem tbo80 : TblOk Tryd.prog G tb80 := trivial
noncomputable def S80 : Sum := sum1 cV (fun x => .ret (b (p80 x), []))
theorem r80 (x : V3)  : (runFn (En tb80) pf80 [cV.enc x] []).run = (sel (decide (x.x < (-96)))
 (some ((b false), []))
 (sel (decide (x.x > 96))
  (some ((b false), []))
  (sel (decide (x.y < (-96)))
   (some ((b false), []))
   (sel (decide (x.y > 96))
    (some ((b false), []))
    (sel (decide (x.z < (-96)))
     (some ((b false), []))
     (sel (decide (x.z > 96))
      (some ((b false), []))
      (some ((b true), [])))))))) := by kernel_rfl
theorem m80 (c1 c2 c3 c4 c5 c6 : Bool) (x : V3)  : ((sel c1
 (some ((b false), []))
 (sel c2
  (some ((b false), []))
  (sel c3
   (some ((b false), []))
   (sel c4
    (some ((b false), []))
    (sel c5
     (some ((b false), []))
     (sel c6
      (some ((b false), []))
      (some ((b true), [])))))))) : Option (AVal × List ABlk)) = (some ((b ((!c1) && ((!c2) && ((!c3) && ((!c4) && ((!c5) && (!c6))))))), [])) := by
 cases c1
 ·
  cases c2
  ·
   cases c3
   ·
    cases c4
    ·
     cases c5
     ·
      cases c6
      ·
       rfl
      ·
       rfl
     ·
      rfl
    ·
     rfl
   ·
    rfl
  ·
   rfl
 ·
  rfl
theorem k80 (x : V3)  : (.ret (b (p80 x), []) : DT (AVal × List ABlk)).run = (some ((b ((!(decide (x.x < (-96)))) && ((!(decide (x.x > 96))) && ((!(decide (x.y < (-96)))) && ((!(decide (x.y > 96))) && ((!(decide (x.z < (-96)))) && (!(decide (x.z > 96))))))))), [])) := by kernel_rfl
theorem ok80 : FnOk Tryd.prog G 80 S80 := sum1_ok (b80 (E := En tb80) rfl (tdeps tbo80)) fun x r h => ((r80 x ).trans (m80 _ _ _ _ _ _ x )).trans ((k80 x ).symm.trans h)
noncomputable def p82 (x : V3) : V3 := x
noncomputable def tb82 : List (Nat × Sum) := []
theorem tbo82 : TblOk Tryd.prog G tb82 := trivial
noncomputable def S82 : Sum := sum1 cV (fun x => .ret (eV (p82 x), []))
theorem r82 (x : V3)  : (runFn (En tb82) pf82 [cV.enc x] []).run = some (eV (p82 x), []) := by kernel_rfl
theorem ok82 : FnOk Tryd.prog G 82 S82 := sum1_ok (b82 (E := En tb82) rfl (tdeps tbo82)) fun x r h => (r82 x).trans h
noncomputable def p83 (x : Int) : Int := (sel (decide (x < 0)) (W (0 - x)) x)
noncomputable def tb83 : List (Nat × Sum) := []
theorem tbo83 : TblOk Tryd.prog G tb83 := trivial
noncomputable def S83 : Sum := sum1 cI (fun x => .ret (i (p83 x), []))
theorem r83 (x : Int)  : (runFn (En tb83) pf83 [cI.enc x] []).run = (sel (decide (x < 0))
 (some ((i (W (0 - x))), []))
 (some ((i x), []))) := by kernel_rfl
theorem m83 (c1 : Bool) (x : Int)  : ((sel c1
 (some ((i (W (0 - x))), []))
 (some ((i x), []))) : Option (AVal × List ABlk)) = (some ((i (sel c1 (W (0 - x)) x)), [])) := by
 cases c1
 ·
  rfl
 ·
  rfl
theorem k83 (x : Int)  : (.ret (i (p83 x), []) : DT (AVal × List ABlk)).run = (some ((i (sel (decide (x < 0)) (W (0 - x)) x)), [])) := by kernel_rfl
theorem ok83 : FnOk Tryd.prog G 83 S83 := sum1_ok (b83 (E := En tb83) rfl (tdeps tbo83)) fun x r h => ((r83 x ).trans (m83 _ x )).trans ((k83 x ).symm.trans h)
noncomputable def p84 (x : Int) : Int := (if (W (0 - x)) > x then (W (0 - x)) else x)
noncomputable def tb84 : List (Nat × Sum) := []
theorem tbo84 : TblOk Tryd.prog G tb84 := trivial
noncomputable def S84 : Sum := sum1 cI (fun x => .ret (i (p84 x), []))
theorem r84 (x : Int)  : (runFn (En tb84) pf84 [cI.enc x] []).run = some (i (p84 x), []) := by kernel_rfl
theorem ok84 : FnOk Tryd.prog G 84 S84 := sum1_ok (b84 (E := En tb84) rfl (tdeps tbo84)) fun x r h => (r84 x).trans h
noncomputable def p48 (x : Trn) : Bool := ((!(decide (x.m.r0.x < (W (0 - x.d))))) && ((!(decide (x.m.r0.x > x.d))) && ((!(decide (x.m.r0.y < (W (0 - x.d))))) && ((!(decide (x.m.r0.y > x.d))) && ((!(decide (x.m.r0.z < (W (0 - x.d))))) && ((!(decide (x.m.r0.z > x.d))) && ((!(decide (x.m.r1.x < (W (0 - x.d))))) && ((!(decide (x.m.r1.x > x.d))) && ((!(decide (x.m.r1.y < (W (0 - x.d))))) && ((!(decide (x.m.r1.y > x.d))) && ((!(decide (x.m.r1.z < (W (0 - x.d))))) && ((!(decide (x.m.r1.z > x.d))) && ((!(decide (x.m.r2.x < (W (0 - x.d))))) && ((!(decide (x.m.r2.x > x.d))) && ((!(decide (x.m.r2.y < (W (0 - x.d))))) && ((!(decide (x.m.r2.y > x.d))) && ((!(decide (x.m.r2.z < (W (0 - x.d))))) && (!(decide (x.m.r2.z > x.d))))))))))))))))))))
noncomputable def tb48 : List (Nat × Sum) := []
theorem tbo48 : TblOk Tryd.prog G tb48 := trivial
noncomputable def S48 : Sum := sum1 cT (fun x => .ret (b (p48 x), []))
theorem r48 (x : Trn)  : (runFn (En tb48) pf48 [cT.enc x] []).run = (sel (decide (x.m.r0.x < (W (0 - x.d))))
 (some ((b false), []))
 (sel (decide (x.m.r0.x > x.d))
  (some ((b false), []))
  (sel (decide (x.m.r0.y < (W (0 - x.d))))
   (some ((b false), []))
   (sel (decide (x.m.r0.y > x.d))
    (some ((b false), []))
    (sel (decide (x.m.r0.z < (W (0 - x.d))))
     (some ((b false), []))
     (sel (decide (x.m.r0.z > x.d))
      (some ((b false), []))
      (sel (decide (x.m.r1.x < (W (0 - x.d))))
       (some ((b false), []))
       (sel (decide (x.m.r1.x > x.d))
        (some ((b false), []))
        (sel (decide (x.m.r1.y < (W (0 - x.d))))
         (some ((b false), []))
         (sel (decide (x.m.r1.y > x.d))
          (some ((b false), []))
          (sel (decide (x.m.r1.z < (W (0 - x.d))))
           (some ((b false), []))
           (sel (decide (x.m.r1.z > x.d))
            (some ((b false), []))
            (sel (decide (x.m.r2.x < (W (0 - x.d))))
             (some ((b false), []))
             (sel (decide (x.m.r2.x > x.d))
              (some ((b false), []))
              (sel (decide (x.m.r2.y < (W (0 - x.d))))
               (some ((b false), []))
               (sel (decide (x.m.r2.y > x.d))
                (some ((b false), []))
                (sel (decide (x.m.r2.z < (W (0 - x.d))))
                 (some ((b false), []))
                 (sel (decide (x.m.r2.z > x.d))
                  (some ((b false), []))
                  (some ((b true), [])))))))))))))))))))) := by kernel_rfl
theorem m48 (c1 c2 c3 c4 c5 c6 c7 c8 c9 c10 c11 c12 c13 c14 c15 c16 c17 c18 : Bool) (x : Trn)  : ((sel c1
 (some ((b false), []))
 (sel c2
  (some ((b false), []))
  (sel c3
   (some ((b false), []))
   (sel c4
    (some ((b false), []))
    (sel c5
     (some ((b false), []))
     (sel c6
      (some ((b false), []))
      (sel c7
       (some ((b false), []))
       (sel c8
        (some ((b false), []))
        (sel c9
         (some ((b false), []))
         (sel c10
          (some ((b false), []))
          (sel c11
           (some ((b false), []))
           (sel c12
            (some ((b false), []))
            (sel c13
             (some ((b false), []))
             (sel c14
              (some ((b false), []))
              (sel c15
               (some ((b false), []))
               (sel c16
                (some ((b false), []))
                (sel c17
                 (some ((b false), []))
                 (sel c18
                  (some ((b false), []))
                  (some ((b true), [])))))))))))))))))))) : Option (AVal × List ABlk)) = (some ((b ((!c1) && ((!c2) && ((!c3) && ((!c4) && ((!c5) && ((!c6) && ((!c7) && ((!c8) && ((!c9) && ((!c10) && ((!c11) && ((!c12) && ((!c13) && ((!c14) && ((!c15) && ((!c16) && ((!c17) && (!c18))))))))))))))))))), [])) := by
 cases c1
 ·
  cases c2
  ·
   cases c3
   ·
    cases c4
    ·
     cases c5
     ·
      cases c6
      ·
       cases c7
       ·
        cases c8
        ·
         cases c9
         ·
          cases c10
          ·
           cases c11
           ·
            cases c12
            ·
             cases c13
             ·
              cases c14
              ·
               cases c15
               ·
                cases c16
                ·
                 cases c17
                 ·
                  cases c18
                  ·
                   rfl
                  ·
                   rfl
                 ·
                  rfl
                ·
                 rfl
               ·
                rfl
              ·
               rfl
             ·
              rfl
            ·
             rfl
           ·
            rfl
          ·
           rfl
         ·
          rfl
        ·
         rfl
       ·
        rfl
      ·
       rfl
     ·
      rfl
    ·
     rfl
   ·
    rfl
  ·
   rfl
 ·
  rfl
theorem k48 (x : Trn)  : (.ret (b (p48 x), []) : DT (AVal × List ABlk)).run = (some ((b ((!(decide (x.m.r0.x < (W (0 - x.d))))) && ((!(decide (x.m.r0.x > x.d))) && ((!(decide (x.m.r0.y < (W (0 - x.d))))) && ((!(decide (x.m.r0.y > x.d))) && ((!(decide (x.m.r0.z < (W (0 - x.d))))) && ((!(decide (x.m.r0.z > x.d))) && ((!(decide (x.m.r1.x < (W (0 - x.d))))) && ((!(decide (x.m.r1.x > x.d))) && ((!(decide (x.m.r1.y < (W (0 - x.d))))) && ((!(decide (x.m.r1.y > x.d))) && ((!(decide (x.m.r1.z < (W (0 - x.d))))) && ((!(decide (x.m.r1.z > x.d))) && ((!(decide (x.m.r2.x < (W (0 - x.d))))) && ((!(decide (x.m.r2.x > x.d))) && ((!(decide (x.m.r2.y < (W (0 - x.d))))) && ((!(decide (x.m.r2.y > x.d))) && ((!(decide (x.m.r2.z < (W (0 - x.d))))) && (!(decide (x.m.r2.z > x.d))))))))))))))))))))), [])) := by kernel_rfl
theorem ok48 : FnOk Tryd.prog G 48 S48 := sum1_ok (b48 (E := En tb48) rfl (tdeps tbo48)) fun x r h => ((r48 x ).trans (m48 _ _ _ _ _ _ _ _ _ _ _ _ _ _ _ _ _ _ x )).trans ((k48 x ).symm.trans h)
noncomputable def p70 (x : V3) : Bool := ((!(decide (x.x < (-24)))) && ((!(decide (x.x > 24))) && ((!(decide (x.y < (-24)))) && ((!(decide (x.y > 24))) && ((!(decide (x.z < (-24)))) && (!(decide (x.z > 24))))))))
noncomputable def tb70 : List (Nat × Sum) := [(82, S82)]
theorem tbo70 : TblOk Tryd.prog G tb70 := ⟨ok82, trivial⟩
noncomputable def S70 : Sum := sum1 cV (fun x => .ret (b (p70 x), []))
theorem r70 (x : V3)  : (runFn (En tb70) pf70 [cV.enc x] []).run = (sel (decide (x.x < (-24)))
 (some ((b false), []))
 (sel (decide (x.x > 24))
  (some ((b false), []))
  (sel (decide (x.y < (-24)))
   (some ((b false), []))
   (sel (decide (x.y > 24))
    (some ((b false), []))
    (sel (decide (x.z < (-24)))
     (some ((b false), []))
     (sel (decide (x.z > 24))
      (some ((b false), []))
      (some ((b true), [])))))))) := by kernel_rfl
theorem m70 (c1 c2 c3 c4 c5 c6 : Bool) (x : V3)  : ((sel c1
 (some ((b false), []))
 (sel c2
  (some ((b false), []))
  (sel c3
   (some ((b false), []))
   (sel c4
    (some ((b false), []))
    (sel c5
     (some ((b false), []))
     (sel c6
      (some ((b false), []))
      (some ((b true), [])))))))) : Option (AVal × List ABlk)) = (some ((b ((!c1) && ((!c2) && ((!c3) && ((!c4) && ((!c5) && (!c6))))))), [])) := by
 cases c1
 ·
  cases c2
  ·
   cases c3
   ·
    cases c4
    ·
     cases c5
     ·
      cases c6
      ·
       rfl
      ·
       rfl
     ·
      rfl
    ·
     rfl
   ·
    rfl
  ·
   rfl
 ·
  rfl
theorem k70 (x : V3)  : (.ret (b (p70 x), []) : DT (AVal × List ABlk)).run = (some ((b ((!(decide (x.x < (-24)))) && ((!(decide (x.x > 24))) && ((!(decide (x.y < (-24)))) && ((!(decide (x.y > 24))) && ((!(decide (x.z < (-24)))) && (!(decide (x.z > 24))))))))), [])) := by kernel_rfl
theorem ok70 : FnOk Tryd.prog G 70 S70 := sum1_ok (b70 (E := En tb70) rfl (tdeps tbo70)) fun x r h => ((r70 x ).trans (m70 _ _ _ _ _ _ x )).trans ((k70 x ).symm.trans h)
noncomputable def p79 (x : Int) (y : Int) : Int := let t1 := (gcdP x y); t1.1
noncomputable def g79 (x : Int) (y : Int) : Bool := let t1 := (gcdP x y); (decide (y < 9223372036854775808))
noncomputable def tb79 : List (Nat × Sum) := []
theorem tbo79 : TblOk Tryd.prog G tb79 := trivial
noncomputable def S79 : Sum := sum2 cI cI (fun x y => DT.guard (g79 x y) (.ret (i (p79 x y), [])))
noncomputable def h79_0 (s0 : Int) (s1 : Int) : St := ⟨[(i s0), (i s1), .unk, .unk, .unk, .unk, .unk, .unk, .unk, .unk, .unk, .unk], []⟩
noncomputable def x79_0 (s0 : Int) (s1 : Int) : XExit × St := (.exit 0, ⟨[(i s0), (i s1), .unk, .unk, .unk, (i s1), (b (decide (s1 > 0))), .unk, .unk, .unk, .unk, .unk], []⟩)
@[reducible] def l79_0 : PC := (.seq (.seq (.ops [(o 5 (.mv (.t 1))), (o 6 (.bin .gtr (.t 5) (ci 0)))]) (.cond (.t 6) .skip (.exit 0))) (.block 1 (.draw [7, 8, 9, 10, 0, 1] [] [(o 7 (.mv (.t 1))), (o 8 (.mv (.t 0))), (o 9 (.mv (.t 1))), (o 10 (.bin .rem (.t 8) (.t 9))), (o 0 (.mv (.t 7))), (o 1 (.mv (.t 10)))] [])))
theorem rd79_0 (s0 : Int) (s1 : Int) : (roundE (En tb79) 0 [0, 1] (.pc l79_0) (h79_0 s0 s1)).run = sel (decide (s1 > 0)) (sel (s1 == 0) none (some (.normal, h79_0 s1 (Int.tmod s0 s1)))) (some (x79_0 s0 s1)) := by kernel_rfl
noncomputable def f79_0 (a : List AVal) (H : List ABlk) : XExit × St := x79_0 (gcdP (toI (slotA a 0)) (toI (slotA a 1))).1 (gcdP (toI (slotA a 0)) (toI (slotA a 1))).2
noncomputable def q79_0 (a : List AVal) : Bool := decide (toI (slotA a 1) < 9223372036854775808)
theorem st79_0 (s : St) : Below ((loopS 0 [0, 1] [.int, .int, .unk, .unk, .unk, .unk, .unk, .unk, .unk, .unk, .unk, .unk] [] q79_0 f79_0) s) (exec (En tb79) 0 (.loop [0, 1] l79_0) s) :=
  loopS_below (n := 18446744073709551615) (body := .pc l79_0) (.pc _) rfl (fun aa HH hq => gcd_loop (head := headOf 0 [0, 1]) (body := execS (En tb79) 0 (.pc l79_0)) (st := (fun g a => h79_0 g a)) (ex := (fun g a => x79_0 g a)) (fun _ _ h => by cases h) (fun g a => rd79_0 g a) 18446744073709551615 (toI (slotA (asShs [.int, .int, .unk, .unk, .unk, .unk, .unk, .unk, .unk, .unk, .unk, .unk] aa) 0)) (toI (slotA (asShs [.int, .int, .unk, .unk, .unk, .unk, .unk, .unk, .unk, .unk, .unk, .unk] aa) 1)) (bnd_of hq)) s
noncomputable def ps79 : PS := (.seq (.pc (.ops [(o 4 (.mv (ci 0)))])) (.seq (.block 0 (.sum (loopS 0 [0, 1] [.int, .int, .unk, .unk, .unk, .unk, .unk, .unk, .unk, .unk, .unk, .unk] [] q79_0 f79_0))) (.pc (.seq (.ops [(o 11 (.mv (.t 0))), (o 4 (.mv (.t 11)))]) .ret))))
theorem sd79 : Stands (En tb79) 0 ps79 pf79.body := (.seq (.pc _) (.seq (.block _ (.sum st79_0)) (.pc _)))
theorem r79 (x : Int) (y : Int) (t1 : Int × Int) (ht1 : t1 = (gcdP x y)) : (runS (En tb79) pf79 ps79 [cI.enc x, cI.enc y] []).run = (sel (decide (y < 9223372036854775808))
 (some ((i t1.1), []))
 none) := by subst ht1; kernel_rfl
theorem m79 (c1 : Bool) (x : Int) (y : Int) (t1 : Int × Int) : ((sel c1
 (some ((i t1.1), []))
 none) : Option (AVal × List ABlk)) = (sel c1 (some ((i t1.1), [])) none) := by
 cases c1
 ·
  rfl
 ·
  rfl
theorem k79 (x : Int) (y : Int) (t1 : Int × Int) (ht1 : t1 = (gcdP x y)) : (DT.guard (g79 x y) (.ret (i (p79 x y), [])) : DT (AVal × List ABlk)).run = (sel (decide (y < 9223372036854775808)) (some ((i t1.1), [])) none) := by subst ht1; rw [run_grd]; kernel_rfl
theorem ok79 : FnOk Tryd.prog G 79 S79 := sum2_ok (b79 (E := En tb79) rfl (tdeps tbo79)) fun x y r h => runS_below sd79 _ (((r79 x y _ rfl).trans (m79 _ x y _)).trans ((k79 x y _ rfl).symm.trans h))
noncomputable def p43 (x : M3) (y : Int) : M3 × Int := let t1 := (gcdP y (if (W (0 - x.r0.x)) > x.r0.x then (W (0 - x.r0.x)) else x.r0.x)); let t2 := (gcdP t1.1 (if (W (0 - x.r0.y)) > x.r0.y then (W (0 - x.r0.y)) else x.r0.y)); let t3 := (gcdP t2.1 (if (W (0 - x.r0.z)) > x.r0.z then (W (0 - x.r0.z)) else x.r0.z)); let t4 := (gcdP t3.1 (if (W (0 - x.r1.x)) > x.r1.x then (W (0 - x.r1.x)) else x.r1.x)); let t5 := (gcdP t4.1 (if (W (0 - x.r1.y)) > x.r1.y then (W (0 - x.r1.y)) else x.r1.y)); let t6 := (gcdP t5.1 (if (W (0 - x.r1.z)) > x.r1.z then (W (0 - x.r1.z)) else x.r1.z)); let t7 := (gcdP t6.1 (if (W (0 - x.r2.x)) > x.r2.x then (W (0 - x.r2.x)) else x.r2.x)); let t8 := (gcdP t7.1 (if (W (0 - x.r2.y)) > x.r2.y then (W (0 - x.r2.y)) else x.r2.y)); let t9 := (gcdP t8.1 (if (W (0 - x.r2.z)) > x.r2.z then (W (0 - x.r2.z)) else x.r2.z)); ((⟨(⟨(W (Int.tdiv x.r0.x t9.1)), (W (Int.tdiv x.r0.y t9.1)), (W (Int.tdiv x.r0.z t9.1))⟩ : V3), (⟨(W (Int.tdiv x.r1.x t9.1)), (W (Int.tdiv x.r1.y t9.1)), (W (Int.tdiv x.r1.z t9.1))⟩ : V3), (⟨(W (Int.tdiv x.r2.x t9.1)), (W (Int.tdiv x.r2.y t9.1)), (W (Int.tdiv x.r2.z t9.1))⟩ : V3)⟩ : M3), (W (Int.tdiv y t9.1)))
noncomputable def g43 (x : M3) (y : Int) : Bool := let t1 := (gcdP y (if (W (0 - x.r0.x)) > x.r0.x then (W (0 - x.r0.x)) else x.r0.x)); let t2 := (gcdP t1.1 (if (W (0 - x.r0.y)) > x.r0.y then (W (0 - x.r0.y)) else x.r0.y)); let t3 := (gcdP t2.1 (if (W (0 - x.r0.z)) > x.r0.z then (W (0 - x.r0.z)) else x.r0.z)); let t4 := (gcdP t3.1 (if (W (0 - x.r1.x)) > x.r1.x then (W (0 - x.r1.x)) else x.r1.x)); let t5 := (gcdP t4.1 (if (W (0 - x.r1.y)) > x.r1.y then (W (0 - x.r1.y)) else x.r1.y)); let t6 := (gcdP t5.1 (if (W (0 - x.r1.z)) > x.r1.z then (W (0 - x.r1.z)) else x.r1.z)); let t7 := (gcdP t6.1 (if (W (0 - x.r2.x)) > x.r2.x then (W (0 - x.r2.x)) else x.r2.x)); let t8 := (gcdP t7.1 (if (W (0 - x.r2.y)) > x.r2.y then (W (0 - x.r2.y)) else x.r2.y)); let t9 := (gcdP t8.1 (if (W (0 - x.r2.z)) > x.r2.z then (W (0 - x.r2.z)) else x.r2.z)); ((decide ((if (W (0 - x.r0.x)) > x.r0.x then (W (0 - x.r0.x)) else x.r0.x) < 9223372036854775808)) && ((decide ((if (W (0 - x.r0.y)) > x.r0.y then (W (0 - x.r0.y)) else x.r0.y) < 9223372036854775808)) && ((decide ((if (W (0 - x.r0.z)) > x.r0.z then (W (0 - x.r0.z)) else x.r0.z) < 9223372036854775808)) && ((decide ((if (W (0 - x.r1.x)) > x.r1.x then (W (0 - x.r1.x)) else x.r1.x) < 9223372036854775808)) && ((decide ((if (W (0 - x.r1.y)) > x.r1.y then (W (0 - x.r1.y)) else x.r1.y) < 9223372036854775808)) && ((decide ((if (W (0 - x.r1.z)) > x.r1.z then (W (0 - x.r1.z)) else x.r1.z) < 9223372036854775808)) && ((decide ((if (W (0 - x.r2.x)) > x.r2.x then (W (0 - x.r2.x)) else x.r2.x) < 9223372036854775808)) && ((decide ((if (W (0 - x.r2.y)) > x.r2.y then (W (0 - x.r2.y)) else x.r2.y) < 9223372036854775808)) && ((decide ((if (W (0 - x.r2.z)) > x.r2.z then (W (0 - x.r2.z)) else x.r2.z) < 9223372036854775808)) && (!(t9.1 == 0)))))))))))
noncomputable def tb43 : List (Nat × Sum) := []
theorem tbo43 : TblOk Tryd.prog G tb43 := trivial
noncomputable def S43 : Sum := sum2 cM cI (fun x y => DT.guard (g43 x y) (.ret (.tup [eM (p43 x y).1, i (p43 x y).2], [])))
noncomputable def h43_0 (s1 : Int) (s6 : Int) (s8 : Int) (s11 : Int) (e0 : List (List AVal)) (e1 : List (List AVal)) : St := ⟨[.unk, (i s1), (.ptr 0 0 0 0), .unk, (.ptr 1 0 0 0), .unk, (i s6), .unk, (i s8), .unk, .unk, (i s11), .unk, .unk, .unk, .unk, .unk, .unk, .unk, .unk, .unk, .unk, .unk, .unk, .unk, .unk, .unk, .unk, .unk, .unk, .unk, .unk, .unk, .unk, .unk, .unk, .unk, .unk, .unk, .unk, .unk, .unk, .unk, .unk, .unk, .unk, .unk, .unk, .unk, .unk, .unk, .unk, .unk, .unk, .unk, .unk], [⟨0, 9, e0, true, false, 0⟩, ⟨0, 9, e1, true, false, 0⟩]⟩
noncomputable def x43_0 (s1 : Int) (s6 : Int) (s8 : Int) (s11 : Int) (e0 : List (List AVal)) (e1 : List (List AVal)) : XExit × St := (.exit 2, ⟨[.unk, (i s1), (.ptr 0 0 0 0), .unk, (.ptr 1 0 0 0), .unk, (i s6), .unk, (i s8), .unk, .unk, (i s11), .unk, .unk, .unk, .unk, .unk, .unk, .unk, .unk, .unk, .unk, .unk, .unk, .unk, .unk, .unk, .unk, .unk, .unk, (i s8), (b (decide (s8 > 0))), .unk, .unk, .unk, .unk, .unk, .unk, .unk, .unk, .unk, .unk, .unk, .unk, .unk, .unk, .unk, .unk, .unk, .unk, .unk, .unk, .unk, .unk, .unk, .unk], [⟨0, 9, e0, true, false, 0⟩, ⟨0, 9, e1, true, false, 0⟩]⟩)
@[reducible] def l43_0 : PC := (.seq (.seq (.ops [(o 30 (.mv (.t 8))), (o 31 (.bin .gtr (.t 30) (ci 0)))]) (.cond (.t 31) .skip (.exit 2))) (.block 3 (.draw [32, 33, 34, 35, 6, 8] [] [(o 32 (.mv (.t 8))), (o 33 (.mv (.t 6))), (o 34 (.mv (.t 8))), (o 35 (.bin .rem (.t 33) (.t 34))), (o 6 (.mv (.t 32))), (o 8 (.mv (.t 35)))] [])))
theorem rd43_0 (s1 : Int) (s6 : Int) (s8 : Int) (s11 : Int) (e0 : List (List AVal)) (e1 : List (List AVal)) : (roundE (En tb43) 0 [1, 2, 4, 6, 8, 11] (.pc l43_0) (h43_0 s1 s6 s8 s11 e0 e1)).run = sel (decide (s8 > 0)) (sel (s8 == 0) none (some (.normal, h43_0 s1 s8 (Int.tmod s6 s8) s11 e0 e1))) (some (x43_0 s1 s6 s8 s11 e0 e1)) := by kernel_rfl
noncomputable def f43_0 (a : List AVal) (H : List ABlk) : XExit × St := x43_0 (toI (slotA a 1)) (gcdP (toI (slotA a 6)) (toI (slotA a 8))).1 (gcdP (toI (slotA a 6)) (toI (slotA a 8))).2 (toI (slotA a 11)) (elsA H 0) (elsA H 1)
noncomputable def q43_0 (a : List AVal) : Bool := decide (toI (slotA a 8) < 9223372036854775808)
theorem st43_0 (s : St) : Below ((loopS 0 [1, 2, 4, 6, 8, 11] [.unk, .int, (.ptr 0 0 0 0), .unk, (.ptr 1 0 0 0), .unk, .int, .unk, .int, .unk, .unk, .int, .unk, .unk, .unk, .unk, .unk, .unk, .unk, .unk, .unk, .unk, .unk, .unk, .unk, .unk, .unk, .unk, .unk, .unk, .unk, .unk, .unk, .unk, .unk, .unk, .unk, .unk, .unk, .unk, .unk, .unk, .unk, .unk, .unk, .unk, .unk, .unk, .unk, .unk, .unk, .unk, .unk, .unk, .unk, .unk] [(0, 9), (0, 9)] q43_0 f43_0) s) (exec (En tb43) 0 (.loop [1, 2, 4, 6, 8, 11] l43_0) s) :=
  loopS_below (n := 18446744073709551615) (body := .pc l43_0) (.pc _) rfl (fun aa HH hq => gcd_loop (head := headOf 0 [1, 2, 4, 6, 8, 11]) (body := execS (En tb43) 0 (.pc l43_0)) (st := (fun g a => h43_0 (toI (slotA (asShs [.unk, .int, (.ptr 0 0 0 0), .unk, (.ptr 1 0 0 0), .unk, .int, .unk, .int, .unk, .unk, .int, .unk, .unk, .unk, .unk, .unk, .unk, .unk, .unk, .unk, .unk, .unk, .unk, .unk, .unk, .unk, .unk, .unk, .unk, .unk, .unk, .unk, .unk, .unk, .unk, .unk, .unk, .unk, .unk, .unk, .unk, .unk, .unk, .unk, .unk, .unk, .unk, .unk, .unk, .unk, .unk, .unk, .unk, .unk, .unk] aa) 1)) g a (toI (slotA (asShs [.unk, .int, (.ptr 0 0 0 0), .unk, (.ptr 1 0 0 0), .unk, .int, .unk, .int, .unk, .unk, .int, .unk, .unk, .unk, .unk, .unk, .unk, .unk, .unk, .unk, .unk, .unk, .unk, .unk, .unk, .unk, .unk, .unk, .unk, .unk, .unk, .unk, .unk, .unk, .unk, .unk, .unk, .unk, .unk, .unk, .unk, .unk, .unk, .unk, .unk, .unk, .unk, .unk, .unk, .unk, .unk, .unk, .unk, .unk, .unk] aa) 11)) (elsA (asBl [(0, 9), (0, 9)] HH) 0) (elsA (asBl [(0, 9), (0, 9)] HH) 1))) (ex := (fun g a => x43_0 (toI (slotA (asShs [.unk, .int, (.ptr 0 0 0 0), .unk, (.ptr 1 0 0 0), .unk, .int, .unk, .int, .unk, .unk, .int, .unk, .unk, .unk, .unk, .unk, .unk, .unk, .unk, .unk, .unk, .unk, .unk, .unk, .unk, .unk, .unk, .unk, .unk, .unk, .unk, .unk, .unk, .unk, .unk, .unk, .unk, .unk, .unk, .unk, .unk, .unk, .unk, .unk, .unk, .unk, .unk, .unk, .unk, .unk, .unk, .unk, .unk, .unk, .unk] aa) 1)) g a (toI (slotA (asShs [.unk, .int, (.ptr 0 0 0 0), .unk, (.ptr 1 0 0 0), .unk, .int, .unk, .int, .unk, .unk, .int, .unk, .unk, .unk, .unk, .unk, .unk, .unk, .unk, .unk, .unk, .unk, .unk, .unk, .unk, .unk, .unk, .unk, .unk, .unk, .unk, .unk, .unk, .unk, .unk, .unk, .unk, .unk, .unk, .unk, .unk, .unk, .unk, .unk, .unk, .unk, .unk, .unk, .unk, .unk, .unk, .unk, .unk, .unk, .unk] aa) 11)) (elsA (asBl [(0, 9), (0, 9)] HH) 0) (elsA (asBl [(0, 9), (0, 9)] HH) 1))) (fun _ _ h => by cases h) (fun g a => rd43_0 _ g a _ _ _) 18446744073709551615 (toI (slotA (asShs [.unk, .int, (.ptr 0 0 0 0), .unk, (.ptr 1 0 0 0), .unk, .int, .unk, .int, .unk, .unk, .int, .unk, .unk, .unk, .unk, .unk, .unk, .unk, .unk, .unk, .unk, .unk, .unk, .unk, .unk, .unk, .unk, .unk, .unk, .unk, .unk, .unk, .unk, .unk, .unk, .unk, .unk, .unk, .unk, .unk, .unk, .unk, .unk, .unk, .unk, .unk, .unk, .unk, .unk, .unk, .unk, .unk, .unk, .unk, .unk] aa) 6)) (toI (slotA (asShs [.unk, .int, (.ptr 0 0 0 0), .unk, (.ptr 1 0 0 0), .unk, .int, .unk, .int, .unk, .unk, .int, .unk, .unk, .unk, .unk, .unk, .unk, .unk, .unk, .unk, .unk, .unk, .unk, .unk, .unk, .unk, .unk, .unk, .unk, .unk, .unk, .unk, .unk, .unk, .unk, .unk, .unk, .unk, .unk, .unk, .unk, .unk, .unk, .unk, .unk, .unk, .unk, .unk, .unk, .unk, .unk, .unk, .unk, .unk, .unk] aa) 8)) (bnd_of hq)) s
noncomputable def ps43 : PS := (.seq (.pc (.ops [(o 2 (.box (.t 0))), (o 4 (.alloc (rep 9 (vi 0)))), (o 5 (.mv (ci 0)))])) (.seq (.pc (.ops [(o 10 (.mv (.t 1))), (o 6 (.mv (.t 10)))])) (.seq (.seq (.pc (.ops [(o 11 (.mv (ci 0)))])) (.block 0 (.loop [1, 2, 4, 6, 11] (.seq (.pc (.ops [(o 12 (.bin .lss (.t 11) (ci 9)))])) (.seq (.pc (.cond (.t 12) .skip (.exit 0))) (.seq (.block 1 (.seq (.pc (.ops [(o 13 (.mv (.t 11))), (o 7 (.mv (.t 13)))])) (.seq (.pc (.draw [14, 15, 16, 17, 18, 19, 20, 21, 22, 23, 24, 25, 26, 27, 28, 29, 8] [] [(o 14 (.mv (.t 7))), (o 15 (.bin .quo (.t 14) (ci 3))), (o 16 (.mv (.t 7))), (o 17 (.bin .rem (.t 16) (ci 3))), (o 18 (.idxA 3 3 (.t 2) (.t 15))), (o 19 (.idxA 3 1 (.t 18) (.t 17))), (o 20 (.load (ki 1) 1 false (.t 19))), (o 21 (.mv (.t 7))), (o 22 (.bin .quo (.t 21) (ci 3))), (o 23 (.mv (.t 7))), (o 24 (.bin .rem (.t 23) (ci 3))), (o 25 (.idxA 3 3 (.t 2) (.t 22))), (o 26 (.idxA 3 1 (.t 25) (.t 24))), (o 27 (.load (ki 1) 1 false (.t 26))), (o 28 (.neg (.t 27))), (o 29 (.gen ⟨none, (.call ⟨(.builtin .max), #[(.tmp 20), (.tmp 28)], #[3, 3]⟩), 3, "", #[], none⟩ [20, 28])), (o 8 (.mv (.t 29)))] [])) (.block 2 (.sum (loopS 0 [1, 2, 4, 6, 8, 11] [.unk, .int, (.ptr 0 0 0 0), .unk, (.ptr 1 0 0 0), .unk, .int, .unk, .int, .unk, .unk, .int, .unk, .unk, .unk, .unk, .unk, .unk, .unk, .unk, .unk, .unk, .unk, .unk, .unk, .unk, .unk, .unk, .unk, .unk, .unk, .unk, .unk, .unk, .unk, .unk, .unk, .unk, .unk, .unk, .unk, .unk, .unk, .unk, .unk, .unk, .unk, .unk, .unk, .unk, .unk, .unk, .unk, .unk, .unk, .unk] [(0, 9), (0, 9)] q43_0 f43_0)))))) (.pc (.ops [(o 36 (.bin .add (.t 11) (ci 1))), (o 11 (.mv (.t 36)))])))))))) (.pc (.seq (.seq (.ops [(o 37 (.mv (ci 0)))]) (.block 4 (.loop [1, 2, 4, 6, 37] (.seq (.ops [(o 38 (.bin .lss (.t 37) (ci 9)))]) (.seq (.cond (.t 38) .skip (.exit 4)) (.seq (.block 5 (.seq (.ops [(o 39 (.mv (.t 37))), (o 9 (.mv (.t 39)))]) (.draw [40, 41, 42, 43, 44, 45, 46, 47, 48, 49, 50] [] [(o 40 (.mv (.t 9))), (o 41 (.bin .quo (.t 40) (ci 3))), (o 42 (.mv (.t 9))), (o 43 (.bin .rem (.t 42) (ci 3))), (o 44 (.idxA 3 3 (.t 2) (.t 41))), (o 45 (.idxA 3 1 (.t 44) (.t 43))), (o 46 (.load (ki 1) 1 false (.t 45))), (o 47 (.mv (.t 6))), (o 48 (.bin .quo (.t 46) (.t 47))), (o 49 (.idxA 3 3 (.t 2) (.t 41))), (o 50 (.idxA 3 1 (.t 49) (.t 43))), (s (.store 1 (.t 50) (.t 48)))] []))) (.ops [(o 51 (.bin .add (.t 37) (ci 1))), (o 37 (.mv (.t 51)))]))))))) (.seq (.draw [52, 53, 54, 55, 5] [] [(o 52 (.load (ki 9) 9 true (.t 2))), (o 53 (.mv (.t 1))), (o 54 (.mv (.t 6))), (o 55 (.bin .quo (.t 53) (.t 54))), (s (.store 9 (.t 4) (.t 52))), (o 5 (.mv (.t 55)))] [((.mv (.t 1)), (.store 9 (.t 4) (.t 52))), ((.mv (.t 6)), (.store 9 (.t 4) (.t 52))), ((.bin .quo (.t 53) (.t 54)), (.store 9 (.t 4) (.t 52)))]) .ret))))))
theorem sd43 : Stands (En tb43) 0 ps43 pf43.body := (.seq (.pc _) (.seq (.pc _) (.seq (.seq (.pc _) (.block _ (.loop _ (.seq (.pc _) (.seq (.pc _) (.seq (.block _ (.seq (.pc _) (.seq (.pc _) (.block _ (.sum st43_0))))) (.pc _))))))) (.pc _))))
theorem r43 (x : M3) (y : Int) (t1 : Int × Int) (ht1 : t1 = (gcdP y (if (W (0 - x.r0.x)) > x.r0.x then (W (0 - x.r0.x)) else x.r0.x))) (t2 : Int × Int) (ht2 : t2 = (gcdP t1.1 (if (W (0 - x.r0.y)) > x.r0.y then (W (0 - x.r0.y)) else x.r0.y))) (t3 : Int × Int) (ht3 : t3 = (gcdP t2.1 (if (W (0 - x.r0.z)) > x.r0.z then (W (0 - x.r0.z)) else x.r0.z))) (t4 : Int × Int) (ht4 : t4 = (gcdP t3.1 (if (W (0 - x.r1.x)) > x.r1.x then (W (0 - x.r1.x)) else x.r1.x))) (t5 : Int × Int) (ht5 : t5 = (gcdP t4.1 (if (W (0 - x.r1.y)) > x.r1.y then (W (0 - x.r1.y)) else x.r1.y))) (t6 : Int × Int) (ht6 : t6 = (gcdP t5.1 (if (W (0 - x.r1.z)) > x.r1.z then (W (0 - x.r1.z)) else x.r1.z))) (t7 : Int × Int) (ht7 : t7 = (gcdP t6.1 (if (W (0 - x.r2.x)) > x.r2.x then (W (0 - x.r2.x)) else x.r2.x))) (t8 : Int × Int) (ht8 : t8 = (gcdP t7.1 (if (W (0 - x.r2.y)) > x.r2.y then (W (0 - x.r2.y)) else x.r2.y))) (t9 : Int × Int) (ht9 : t9 = (gcdP t8.1 (if (W (0 - x.r2.z)) > x.r2.z then (W (0 - x.r2.z)) else x.r2.z))) : (runS (En tb43) pf43 ps43 [cM.enc x, cI.enc y] []).run = (sel (decide ((if (W (0 - x.r0.x)) > x.r0.x then (W (0 - x.r0.x)) else x.r0.x) < 9223372036854775808))
 (sel (decide ((if (W (0 - x.r0.y)) > x.r0.y then (W (0 - x.r0.y)) else x.r0.y) < 9223372036854775808))
  (sel (decide ((if (W (0 - x.r0.z)) > x.r0.z then (W (0 - x.r0.z)) else x.r0.z) < 9223372036854775808))
   (sel (decide ((if (W (0 - x.r1.x)) > x.r1.x then (W (0 - x.r1.x)) else x.r1.x) < 9223372036854775808))
    (sel (decide ((if (W (0 - x.r1.y)) > x.r1.y then (W (0 - x.r1.y)) else x.r1.y) < 9223372036854775808))
     (sel (decide ((if (W (0 - x.r1.z)) > x.r1.z then (W (0 - x.r1.z)) else x.r1.z) < 9223372036854775808))
      (sel (decide ((if (W (0 - x.r2.x)) > x.r2.x then (W (0 - x.r2.x)) else x.r2.x) < 9223372036854775808))
       (sel (decide ((if (W (0 - x.r2.y)) > x.r2.y then (W (0 - x.r2.y)) else x.r2.y) < 9223372036854775808))
        (sel (decide ((if (W (0 - x.r2.z)) > x.r2.z then (W (0 - x.r2.z)) else x.r2.z) < 9223372036854775808))
         (sel (t9.1 == 0)
          none
          (sel (t9.1 == 0)
           none
           (sel (t9.1 == 0)
            none
            (sel (t9.1 == 0)
             none
             (sel (t9.1 == 0)
              none
              (sel (t9.1 == 0)
               none
               (sel (t9.1 == 0)
                none
                (sel (t9.1 == 0)
                 none
                 (sel (t9.1 == 0)
                  none
                  (sel (t9.1 == 0)
                   none
                   (some ((.tup [(.agg [(i (W (Int.tdiv x.r0.x t9.1))), (i (W (Int.tdiv x.r0.y t9.1))), (i (W (Int.tdiv x.r0.z t9.1))), (i (W (Int.tdiv x.r1.x t9.1))), (i (W (Int.tdiv x.r1.y t9.1))), (i (W (Int.tdiv x.r1.z t9.1))), (i (W (Int.tdiv x.r2.x t9.1))), (i (W (Int.tdiv x.r2.y t9.1))), (i (W (Int.tdiv x.r2.z t9.1)))]), (i (W (Int.tdiv y t9.1)))]), []))))))))))))
         none)
        none)
       none)
      none)
     none)
    none)
   none)
  none)
 none) := by subst ht1; subst ht2; subst ht3; subst ht4; subst ht5; subst ht6; subst ht7; subst ht8; subst ht9; kernel_rfl
theorem m43 (c1 c2 c3 c4 c5 c6 c7 c8 c9 c10 : Bool) (x : M3) (y : Int) (t9 : Int × Int) : ((sel c1
 (sel c2
  (sel c3
   (sel c4
    (sel c5
     (sel c6
      (sel c7
       (sel c8
        (sel c9
         (sel c10
          none
          (sel c10
           none
           (sel c10
            none
            (sel c10
             none
             (sel c10
              none
              (sel c10
               none
               (sel c10
                none
                (sel c10
                 none
                 (sel c10
                  none
                  (sel c10
                   none
                   (some ((.tup [(.agg [(i (W (Int.tdiv x.r0.x t9.1))), (i (W (Int.tdiv x.r0.y t9.1))), (i (W (Int.tdiv x.r0.z t9.1))), (i (W (Int.tdiv x.r1.x t9.1))), (i (W (Int.tdiv x.r1.y t9.1))), (i (W (Int.tdiv x.r1.z t9.1))), (i (W (Int.tdiv x.r2.x t9.1))), (i (W (Int.tdiv x.r2.y t9.1))), (i (W (Int.tdiv x.r2.z t9.1)))]), (i (W (Int.tdiv y t9.1)))]), []))))))))))))
         none)
        none)
       none)
      none)
     none)
    none)
   none)
  none)
 none) : Option (AVal × List ABlk)) = (sel (c1 && (c2 && (c3 && (c4 && (c5 && (c6 && (c7 && (c8 && (c9 && (!c10)))))))))) (some ((.tup [(.agg [(i (W (Int.tdiv x.r0.x t9.1))), (i (W (Int.tdiv x.r0.y t9.1))), (i (W (Int.tdiv x.r0.z t9.1))), (i (W (Int.tdiv x.r1.x t9.1))), (i (W (Int.tdiv x.r1.y t9.1))), (i (W (Int.tdiv x.r1.z t9.1))), (i (W (Int.tdiv x.r2.x t9.1))), (i (W (Int.tdiv x.r2.y t9.1))), (i (W (Int.tdiv x.r2.z t9.1)))]), (i (W (Int.tdiv y t9.1)))]), [])) none) := by
 cases c1
 ·
  rfl
 ·
  cases c2
  ·
   rfl
  ·
   cases c3
   ·
    rfl
   ·
    cases c4
    ·
     rfl
    ·
     cases c5
     ·
      rfl
     ·
      cases c6
      ·
       rfl
      ·
       cases c7
       ·
        rfl
       ·
        cases c8
        ·
         rfl
        ·
         cases c9
         ·
          rfl
         ·
          cases c10
          ·
           rfl
          ·
           rfl
theorem k43 (x : M3) (y : Int) (t1 : Int × Int) (ht1 : t1 = (gcdP y (if (W (0 - x.r0.x)) > x.r0.x then (W (0 - x.r0.x)) else x.r0.x))) (t2 : Int × Int) (ht2 : t2 = (gcdP t1.1 (if (W (0 - x.r0.y)) > x.r0.y then (W (0 - x.r0.y)) else x.r0.y))) (t3 : Int × Int) (ht3 : t3 = (gcdP t2.1 (if (W (0 - x.r0.z)) > x.r0.z then (W (0 - x.r0.z)) else x.r0.z))) (t4 : Int × Int) (ht4 : t4 = (gcdP t3.1 (if (W (0 - x.r1.x)) > x.r1.x then (W (0 - x.r1.x)) else x.r1.x))) (t5 : Int × Int) (ht5 : t5 = (gcdP t4.1 (if (W (0 - x.r1.y)) > x.r1.y then (W (0 - x.r1.y)) else x.r1.y))) (t6 : Int × Int) (ht6 : t6 = (gcdP t5.1 (if (W (0 - x.r1.z)) > x.r1.z then (W (0 - x.r1.z)) else x.r1.z))) (t7 : Int × Int) (ht7 : t7 = (gcdP t6.1 (if (W (0 - x.r2.x)) > x.r2.x then (W (0 - x.r2.x)) else x.r2.x))) (t8 : Int × Int) (ht8 : t8 = (gcdP t7.1 (if (W (0 - x.r2.y)) > x.r2.y then (W (0 - x.r2.y)) else x.r2.y))) (t9 : Int × Int) (ht9 : t9 = (gcdP t8.1 (if (W (0 - x.r2.z)) > x.r2.z then (W (0 - x.r2.z)) else x.r2.z))) : (DT.guard (g43 x y) (.ret (.tup [eM (p43 x y).1, i (p43 x y).2], [])) : DT (AVal × List ABlk)).run = (sel ((decide ((if (W (0 - x.r0.x)) > x.r0.x then (W (0 - x.r0.x)) else x.r0.x) < 9223372036854775808)) && ((decide ((if (W (0 - x.r0.y)) > x.r0.y then (W (0 - x.r0.y)) else x.r0.y) < 9223372036854775808)) && ((decide ((if (W (0 - x.r0.z)) > x.r0.z then (W (0 - x.r0.z)) else x.r0.z) < 9223372036854775808)) && ((decide ((if (W (0 - x.r1.x)) > x.r1.x then (W (0 - x.r1.x)) else x.r1.x) < 9223372036854775808)) && ((decide ((if (W (0 - x.r1.y)) > x.r1.y then (W (0 - x.r1.y)) else x.r1.y) < 9223372036854775808)) && ((decide ((if (W (0 - x.r1.z)) > x.r1.z then (W (0 - x.r1.z)) else x.r1.z) < 9223372036854775808)) && ((decide ((if (W (0 - x.r2.x)) > x.r2.x then (W (0 - x.r2.x)) else x.r2.x) < 9223372036854775808)) && ((decide ((if (W (0 - x.r2.y)) > x.r2.y then (W (0 - x.r2.y)) else x.r2.y) < 9223372036854775808)) && ((decide ((if (W (0 - x.r2.z)) > x.r2.z then (W (0 - x.r2.z)) else x.r2.z) < 9223372036854775808)) && (!(t9.1 == 0))))))))))) (some ((.tup [(.agg [(i (W (Int.tdiv x.r0.x t9.1))), (i (W (Int.tdiv x.r0.y t9.1))), (i (W (Int.tdiv x.r0.z t9.1))), (i (W (Int.tdiv x.r1.x t9.1))), (i (W (Int.tdiv x.r1.y t9.1))), (i (W (Int.tdiv x.r1.z t9.1))), (i (W (Int.tdiv x.r2.x t9.1))), (i (W (Int.tdiv x.r2.y t9.1))), (i (W (Int.tdiv x.r2.z t9.1)))]), (i (W (Int.tdiv y t9.1)))]), [])) none) := by subst ht1; subst ht2; subst ht3; subst ht4; subst ht5; subst ht6; subst ht7; subst ht8; subst ht9; rw [run_grd]; kernel_rfl
theorem ok43 : FnOk Tryd.prog G 43 S43 := sum2_ok (b43 (E := En tb43) rfl (tdeps tbo43)) fun x y r h => runS_below sd43 _ (((r43 x y _ rfl _ rfl _ rfl _ rfl _ rfl _ rfl _ rfl _ rfl _ rfl).trans (m43 _ _ _ _ _ _ _ _ _ _ x y _)).trans ((k43 x y _ rfl _ rfl _ rfl _ rfl _ rfl _ rfl _ rfl _ rfl _ rfl).symm.trans h))

end Go.Ev.T
