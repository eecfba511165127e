/- Printed: functions of the geometry chapters, as plain ones (own work). -/
import Derived.Test.YthbcfinnphpcbaaDoorEvTI
set_option linter.unusedVariables false
set_option linter.unusedSimpArgs false
set_option linter.unnecessarySimpa false
set_option linter.unusedSectionVars false
namespace Go.Ev.T
open Go Go.Ev Go.Ev.Ab Go.Proofs
set_option maxRecDepth 100000
noncomputable def tb23 : List (Nat × Sum) := []
theorem tbo23 : TblOk Tryd.prog G tb23 := trivial
@[reducible] noncomputable def S23 : Sum := runFn (En tb23) pf23
theorem ok23 : FnOk Tryd.prog G 23 S23 := b23 (E := En tb23) rfl (tdeps tbo23)
noncomputable def rowsIn (get : Nat → List AVal) : Bool := (List.range 24).all fun k => match mapO dInt (get k), mapO dInt (getRow tab14_0 k) with
  | some a, some c => a == c
  | _, _ => false
noncomputable def cA24 : Cod Unit := ⟨fun _ => .tree 10 24 (fun k => getRow tab14_0 k), fun x => match x with
  | .tree 10 24 _ => some ()
  | _ => none, fun x => match x with
  | .tree _ _ get => rowsIn get
  | _ => false, fun x a h hg => by
  split at h
  · rename_i get
    refine .tree fun k hk => ?_
    have h2 := List.all_eq_true.1 hg k (by simpa using hk)
    split at h2
    · rename_i a c e1 e2
      have h3 : a = c := by simpa using h2
      rw [mapO_inv (fun _ _ => dInt_eq) e1, mapO_inv (fun _ _ => dInt_eq) e2, h3]
    · cases h2
  · cases h⟩
noncomputable def p24 (x : Unit) (y : Trn) : Bool := ((((-1) == y.m.r0.x) && ((0 == y.m.r0.y) && ((0 == y.m.r0.z) && ((0 == y.m.r1.x) && (((-1) == y.m.r1.y) && ((0 == y.m.r1.z) && ((0 == y.m.r2.x) && ((0 == y.m.r2.y) && ((1 == y.m.r2.z) && ((1 == y.d) && true)))))))))) || ((((-1) == y.m.r0.x) && ((0 == y.m.r0.y) && ((0 == y.m.r0.z) && ((0 == y.m.r1.x) && ((0 == y.m.r1.y) && (((-1) == y.m.r1.z) && ((0 == y.m.r2.x) && (((-1) == y.m.r2.y) && ((0 == y.m.r2.z) && ((1 == y.d) && true)))))))))) || ((((-1) == y.m.r0.x) && ((0 == y.m.r0.y) && ((0 == y.m.r0.z) && ((0 == y.m.r1.x) && ((0 == y.m.r1.y) && ((1 == y.m.r1.z) && ((0 == y.m.r2.x) && ((1 == y.m.r2.y) && ((0 == y.m.r2.z) && ((1 == y.d) && true)))))))))) || ((((-1) == y.m.r0.x) && ((0 == y.m.r0.y) && ((0 == y.m.r0.z) && ((0 == y.m.r1.x) && ((1 == y.m.r1.y) && ((0 == y.m.r1.z) && ((0 == y.m.r2.x) && ((0 == y.m.r2.y) && (((-1) == y.m.r2.z) && ((1 == y.d) && true)))))))))) || (((0 == y.m.r0.x) && (((-1) == y.m.r0.y) && ((0 == y.m.r0.z) && (((-1) == y.m.r1.x) && ((0 == y.m.r1.y) && ((0 == y.m.r1.z) && ((0 == y.m.r2.x) && ((0 == y.m.r2.y) && (((-1) == y.m.r2.z) && ((1 == y.d) && true)))))))))) || (((0 == y.m.r0.x) && (((-1) == y.m.r0.y) && ((0 == y.m.r0.z) && ((0 == y.m.r1.x) && ((0 == y.m.r1.y) && (((-1) == y.m.r1.z) && ((1 == y.m.r2.x) && ((0 == y.m.r2.y) && ((0 == y.m.r2.z) && ((1 == y.d) && true)))))))))) || (((0 == y.m.r0.x) && (((-1) == y.m.r0.y) && ((0 == y.m.r0.z) && ((0 == y.m.r1.x) && ((0 == y.m.r1.y) && ((1 == y.m.r1.z) && (((-1) == y.m.r2.x) && ((0 == y.m.r2.y) && ((0 == y.m.r2.z) && ((1 == y.d) && true)))))))))) || (((0 == y.m.r0.x) && (((-1) == y.m.r0.y) && ((0 == y.m.r0.z) && ((1 == y.m.r1.x) && ((0 == y.m.r1.y) && ((0 == y.m.r1.z) && ((0 == y.m.r2.x) && ((0 == y.m.r2.y) && ((1 == y.m.r2.z) && ((1 == y.d) && true)))))))))) || (((0 == y.m.r0.x) && ((0 == y.m.r0.y) && (((-1) == y.m.r0.z) && (((-1) == y.m.r1.x) && ((0 == y.m.r1.y) && ((0 == y.m.r1.z) && ((0 == y.m.r2.x) && ((1 == y.m.r2.y) && ((0 == y.m.r2.z) && ((1 == y.d) && true)))))))))) || (((0 == y.m.r0.x) && ((0 == y.m.r0.y) && (((-1) == y.m.r0.z) && ((0 == y.m.r1.x) && (((-1) == y.m.r1.y) && ((0 == y.m.r1.z) && (((-1) == y.m.r2.x) && ((0 == y.m.r2.y) && ((0 == y.m.r2.z) && ((1 == y.d) && true)))))))))) || (((0 == y.m.r0.x) && ((0 == y.m.r0.y) && (((-1) == y.m.r0.z) && ((0 == y.m.r1.x) && ((1 == y.m.r1.y) && ((0 == y.m.r1.z) && ((1 == y.m.r2.x) && ((0 == y.m.r2.y) && ((0 == y.m.r2.z) && ((1 == y.d) && true)))))))))) || (((0 == y.m.r0.x) && ((0 == y.m.r0.y) && (((-1) == y.m.r0.z) && ((1 == y.m.r1.x) && ((0 == y.m.r1.y) && ((0 == y.m.r1.z) && ((0 == y.m.r2.x) && (((-1) == y.m.r2.y) && ((0 == y.m.r2.z) && ((1 == y.d) && true)))))))))) || (((0 == y.m.r0.x) && ((0 == y.m.r0.y) && ((1 == y.m.r0.z) && (((-1) == y.m.r1.x) && ((0 == y.m.r1.y) && ((0 == y.m.r1.z) && ((0 == y.m.r2.x) && (((-1) == y.m.r2.y) && ((0 == y.m.r2.z) && ((1 == y.d) && true)))))))))) || (((0 == y.m.r0.x) && ((0 == y.m.r0.y) && ((1 == y.m.r0.z) && ((0 == y.m.r1.x) && (((-1) == y.m.r1.y) && ((0 == y.m.r1.z) && ((1 == y.m.r2.x) && ((0 == y.m.r2.y) && ((0 == y.m.r2.z) && ((1 == y.d) && true)))))))))) || (((0 == y.m.r0.x) && ((0 == y.m.r0.y) && ((1 == y.m.r0.z) && ((0 == y.m.r1.x) && ((1 == y.m.r1.y) && ((0 == y.m.r1.z) && (((-1) == y.m.r2.x) && ((0 == y.m.r2.y) && ((0 == y.m.r2.z) && ((1 == y.d) && true)))))))))) || (((0 == y.m.r0.x) && ((0 == y.m.r0.y) && ((1 == y.m.r0.z) && ((1 == y.m.r1.x) && ((0 == y.m.r1.y) && ((0 == y.m.r1.z) && ((0 == y.m.r2.x) && ((1 == y.m.r2.y) && ((0 == y.m.r2.z) && ((1 == y.d) && true)))))))))) || (((0 == y.m.r0.x) && ((1 == y.m.r0.y) && ((0 == y.m.r0.z) && (((-1) == y.m.r1.x) && ((0 == y.m.r1.y) && ((0 == y.m.r1.z) && ((0 == y.m.r2.x) && ((0 == y.m.r2.y) && ((1 == y.m.r2.z) && ((1 == y.d) && true)))))))))) || (((0 == y.m.r0.x) && ((1 == y.m.r0.y) && ((0 == y.m.r0.z) && ((0 == y.m.r1.x) && ((0 == y.m.r1.y) && (((-1) == y.m.r1.z) && (((-1) == y.m.r2.x) && ((0 == y.m.r2.y) && ((0 == y.m.r2.z) && ((1 == y.d) && true)))))))))) || (((0 == y.m.r0.x) && ((1 == y.m.r0.y) && ((0 == y.m.r0.z) && ((0 == y.m.r1.x) && ((0 == y.m.r1.y) && ((1 == y.m.r1.z) && ((1 == y.m.r2.x) && ((0 == y.m.r2.y) && ((0 == y.m.r2.z) && ((1 == y.d) && true)))))))))) || (((0 == y.m.r0.x) && ((1 == y.m.r0.y) && ((0 == y.m.r0.z) && ((1 == y.m.r1.x) && ((0 == y.m.r1.y) && ((0 == y.m.r1.z) && ((0 == y.m.r2.x) && ((0 == y.m.r2.y) && (((-1) == y.m.r2.z) && ((1 == y.d) && true)))))))))) || (((1 == y.m.r0.x) && ((0 == y.m.r0.y) && ((0 == y.m.r0.z) && ((0 == y.m.r1.x) && (((-1) == y.m.r1.y) && ((0 == y.m.r1.z) && ((0 == y.m.r2.x) && ((0 == y.m.r2.y) && (((-1) == y.m.r2.z) && ((1 == y.d) && true)))))))))) || (((1 == y.m.r0.x) && ((0 == y.m.r0.y) && ((0 == y.m.r0.z) && ((0 == y.m.r1.x) && ((0 == y.m.r1.y) && (((-1) == y.m.r1.z) && ((0 == y.m.r2.x) && ((1 == y.m.r2.y) && ((0 == y.m.r2.z) && ((1 == y.d) && true)))))))))) || (((1 == y.m.r0.x) && ((0 == y.m.r0.y) && ((0 == y.m.r0.z) && ((0 == y.m.r1.x) && ((0 == y.m.r1.y) && ((1 == y.m.r1.z) && ((0 == y.m.r2.x) && (((-1) == y.m.r2.y) && ((0 == y.m.r2.z) && ((1 == y.d) && true)))))))))) || ((1 == y.m.r0.x) && ((0 == y.m.r0.y) && ((0 == y.m.r0.z) && ((0 == y.m.r1.x) && ((1 == y.m.r1.y) && ((0 == y.m.r1.z) && ((0 == y.m.r2.x) && ((0 == y.m.r2.y) && ((1 == y.m.r2.z) && ((1 == y.d) && true)))))))))))))))))))))))))))))))))
noncomputable def tb24 : List (Nat × Sum) := []
theorem tbo24 : TblOk Tryd.prog G tb24 := trivial
noncomputable def S24 : Sum := sum2 cA24 cT (fun x y => .ret (b (p24 x y), []))
theorem r24 (x : Unit) (y : Trn)  : (runFn (En tb24) pf24 [cA24.enc x, cT.enc y] []).run = (sel (((-1) == y.m.r0.x) && ((0 == y.m.r0.y) && ((0 == y.m.r0.z) && ((0 == y.m.r1.x) && (((-1) == y.m.r1.y) && ((0 == y.m.r1.z) && ((0 == y.m.r2.x) && ((0 == y.m.r2.y) && ((1 == y.m.r2.z) && ((1 == y.d) && true))))))))))
 (some ((b true), []))
 (sel (((-1) == y.m.r0.x) && ((0 == y.m.r0.y) && ((0 == y.m.r0.z) && ((0 == y.m.r1.x) && ((0 == y.m.r1.y) && (((-1) == y.m.r1.z) && ((0 == y.m.r2.x) && (((-1) == y.m.r2.y) && ((0 == y.m.r2.z) && ((1 == y.d) && true))))))))))
  (some ((b true), []))
  (sel (((-1) == y.m.r0.x) && ((0 == y.m.r0.y) && ((0 == y.m.r0.z) && ((0 == y.m.r1.x) && ((0 == y.m.r1.y) && ((1 == y.m.r1.z) && ((0 == y.m.r2.x) && ((1 == y.m.r2.y) && ((0 == y.m.r2.z) && ((1 == y.d) && true))))))))))
   (some ((b true), []))
   (sel (((-1) == y.m.r0.x) && ((0 == y.m.r0.y) && ((0 == y.m.r0.z) && ((0 == y.m.r1.x) && ((1 == y.m.r1.y) && ((0 == y.m.r1.z) && ((0 == y.m.r2.x) && ((0 == y.m.r2.y) && (((-1) == y.m.r2.z) && ((1 == y.d) && true))))))))))
    (some ((b true), []))
    (sel ((0 == y.m.r0.x) && (((-1) == y.m.r0.y) && ((0 == y.m.r0.z) && (((-1) == y.m.r1.x) && ((0 == y.m.r1.y) && ((0 == y.m.r1.z) && ((0 == y.m.r2.x) && ((0 == y.m.r2.y) && (((-1) == y.m.r2.z) && ((1 == y.d) && true))))))))))
     (some ((b true), []))
     (sel ((0 == y.m.r0.x) && (((-1) == y.m.r0.y) && ((0 == y.m.r0.z) && ((0 == y.m.r1.x) && ((0 == y.m.r1.y) && (((-1) == y.m.r1.z) && ((1 == y.m.r2.x) && ((0 == y.m.r2.y) && ((0 == y.m.r2.z) && ((1 == y.d) && true))))))))))
      (some ((b true), []))
      (sel ((0 == y.m.r0.x) && (((-1) == y.m.r0.y) && ((0 == y.m.r0.z) && ((0 == y.m.r1.x) && ((0 == y.m.r1.y) && ((1 == y.m.r1.z) && (((-1) == y.m.r2.x) && ((0 == y.m.r2.y) && ((0 == y.m.r2.z) && ((1 == y.d) && true))))))))))
       (some ((b true), []))
       (sel ((0 == y.m.r0.x) && (((-1) == y.m.r0.y) && ((0 == y.m.r0.z) && ((1 == y.m.r1.x) && ((0 == y.m.r1.y) && ((0 == y.m.r1.z) && ((0 == y.m.r2.x) && ((0 == y.m.r2.y) && ((1 == y.m.r2.z) && ((1 == y.d) && true))))))))))
        (some ((b true), []))
        (sel ((0 == y.m.r0.x) && ((0 == y.m.r0.y) && (((-1) == y.m.r0.z) && (((-1) == y.m.r1.x) && ((0 == y.m.r1.y) && ((0 == y.m.r1.z) && ((0 == y.m.r2.x) && ((1 == y.m.r2.y) && ((0 == y.m.r2.z) && ((1 == y.d) && true))))))))))
         (some ((b true), []))
         (sel ((0 == y.m.r0.x) && ((0 == y.m.r0.y) && (((-1) == y.m.r0.z) && ((0 == y.m.r1.x) && (((-1) == y.m.r1.y) && ((0 == y.m.r1.z) && (((-1) == y.m.r2.x) && ((0 == y.m.r2.y) && ((0 == y.m.r2.z) && ((1 == y.d) && true))))))))))
          (some ((b true), []))
          (sel ((0 == y.m.r0.x) && ((0 == y.m.r0.y) && (((-1) == y.m.r0.z) && ((0 == y.m.r1.x) && ((1 == y.m.r1.y) && ((0 == y.m.r1.z) && ((1 == y.m.r2.x) && ((0 == y.m.r2.y) && ((0 == y.m.r2.z) && ((1 == y.d) && true))))))))))
           (some ((b true), []))
           (sel ((0 == y.m.r0.x) && ((0 == y.m.r0.y) && (((-1) == y.m.r0.z) && ((1 == y.m.r1.x) && ((0 == y.m.r1.y) && ((0 == y.m.r1.z) && ((0 == y.m.r2.x) && (((-1) == y.m.r2.y) && ((0 == y.m.r2.z) && ((1 == y.d) && true))))))))))
            (some ((b true), []))
            (sel ((0 == y.m.r0.x) && ((0 == y.m.r0.y) && ((1 == y.m.r0.z) && (((-1) == y.m.r1.x) && ((0 == y.m.r1.y) && ((0 == y.m.r1.z) && ((0 == y.m.r2.x) && (((-1) == y.m.r2.y) && ((0 == y.m.r2.z) && ((1 == y.d) && true))))))))))
             (some ((b true), []))
             (sel ((0 == y.m.r0.x) && ((0 == y.m.r0.y) && ((1 == y.m.r0.z) && ((0 == y.m.r1.x) && (((-1) == y.m.r1.y) && ((0 == y.m.r1.z) && ((1 == y.m.r2.x) && ((0 == y.m.r2.y) && ((0 == y.m.r2.z) && ((1 == y.d) && true))))))))))
              (some ((b true), []))
              (sel ((0 == y.m.r0.x) && ((0 == y.m.r0.y) && ((1 == y.m.r0.z) && ((0 == y.m.r1.x) && ((1 == y.m.r1.y) && ((0 == y.m.r1.z) && (((-1) == y.m.r2.x) && ((0 == y.m.r2.y) && ((0 == y.m.r2.z) && ((1 == y.d) && true))))))))))
               (some ((b true), []))
               (sel ((0 == y.m.r0.x) && ((0 == y.m.r0.y) && ((1 == y.m.r0.z) && ((1 == y.m.r1.x) && ((0 == y.m.r1.y) && ((0 == y.m.r1.z) && ((0 == y.m.r2.x) && ((1 == y.m.r2.y) && ((0 == y.m.r2.z) && ((1 == y.d) && true))))))))))
                (some ((b true), []))
                (sel ((0 == y.m.r0.x) && ((1 == y.m.r0.y) && ((0 == y.m.r0.z) && (((-1) == y.m.r1.x) && ((0 == y.m.r1.y) && ((0 == y.m.r1.z) && ((0 == y.m.r2.x) && ((0 == y.m.r2.y) && ((1 == y.m.r2.z) && ((1 == y.d) && true))))))))))
                 (some ((b true), []))
                 (sel ((0 == y.m.r0.x) && ((1 == y.m.r0.y) && ((0 == y.m.r0.z) && ((0 == y.m.r1.x) && ((0 == y.m.r1.y) && (((-1) == y.m.r1.z) && (((-1) == y.m.r2.x) && ((0 == y.m.r2.y) && ((0 == y.m.r2.z) && ((1 == y.d) && true))))))))))
                  (some ((b true), []))
                  (sel ((0 == y.m.r0.x) && ((1 == y.m.r0.y) && ((0 == y.m.r0.z) && ((0 == y.m.r1.x) && ((0 == y.m.r1.y) && ((1 == y.m.r1.z) && ((1 == y.m.r2.x) && ((0 == y.m.r2.y) && ((0 == y.m.r2.z) && ((1 == y.d) && true))))))))))
                   (some ((b true), []))
                   (sel ((0 == y.m.r0.x) && ((1 == y.m.r0.y) && ((0 == y.m.r0.z) && ((1 == y.m.r1.x) && ((0 == y.m.r1.y) && ((0 == y.m.r1.z) && ((0 == y.m.r2.x) && ((0 == y.m.r2.y) && (((-1) == y.m.r2.z) && ((1 == y.d) && true))))))))))
                    (some ((b true), []))
                    (sel ((1 == y.m.r0.x) && ((0 == y.m.r0.y) && ((0 == y.m.r0.z) && ((0 == y.m.r1.x) && (((-1) == y.m.r1.y) && ((0 == y.m.r1.z) && ((0 == y.m.r2.x) && ((0 == y.m.r2.y) && (((-1) == y.m.r2.z) && ((1 == y.d) && true))))))))))
                     (some ((b true), []))
                     (sel ((1 == y.m.r0.x) && ((0 == y.m.r0.y) && ((0 == y.m.r0.z) && ((0 == y.m.r1.x) && ((0 == y.m.r1.y) && (((-1) == y.m.r1.z) && ((0 == y.m.r2.x) && ((1 == y.m.r2.y) && ((0 == y.m.r2.z) && ((1 == y.d) && true))))))))))
                      (some ((b true), []))
                      (sel ((1 == y.m.r0.x) && ((0 == y.m.r0.y) && ((0 == y.m.r0.z) && ((0 == y.m.r1.x) && ((0 == y.m.r1.y) && ((1 == y.m.r1.z) && ((0 == y.m.r2.x) && (((-1) == y.m.r2.y) && ((0 == y.m.r2.z) && ((1 == y.d) && true))))))))))
                       (some ((b true), []))
                       (sel ((1 == y.m.r0.x) && ((0 == y.m.r0.y) && ((0 == y.m.r0.z) && ((0 == y.m.r1.x) && ((1 == y.m.r1.y) && ((0 == y.m.r1.z) && ((0 == y.m.r2.x) && ((0 == y.m.r2.y) && ((1 == y.m.r2.z) && ((1 == y.d) && true))))))))))
                        (some ((b true), []))
                        (some ((b false), [])))))))))))))))))))))))))) := by kernel_rfl
theorem m24 (c1 c2 c3 c4 c5 c6 c7 c8 c9 c10 c11 c12 c13 c14 c15 c16 c17 c18 c19 c20 c21 c22 c23 c24 : Bool) (x : Unit) (y : Trn)  : ((sel c1
 (some ((b true), []))
 (sel c2
  (some ((b true), []))
  (sel c3
   (some ((b true), []))
   (sel c4
    (some ((b true), []))
    (sel c5
     (some ((b true), []))
     (sel c6
      (some ((b true), []))
      (sel c7
       (some ((b true), []))
       (sel c8
        (some ((b true), []))
        (sel c9
         (some ((b true), []))
         (sel c10
          (some ((b true), []))
          (sel c11
           (some ((b true), []))
           (sel c12
            (some ((b true), []))
            (sel c13
             (some ((b true), []))
             (sel c14
              (some ((b true), []))
              (sel c15
               (some ((b true), []))
               (sel c16
                (some ((b true), []))
                (sel c17
                 (some ((b true), []))
                 (sel c18
                  (some ((b true), []))
                  (sel c19
                   (some ((b true), []))
                   (sel c20
                    (some ((b true), []))
                    (sel c21
                     (some ((b true), []))
                     (sel c22
                      (some ((b true), []))
                      (sel c23
                       (some ((b true), []))
                       (sel c24
                        (some ((b true), []))
                        (some ((b false), [])))))))))))))))))))))))))) : Option (AVal × List ABlk)) = (some ((b (c1 || (c2 || (c3 || (c4 || (c5 || (c6 || (c7 || (c8 || (c9 || (c10 || (c11 || (c12 || (c13 || (c14 || (c15 || (c16 || (c17 || (c18 || (c19 || (c20 || (c21 || (c22 || (c23 || c24)))))))))))))))))))))))), [])) := by
 cases c1
 ·
  cases c2
  ·
   cases c3
   ·
    cases c4
    ·
     cases c5
     ·
      cases c6
      ·
       cases c7
       ·
        cases c8
        ·
         cases c9
         ·
          cases c10
          ·
           cases c11
           ·
            cases c12
            ·
             cases c13
             ·
              cases c14
              ·
               cases c15
               ·
                cases c16
                ·
                 cases c17
                 ·
                  cases c18
                  ·
                   cases c19
                   ·
                    cases c20
                    ·
                     cases c21
                     ·
                      cases c22
                      ·
                       cases c23
                       ·
                        cases c24
                        ·
                         rfl
                        ·
                         rfl
                       ·
                        rfl
                      ·
                       rfl
                     ·
                      rfl
                    ·
                     rfl
                   ·
                    rfl
                  ·
                   rfl
                 ·
                  rfl
                ·
                 rfl
               ·
                rfl
              ·
               rfl
             ·
              rfl
            ·
             rfl
           ·
            rfl
          ·
           rfl
         ·
          rfl
        ·
         rfl
       ·
        rfl
      ·
       rfl
     ·
      rfl
    ·
     rfl
   ·
    rfl
  ·
   rfl
 ·
  rfl
theorem k24 (x : Unit) (y : Trn)  : (.ret (b (p24 x y), []) : DT (AVal × List ABlk)).run = (some ((b ((((-1) == y.m.r0.x) && ((0 == y.m.r0.y) && ((0 == y.m.r0.z) && ((0 == y.m.r1.x) && (((-1) == y.m.r1.y) && ((0 == y.m.r1.z) && ((0 == y.m.r2.x) && ((0 == y.m.r2.y) && ((1 == y.m.r2.z) && ((1 == y.d) && true)))))))))) || ((((-1) == y.m.r0.x) && ((0 == y.m.r0.y) && ((0 == y.m.r0.z) && ((0 == y.m.r1.x) && ((0 == y.m.r1.y) && (((-1) == y.m.r1.z) && ((0 == y.m.r2.x) && (((-1) == y.m.r2.y) && ((0 == y.m.r2.z) && ((1 == y.d) && true)))))))))) || ((((-1) == y.m.r0.x) && ((0 == y.m.r0.y) && ((0 == y.m.r0.z) && ((0 == y.m.r1.x) && ((0 == y.m.r1.y) && ((1 == y.m.r1.z) && ((0 == y.m.r2.x) && ((1 == y.m.r2.y) && ((0 == y.m.r2.z) && ((1 == y.d) && true)))))))))) || ((((-1) == y.m.r0.x) && ((0 == y.m.r0.y) && ((0 == y.m.r0.z) && ((0 == y.m.r1.x) && ((1 == y.m.r1.y) && ((0 == y.m.r1.z) && ((0 == y.m.r2.x) && ((0 == y.m.r2.y) && (((-1) == y.m.r2.z) && ((1 == y.d) && true)))))))))) || (((0 == y.m.r0.x) && (((-1) == y.m.r0.y) && ((0 == y.m.r0.z) && (((-1) == y.m.r1.x) && ((0 == y.m.r1.y) && ((0 == y.m.r1.z) && ((0 == y.m.r2.x) && ((0 == y.m.r2.y) && (((-1) == y.m.r2.z) && ((1 == y.d) && true)))))))))) || (((0 == y.m.r0.x) && (((-1) == y.m.r0.y) && ((0 == y.m.r0.z) && ((0 == y.m.r1.x) && ((0 == y.m.r1.y) && (((-1) == y.m.r1.z) && ((1 == y.m.r2.x) && ((0 == y.m.r2.y) && ((0 == y.m.r2.z) && ((1 == y.d) && true)))))))))) || (((0 == y.m.r0.x) && (((-1) == y.m.r0.y) && ((0 == y.m.r0.z) && ((0 == y.m.r1.x) && ((0 == y.m.r1.y) && ((1 == y.m.r1.z) && (((-1) == y.m.r2.x) && ((0 == y.m.r2.y) && ((0 == y.m.r2.z) && ((1 == y.d) && true)))))))))) || (((0 == y.m.r0.x) && (((-1) == y.m.r0.y) && ((0 == y.m.r0.z) && ((1 == y.m.r1.x) && ((0 == y.m.r1.y) && ((0 == y.m.r1.z) && ((0 == y.m.r2.x) && ((0 == y.m.r2.y) && ((1 == y.m.r2.z) && ((1 == y.d) && true)))))))))) || (((0 == y.m.r0.x) && ((0 == y.m.r0.y) && (((-1) == y.m.r0.z) && (((-1) == y.m.r1.x) && ((0 == y.m.r1.y) && ((0 == y.m.r1.z) && ((0 == y.m.r2.x) && ((1 == y.m.r2.y) && ((0 == y.m.r2.z) && ((1 == y.d) && true)))))))))) || (((0 == y.m.r0.x) && ((0 == y.m.r0.y) && (((-1) == y.m.r0.z) && ((0 == y.m.r1.x) && (((-1) == y.m.r1.y) && ((0 == y.m.r1.z) && (((-1) == y.m.r2.x) && ((0 == y.m.r2.y) && ((0 == y.m.r2.z) && ((1 == y.d) && true)))))))))) || (((0 == y.m.r0.x) && ((0 == y.m.r0.y) && (((-1) == y.m.r0.z) && ((0 == y.m.r1.x) && ((1 == y.m.r1.y) && ((0 == y.m.r1.z) && ((1 == y.m.r2.x) && ((0 == y.m.r2.y) && ((0 == y.m.r2.z) && ((1 == y.d) && true)))))))))) || (((0 == y.m.r0.x) && ((0 == y.m.r0.y) && (((-1) == y.m.r0.z) && ((1 == y.m.r1.x) && ((0 == y.m.r1.y) && ((0 == y.m.r1.z) && ((0 == y.m.r2.x) && (((-1) == y.m.r2.y) && ((0 == y.m.r2.z) && ((1 == y.d) && true)))))))))) || (((0 == y.m.r0.x) && ((0 == y.m.r0.y) && ((1 == y.m.r0.z) && (((-1) == y.m.r1.x) && ((0 == y.m.r1.y) && ((0 == y.m.r1.z) && ((0 == y.m.r2.x) && (((-1) == y.m.r2.y) && ((0 == y.m.r2.z) && ((1 == y.d) && true)))))))))) || (((0 == y.m.r0.x) && ((0 == y.m.r0.y) && ((1 == y.m.r0.z) && ((0 == y.m.r1.x) && (((-1) == y.m.r1.y) && ((0 == y.m.r1.z) && ((1 == y.m.r2.x) && ((0 == y.m.r2.y) && ((0 == y.m.r2.z) && ((1 == y.d) && true)))))))))) || (((0 == y.m.r0.x) && ((0 == y.m.r0.y) && ((1 == y.m.r0.z) && ((0 == y.m.r1.x) && ((1 == y.m.r1.y) && ((0 == y.m.r1.z) && (((-1) == y.m.r2.x) && ((0 == y.m.r2.y) && ((0 == y.m.r2.z) && ((1 == y.d) && true)))))))))) || (((0 == y.m.r0.x) && ((0 == y.m.r0.y) && ((1 == y.m.r0.z) && ((1 == y.m.r1.x) && ((0 == y.m.r1.y) && ((0 == y.m.r1.z) && ((0 == y.m.r2.x) && ((1 == y.m.r2.y) && ((0 == y.m.r2.z) && ((1 == y.d) && true)))))))))) || (((0 == y.m.r0.x) && ((1 == y.m.r0.y) && ((0 == y.m.r0.z) && (((-1) == y.m.r1.x) && ((0 == y.m.r1.y) && ((0 == y.m.r1.z) && ((0 == y.m.r2.x) && ((0 == y.m.r2.y) && ((1 == y.m.r2.z) && ((1 == y.d) && true)))))))))) || (((0 == y.m.r0.x) && ((1 == y.m.r0.y) && ((0 == y.m.r0.z) && ((0 == y.m.r1.x) && ((0 == y.m.r1.y) && (((-1) == y.m.r1.z) && (((-1) == y.m.r2.x) && ((0 == y.m.r2.y) && ((0 == y.m.r2.z) && ((1 == y.d) && true)))))))))) || (((0 == y.m.r0.x) && ((1 == y.m.r0.y) && ((0 == y.m.r0.z) && ((0 == y.m.r1.x) && ((0 == y.m.r1.y) && ((1 == y.m.r1.z) && ((1 == y.m.r2.x) && ((0 == y.m.r2.y) && ((0 == y.m.r2.z) && ((1 == y.d) && true)))))))))) || (((0 == y.m.r0.x) && ((1 == y.m.r0.y) && ((0 == y.m.r0.z) && ((1 == y.m.r1.x) && ((0 == y.m.r1.y) && ((0 == y.m.r1.z) && ((0 == y.m.r2.x) && ((0 == y.m.r2.y) && (((-1) == y.m.r2.z) && ((1 == y.d) && true)))))))))) || (((1 == y.m.r0.x) && ((0 == y.m.r0.y) && ((0 == y.m.r0.z) && ((0 == y.m.r1.x) && (((-1) == y.m.r1.y) && ((0 == y.m.r1.z) && ((0 == y.m.r2.x) && ((0 == y.m.r2.y) && (((-1) == y.m.r2.z) && ((1 == y.d) && true)))))))))) || (((1 == y.m.r0.x) && ((0 == y.m.r0.y) && ((0 == y.m.r0.z) && ((0 == y.m.r1.x) && ((0 == y.m.r1.y) && (((-1) == y.m.r1.z) && ((0 == y.m.r2.x) && ((1 == y.m.r2.y) && ((0 == y.m.r2.z) && ((1 == y.d) && true)))))))))) || (((1 == y.m.r0.x) && ((0 == y.m.r0.y) && ((0 == y.m.r0.z) && ((0 == y.m.r1.x) && ((0 == y.m.r1.y) && ((1 == y.m.r1.z) && ((0 == y.m.r2.x) && (((-1) == y.m.r2.y) && ((0 == y.m.r2.z) && ((1 == y.d) && true)))))))))) || ((1 == y.m.r0.x) && ((0 == y.m.r0.y) && ((0 == y.m.r0.z) && ((0 == y.m.r1.x) && ((1 == y.m.r1.y) && ((0 == y.m.r1.z) && ((0 == y.m.r2.x) && ((0 == y.m.r2.y) && ((1 == y.m.r2.z) && ((1 == y.d) && true)))))))))))))))))))))))))))))))))), [])) := by kernel_rfl
theorem ok24 : FnOk Tryd.prog G 24 S24 := sum2_ok (b24 (E := En tb24) rfl (tdeps tbo24)) fun x y r h => ((r24 x y ).trans (m24 _ _ _ _ _ _ _ _ _ _ _ _ _ _ _ _ _ _ _ _ _ _ _ _ x y )).trans ((k24 x y ).symm.trans h)
noncomputable def p6 (x : U2) : Bool := let t1 := (p20 (⟨(⟨(⟨(⟨(toI (hdA (dropN (getRow tab14_0 (0 + (Int.tmod (W x.a) 24).toNat)) 0))), (toI (hdA (tlA (dropN (getRow tab14_0 (0 + (Int.tmod (W x.a) 24).toNat)) 0)))), (toI (hdA (tlA (tlA (dropN (getRow tab14_0 (0 + (Int.tmod (W x.a) 24).toNat)) 0)))))⟩ : V3), (⟨(toI (hdA (tlA (tlA (tlA (dropN (getRow tab14_0 (0 + (Int.tmod (W x.a) 24).toNat)) 0)))))), (toI (hdA (tlA (tlA (tlA (tlA (dropN (getRow tab14_0 (0 + (Int.tmod (W x.a) 24).toNat)) 0))))))), (toI (hdA (tlA (tlA (tlA (tlA (tlA (dropN (getRow tab14_0 (0 + (Int.tmod (W x.a) 24).toNat)) 0))))))))⟩ : V3), (⟨(toI (hdA (tlA (tlA (tlA (tlA (tlA (tlA (dropN (getRow tab14_0 (0 + (Int.tmod (W x.a) 24).toNat)) 0))))))))), (toI (hdA (tlA (tlA (tlA (tlA (tlA (tlA (tlA (dropN (getRow tab14_0 (0 + (Int.tmod (W x.a) 24).toNat)) 0)))))))))), (toI (hdA (tlA (tlA (tlA (tlA (tlA (tlA (tlA (tlA (dropN (getRow tab14_0 (0 + (Int.tmod (W x.a) 24).toNat)) 0)))))))))))⟩ : V3)⟩ : M3), (toI (hdA (tlA (tlA (tlA (tlA (tlA (tlA (tlA (tlA (tlA (dropN (getRow tab14_0 (0 + (Int.tmod (W x.a) 24).toNat)) 0))))))))))))⟩ : Trn), (⟨0, 0, 0⟩ : V3)⟩ : Frm) (⟨(⟨(⟨(⟨(toI (hdA (dropN (getRow tab14_0 (0 + (Int.tmod (W x.b) 24).toNat)) 0))), (toI (hdA (tlA (dropN (getRow tab14_0 (0 + (Int.tmod (W x.b) 24).toNat)) 0)))), (toI (hdA (tlA (tlA (dropN (getRow tab14_0 (0 + (Int.tmod (W x.b) 24).toNat)) 0)))))⟩ : V3), (⟨(toI (hdA (tlA (tlA (tlA (dropN (getRow tab14_0 (0 + (Int.tmod (W x.b) 24).toNat)) 0)))))), (toI (hdA (tlA (tlA (tlA (tlA (dropN (getRow tab14_0 (0 + (Int.tmod (W x.b) 24).toNat)) 0))))))), (toI (hdA (tlA (tlA (tlA (tlA (tlA (dropN (getRow tab14_0 (0 + (Int.tmod (W x.b) 24).toNat)) 0))))))))⟩ : V3), (⟨(toI (hdA (tlA (tlA (tlA (tlA (tlA (tlA (dropN (getRow tab14_0 (0 + (Int.tmod (W x.b) 24).toNat)) 0))))))))), (toI (hdA (tlA (tlA (tlA (tlA (tlA (tlA (tlA (dropN (getRow tab14_0 (0 + (Int.tmod (W x.b) 24).toNat)) 0)))))))))), (toI (hdA (tlA (tlA (tlA (tlA (tlA (tlA (tlA (tlA (dropN (getRow tab14_0 (0 + (Int.tmod (W x.b) 24).toNat)) 0)))))))))))⟩ : V3)⟩ : M3), (toI (hdA (tlA (tlA (tlA (tlA (tlA (tlA (tlA (tlA (tlA (dropN (getRow tab14_0 (0 + (Int.tmod (W x.b) 24).toNat)) 0))))))))))))⟩ : Trn), (⟨0, 0, 0⟩ : V3)⟩ : Frm)); let t2 := (p18 t1.1); let t3 := (p18 (⟨(⟨(⟨(⟨(toI (hdA (dropN (getRow tab14_0 (0 + (Int.tmod (W x.a) 24).toNat)) 0))), (toI (hdA (tlA (dropN (getRow tab14_0 (0 + (Int.tmod (W x.a) 24).toNat)) 0)))), (toI (hdA (tlA (tlA (dropN (getRow tab14_0 (0 + (Int.tmod (W x.a) 24).toNat)) 0)))))⟩ : V3), (⟨(toI (hdA (tlA (tlA (tlA (dropN (getRow tab14_0 (0 + (Int.tmod (W x.a) 24).toNat)) 0)))))), (toI (hdA (tlA (tlA (tlA (tlA (dropN (getRow tab14_0 (0 + (Int.tmod (W x.a) 24).toNat)) 0))))))), (toI (hdA (tlA (tlA (tlA (tlA (tlA (dropN (getRow tab14_0 (0 + (Int.tmod (W x.a) 24).toNat)) 0))))))))⟩ : V3), (⟨(toI (hdA (tlA (tlA (tlA (tlA (tlA (tlA (dropN (getRow tab14_0 (0 + (Int.tmod (W x.a) 24).toNat)) 0))))))))), (toI (hdA (tlA (tlA (tlA (tlA (tlA (tlA (tlA (dropN (getRow tab14_0 (0 + (Int.tmod (W x.a) 24).toNat)) 0)))))))))), (toI (hdA (tlA (tlA (tlA (tlA (tlA (tlA (tlA (tlA (dropN (getRow tab14_0 (0 + (Int.tmod (W x.a) 24).toNat)) 0)))))))))))⟩ : V3)⟩ : M3), (toI (hdA (tlA (tlA (tlA (tlA (tlA (tlA (tlA (tlA (tlA (dropN (getRow tab14_0 (0 + (Int.tmod (W x.a) 24).toNat)) 0))))))))))))⟩ : Trn), (⟨0, 0, 0⟩ : V3)⟩ : Frm)); let t4 := (p18 (⟨(⟨(⟨(⟨(toI (hdA (dropN (getRow tab14_0 (0 + (Int.tmod (W x.b) 24).toNat)) 0))), (toI (hdA (tlA (dropN (getRow tab14_0 (0 + (Int.tmod (W x.b) 24).toNat)) 0)))), (toI (hdA (tlA (tlA (dropN (getRow tab14_0 (0 + (Int.tmod (W x.b) 24).toNat)) 0)))))⟩ : V3), (⟨(toI (hdA (tlA (tlA (tlA (dropN (getRow tab14_0 (0 + (Int.tmod (W x.b) 24).toNat)) 0)))))), (toI (hdA (tlA (tlA (tlA (tlA (dropN (getRow tab14_0 (0 + (Int.tmod (W x.b) 24).toNat)) 0))))))), (toI (hdA (tlA (tlA (tlA (tlA (tlA (dropN (getRow tab14_0 (0 + (Int.tmod (W x.b) 24).toNat)) 0))))))))⟩ : V3), (⟨(toI (hdA (tlA (tlA (tlA (tlA (tlA (tlA (dropN (getRow tab14_0 (0 + (Int.tmod (W x.b) 24).toNat)) 0))))))))), (toI (hdA (tlA (tlA (tlA (tlA (tlA (tlA (tlA (dropN (getRow tab14_0 (0 + (Int.tmod (W x.b) 24).toNat)) 0)))))))))), (toI (hdA (tlA (tlA (tlA (tlA (tlA (tlA (tlA (tlA (dropN (getRow tab14_0 (0 + (Int.tmod (W x.b) 24).toNat)) 0)))))))))))⟩ : V3)⟩ : M3), (toI (hdA (tlA (tlA (tlA (tlA (tlA (tlA (tlA (tlA (tlA (dropN (getRow tab14_0 (0 + (Int.tmod (W x.b) 24).toNat)) 0))))))))))))⟩ : Trn), (⟨0, 0, 0⟩ : V3)⟩ : Frm)); let t5 := (p20 t4.1 t3.1); let t6 := (p24 () t1.1.t); let t7 := (p24 () t2.1.t); (t1.2 && (t2.2 && (t3.2 && (t4.2 && (t5.2 && (((t2.1.t.m.r0.x == t5.1.t.m.r0.x) && ((t2.1.t.m.r0.y == t5.1.t.m.r0.y) && ((t2.1.t.m.r0.z == t5.1.t.m.r0.z) && ((t2.1.t.m.r1.x == t5.1.t.m.r1.x) && ((t2.1.t.m.r1.y == t5.1.t.m.r1.y) && ((t2.1.t.m.r1.z == t5.1.t.m.r1.z) && ((t2.1.t.m.r2.x == t5.1.t.m.r2.x) && ((t2.1.t.m.r2.y == t5.1.t.m.r2.y) && ((t2.1.t.m.r2.z == t5.1.t.m.r2.z) && ((t2.1.t.d == t5.1.t.d) && ((t2.1.s.x == t5.1.s.x) && ((t2.1.s.y == t5.1.s.y) && ((t2.1.s.z == t5.1.s.z) && true))))))))))))) && (t6 && (t7 && ((t1.1.s.x == 0) && ((t1.1.s.y == 0) && ((t1.1.s.z == 0) && true)))))))))))
noncomputable def g6 (x : U2) : Bool := let t1 := (p20 (⟨(⟨(⟨(⟨(toI (hdA (dropN (getRow tab14_0 (0 + (Int.tmod (W x.a) 24).toNat)) 0))), (toI (hdA (tlA (dropN (getRow tab14_0 (0 + (Int.tmod (W x.a) 24).toNat)) 0)))), (toI (hdA (tlA (tlA (dropN (getRow tab14_0 (0 + (Int.tmod (W x.a) 24).toNat)) 0)))))⟩ : V3), (⟨(toI (hdA (tlA (tlA (tlA (dropN (getRow tab14_0 (0 + (Int.tmod (W x.a) 24).toNat)) 0)))))), (toI (hdA (tlA (tlA (tlA (tlA (dropN (getRow tab14_0 (0 + (Int.tmod (W x.a) 24).toNat)) 0))))))), (toI (hdA (tlA (tlA (tlA (tlA (tlA (dropN (getRow tab14_0 (0 + (Int.tmod (W x.a) 24).toNat)) 0))))))))⟩ : V3), (⟨(toI (hdA (tlA (tlA (tlA (tlA (tlA (tlA (dropN (getRow tab14_0 (0 + (Int.tmod (W x.a) 24).toNat)) 0))))))))), (toI (hdA (tlA (tlA (tlA (tlA (tlA (tlA (tlA (dropN (getRow tab14_0 (0 + (Int.tmod (W x.a) 24).toNat)) 0)))))))))), (toI (hdA (tlA (tlA (tlA (tlA (tlA (tlA (tlA (tlA (dropN (getRow tab14_0 (0 + (Int.tmod (W x.a) 24).toNat)) 0)))))))))))⟩ : V3)⟩ : M3), (toI (hdA (tlA (tlA (tlA (tlA (tlA (tlA (tlA (tlA (tlA (dropN (getRow tab14_0 (0 + (Int.tmod (W x.a) 24).toNat)) 0))))))))))))⟩ : Trn), (⟨0, 0, 0⟩ : V3)⟩ : Frm) (⟨(⟨(⟨(⟨(toI (hdA (dropN (getRow tab14_0 (0 + (Int.tmod (W x.b) 24).toNat)) 0))), (toI (hdA (tlA (dropN (getRow tab14_0 (0 + (Int.tmod (W x.b) 24).toNat)) 0)))), (toI (hdA (tlA (tlA (dropN (getRow tab14_0 (0 + (Int.tmod (W x.b) 24).toNat)) 0)))))⟩ : V3), (⟨(toI (hdA (tlA (tlA (tlA (dropN (getRow tab14_0 (0 + (Int.tmod (W x.b) 24).toNat)) 0)))))), (toI (hdA (tlA (tlA (tlA (tlA (dropN (getRow tab14_0 (0 + (Int.tmod (W x.b) 24).toNat)) 0))))))), (toI (hdA (tlA (tlA (tlA (tlA (tlA (dropN (getRow tab14_0 (0 + (Int.tmod (W x.b) 24).toNat)) 0))))))))⟩ : V3), (⟨(toI (hdA (tlA (tlA (tlA (tlA (tlA (tlA (dropN (getRow tab14_0 (0 + (Int.tmod (W x.b) 24).toNat)) 0))))))))), (toI (hdA (tlA (tlA (tlA (tlA (tlA (tlA (tlA (dropN (getRow tab14_0 (0 + (Int.tmod (W x.b) 24).toNat)) 0)))))))))), (toI (hdA (tlA (tlA (tlA (tlA (tlA (tlA (tlA (tlA (dropN (getRow tab14_0 (0 + (Int.tmod (W x.b) 24).toNat)) 0)))))))))))⟩ : V3)⟩ : M3), (toI (hdA (tlA (tlA (tlA (tlA (tlA (tlA (tlA (tlA (tlA (dropN (getRow tab14_0 (0 + (Int.tmod (W x.b) 24).toNat)) 0))))))))))))⟩ : Trn), (⟨0, 0, 0⟩ : V3)⟩ : Frm)); let t2 := (p18 t1.1); let t3 := (p18 (⟨(⟨(⟨(⟨(toI (hdA (dropN (getRow tab14_0 (0 + (Int.tmod (W x.a) 24).toNat)) 0))), (toI (hdA (tlA (dropN (getRow tab14_0 (0 + (Int.tmod (W x.a) 24).toNat)) 0)))), (toI (hdA (tlA (tlA (dropN (getRow tab14_0 (0 + (Int.tmod (W x.a) 24).toNat)) 0)))))⟩ : V3), (⟨(toI (hdA (tlA (tlA (tlA (dropN (getRow tab14_0 (0 + (Int.tmod (W x.a) 24).toNat)) 0)))))), (toI (hdA (tlA (tlA (tlA (tlA (dropN (getRow tab14_0 (0 + (Int.tmod (W x.a) 24).toNat)) 0))))))), (toI (hdA (tlA (tlA (tlA (tlA (tlA (dropN (getRow tab14_0 (0 + (Int.tmod (W x.a) 24).toNat)) 0))))))))⟩ : V3), (⟨(toI (hdA (tlA (tlA (tlA (tlA (tlA (tlA (dropN (getRow tab14_0 (0 + (Int.tmod (W x.a) 24).toNat)) 0))))))))), (toI (hdA (tlA (tlA (tlA (tlA (tlA (tlA (tlA (dropN (getRow tab14_0 (0 + (Int.tmod (W x.a) 24).toNat)) 0)))))))))), (toI (hdA (tlA (tlA (tlA (tlA (tlA (tlA (tlA (tlA (dropN (getRow tab14_0 (0 + (Int.tmod (W x.a) 24).toNat)) 0)))))))))))⟩ : V3)⟩ : M3), (toI (hdA (tlA (tlA (tlA (tlA (tlA (tlA (tlA (tlA (tlA (dropN (getRow tab14_0 (0 + (Int.tmod (W x.a) 24).toNat)) 0))))))))))))⟩ : Trn), (⟨0, 0, 0⟩ : V3)⟩ : Frm)); let t4 := (p18 (⟨(⟨(⟨(⟨(toI (hdA (dropN (getRow tab14_0 (0 + (Int.tmod (W x.b) 24).toNat)) 0))), (toI (hdA (tlA (dropN (getRow tab14_0 (0 + (Int.tmod (W x.b) 24).toNat)) 0)))), (toI (hdA (tlA (tlA (dropN (getRow tab14_0 (0 + (Int.tmod (W x.b) 24).toNat)) 0)))))⟩ : V3), (⟨(toI (hdA (tlA (tlA (tlA (dropN (getRow tab14_0 (0 + (Int.tmod (W x.b) 24).toNat)) 0)))))), (toI (hdA (tlA (tlA (tlA (tlA (dropN (getRow tab14_0 (0 + (Int.tmod (W x.b) 24).toNat)) 0))))))), (toI (hdA (tlA (tlA (tlA (tlA (tlA (dropN (getRow tab14_0 (0 + (Int.tmod (W x.b) 24).toNat)) 0))))))))⟩ : V3), (⟨(toI (hdA (tlA (tlA (tlA (tlA (tlA (tlA (dropN (getRow tab14_0 (0 + (Int.tmod (W x.b) 24).toNat)) 0))))))))), (toI (hdA (tlA (tlA (tlA (tlA (tlA (tlA (tlA (dropN (getRow tab14_0 (0 + (Int.tmod (W x.b) 24).toNat)) 0)))))))))), (toI (hdA (tlA (tlA (tlA (tlA (tlA (tlA (tlA (tlA (dropN (getRow tab14_0 (0 + (Int.tmod (W x.b) 24).toNat)) 0)))))))))))⟩ : V3)⟩ : M3), (toI (hdA (tlA (tlA (tlA (tlA (tlA (tlA (tlA (tlA (tlA (dropN (getRow tab14_0 (0 + (Int.tmod (W x.b) 24).toNat)) 0))))))))))))⟩ : Trn), (⟨0, 0, 0⟩ : V3)⟩ : Frm)); let t5 := (p20 t4.1 t3.1); let t6 := (p24 () t1.1.t); let t7 := (p24 () t2.1.t); ((inB (Int.tmod (W x.a) 24) 24) && ((((Nat.blt (0 + (Int.tmod (W x.a) 24).toNat) (len tab14_0)) && (Nat.ble (0 + 10) (len (getRow tab14_0 (0 + (Int.tmod (W x.a) 24).toNat))))) && (okCKs [(CK.int .i64), (CK.int .i64), (CK.int .i64), (CK.int .i64), (CK.int .i64), (CK.int .i64), (CK.int .i64), (CK.int .i64), (CK.int .i64), (CK.int .i64)] (dropN (getRow tab14_0 (0 + (Int.tmod (W x.a) 24).toNat)) 0))) && ((inB (Int.tmod (W x.b) 24) 24) && ((((Nat.blt (0 + (Int.tmod (W x.b) 24).toNat) (len tab14_0)) && (Nat.ble (0 + 10) (len (getRow tab14_0 (0 + (Int.tmod (W x.b) 24).toNat))))) && (okCKs [(CK.int .i64), (CK.int .i64), (CK.int .i64), (CK.int .i64), (CK.int .i64), (CK.int .i64), (CK.int .i64), (CK.int .i64), (CK.int .i64), (CK.int .i64)] (dropN (getRow tab14_0 (0 + (Int.tmod (W x.b) 24).toNat)) 0))) && ((g20 (⟨(⟨(⟨(⟨(toI (hdA (dropN (getRow tab14_0 (0 + (Int.tmod (W x.a) 24).toNat)) 0))), (toI (hdA (tlA (dropN (getRow tab14_0 (0 + (Int.tmod (W x.a) 24).toNat)) 0)))), (toI (hdA (tlA (tlA (dropN (getRow tab14_0 (0 + (Int.tmod (W x.a) 24).toNat)) 0)))))⟩ : V3), (⟨(toI (hdA (tlA (tlA (tlA (dropN (getRow tab14_0 (0 + (Int.tmod (W x.a) 24).toNat)) 0)))))), (toI (hdA (tlA (tlA (tlA (tlA (dropN (getRow tab14_0 (0 + (Int.tmod (W x.a) 24).toNat)) 0))))))), (toI (hdA (tlA (tlA (tlA (tlA (tlA (dropN (getRow tab14_0 (0 + (Int.tmod (W x.a) 24).toNat)) 0))))))))⟩ : V3), (⟨(toI (hdA (tlA (tlA (tlA (tlA (tlA (tlA (dropN (getRow tab14_0 (0 + (Int.tmod (W x.a) 24).toNat)) 0))))))))), (toI (hdA (tlA (tlA (tlA (tlA (tlA (tlA (tlA (dropN (getRow tab14_0 (0 + (Int.tmod (W x.a) 24).toNat)) 0)))))))))), (toI (hdA (tlA (tlA (tlA (tlA (tlA (tlA (tlA (tlA (dropN (getRow tab14_0 (0 + (Int.tmod (W x.a) 24).toNat)) 0)))))))))))⟩ : V3)⟩ : M3), (toI (hdA (tlA (tlA (tlA (tlA (tlA (tlA (tlA (tlA (tlA (dropN (getRow tab14_0 (0 + (Int.tmod (W x.a) 24).toNat)) 0))))))))))))⟩ : Trn), (⟨0, 0, 0⟩ : V3)⟩ : Frm) (⟨(⟨(⟨(⟨(toI (hdA (dropN (getRow tab14_0 (0 + (Int.tmod (W x.b) 24).toNat)) 0))), (toI (hdA (tlA (dropN (getRow tab14_0 (0 + (Int.tmod (W x.b) 24).toNat)) 0)))), (toI (hdA (tlA (tlA (dropN (getRow tab14_0 (0 + (Int.tmod (W x.b) 24).toNat)) 0)))))⟩ : V3), (⟨(toI (hdA (tlA (tlA (tlA (dropN (getRow tab14_0 (0 + (Int.tmod (W x.b) 24).toNat)) 0)))))), (toI (hdA (tlA (tlA (tlA (tlA (dropN (getRow tab14_0 (0 + (Int.tmod (W x.b) 24).toNat)) 0))))))), (toI (hdA (tlA (tlA (tlA (tlA (tlA (dropN (getRow tab14_0 (0 + (Int.tmod (W x.b) 24).toNat)) 0))))))))⟩ : V3), (⟨(toI (hdA (tlA (tlA (tlA (tlA (tlA (tlA (dropN (getRow tab14_0 (0 + (Int.tmod (W x.b) 24).toNat)) 0))))))))), (toI (hdA (tlA (tlA (tlA (tlA (tlA (tlA (tlA (dropN (getRow tab14_0 (0 + (Int.tmod (W x.b) 24).toNat)) 0)))))))))), (toI (hdA (tlA (tlA (tlA (tlA (tlA (tlA (tlA (tlA (dropN (getRow tab14_0 (0 + (Int.tmod (W x.b) 24).toNat)) 0)))))))))))⟩ : V3)⟩ : M3), (toI (hdA (tlA (tlA (tlA (tlA (tlA (tlA (tlA (tlA (tlA (dropN (getRow tab14_0 (0 + (Int.tmod (W x.b) 24).toNat)) 0))))))))))))⟩ : Trn), (⟨0, 0, 0⟩ : V3)⟩ : Frm)) && ((g18 t1.1) && ((g18 (⟨(⟨(⟨(⟨(toI (hdA (dropN (getRow tab14_0 (0 + (Int.tmod (W x.a) 24).toNat)) 0))), (toI (hdA (tlA (dropN (getRow tab14_0 (0 + (Int.tmod (W x.a) 24).toNat)) 0)))), (toI (hdA (tlA (tlA (dropN (getRow tab14_0 (0 + (Int.tmod (W x.a) 24).toNat)) 0)))))⟩ : V3), (⟨(toI (hdA (tlA (tlA (tlA (dropN (getRow tab14_0 (0 + (Int.tmod (W x.a) 24).toNat)) 0)))))), (toI (hdA (tlA (tlA (tlA (tlA (dropN (getRow tab14_0 (0 + (Int.tmod (W x.a) 24).toNat)) 0))))))), (toI (hdA (tlA (tlA (tlA (tlA (tlA (dropN (getRow tab14_0 (0 + (Int.tmod (W x.a) 24).toNat)) 0))))))))⟩ : V3), (⟨(toI (hdA (tlA (tlA (tlA (tlA (tlA (tlA (dropN (getRow tab14_0 (0 + (Int.tmod (W x.a) 24).toNat)) 0))))))))), (toI (hdA (tlA (tlA (tlA (tlA (tlA (tlA (tlA (dropN (getRow tab14_0 (0 + (Int.tmod (W x.a) 24).toNat)) 0)))))))))), (toI (hdA (tlA (tlA (tlA (tlA (tlA (tlA (tlA (tlA (dropN (getRow tab14_0 (0 + (Int.tmod (W x.a) 24).toNat)) 0)))))))))))⟩ : V3)⟩ : M3), (toI (hdA (tlA (tlA (tlA (tlA (tlA (tlA (tlA (tlA (tlA (dropN (getRow tab14_0 (0 + (Int.tmod (W x.a) 24).toNat)) 0))))))))))))⟩ : Trn), (⟨0, 0, 0⟩ : V3)⟩ : Frm)) && ((g18 (⟨(⟨(⟨(⟨(toI (hdA (dropN (getRow tab14_0 (0 + (Int.tmod (W x.b) 24).toNat)) 0))), (toI (hdA (tlA (dropN (getRow tab14_0 (0 + (Int.tmod (W x.b) 24).toNat)) 0)))), (toI (hdA (tlA (tlA (dropN (getRow tab14_0 (0 + (Int.tmod (W x.b) 24).toNat)) 0)))))⟩ : V3), (⟨(toI (hdA (tlA (tlA (tlA (dropN (getRow tab14_0 (0 + (Int.tmod (W x.b) 24).toNat)) 0)))))), (toI (hdA (tlA (tlA (tlA (tlA (dropN (getRow tab14_0 (0 + (Int.tmod (W x.b) 24).toNat)) 0))))))), (toI (hdA (tlA (tlA (tlA (tlA (tlA (dropN (getRow tab14_0 (0 + (Int.tmod (W x.b) 24).toNat)) 0))))))))⟩ : V3), (⟨(toI (hdA (tlA (tlA (tlA (tlA (tlA (tlA (dropN (getRow tab14_0 (0 + (Int.tmod (W x.b) 24).toNat)) 0))))))))), (toI (hdA (tlA (tlA (tlA (tlA (tlA (tlA (tlA (dropN (getRow tab14_0 (0 + (Int.tmod (W x.b) 24).toNat)) 0)))))))))), (toI (hdA (tlA (tlA (tlA (tlA (tlA (tlA (tlA (tlA (dropN (getRow tab14_0 (0 + (Int.tmod (W x.b) 24).toNat)) 0)))))))))))⟩ : V3)⟩ : M3), (toI (hdA (tlA (tlA (tlA (tlA (tlA (tlA (tlA (tlA (tlA (dropN (getRow tab14_0 (0 + (Int.tmod (W x.b) 24).toNat)) 0))))))))))))⟩ : Trn), (⟨0, 0, 0⟩ : V3)⟩ : Frm)) && (g20 t4.1 t3.1)))))))))
noncomputable def tb6 : List (Nat × Sum) := [(9, S9), (14, S14), (12, S12), (23, S23), (20, S20), (18, S18), (24, S24), (23, S23)]
theorem tbo6 : TblOk Tryd.prog G tb6 := ⟨ok9, ok14, ok12, ok23, ok20, ok18, ok24, ok23, trivial⟩
noncomputable def S6 : Sum := sum1 cU (fun x => DT.guard (g6 x) (.ret (b (p6 x), [])))
theorem r6 (x : U2) (t1 : Frm × Bool) (ht1 : t1 = (p20 (⟨(⟨(⟨(⟨(toI (hdA (dropN (getRow tab14_0 (0 + (Int.tmod (W x.a) 24).toNat)) 0))), (toI (hdA (tlA (dropN (getRow tab14_0 (0 + (Int.tmod (W x.a) 24).toNat)) 0)))), (toI (hdA (tlA (tlA (dropN (getRow tab14_0 (0 + (Int.tmod (W x.a) 24).toNat)) 0)))))⟩ : V3), (⟨(toI (hdA (tlA (tlA (tlA (dropN (getRow tab14_0 (0 + (Int.tmod (W x.a) 24).toNat)) 0)))))), (toI (hdA (tlA (tlA (tlA (tlA (dropN (getRow tab14_0 (0 + (Int.tmod (W x.a) 24).toNat)) 0))))))), (toI (hdA (tlA (tlA (tlA (tlA (tlA (dropN (getRow tab14_0 (0 + (Int.tmod (W x.a) 24).toNat)) 0))))))))⟩ : V3), (⟨(toI (hdA (tlA (tlA (tlA (tlA (tlA (tlA (dropN (getRow tab14_0 (0 + (Int.tmod (W x.a) 24).toNat)) 0))))))))), (toI (hdA (tlA (tlA (tlA (tlA (tlA (tlA (tlA (dropN (getRow tab14_0 (0 + (Int.tmod (W x.a) 24).toNat)) 0)))))))))), (toI (hdA (tlA (tlA (tlA (tlA (tlA (tlA (tlA (tlA (dropN (getRow tab14_0 (0 + (Int.tmod (W x.a) 24).toNat)) 0)))))))))))⟩ : V3)⟩ : M3), (toI (hdA (tlA (tlA (tlA (tlA (tlA (tlA (tlA (tlA (tlA (dropN (getRow tab14_0 (0 + (Int.tmod (W x.a) 24).toNat)) 0))))))))))))⟩ : Trn), (⟨0, 0, 0⟩ : V3)⟩ : Frm) (⟨(⟨(⟨(⟨(toI (hdA (dropN (getRow tab14_0 (0 + (Int.tmod (W x.b) 24).toNat)) 0))), (toI (hdA (tlA (dropN (getRow tab14_0 (0 + (Int.tmod (W x.b) 24).toNat)) 0)))), (toI (hdA (tlA (tlA (dropN (getRow tab14_0 (0 + (Int.tmod (W x.b) 24).toNat)) 0)))))⟩ : V3), (⟨(toI (hdA (tlA (tlA (tlA (dropN (getRow tab14_0 (0 + (Int.tmod (W x.b) 24).toNat)) 0)))))), (toI (hdA (tlA (tlA (tlA (tlA (dropN (getRow tab14_0 (0 + (Int.tmod (W x.b) 24).toNat)) 0))))))), (toI (hdA (tlA (tlA (tlA (tlA (tlA (dropN (getRow tab14_0 (0 + (Int.tmod (W x.b) 24).toNat)) 0))))))))⟩ : V3), (⟨(toI (hdA (tlA (tlA (tlA (tlA (tlA (tlA (dropN (getRow tab14_0 (0 + (Int.tmod (W x.b) 24).toNat)) 0))))))))), (toI (hdA (tlA (tlA (tlA (tlA (tlA (tlA (tlA (dropN (getRow tab14_0 (0 + (Int.tmod (W x.b) 24).toNat)) 0)))))))))), (toI (hdA (tlA (tlA (tlA (tlA (tlA (tlA (tlA (tlA (dropN (getRow tab14_0 (0 + (Int.tmod (W x.b) 24).toNat)) 0)))))))))))⟩ : V3)⟩ : M3), (toI (hdA (tlA (tlA (tlA (tlA (tlA (tlA (tlA (tlA (tlA (dropN (getRow tab14_0 (0 + (Int.tmod (W x.b) 24).toNat)) 0))))))))))))⟩ : Trn), (⟨0, 0, 0⟩ : V3)⟩ : Frm))) (t2 : Frm × Bool) (ht2 : t2 = (p18 t1.1)) (t3 : Frm × Bool) (ht3 : t3 = (p18 (⟨(⟨(⟨(⟨(toI (hdA (dropN (getRow tab14_0 (0 + (Int.tmod (W x.a) 24).toNat)) 0))), (toI (hdA (tlA (dropN (getRow tab14_0 (0 + (Int.tmod (W x.a) 24).toNat)) 0)))), (toI (hdA (tlA (tlA (dropN (getRow tab14_0 (0 + (Int.tmod (W x.a) 24).toNat)) 0)))))⟩ : V3), (⟨(toI (hdA (tlA (tlA (tlA (dropN (getRow tab14_0 (0 + (Int.tmod (W x.a) 24).toNat)) 0)))))), (toI (hdA (tlA (tlA (tlA (tlA (dropN (getRow tab14_0 (0 + (Int.tmod (W x.a) 24).toNat)) 0))))))), (toI (hdA (tlA (tlA (tlA (tlA (tlA (dropN (getRow tab14_0 (0 + (Int.tmod (W x.a) 24).toNat)) 0))))))))⟩ : V3), (⟨(toI (hdA (tlA (tlA (tlA (tlA (tlA (tlA (dropN (getRow tab14_0 (0 + (Int.tmod (W x.a) 24).toNat)) 0))))))))), (toI (hdA (tlA (tlA (tlA (tlA (tlA (tlA (tlA (dropN (getRow tab14_0 (0 + (Int.tmod (W x.a) 24).toNat)) 0)))))))))), (toI (hdA (tlA (tlA (tlA (tlA (tlA (tlA (tlA (tlA (dropN (getRow tab14_0 (0 + (Int.tmod (W x.a) 24).toNat)) 0)))))))))))⟩ : V3)⟩ : M3), (toI (hdA (tlA (tlA (tlA (tlA (tlA (tlA (tlA (tlA (tlA (dropN (getRow tab14_0 (0 + (Int.tmod (W x.a) 24).toNat)) 0))))))))))))⟩ : Trn), (⟨0, 0, 0⟩ : V3)⟩ : Frm))) (t4 : Frm × Bool) (ht4 : t4 = (p18 (⟨(⟨(⟨(⟨(toI (hdA (dropN (getRow tab14_0 (0 + (Int.tmod (W x.b) 24).toNat)) 0))), (toI (hdA (tlA (dropN (getRow tab14_0 (0 + (Int.tmod (W x.b) 24).toNat)) 0)))), (toI (hdA (tlA (tlA (dropN (getRow tab14_0 (0 + (Int.tmod (W x.b) 24).toNat)) 0)))))⟩ : V3), (⟨(toI (hdA (tlA (tlA (tlA (dropN (getRow tab14_0 (0 + (Int.tmod (W x.b) 24).toNat)) 0)))))), (toI (hdA (tlA (tlA (tlA (tlA (dropN (getRow tab14_0 (0 + (Int.tmod (W x.b) 24).toNat)) 0))))))), (toI (hdA (tlA (tlA (tlA (tlA (tlA (dropN (getRow tab14_0 (0 + (Int.tmod (W x.b) 24).toNat)) 0))))))))⟩ : V3), (⟨(toI (hdA (tlA (tlA (tlA (tlA (tlA (tlA (dropN (getRow tab14_0 (0 + (Int.tmod (W x.b) 24).toNat)) 0))))))))), (toI (hdA (tlA (tlA (tlA (tlA (tlA (tlA (tlA (dropN (getRow tab14_0 (0 + (Int.tmod (W x.b) 24).toNat)) 0)))))))))), (toI (hdA (tlA (tlA (tlA (tlA (tlA (tlA (tlA (tlA (dropN (getRow tab14_0 (0 + (Int.tmod (W x.b) 24).toNat)) 0)))))))))))⟩ : V3)⟩ : M3), (toI (hdA (tlA (tlA (tlA (tlA (tlA (tlA (tlA (tlA (tlA (dropN (getRow tab14_0 (0 + (Int.tmod (W x.b) 24).toNat)) 0))))))))))))⟩ : Trn), (⟨0, 0, 0⟩ : V3)⟩ : Frm))) (t5 : Frm × Bool) (ht5 : t5 = (p20 t4.1 t3.1)) (t6 : Bool) (ht6 : t6 = (p24 () t1.1.t)) (t7 : Bool) (ht7 : t7 = (p24 () t2.1.t)) : (runFn (En tb6) pf6 [cU.enc x] []).run = (sel (inB (Int.tmod (W x.a) 24) 24)
 (sel (((Nat.blt (0 + (Int.tmod (W x.a) 24).toNat) (len tab14_0)) && (Nat.ble (0 + 10) (len (getRow tab14_0 (0 + (Int.tmod (W x.a) 24).toNat))))) && (okCKs [(CK.int .i64), (CK.int .i64), (CK.int .i64), (CK.int .i64), (CK.int .i64), (CK.int .i64), (CK.int .i64), (CK.int .i64), (CK.int .i64), (CK.int .i64)] (dropN (getRow tab14_0 (0 + (Int.tmod (W x.a) 24).toNat)) 0)))
  (sel (inB (Int.tmod (W x.b) 24) 24)
   (sel (((Nat.blt (0 + (Int.tmod (W x.b) 24).toNat) (len tab14_0)) && (Nat.ble (0 + 10) (len (getRow tab14_0 (0 + (Int.tmod (W x.b) 24).toNat))))) && (okCKs [(CK.int .i64), (CK.int .i64), (CK.int .i64), (CK.int .i64), (CK.int .i64), (CK.int .i64), (CK.int .i64), (CK.int .i64), (CK.int .i64), (CK.int .i64)] (dropN (getRow tab14_0 (0 + (Int.tmod (W x.b) 24).toNat)) 0)))
    (sel (g20 (⟨(⟨(⟨(⟨(toI (hdA (dropN (getRow tab14_0 (0 + (Int.tmod (W x.a) 24).toNat)) 0))), (toI (hdA (tlA (dropN (getRow tab14_0 (0 + (Int.tmod (W x.a) 24).toNat)) 0)))), (toI (hdA (tlA (tlA (dropN (getRow tab14_0 (0 + (Int.tmod (W x.a) 24).toNat)) 0)))))⟩ : V3), (⟨(toI (hdA (tlA (tlA (tlA (dropN (getRow tab14_0 (0 + (Int.tmod (W x.a) 24).toNat)) 0)))))), (toI (hdA (tlA (tlA (tlA (tlA (dropN (getRow tab14_0 (0 + (Int.tmod (W x.a) 24).toNat)) 0))))))), (toI (hdA (tlA (tlA (tlA (tlA (tlA (dropN (getRow tab14_0 (0 + (Int.tmod (W x.a) 24).toNat)) 0))))))))⟩ : V3), (⟨(toI (hdA (tlA (tlA (tlA (tlA (tlA (tlA (dropN (getRow tab14_0 (0 + (Int.tmod (W x.a) 24).toNat)) 0))))))))), (toI (hdA (tlA (tlA (tlA (tlA (tlA (tlA (tlA (dropN (getRow tab14_0 (0 + (Int.tmod (W x.a) 24).toNat)) 0)))))))))), (toI (hdA (tlA (tlA (tlA (tlA (tlA (tlA (tlA (tlA (dropN (getRow tab14_0 (0 + (Int.tmod (W x.a) 24).toNat)) 0)))))))))))⟩ : V3)⟩ : M3), (toI (hdA (tlA (tlA (tlA (tlA (tlA (tlA (tlA (tlA (tlA (dropN (getRow tab14_0 (0 + (Int.tmod (W x.a) 24).toNat)) 0))))))))))))⟩ : Trn), (⟨0, 0, 0⟩ : V3)⟩ : Frm) (⟨(⟨(⟨(⟨(toI (hdA (dropN (getRow tab14_0 (0 + (Int.tmod (W x.b) 24).toNat)) 0))), (toI (hdA (tlA (dropN (getRow tab14_0 (0 + (Int.tmod (W x.b) 24).toNat)) 0)))), (toI (hdA (tlA (tlA (dropN (getRow tab14_0 (0 + (Int.tmod (W x.b) 24).toNat)) 0)))))⟩ : V3), (⟨(toI (hdA (tlA (tlA (tlA (dropN (getRow tab14_0 (0 + (Int.tmod (W x.b) 24).toNat)) 0)))))), (toI (hdA (tlA (tlA (tlA (tlA (dropN (getRow tab14_0 (0 + (Int.tmod (W x.b) 24).toNat)) 0))))))), (toI (hdA (tlA (tlA (tlA (tlA (tlA (dropN (getRow tab14_0 (0 + (Int.tmod (W x.b) 24).toNat)) 0))))))))⟩ : V3), (⟨(toI (hdA (tlA (tlA (tlA (tlA (tlA (tlA (dropN (getRow tab14_0 (0 + (Int.tmod (W x.b) 24).toNat)) 0))))))))), (toI (hdA (tlA (tlA (tlA (tlA (tlA (tlA (tlA (dropN (getRow tab14_0 (0 + (Int.tmod (W x.b) 24).toNat)) 0)))))))))), (toI (hdA (tlA (tlA (tlA (tlA (tlA (tlA (tlA (tlA (dropN (getRow tab14_0 (0 + (Int.tmod (W x.b) 24).toNat)) 0)))))))))))⟩ : V3)⟩ : M3), (toI (hdA (tlA (tlA (tlA (tlA (tlA (tlA (tlA (tlA (tlA (dropN (getRow tab14_0 (0 + (Int.tmod (W x.b) 24).toNat)) 0))))))))))))⟩ : Trn), (⟨0, 0, 0⟩ : V3)⟩ : Frm))
     (sel (g18 t1.1)
      (sel (g18 (⟨(⟨(⟨(⟨(toI (hdA (dropN (getRow tab14_0 (0 + (Int.tmod (W x.a) 24).toNat)) 0))), (toI (hdA (tlA (dropN (getRow tab14_0 (0 + (Int.tmod (W x.a) 24).toNat)) 0)))), (toI (hdA (tlA (tlA (dropN (getRow tab14_0 (0 + (Int.tmod (W x.a) 24).toNat)) 0)))))⟩ : V3), (⟨(toI (hdA (tlA (tlA (tlA (dropN (getRow tab14_0 (0 + (Int.tmod (W x.a) 24).toNat)) 0)))))), (toI (hdA (tlA (tlA (tlA (tlA (dropN (getRow tab14_0 (0 + (Int.tmod (W x.a) 24).toNat)) 0))))))), (toI (hdA (tlA (tlA (tlA (tlA (tlA (dropN (getRow tab14_0 (0 + (Int.tmod (W x.a) 24).toNat)) 0))))))))⟩ : V3), (⟨(toI (hdA (tlA (tlA (tlA (tlA (tlA (tlA (dropN (getRow tab14_0 (0 + (Int.tmod (W x.a) 24).toNat)) 0))))))))), (toI (hdA (tlA (tlA (tlA (tlA (tlA (tlA (tlA (dropN (getRow tab14_0 (0 + (Int.tmod (W x.a) 24).toNat)) 0)))))))))), (toI (hdA (tlA (tlA (tlA (tlA (tlA (tlA (tlA (tlA (dropN (getRow tab14_0 (0 + (Int.tmod (W x.a) 24).toNat)) 0)))))))))))⟩ : V3)⟩ : M3), (toI (hdA (tlA (tlA (tlA (tlA (tlA (tlA (tlA (tlA (tlA (dropN (getRow tab14_0 (0 + (Int.tmod (W x.a) 24).toNat)) 0))))))))))))⟩ : Trn), (⟨0, 0, 0⟩ : V3)⟩ : Frm))
       (sel (g18 (⟨(⟨(⟨(⟨(toI (hdA (dropN (getRow tab14_0 (0 + (Int.tmod (W x.b) 24).toNat)) 0))), (toI (hdA (tlA (dropN (getRow tab14_0 (0 + (Int.tmod (W x.b) 24).toNat)) 0)))), (toI (hdA (tlA (tlA (dropN (getRow tab14_0 (0 + (Int.tmod (W x.b) 24).toNat)) 0)))))⟩ : V3), (⟨(toI (hdA (tlA (tlA (tlA (dropN (getRow tab14_0 (0 + (Int.tmod (W x.b) 24).toNat)) 0)))))), (toI (hdA (tlA (tlA (tlA (tlA (dropN (getRow tab14_0 (0 + (Int.tmod (W x.b) 24).toNat)) 0))))))), (toI (hdA (tlA (tlA (tlA (tlA (tlA (dropN (getRow tab14_0 (0 + (Int.tmod (W x.b) 24).toNat)) 0))))))))⟩ : V3), (⟨(toI (hdA (tlA (tlA (tlA (tlA (tlA (tlA (dropN (getRow tab14_0 (0 + (Int.tmod (W x.b) 24).toNat)) 0))))))))), (toI (hdA (tlA (tlA (tlA (tlA (tlA (tlA (tlA (dropN (getRow tab14_0 (0 + (Int.tmod (W x.b) 24).toNat)) 0)))))))))), (toI (hdA (tlA (tlA (tlA (tlA (tlA (tlA (tlA (tlA (dropN (getRow tab14_0 (0 + (Int.tmod (W x.b) 24).toNat)) 0)))))))))))⟩ : V3)⟩ : M3), (toI (hdA (tlA (tlA (tlA (tlA (tlA (tlA (tlA (tlA (tlA (dropN (getRow tab14_0 (0 + (Int.tmod (W x.b) 24).toNat)) 0))))))))))))⟩ : Trn), (⟨0, 0, 0⟩ : V3)⟩ : Frm))
        (sel (g20 t4.1 t3.1)
         (sel t1.2
          (sel t2.2
           (sel t3.2
            (sel t4.2
             (sel t5.2
              (sel ((t2.1.t.m.r0.x == t5.1.t.m.r0.x) && ((t2.1.t.m.r0.y == t5.1.t.m.r0.y) && ((t2.1.t.m.r0.z == t5.1.t.m.r0.z) && ((t2.1.t.m.r1.x == t5.1.t.m.r1.x) && ((t2.1.t.m.r1.y == t5.1.t.m.r1.y) && ((t2.1.t.m.r1.z == t5.1.t.m.r1.z) && ((t2.1.t.m.r2.x == t5.1.t.m.r2.x) && ((t2.1.t.m.r2.y == t5.1.t.m.r2.y) && ((t2.1.t.m.r2.z == t5.1.t.m.r2.z) && ((t2.1.t.d == t5.1.t.d) && ((t2.1.s.x == t5.1.s.x) && ((t2.1.s.y == t5.1.s.y) && ((t2.1.s.z == t5.1.s.z) && true)))))))))))))
               (sel t6
                (sel t7
                 (some ((b ((t1.1.s.x == 0) && ((t1.1.s.y == 0) && ((t1.1.s.z == 0) && true)))), []))
                 (some ((b false), [])))
                (some ((b false), [])))
               (some ((b false), [])))
              (some ((b false), [])))
             (some ((b false), [])))
            (some ((b false), [])))
           (some ((b false), [])))
          (some ((b false), [])))
         none)
        none)
       none)
      none)
     none)
    none)
   none)
  none)
 none) := by subst ht1; subst ht2; subst ht3; subst ht4; subst ht5; subst ht6; subst ht7; kernel_rfl
theorem m6 (c1 c2 c3 c4 c5 c6 c7 c8 c9 c10 c11 c12 c13 c14 c15 c16 c17 : Bool) (x : U2) (t1 : Frm × Bool) : ((sel c1
 (sel c2
  (sel c3
   (sel c4
    (sel c5
     (sel c6
      (sel c7
       (sel c8
        (sel c9
         (sel c10
          (sel c11
           (sel c12
            (sel c13
             (sel c14
              (sel c15
               (sel c16
                (sel c17
                 (some ((b ((t1.1.s.x == 0) && ((t1.1.s.y == 0) && ((t1.1.s.z == 0) && true)))), []))
                 (some ((b false), [])))
                (some ((b false), [])))
               (some ((b false), [])))
              (some ((b false), [])))
             (some ((b false), [])))
            (some ((b false), [])))
           (some ((b false), [])))
          (some ((b false), [])))
         none)
        none)
       none)
      none)
     none)
    none)
   none)
  none)
 none) : Option (AVal × List ABlk)) = (sel (c1 && (c2 && (c3 && (c4 && (c5 && (c6 && (c7 && (c8 && c9)))))))) (some ((b (c10 && (c11 && (c12 && (c13 && (c14 && (c15 && (c16 && (c17 && ((t1.1.s.x == 0) && ((t1.1.s.y == 0) && ((t1.1.s.z == 0) && true)))))))))))), [])) none) := by
 cases c1
 ·
  rfl
 ·
  cases c2
  ·
   rfl
  ·
   cases c3
   ·
    rfl
   ·
    cases c4
    ·
     rfl
    ·
     cases c5
     ·
      rfl
     ·
      cases c6
      ·
       rfl
      ·
       cases c7
       ·
        rfl
       ·
        cases c8
        ·
         rfl
        ·
         cases c9
         ·
          rfl
         ·
          cases c10
          ·
           rfl
          ·
           cases c11
           ·
            rfl
           ·
            cases c12
            ·
             rfl
            ·
             cases c13
             ·
              rfl
             ·
              cases c14
              ·
               rfl
              ·
               cases c15
               ·
                rfl
               ·
                cases c16
                ·
                 rfl
                ·
                 cases c17
                 ·
                  rfl
                 ·
                  rfl
theorem k6 (x : U2) (t1 : Frm × Bool) (ht1 : t1 = (p20 (⟨(⟨(⟨(⟨(toI (hdA (dropN (getRow tab14_0 (0 + (Int.tmod (W x.a) 24).toNat)) 0))), (toI (hdA (tlA (dropN (getRow tab14_0 (0 + (Int.tmod (W x.a) 24).toNat)) 0)))), (toI (hdA (tlA (tlA (dropN (getRow tab14_0 (0 + (Int.tmod (W x.a) 24).toNat)) 0)))))⟩ : V3), (⟨(toI (hdA (tlA (tlA (tlA (dropN (getRow tab14_0 (0 + (Int.tmod (W x.a) 24).toNat)) 0)))))), (toI (hdA (tlA (tlA (tlA (tlA (dropN (getRow tab14_0 (0 + (Int.tmod (W x.a) 24).toNat)) 0))))))), (toI (hdA (tlA (tlA (tlA (tlA (tlA (dropN (getRow tab14_0 (0 + (Int.tmod (W x.a) 24).toNat)) 0))))))))⟩ : V3), (⟨(toI (hdA (tlA (tlA (tlA (tlA (tlA (tlA (dropN (getRow tab14_0 (0 + (Int.tmod (W x.a) 24).toNat)) 0))))))))), (toI (hdA (tlA (tlA (tlA (tlA (tlA (tlA (tlA (dropN (getRow tab14_0 (0 + (Int.tmod (W x.a) 24).toNat)) 0)))))))))), (toI (hdA (tlA (tlA (tlA (tlA (tlA (tlA (tlA (tlA (dropN (getRow tab14_0 (0 + (Int.tmod (W x.a) 24).toNat)) 0)))))))))))⟩ : V3)⟩ : M3), (toI (hdA (tlA (tlA (tlA (tlA (tlA (tlA (tlA (tlA (tlA (dropN (getRow tab14_0 (0 + (Int.tmod (W x.a) 24).toNat)) 0))))))))))))⟩ : Trn), (⟨0, 0, 0⟩ : V3)⟩ : Frm) (⟨(⟨(⟨(⟨(toI (hdA (dropN (getRow tab14_0 (0 + (Int.tmod (W x.b) 24).toNat)) 0))), (toI (hdA (tlA (dropN (getRow tab14_0 (0 + (Int.tmod (W x.b) 24).toNat)) 0)))), (toI (hdA (tlA (tlA (dropN (getRow tab14_0 (0 + (Int.tmod (W x.b) 24).toNat)) 0)))))⟩ : V3), (⟨(toI (hdA (tlA (tlA (tlA (dropN (getRow tab14_0 (0 + (Int.tmod (W x.b) 24).toNat)) 0)))))), (toI (hdA (tlA (tlA (tlA (tlA (dropN (getRow tab14_0 (0 + (Int.tmod (W x.b) 24).toNat)) 0))))))), (toI (hdA (tlA (tlA (tlA (tlA (tlA (dropN (getRow tab14_0 (0 + (Int.tmod (W x.b) 24).toNat)) 0))))))))⟩ : V3), (⟨(toI (hdA (tlA (tlA (tlA (tlA (tlA (tlA (dropN (getRow tab14_0 (0 + (Int.tmod (W x.b) 24).toNat)) 0))))))))), (toI (hdA (tlA (tlA (tlA (tlA (tlA (tlA (tlA (dropN (getRow tab14_0 (0 + (Int.tmod (W x.b) 24).toNat)) 0)))))))))), (toI (hdA (tlA (tlA (tlA (tlA (tlA (tlA (tlA (tlA (dropN (getRow tab14_0 (0 + (Int.tmod (W x.b) 24).toNat)) 0)))))))))))⟩ : V3)⟩ : M3), (toI (hdA (tlA (tlA (tlA (tlA (tlA (tlA (tlA (tlA (tlA (dropN (getRow tab14_0 (0 + (Int.tmod (W x.b) 24).toNat)) 0))))))))))))⟩ : Trn), (⟨0, 0, 0⟩ : V3)⟩ : Frm))) (t2 : Frm × Bool) (ht2 : t2 = (p18 t1.1)) (t3 : Frm × Bool) (ht3 : t3 = (p18 (⟨(⟨(⟨(⟨(toI (hdA (dropN (getRow tab14_0 (0 + (Int.tmod (W x.a) 24).toNat)) 0))), (toI (hdA (tlA (dropN (getRow tab14_0 (0 + (Int.tmod (W x.a) 24).toNat)) 0)))), (toI (hdA (tlA (tlA (dropN (getRow tab14_0 (0 + (Int.tmod (W x.a) 24).toNat)) 0)))))⟩ : V3), (⟨(toI (hdA (tlA (tlA (tlA (dropN (getRow tab14_0 (0 + (Int.tmod (W x.a) 24).toNat)) 0)))))), (toI (hdA (tlA (tlA (tlA (tlA (dropN (getRow tab14_0 (0 + (Int.tmod (W x.a) 24).toNat)) 0))))))), (toI (hdA (tlA (tlA (tlA (tlA (tlA (dropN (getRow tab14_0 (0 + (Int.tmod (W x.a) 24).toNat)) 0))))))))⟩ : V3), (⟨(toI (hdA (tlA (tlA (tlA (tlA (tlA (tlA (dropN (getRow tab14_0 (0 + (Int.tmod (W x.a) 24).toNat)) 0))))))))), (toI (hdA (tlA (tlA (tlA (tlA (tlA (tlA (tlA (dropN (getRow tab14_0 (0 + (Int.tmod (W x.a) 24).toNat)) 0)))))))))), (toI (hdA (tlA (tlA (tlA (tlA (tlA (tlA (tlA (tlA (dropN (getRow tab14_0 (0 + (Int.tmod (W x.a) 24).toNat)) 0)))))))))))⟩ : V3)⟩ : M3), (toI (hdA (tlA (tlA (tlA (tlA (tlA (tlA (tlA (tlA (tlA (dropN (getRow tab14_0 (0 + (Int.tmod (W x.a) 24).toNat)) 0))))))))))))⟩ : Trn), (⟨0, 0, 0⟩ : V3)⟩ : Frm))) (t4 : Frm × Bool) (ht4 : t4 = (p18 (⟨(⟨(⟨(⟨(toI (hdA (dropN (getRow tab14_0 (0 + (Int.tmod (W x.b) 24).toNat)) 0))), (toI (hdA (tlA (dropN (getRow tab14_0 (0 + (Int.tmod (W x.b) 24).toNat)) 0)))), (toI (hdA (tlA (tlA (dropN (getRow tab14_0 (0 + (Int.tmod (W x.b) 24).toNat)) 0)))))⟩ : V3), (⟨(toI (hdA (tlA (tlA (tlA (dropN (getRow tab14_0 (0 + (Int.tmod (W x.b) 24).toNat)) 0)))))), (toI (hdA (tlA (tlA (tlA (tlA (dropN (getRow tab14_0 (0 + (Int.tmod (W x.b) 24).toNat)) 0))))))), (toI (hdA (tlA (tlA (tlA (tlA (tlA (dropN (getRow tab14_0 (0 + (Int.tmod (W x.b) 24).toNat)) 0))))))))⟩ : V3), (⟨(toI (hdA (tlA (tlA (tlA (tlA (tlA (tlA (dropN (getRow tab14_0 (0 + (Int.tmod (W x.b) 24).toNat)) 0))))))))), (toI (hdA (tlA (tlA (tlA (tlA (tlA (tlA (tlA (dropN (getRow tab14_0 (0 + (Int.tmod (W x.b) 24).toNat)) 0)))))))))), (toI (hdA (tlA (tlA (tlA (tlA (tlA (tlA (tlA (tlA (dropN (getRow tab14_0 (0 + (Int.tmod (W x.b) 24).toNat)) 0)))))))))))⟩ : V3)⟩ : M3), (toI (hdA (tlA (tlA (tlA (tlA (tlA (tlA (tlA (tlA (tlA (dropN (getRow tab14_0 (0 + (Int.tmod (W x.b) 24).toNat)) 0))))))))))))⟩ : Trn), (⟨0, 0, 0⟩ : V3)⟩ : Frm))) (t5 : Frm × Bool) (ht5 : t5 = (p20 t4.1 t3.1)) (t6 : Bool) (ht6 : t6 = (p24 () t1.1.t)) (t7 : Bool) (ht7 : t7 = (p24 () t2.1.t)) : (DT.guard (g6 x) (.ret (b (p6 x), [])) : DT (AVal × List ABlk)).run = (sel ((inB (Int.tmod (W x.a) 24) 24) && ((((Nat.blt (0 + (Int.tmod (W x.a) 24).toNat) (len tab14_0)) && (Nat.ble (0 + 10) (len (getRow tab14_0 (0 + (Int.tmod (W x.a) 24).toNat))))) && (okCKs [(CK.int .i64), (CK.int .i64), (CK.int .i64), (CK.int .i64), (CK.int .i64), (CK.int .i64), (CK.int .i64), (CK.int .i64), (CK.int .i64), (CK.int .i64)] (dropN (getRow tab14_0 (0 + (Int.tmod (W x.a) 24).toNat)) 0))) && ((inB (Int.tmod (W x.b) 24) 24) && ((((Nat.blt (0 + (Int.tmod (W x.b) 24).toNat) (len tab14_0)) && (Nat.ble (0 + 10) (len (getRow tab14_0 (0 + (Int.tmod (W x.b) 24).toNat))))) && (okCKs [(CK.int .i64), (CK.int .i64), (CK.int .i64), (CK.int .i64), (CK.int .i64), (CK.int .i64), (CK.int .i64), (CK.int .i64), (CK.int .i64), (CK.int .i64)] (dropN (getRow tab14_0 (0 + (Int.tmod (W x.b) 24).toNat)) 0))) && ((g20 (⟨(⟨(⟨(⟨(toI (hdA (dropN (getRow tab14_0 (0 + (Int.tmod (W x.a) 24).toNat)) 0))), (toI (hdA (tlA (dropN (getRow tab14_0 (0 + (Int.tmod (W x.a) 24).toNat)) 0)))), (toI (hdA (tlA (tlA (dropN (getRow tab14_0 (0 + (Int.tmod (W x.a) 24).toNat)) 0)))))⟩ : V3), (⟨(toI (hdA (tlA (tlA (tlA (dropN (getRow tab14_0 (0 + (Int.tmod (W x.a) 24).toNat)) 0)))))), (toI (hdA (tlA (tlA (tlA (tlA (dropN (getRow tab14_0 (0 + (Int.tmod (W x.a) 24).toNat)) 0))))))), (toI (hdA (tlA (tlA (tlA (tlA (tlA (dropN (getRow tab14_0 (0 + (Int.tmod (W x.a) 24).toNat)) 0))))))))⟩ : V3), (⟨(toI (hdA (tlA (tlA (tlA (tlA (tlA (tlA (dropN (getRow tab14_0 (0 + (Int.tmod (W x.a) 24).toNat)) 0))))))))), (toI (hdA (tlA (tlA (tlA (tlA (tlA (tlA (tlA (dropN (getRow tab14_0 (0 + (Int.tmod (W x.a) 24).toNat)) 0)))))))))), (toI (hdA (tlA (tlA (tlA (tlA (tlA (tlA (tlA (tlA (dropN (getRow tab14_0 (0 + (Int.tmod (W x.a) 24).toNat)) 0)))))))))))⟩ : V3)⟩ : M3), (toI (hdA (tlA (tlA (tlA (tlA (tlA (tlA (tlA (tlA (tlA (dropN (getRow tab14_0 (0 + (Int.tmod (W x.a) 24).toNat)) 0))))))))))))⟩ : Trn), (⟨0, 0, 0⟩ : V3)⟩ : Frm) (⟨(⟨(⟨(⟨(toI (hdA (dropN (getRow tab14_0 (0 + (Int.tmod (W x.b) 24).toNat)) 0))), (toI (hdA (tlA (dropN (getRow tab14_0 (0 + (Int.tmod (W x.b) 24).toNat)) 0)))), (toI (hdA (tlA (tlA (dropN (getRow tab14_0 (0 + (Int.tmod (W x.b) 24).toNat)) 0)))))⟩ : V3), (⟨(toI (hdA (tlA (tlA (tlA (dropN (getRow tab14_0 (0 + (Int.tmod (W x.b) 24).toNat)) 0)))))), (toI (hdA (tlA (tlA (tlA (tlA (dropN (getRow tab14_0 (0 + (Int.tmod (W x.b) 24).toNat)) 0))))))), (toI (hdA (tlA (tlA (tlA (tlA (tlA (dropN (getRow tab14_0 (0 + (Int.tmod (W x.b) 24).toNat)) 0))))))))⟩ : V3), (⟨(toI (hdA (tlA (tlA (tlA (tlA (tlA (tlA (dropN (getRow tab14_0 (0 + (Int.tmod (W x.b) 24).toNat)) 0))))))))), (toI (hdA (tlA (tlA (tlA (tlA (tlA (tlA (tlA (dropN (getRow tab14_0 (0 + (Int.tmod (W x.b) 24).toNat)) 0)))))))))), (toI (hdA (tlA (tlA (tlA (tlA (tlA (tlA (tlA (tlA (dropN (getRow tab14_0 (0 + (Int.tmod (W x.b) 24).toNat)) 0)))))))))))⟩ : V3)⟩ : M3), (toI (hdA (tlA (tlA (tlA (tlA (tlA (tlA (tlA (tlA (tlA (dropN (getRow tab14_0 (0 + (Int.tmod (W x.b) 24).toNat)) 0))))))))))))⟩ : Trn), (⟨0, 0, 0⟩ : V3)⟩ : Frm)) && ((g18 t1.1) && ((g18 (⟨(⟨(⟨(⟨(toI (hdA (dropN (getRow tab14_0 (0 + (Int.tmod (W x.a) 24).toNat)) 0))), (toI (hdA (tlA (dropN (getRow tab14_0 (0 + (Int.tmod (W x.a) 24).toNat)) 0)))), (toI (hdA (tlA (tlA (dropN (getRow tab14_0 (0 + (Int.tmod (W x.a) 24).toNat)) 0)))))⟩ : V3), (⟨(toI (hdA (tlA (tlA (tlA (dropN (getRow tab14_0 (0 + (Int.tmod (W x.a) 24).toNat)) 0)))))), (toI (hdA (tlA (tlA (tlA (tlA (dropN (getRow tab14_0 (0 + (Int.tmod (W x.a) 24).toNat)) 0))))))), (toI (hdA (tlA (tlA (tlA (tlA (tlA (dropN (getRow tab14_0 (0 + (Int.tmod (W x.a) 24).toNat)) 0))))))))⟩ : V3), (⟨(toI (hdA (tlA (tlA (tlA (tlA (tlA (tlA (dropN (getRow tab14_0 (0 + (Int.tmod (W x.a) 24).toNat)) 0))))))))), (toI (hdA (tlA (tlA (tlA (tlA (tlA (tlA (tlA (dropN (getRow tab14_0 (0 + (Int.tmod (W x.a) 24).toNat)) 0)))))))))), (toI (hdA (tlA (tlA (tlA (tlA (tlA (tlA (tlA (tlA (dropN (getRow tab14_0 (0 + (Int.tmod (W x.a) 24).toNat)) 0)))))))))))⟩ : V3)⟩ : M3), (toI (hdA (tlA (tlA (tlA (tlA (tlA (tlA (tlA (tlA (tlA (dropN (getRow tab14_0 (0 + (Int.tmod (W x.a) 24).toNat)) 0))))))))))))⟩ : Trn), (⟨0, 0, 0⟩ : V3)⟩ : Frm)) && ((g18 (⟨(⟨(⟨(⟨(toI (hdA (dropN (getRow tab14_0 (0 + (Int.tmod (W x.b) 24).toNat)) 0))), (toI (hdA (tlA (dropN (getRow tab14_0 (0 + (Int.tmod (W x.b) 24).toNat)) 0)))), (toI (hdA (tlA (tlA (dropN (getRow tab14_0 (0 + (Int.tmod (W x.b) 24).toNat)) 0)))))⟩ : V3), (⟨(toI (hdA (tlA (tlA (tlA (dropN (getRow tab14_0 (0 + (Int.tmod (W x.b) 24).toNat)) 0)))))), (toI (hdA (tlA (tlA (tlA (tlA (dropN (getRow tab14_0 (0 + (Int.tmod (W x.b) 24).toNat)) 0))))))), (toI (hdA (tlA (tlA (tlA (tlA (tlA (dropN (getRow tab14_0 (0 + (Int.tmod (W x.b) 24).toNat)) 0))))))))⟩ : V3), (⟨(toI (hdA (tlA (tlA (tlA (tlA (tlA (tlA (dropN (getRow tab14_0 (0 + (Int.tmod (W x.b) 24).toNat)) 0))))))))), (toI (hdA (tlA (tlA (tlA (tlA (tlA (tlA (tlA (dropN (getRow tab14_0 (0 + (Int.tmod (W x.b) 24).toNat)) 0)))))))))), (toI (hdA (tlA (tlA (tlA (tlA (tlA (tlA (tlA (tlA (dropN (getRow tab14_0 (0 + (Int.tmod (W x.b) 24).toNat)) 0)))))))))))⟩ : V3)⟩ : M3), (toI (hdA (tlA (tlA (tlA (tlA (tlA (tlA (tlA (tlA (tlA (dropN (getRow tab14_0 (0 + (Int.tmod (W x.b) 24).toNat)) 0))))))))))))⟩ : Trn), (⟨0, 0, 0⟩ : V3)⟩ : Frm)) && (g20 t4.1 t3.1))))))))) (some ((b (t1.2 && (t2.2 && (t3.2 && (t4.2 && (t5.2 && (((t2.1.t.m.r0.x == t5.1.t.m.r0.x) && ((t2.1.t.m.r0.y == t5.1.t.m.r0.y) && ((t2.1.t.m.r0.z == t5.1.t.m.r0.z) && ((t2.1.t.m.r1.x == t5.1.t.m.r1.x) && ((t2.1.t.m.r1.y == t5.1.t.m.r1.y) && ((t2.1.t.m.r1.z == t5.1.t.m.r1.z) && ((t2.1.t.m.r2.x == t5.1.t.m.r2.x) && ((t2.1.t.m.r2.y == t5.1.t.m.r2.y) && ((t2.1.t.m.r2.z == t5.1.t.m.r2.z) && ((t2.1.t.d == t5.1.t.d) && ((t2.1.s.x == t5.1.s.x) && ((t2.1.s.y == t5.1.s.y) && ((t2.1.s.z == t5.1.s.z) && true))))))))))))) && (t6 && (t7 && ((t1.1.s.x == 0) && ((t1.1.s.y == 0) && ((t1.1.s.z == 0) && true)))))))))))), [])) none) := by subst ht1; subst ht2; subst ht3; subst ht4; subst ht5; subst ht6; subst ht7; rw [run_grd]; kernel_rfl
theorem ok6 : FnOk Tryd.prog G 6 S6 := sum1_ok (b6 (E := En tb6) rfl (tdeps tbo6)) fun x r h => ((r6 x _ rfl _ rfl _ rfl _ rfl _ rfl _ rfl _ rfl).trans (m6 _ _ _ _ _ _ _ _ _ _ _ _ _ _ _ _ _ x _)).trans ((k6 x _ rfl _ rfl _ rfl _ rfl _ rfl _ rfl _ rfl).symm.trans h)

end Go.Ev.T
