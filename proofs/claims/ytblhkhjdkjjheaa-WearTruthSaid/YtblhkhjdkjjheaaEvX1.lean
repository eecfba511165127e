/- Printed: functions of the wear chapter, as plain ones (own work). -/
import Derived.Test.YtblhkhjdkjjheaaEvW3
set_option linter.unusedVariables false
set_option linter.unusedSimpArgs false
set_option linter.unnecessarySimpa false
set_option linter.unusedSectionVars false
namespace Go.Ev.W.X
open Go Go.Ev Go.Ev.Ab Go.Proofs
set_option maxRecDepth 100000
noncomputable def tb32 : List (Nat × Sum) := []
theorem tbo32 : TblOk Try.prog G tb32 := trivial
noncomputable def p32 (x : Ent) : Bool := ((decide (x.t ≥ 0)) && ((decide (x.t ≤ 1048576)) && ((decide (x.o ≥ 0)) && ((decide (x.o ≤ 1048576)) && ((decide (x.l ≥ 0)) && ((decide (x.l ≤ x.h)) && (decide (x.h ≤ 1048576))))))))
noncomputable def S32 : Sum := sum1 cN (fun x => .ret (b (p32 x), []))
theorem r32 (x : Ent)  : (runFn (En tb32) pf32 [cN.enc x] []).run = (sel (decide (x.t ≥ 0))
 (sel (decide (x.t ≤ 1048576))
  (sel (decide (x.o ≥ 0))
   (sel (decide (x.o ≤ 1048576))
    (sel (decide (x.l ≥ 0))
     (sel (decide (x.l ≤ x.h))
      (some ((b (decide (x.h ≤ 1048576))), []))
      (some ((b false), [])))
     (some ((b false), [])))
    (some ((b false), [])))
   (some ((b false), [])))
  (some ((b false), [])))
 (some ((b false), []))) := by kernel_rfl
theorem m32 (c1 c2 c3 c4 c5 c6 : Bool) (x : Ent)  : ((sel c1
 (sel c2
  (sel c3
   (sel c4
    (sel c5
     (sel c6
      (some ((b (decide (x.h ≤ 1048576))), []))
      (some ((b false), [])))
     (some ((b false), [])))
    (some ((b false), [])))
   (some ((b false), [])))
  (some ((b false), [])))
 (some ((b false), []))) : Option (AVal × List ABlk)) = (some ((b (c1 && (c2 && (c3 && (c4 && (c5 && (c6 && (decide (x.h ≤ 1048576))))))))), [])) := by
 cases c1
 ·
  rfl
 ·
  cases c2
  ·
   rfl
  ·
   cases c3
   ·
    rfl
   ·
    cases c4
    ·
     rfl
    ·
     cases c5
     ·
      rfl
     ·
      cases c6
      ·
       rfl
      ·
       rfl
theorem k32 (x : Ent)  : (.ret (b (p32 x), []) : DT (AVal × List ABlk)).run = (some ((b ((decide (x.t ≥ 0)) && ((decide (x.t ≤ 1048576)) && ((decide (x.o ≥ 0)) && ((decide (x.o ≤ 1048576)) && ((decide (x.l ≥ 0)) && ((decide (x.l ≤ x.h)) && (decide (x.h ≤ 1048576))))))))), [])) := by kernel_rfl
theorem ok32 : FnOk Try.prog G 32 S32 := sum1_ok (b32 (E := En tb32) rfl (tdeps tbo32)) fun x r h => ((r32 x ).trans (m32 _ _ _ _ _ _ x )).trans ((k32 x ).symm.trans h)
noncomputable def tb33 : List (Nat × Sum) := []
theorem tbo33 : TblOk Try.prog G tb33 := trivial
noncomputable def p33 (x : Ent) (y : Ent) : Bool := ((decide (x.t < y.t)) || ((x.t == y.t) && (decide (x.o < y.o))))
noncomputable def S33 : Sum := sum2 cN cN (fun x y => .ret (b (p33 x y), []))
theorem r33 (x : Ent) (y : Ent)  : (runFn (En tb33) pf33 [cN.enc x, cN.enc y] []).run = (sel (decide (x.t < y.t))
 (some ((b true), []))
 (sel (x.t == y.t)
  (some ((b (decide (x.o < y.o))), []))
  (some ((b false), [])))) := by kernel_rfl
theorem m33 (c1 c2 : Bool) (x : Ent) (y : Ent)  : ((sel c1
 (some ((b true), []))
 (sel c2
  (some ((b (decide (x.o < y.o))), []))
  (some ((b false), [])))) : Option (AVal × List ABlk)) = (some ((b (c1 || (c2 && (decide (x.o < y.o))))), [])) := by
 cases c1
 ·
  cases c2
  ·
   rfl
  ·
   rfl
 ·
  rfl
theorem k33 (x : Ent) (y : Ent)  : (.ret (b (p33 x y), []) : DT (AVal × List ABlk)).run = (some ((b ((decide (x.t < y.t)) || ((x.t == y.t) && (decide (x.o < y.o))))), [])) := by kernel_rfl
theorem ok33 : FnOk Try.prog G 33 S33 := sum2_ok (b33 (E := En tb33) rfl (tdeps tbo33)) fun x y r h => ((r33 x y ).trans (m33 _ _ x y )).trans ((k33 x y ).symm.trans h)
noncomputable def tb30 : List (Nat × Sum) := [(45, S45)]
theorem tbo30 : TblOk Try.prog G tb30 := ⟨ok45, trivial⟩
noncomputable def p30 (x : Ent) : Bool := ((!(decide (x.t ≥ 0))) || ((!(decide (x.t ≤ 1048576))) || ((!(decide (x.o ≥ 0))) || ((!(decide (x.o ≤ 1048576))) || ((!(decide (x.l ≥ 0))) || ((!(decide (x.l ≤ 1048576))) || ((!(decide (x.h ≥ 0))) || ((!(decide (x.h ≤ 1048576))) || (decide (x.l > x.h))))))))))
noncomputable def S30 : Sum := sum1 cN (fun x => .ret (b (p30 x), []))
theorem r30 (x : Ent)  : (runFn (En tb30) pf30 [cN.enc x] []).run = (sel (decide (x.t ≥ 0))
 (sel (!(decide (x.t ≤ 1048576)))
  (some ((b true), []))
  (sel (decide (x.o ≥ 0))
   (sel (!(decide (x.o ≤ 1048576)))
    (some ((b true), []))
    (sel (decide (x.l ≥ 0))
     (sel (!(decide (x.l ≤ 1048576)))
      (some ((b true), []))
      (sel (decide (x.h ≥ 0))
       (sel (!(decide (x.h ≤ 1048576)))
        (some ((b true), []))
        (some ((b (decide (x.l > x.h))), [])))
       (some ((b true), []))))
     (some ((b true), []))))
   (some ((b true), []))))
 (some ((b true), []))) := by kernel_rfl
theorem m30 (c1 c2 c3 c4 c5 c6 c7 c8 : Bool) (x : Ent)  : ((sel c1
 (sel c2
  (some ((b true), []))
  (sel c3
   (sel c4
    (some ((b true), []))
    (sel c5
     (sel c6
      (some ((b true), []))
      (sel c7
       (sel c8
        (some ((b true), []))
        (some ((b (decide (x.l > x.h))), [])))
       (some ((b true), []))))
     (some ((b true), []))))
   (some ((b true), []))))
 (some ((b true), []))) : Option (AVal × List ABlk)) = (some ((b ((!c1) || (c2 || ((!c3) || (c4 || ((!c5) || (c6 || ((!c7) || (c8 || (decide (x.l > x.h))))))))))), [])) := by
 cases c1
 ·
  rfl
 ·
  cases c2
  ·
   cases c3
   ·
    rfl
   ·
    cases c4
    ·
     cases c5
     ·
      rfl
     ·
      cases c6
      ·
       cases c7
       ·
        rfl
       ·
        cases c8
        ·
         rfl
        ·
         rfl
      ·
       rfl
    ·
     rfl
  ·
   rfl
theorem k30 (x : Ent)  : (.ret (b (p30 x), []) : DT (AVal × List ABlk)).run = (some ((b ((!(decide (x.t ≥ 0))) || ((!(decide (x.t ≤ 1048576))) || ((!(decide (x.o ≥ 0))) || ((!(decide (x.o ≤ 1048576))) || ((!(decide (x.l ≥ 0))) || ((!(decide (x.l ≤ 1048576))) || ((!(decide (x.h ≥ 0))) || ((!(decide (x.h ≤ 1048576))) || (decide (x.l > x.h))))))))))), [])) := by kernel_rfl
theorem ok30 : FnOk Try.prog G 30 S30 := sum1_ok (b30 (E := En tb30) rfl (tdeps tbo30)) fun x r h => ((r30 x ).trans (m30 _ _ _ _ _ _ _ _ x )).trans ((k30 x ).symm.trans h)
noncomputable def tb31 : List (Nat × Sum) := [(48, S48), (47, S47)]
theorem tbo31 : TblOk Try.prog G tb31 := ⟨ok48, ok47, trivial⟩
noncomputable def p31 (x : Ent) (y : Ent) : Int := (sel (x.t != x.t) (sel (y.t != y.t) (sel (x.o != x.o) (sel (y.o != y.o) 0 (-1)) (sel (y.o != y.o) 1 (sel (decide (x.o < y.o)) (-1) (sel (decide (x.o > y.o)) 1 0)))) (-1)) (sel (y.t != y.t) 1 (sel (decide (x.t < y.t)) (-1) (sel (decide (x.t > y.t)) 1 (sel (x.o != x.o) (sel (y.o != y.o) 0 (-1)) (sel (y.o != y.o) 1 (sel (decide (x.o < y.o)) (-1) (sel (decide (x.o > y.o)) 1 0))))))))
noncomputable def S31 : Sum := sum2 cN cN (fun x y => .ret (i (p31 x y), []))
theorem r31 (x : Ent) (y : Ent)  : (runFn (En tb31) pf31 [cN.enc x, cN.enc y] []).run = (sel (x.t != x.t)
 (sel (y.t != y.t)
  (sel (x.o != x.o)
   (sel (y.o != y.o)
    (some ((i 0), []))
    (some ((i (-1)), [])))
   (sel (y.o != y.o)
    (some ((i 1), []))
    (sel (decide (x.o < y.o))
     (some ((i (-1)), []))
     (sel (decide (x.o > y.o))
      (some ((i 1), []))
      (some ((i 0), []))))))
  (sel (x.o != x.o)
   (sel (y.o != y.o)
    (some ((i (-1)), []))
    (some ((i (-1)), [])))
   (sel (y.o != y.o)
    (some ((i (-1)), []))
    (sel (decide (x.o < y.o))
     (some ((i (-1)), []))
     (sel (decide (x.o > y.o))
      (some ((i (-1)), []))
      (some ((i (-1)), [])))))))
 (sel (y.t != y.t)
  (sel (x.o != x.o)
   (sel (y.o != y.o)
    (some ((i 1), []))
    (some ((i 1), [])))
   (sel (y.o != y.o)
    (some ((i 1), []))
    (sel (decide (x.o < y.o))
     (some ((i 1), []))
     (sel (decide (x.o > y.o))
      (some ((i 1), []))
      (some ((i 1), []))))))
  (sel (decide (x.t < y.t))
   (sel (x.o != x.o)
    (sel (y.o != y.o)
     (some ((i (-1)), []))
     (some ((i (-1)), [])))
    (sel (y.o != y.o)
     (some ((i (-1)), []))
     (sel (decide (x.o < y.o))
      (some ((i (-1)), []))
      (sel (decide (x.o > y.o))
       (some ((i (-1)), []))
       (some ((i (-1)), []))))))
   (sel (decide (x.t > y.t))
    (sel (x.o != x.o)
     (sel (y.o != y.o)
      (some ((i 1), []))
      (some ((i 1), [])))
     (sel (y.o != y.o)
      (some ((i 1), []))
      (sel (decide (x.o < y.o))
       (some ((i 1), []))
       (sel (decide (x.o > y.o))
        (some ((i 1), []))
        (some ((i 1), []))))))
    (sel (x.o != x.o)
     (sel (y.o != y.o)
      (some ((i 0), []))
      (some ((i (-1)), [])))
     (sel (y.o != y.o)
      (some ((i 1), []))
      (sel (decide (x.o < y.o))
       (some ((i (-1)), []))
       (sel (decide (x.o > y.o))
        (some ((i 1), []))
        (some ((i 0), [])))))))))) := by kernel_rfl
theorem m31 (c1 c2 c3 c4 c5 c6 c7 c8 : Bool) (x : Ent) (y : Ent)  : ((sel c1
 (sel c2
  (sel c3
   (sel c4
    (some ((i 0), []))
    (some ((i (-1)), [])))
   (sel c4
    (some ((i 1), []))
    (sel c5
     (some ((i (-1)), []))
     (sel c6
      (some ((i 1), []))
      (some ((i 0), []))))))
  (sel c3
   (sel c4
    (some ((i (-1)), []))
    (some ((i (-1)), [])))
   (sel c4
    (some ((i (-1)), []))
    (sel c5
     (some ((i (-1)), []))
     (sel c6
      (some ((i (-1)), []))
      (some ((i (-1)), [])))))))
 (sel c2
  (sel c3
   (sel c4
    (some ((i 1), []))
    (some ((i 1), [])))
   (sel c4
    (some ((i 1), []))
    (sel c5
     (some ((i 1), []))
     (sel c6
      (some ((i 1), []))
      (some ((i 1), []))))))
  (sel c7
   (sel c3
    (sel c4
     (some ((i (-1)), []))
     (some ((i (-1)), [])))
    (sel c4
     (some ((i (-1)), []))
     (sel c5
      (some ((i (-1)), []))
      (sel c6
       (some ((i (-1)), []))
       (some ((i (-1)), []))))))
   (sel c8
    (sel c3
     (sel c4
      (some ((i 1), []))
      (some ((i 1), [])))
     (sel c4
      (some ((i 1), []))
      (sel c5
       (some ((i 1), []))
       (sel c6
        (some ((i 1), []))
        (some ((i 1), []))))))
    (sel c3
     (sel c4
      (some ((i 0), []))
      (some ((i (-1)), [])))
     (sel c4
      (some ((i 1), []))
      (sel c5
       (some ((i (-1)), []))
       (sel c6
        (some ((i 1), []))
        (some ((i 0), [])))))))))) : Option (AVal × List ABlk)) = (some ((i (sel c1 (sel c2 (sel c3 (sel c4 0 (-1)) (sel c4 1 (sel c5 (-1) (sel c6 1 0)))) (-1)) (sel c2 1 (sel c7 (-1) (sel c8 1 (sel c3 (sel c4 0 (-1)) (sel c4 1 (sel c5 (-1) (sel c6 1 0))))))))), [])) := by
 cases c1
 ·
  cases c2
  ·
   cases c7
   ·
    cases c8
    ·
     cases c3
     ·
      cases c4
      ·
       cases c5
       ·
        cases c6
        ·
         rfl
        ·
         rfl
       ·
        rfl
      ·
       rfl
     ·
      cases c4
      ·
       rfl
      ·
       rfl
    ·
     cases c3
     ·
      cases c4
      ·
       cases c5
       ·
        cases c6
        ·
         rfl
        ·
         rfl
       ·
        rfl
      ·
       rfl
     ·
      cases c4
      ·
       rfl
      ·
       rfl
   ·
    cases c3
    ·
     cases c4
     ·
      cases c5
      ·
       cases c6
       ·
        rfl
       ·
        rfl
      ·
       rfl
     ·
      rfl
    ·
     cases c4
     ·
      rfl
     ·
      rfl
  ·
   cases c3
   ·
    cases c4
    ·
     cases c5
     ·
      cases c6
      ·
       rfl
      ·
       rfl
     ·
      rfl
    ·
     rfl
   ·
    cases c4
    ·
     rfl
    ·
     rfl
 ·
  cases c2
  ·
   cases c3
   ·
    cases c4
    ·
     cases c5
     ·
      cases c6
      ·
       rfl
      ·
       rfl
     ·
      rfl
    ·
     rfl
   ·
    cases c4
    ·
     rfl
    ·
     rfl
  ·
   cases c3
   ·
    cases c4
    ·
     cases c5
     ·
      cases c6
      ·
       rfl
      ·
       rfl
     ·
      rfl
    ·
     rfl
   ·
    cases c4
    ·
     rfl
    ·
     rfl
theorem k31 (x : Ent) (y : Ent)  : (.ret (i (p31 x y), []) : DT (AVal × List ABlk)).run = (some ((i (sel (x.t != x.t) (sel (y.t != y.t) (sel (x.o != x.o) (sel (y.o != y.o) 0 (-1)) (sel (y.o != y.o) 1 (sel (decide (x.o < y.o)) (-1) (sel (decide (x.o > y.o)) 1 0)))) (-1)) (sel (y.t != y.t) 1 (sel (decide (x.t < y.t)) (-1) (sel (decide (x.t > y.t)) 1 (sel (x.o != x.o) (sel (y.o != y.o) 0 (-1)) (sel (y.o != y.o) 1 (sel (decide (x.o < y.o)) (-1) (sel (decide (x.o > y.o)) 1 0))))))))), [])) := by kernel_rfl
theorem ok31 : FnOk Try.prog G 31 S31 := sum2_ok (b31 (E := En tb31) rfl (tdeps tbo31)) fun x y r h => ((r31 x y ).trans (m31 _ _ _ _ _ _ _ _ x y )).trans ((k31 x y ).symm.trans h)
noncomputable def tb13 : List (Nat × Sum) := [(32, S32), (33, S33)]
theorem tbo13 : TblOk Try.prog G tb13 := ⟨ok32, ok33, trivial⟩
structure Pg13_0 where
  ns0 : Nat
  gs0 : Nat → List AVal
structure Sg13_0 where
  is3 : Int
noncomputable def h13_0_0 (p : Pg13_0) (s : Sg13_0) : St := ⟨[(.tree 4 p.ns0 p.gs0), .unk, .unk, (i s.is3), .unk, .unk, .unk, .unk, .unk, .unk, .unk, .unk, .unk, .unk, .unk, .unk, .unk, .unk, .unk, .unk, .unk, .unk, .unk, .unk, .unk, .unk, .unk, .unk, .unk, .unk, .unk, .unk, .unk, .unk, .unk, .unk, .unk], []⟩
noncomputable def en13_0 (p : Pg13_0) (s : Sg13_0) : St := (h13_0_0 p s)
noncomputable def x13_0_1 (p : Pg13_0) (s : Sg13_0) : XExit × St := let t1 := (p32 (⟨(toI (hdA (p.gs0 s.is3.toNat))), (toI (hdA (tlA (p.gs0 s.is3.toNat)))), (toI (hdA (tlA (tlA (p.gs0 s.is3.toNat))))), (toI (hdA (tlA (tlA (tlA (p.gs0 s.is3.toNat))))))⟩ : Ent)); (.ret, ⟨[(.tree 4 p.ns0 p.gs0), .unk, (i 3), (i s.is3), .unk, .unk, .unk, .unk, (i s.is3), (.tree 4 p.ns0 p.gs0), (i (↑p.ns0 : Int)), (b (decide (s.is3 < (↑p.ns0 : Int)))), .unk, .unk, (.tree 4 p.ns0 p.gs0), (i s.is3), (.tptr (p.gs0 s.is3.toNat)), (.agg [(i (toI (hdA (p.gs0 s.is3.toNat)))), (i (toI (hdA (tlA (p.gs0 s.is3.toNat))))), (i (toI (hdA (tlA (tlA (p.gs0 s.is3.toNat)))))), (i (toI (hdA (tlA (tlA (tlA (p.gs0 s.is3.toNat)))))))]), (b t1), (b (!t1)), .unk, .unk, .unk, .unk, .unk, .unk, .unk, .unk, .unk, .unk, .unk, .unk, .unk, .unk, .unk, .unk, .unk], []⟩)
theorem nx13_0_1 (p : Pg13_0) (s : Sg13_0) : (x13_0_1 p s).1 ≠ .normal := fun h => by
  have h : XExit.ret = XExit.normal := h
  cases h
noncomputable def x13_0_2 (p : Pg13_0) (s : Sg13_0) : XExit × St := (.exit 0, ⟨[(.tree 4 p.ns0 p.gs0), .unk, .unk, (i s.is3), .unk, .unk, .unk, .unk, (i s.is3), (.tree 4 p.ns0 p.gs0), (i (↑p.ns0 : Int)), (b (decide (s.is3 < (↑p.ns0 : Int)))), .unk, .unk, .unk, .unk, .unk, .unk, .unk, .unk, .unk, .unk, .unk, .unk, .unk, .unk, .unk, .unk, .unk, .unk, .unk, .unk, .unk, .unk, .unk, .unk, .unk], []⟩)
theorem nx13_0_2 (p : Pg13_0) (s : Sg13_0) : (x13_0_2 p s).1 ≠ .normal := fun h => by
  have h : XExit.exit 0 = XExit.normal := h
  cases h
noncomputable def xs13_0 : List (Pg13_0 → Sg13_0 → XExit × St) := [x13_0_1, x13_0_2]
@[reducible] def l13_0 : PC := (.seq (.seq (.ops [(o 8 (.mv (.t 3))), (o 9 (.mv (.t 0))), (o 10 (.len (.t 9))), (o 11 (.bin .lss (.t 8) (.t 10)))]) (.cond (.t 11) .skip (.exit 0))) (.seq (.block 1 (.seq (.ops [(o 14 (.mv (.t 0))), (o 15 (.mv (.t 3))), (o 16 (.idxS 4 (.t 14) (.t 15))), (o 17 (.load (ki 4) 4 true (.t 16))), (o 18 (.call 32 [(.t 17)])), (o 19 (.not (.t 18)))]) (.cond (.t 19) (.seq (.ops [(o 2 (.mv (ci 3)))]) .ret) .skip))) (.ops [(o 12 (.mv (.t 3))), (o 13 (.bin .add (.t 12) (ci 1))), (o 3 (.mv (.t 13)))])))
noncomputable def fo13_0 (p : Pg13_0) (s : Sg13_0) : Stp Sg13_0 → Option (XExit × St) := onStp (fun s' => some (.normal, en13_0 p s')) (fun t => xAt xs13_0 p s t 1) none
theorem rd13_0_0 (p : Pg13_0) (s : Sg13_0) (t1 : Bool) (ht1 : t1 = (p32 (⟨(toI (hdA (p.gs0 s.is3.toNat))), (toI (hdA (tlA (p.gs0 s.is3.toNat)))), (toI (hdA (tlA (tlA (p.gs0 s.is3.toNat))))), (toI (hdA (tlA (tlA (tlA (p.gs0 s.is3.toNat))))))⟩ : Ent))) : (roundE (En tb13) 0 [0, 3] (.pc l13_0) (h13_0_0 p s)).run = (sel (decide (s.is3 < (↑p.ns0 : Int)))
 (sel (inB s.is3 p.ns0)
  (sel ((Nat.ble 4 (len (p.gs0 s.is3.toNat))) && (okCKs [(CK.int .i64), (CK.int .i64), (CK.int .i64), (CK.int .i64)] (p.gs0 s.is3.toNat)))
  (sel (!t1)
  (some (x13_0_1 p s))
  (some (.normal, h13_0_0 p ⟨(W (s.is3 + 1))⟩)))
  none)
  none)
 (some (x13_0_2 p s))) := by subst ht1; kernel_rfl
noncomputable def su13_0_0 (p : Pg13_0) (s : Sg13_0) : Stp Sg13_0 := let t1 := (p32 (⟨(toI (hdA (p.gs0 s.is3.toNat))), (toI (hdA (tlA (p.gs0 s.is3.toNat)))), (toI (hdA (tlA (tlA (p.gs0 s.is3.toNat))))), (toI (hdA (tlA (tlA (tlA (p.gs0 s.is3.toNat))))))⟩ : Ent)); (sel (decide (s.is3 < (↑p.ns0 : Int)))
 (sel (inB s.is3 p.ns0)
  (sel ((Nat.ble 4 (len (p.gs0 s.is3.toNat))) && (okCKs [(CK.int .i64), (CK.int .i64), (CK.int .i64), (CK.int .i64)] (p.gs0 s.is3.toNat)))
  (sel (!t1)
  (.exit 1)
  (.next ⟨(W (s.is3 + 1))⟩))
  .fail)
  .fail)
 (.exit 2))
theorem q13_0_0 (p : Pg13_0) (s : Sg13_0) (c1 c2 c3 c4 : Bool)  : (fo13_0 p s) (sel c1
 (sel c2
  (sel c3
  (sel c4
  (.exit 1)
  (.next ⟨(W (s.is3 + 1))⟩))
  .fail)
  .fail)
 (.exit 2)) = (sel c1
 (sel c2
  (sel c3
  (sel c4
  (some (x13_0_1 p s))
  (some (.normal, h13_0_0 p ⟨(W (s.is3 + 1))⟩)))
  none)
  none)
 (some (x13_0_2 p s))) := (stpSel (f := (fo13_0 p s)) (stpSel (f := (fo13_0 p s)) (stpSel (f := (fo13_0 p s)) (stpSel (f := (fo13_0 p s)) rfl rfl) rfl) rfl) rfl)
theorem sp13_0_0 (p : Pg13_0) (s : Sg13_0) : (roundE (En tb13) 0 [0, 3] (.pc l13_0) (h13_0_0 p s)).run = fo13_0 p s (su13_0_0 p s) := (rd13_0_0 p s _ rfl).trans (q13_0_0 p s _ _ _ _).symm
noncomputable def st13_0 (p : Pg13_0) (s : Sg13_0) : Stp Sg13_0 := (su13_0_0 p s)
theorem sp13_0 (p : Pg13_0) (s : Sg13_0) : (roundE (En tb13) 0 [0, 3] (.pc l13_0) (en13_0 p s)).run = fo13_0 p s (st13_0 p s) := by
  show (roundE (En tb13) 0 [0, 3] (.pc l13_0) (h13_0_0 p s)).run = fo13_0 p s (su13_0_0 p s)
  exact sp13_0_0 p s
noncomputable def al13_0_0 : Alt Pg13_0 Sg13_0 := ⟨[(.s (.tree 4)), (.s .unk), (.s .unk), (.s (.int .i64)), (.s .unk), (.s .unk), (.s .unk), (.s .unk), (.s .unk), (.s .unk), (.s .unk), (.s .unk), (.s .unk), (.s .unk), (.s .unk), (.s .unk), (.s .unk), (.s .unk), (.s .unk), (.s .unk), (.s .unk), (.s .unk), (.s .unk), (.s .unk), (.s .unk), (.s .unk), (.s .unk), (.s .unk), (.s .unk), (.s .unk), (.s .unk), (.s .unk), (.s .unk), (.s .unk), (.s .unk), (.s .unk), (.s .unk)], [], fun a H => (⟨(toN (slotA a 0)), (toG (slotA a 0))⟩, ⟨(toI (slotA a 3))⟩)⟩
theorem la13_0_0 (a : List AVal) (H : List ABlk) : (⟨asSls al13_0_0.sh a, asBks al13_0_0.bl H⟩ : St) = en13_0 (al13_0_0.rd (asSls al13_0_0.sh a) (asBks al13_0_0.bl H)).1 (al13_0_0.rd (asSls al13_0_0.sh a) (asBks al13_0_0.bl H)).2 := by kernel_rfl
noncomputable def as13_0 : List (Alt Pg13_0 Sg13_0) := [al13_0_0]
theorem lo13_0 (s : St) : Below ((loopL 0 [0, 3] as13_0 st13_0 xs13_0) s) (exec (En tb13) 0 (.loop [0, 3] l13_0) s) :=
  loopL_below (E := En tb13) (enc := en13_0) (body := (.pc l13_0)) (alts := as13_0) (xs := xs13_0) (.pc _) rfl (.cons la13_0_0 .nil) (.cons nx13_0_1 (.cons nx13_0_2 .nil)) (fun p s => sp13_0 p s) s
structure Pg13_1 where
  ns0 : Nat
  gs0 : Nat → List AVal
structure Sg13_1 where
  is4 : Int
noncomputable def h13_1_0 (p : Pg13_1) (s : Sg13_1) : St := ⟨[(.tree 4 p.ns0 p.gs0), .unk, .unk, .unk, (i s.is4), .unk, .unk, .unk, .unk, .unk, .unk, .unk, .unk, .unk, .unk, .unk, .unk, .unk, .unk, .unk, .unk, .unk, .unk, .unk, .unk, .unk, .unk, .unk, .unk, .unk, .unk, .unk, .unk, .unk, .unk, .unk, .unk], []⟩
noncomputable def en13_1 (p : Pg13_1) (s : Sg13_1) : St := (h13_1_0 p s)
noncomputable def x13_1_1 (p : Pg13_1) (s : Sg13_1) : XExit × St := let t1 := (p33 (⟨(toI (hdA (p.gs0 (W (s.is4 - 1)).toNat))), (toI (hdA (tlA (p.gs0 (W (s.is4 - 1)).toNat)))), (toI (hdA (tlA (tlA (p.gs0 (W (s.is4 - 1)).toNat))))), (toI (hdA (tlA (tlA (tlA (p.gs0 (W (s.is4 - 1)).toNat))))))⟩ : Ent) (⟨(toI (hdA (p.gs0 s.is4.toNat))), (toI (hdA (tlA (p.gs0 s.is4.toNat)))), (toI (hdA (tlA (tlA (p.gs0 s.is4.toNat))))), (toI (hdA (tlA (tlA (tlA (p.gs0 s.is4.toNat))))))⟩ : Ent)); (.ret, ⟨[(.tree 4 p.ns0 p.gs0), .unk, (i 7), .unk, (i s.is4), .unk, .unk, .unk, .unk, .unk, .unk, .unk, .unk, .unk, .unk, .unk, .unk, .unk, .unk, .unk, (i s.is4), (.tree 4 p.ns0 p.gs0), (i (↑p.ns0 : Int)), (b (decide (s.is4 < (↑p.ns0 : Int)))), .unk, .unk, (.tree 4 p.ns0 p.gs0), (i s.is4), (i (W (s.is4 - 1))), (.tptr (p.gs0 (W (s.is4 - 1)).toNat)), (.agg [(i (toI (hdA (p.gs0 (W (s.is4 - 1)).toNat)))), (i (toI (hdA (tlA (p.gs0 (W (s.is4 - 1)).toNat))))), (i (toI (hdA (tlA (tlA (p.gs0 (W (s.is4 - 1)).toNat)))))), (i (toI (hdA (tlA (tlA (tlA (p.gs0 (W (s.is4 - 1)).toNat)))))))]), (.tree 4 p.ns0 p.gs0), (i s.is4), (.tptr (p.gs0 s.is4.toNat)), (.agg [(i (toI (hdA (p.gs0 s.is4.toNat)))), (i (toI (hdA (tlA (p.gs0 s.is4.toNat))))), (i (toI (hdA (tlA (tlA (p.gs0 s.is4.toNat)))))), (i (toI (hdA (tlA (tlA (tlA (p.gs0 s.is4.toNat)))))))]), (b t1), (b (!t1))], []⟩)
theorem nx13_1_1 (p : Pg13_1) (s : Sg13_1) : (x13_1_1 p s).1 ≠ .normal := fun h => by
  have h : XExit.ret = XExit.normal := h
  cases h
noncomputable def x13_1_2 (p : Pg13_1) (s : Sg13_1) : XExit × St := (.exit 2, ⟨[(.tree 4 p.ns0 p.gs0), .unk, .unk, .unk, (i s.is4), .unk, .unk, .unk, .unk, .unk, .unk, .unk, .unk, .unk, .unk, .unk, .unk, .unk, .unk, .unk, (i s.is4), (.tree 4 p.ns0 p.gs0), (i (↑p.ns0 : Int)), (b (decide (s.is4 < (↑p.ns0 : Int)))), .unk, .unk, .unk, .unk, .unk, .unk, .unk, .unk, .unk, .unk, .unk, .unk, .unk], []⟩)
theorem nx13_1_2 (p : Pg13_1) (s : Sg13_1) : (x13_1_2 p s).1 ≠ .normal := fun h => by
  have h : XExit.exit 2 = XExit.normal := h
  cases h
noncomputable def xs13_1 : List (Pg13_1 → Sg13_1 → XExit × St) := [x13_1_1, x13_1_2]
@[reducible] def l13_1 : PC := (.seq (.seq (.ops [(o 20 (.mv (.t 4))), (o 21 (.mv (.t 0))), (o 22 (.len (.t 21))), (o 23 (.bin .lss (.t 20) (.t 22)))]) (.cond (.t 23) .skip (.exit 2))) (.seq (.block 3 (.seq (.draw [26, 27, 28, 29, 30, 31, 32, 33, 34, 35, 36] [] [(o 26 (.mv (.t 0))), (o 27 (.mv (.t 4))), (o 28 (.bin .sub (.t 27) (ci 1))), (o 29 (.idxS 4 (.t 26) (.t 28))), (o 30 (.load (ki 4) 4 true (.t 29))), (o 31 (.mv (.t 0))), (o 32 (.mv (.t 4))), (o 33 (.idxS 4 (.t 31) (.t 32))), (o 34 (.load (ki 4) 4 true (.t 33))), (o 35 (.call 33 [(.t 30), (.t 34)])), (o 36 (.not (.t 35)))] []) (.cond (.t 36) (.seq (.ops [(o 2 (.mv (ci 7)))]) .ret) .skip))) (.ops [(o 24 (.mv (.t 4))), (o 25 (.bin .add (.t 24) (ci 1))), (o 4 (.mv (.t 25)))])))
noncomputable def fo13_1 (p : Pg13_1) (s : Sg13_1) : Stp Sg13_1 → Option (XExit × St) := onStp (fun s' => some (.normal, en13_1 p s')) (fun t => xAt xs13_1 p s t 1) none
theorem rd13_1_0 (p : Pg13_1) (s : Sg13_1) (t1 : Bool) (ht1 : t1 = (p33 (⟨(toI (hdA (p.gs0 (W (s.is4 - 1)).toNat))), (toI (hdA (tlA (p.gs0 (W (s.is4 - 1)).toNat)))), (toI (hdA (tlA (tlA (p.gs0 (W (s.is4 - 1)).toNat))))), (toI (hdA (tlA (tlA (tlA (p.gs0 (W (s.is4 - 1)).toNat))))))⟩ : Ent) (⟨(toI (hdA (p.gs0 s.is4.toNat))), (toI (hdA (tlA (p.gs0 s.is4.toNat)))), (toI (hdA (tlA (tlA (p.gs0 s.is4.toNat))))), (toI (hdA (tlA (tlA (tlA (p.gs0 s.is4.toNat))))))⟩ : Ent))) : (roundE (En tb13) 0 [0, 4] (.pc l13_1) (h13_1_0 p s)).run = (sel (decide (s.is4 < (↑p.ns0 : Int)))
 (sel (inB (W (s.is4 - 1)) p.ns0)
  (sel ((Nat.ble 4 (len (p.gs0 (W (s.is4 - 1)).toNat))) && (okCKs [(CK.int .i64), (CK.int .i64), (CK.int .i64), (CK.int .i64)] (p.gs0 (W (s.is4 - 1)).toNat)))
  (sel (inB s.is4 p.ns0)
  (sel ((Nat.ble 4 (len (p.gs0 s.is4.toNat))) && (okCKs [(CK.int .i64), (CK.int .i64), (CK.int .i64), (CK.int .i64)] (p.gs0 s.is4.toNat)))
  (sel (!t1)
  (some (x13_1_1 p s))
  (some (.normal, h13_1_0 p ⟨(W (s.is4 + 1))⟩)))
  none)
  none)
  none)
  none)
 (some (x13_1_2 p s))) := by subst ht1; kernel_rfl
noncomputable def su13_1_0 (p : Pg13_1) (s : Sg13_1) : Stp Sg13_1 := let t1 := (p33 (⟨(toI (hdA (p.gs0 (W (s.is4 - 1)).toNat))), (toI (hdA (tlA (p.gs0 (W (s.is4 - 1)).toNat)))), (toI (hdA (tlA (tlA (p.gs0 (W (s.is4 - 1)).toNat))))), (toI (hdA (tlA (tlA (tlA (p.gs0 (W (s.is4 - 1)).toNat))))))⟩ : Ent) (⟨(toI (hdA (p.gs0 s.is4.toNat))), (toI (hdA (tlA (p.gs0 s.is4.toNat)))), (toI (hdA (tlA (tlA (p.gs0 s.is4.toNat))))), (toI (hdA (tlA (tlA (tlA (p.gs0 s.is4.toNat))))))⟩ : Ent)); (sel (decide (s.is4 < (↑p.ns0 : Int)))
 (sel (inB (W (s.is4 - 1)) p.ns0)
  (sel ((Nat.ble 4 (len (p.gs0 (W (s.is4 - 1)).toNat))) && (okCKs [(CK.int .i64), (CK.int .i64), (CK.int .i64), (CK.int .i64)] (p.gs0 (W (s.is4 - 1)).toNat)))
  (sel (inB s.is4 p.ns0)
  (sel ((Nat.ble 4 (len (p.gs0 s.is4.toNat))) && (okCKs [(CK.int .i64), (CK.int .i64), (CK.int .i64), (CK.int .i64)] (p.gs0 s.is4.toNat)))
  (sel (!t1)
  (.exit 1)
  (.next ⟨(W (s.is4 + 1))⟩))
  .fail)
  .fail)
  .fail)
  .fail)
 (.exit 2))
theorem q13_1_0 (p : Pg13_1) (s : Sg13_1) (c1 c2 c3 c4 c5 c6 : Bool)  : (fo13_1 p s) (sel c1
 (sel c2
  (sel c3
  (sel c4
  (sel c5
  (sel c6
  (.exit 1)
  (.next ⟨(W (s.is4 + 1))⟩))
  .fail)
  .fail)
  .fail)
  .fail)
 (.exit 2)) = (sel c1
 (sel c2
  (sel c3
  (sel c4
  (sel c5
  (sel c6
  (some (x13_1_1 p s))
  (some (.normal, h13_1_0 p ⟨(W (s.is4 + 1))⟩)))
  none)
  none)
  none)
  none)
 (some (x13_1_2 p s))) := (stpSel (f := (fo13_1 p s)) (stpSel (f := (fo13_1 p s)) (stpSel (f := (fo13_1 p s)) (stpSel (f := (fo13_1 p s)) (stpSel (f := (fo13_1 p s)) (stpSel (f := (fo13_1 p s)) rfl rfl) rfl) rfl) rfl) rfl) rfl)
theorem sp13_1_0 (p : Pg13_1) (s : Sg13_1) : (roundE (En tb13) 0 [0, 4] (.pc l13_1) (h13_1_0 p s)).run = fo13_1 p s (su13_1_0 p s) := (rd13_1_0 p s _ rfl).trans (q13_1_0 p s _ _ _ _ _ _).symm
noncomputable def st13_1 (p : Pg13_1) (s : Sg13_1) : Stp Sg13_1 := (su13_1_0 p s)
theorem sp13_1 (p : Pg13_1) (s : Sg13_1) : (roundE (En tb13) 0 [0, 4] (.pc l13_1) (en13_1 p s)).run = fo13_1 p s (st13_1 p s) := by
  show (roundE (En tb13) 0 [0, 4] (.pc l13_1) (h13_1_0 p s)).run = fo13_1 p s (su13_1_0 p s)
  exact sp13_1_0 p s
noncomputable def al13_1_0 : Alt Pg13_1 Sg13_1 := ⟨[(.s (.tree 4)), (.s .unk), (.s .unk), (.s .unk), (.s (.int .i64)), (.s .unk), (.s .unk), (.s .unk), (.s .unk), (.s .unk), (.s .unk), (.s .unk), (.s .unk), (.s .unk), (.s .unk), (.s .unk), (.s .unk), (.s .unk), (.s .unk), (.s .unk), (.s .unk), (.s .unk), (.s .unk), (.s .unk), (.s .unk), (.s .unk), (.s .unk), (.s .unk), (.s .unk), (.s .unk), (.s .unk), (.s .unk), (.s .unk), (.s .unk), (.s .unk), (.s .unk), (.s .unk)], [], fun a H => (⟨(toN (slotA a 0)), (toG (slotA a 0))⟩, ⟨(toI (slotA a 4))⟩)⟩
theorem la13_1_0 (a : List AVal) (H : List ABlk) : (⟨asSls al13_1_0.sh a, asBks al13_1_0.bl H⟩ : St) = en13_1 (al13_1_0.rd (asSls al13_1_0.sh a) (asBks al13_1_0.bl H)).1 (al13_1_0.rd (asSls al13_1_0.sh a) (asBks al13_1_0.bl H)).2 := by kernel_rfl
noncomputable def as13_1 : List (Alt Pg13_1 Sg13_1) := [al13_1_0]
theorem lo13_1 (s : St) : Below ((loopL 0 [0, 4] as13_1 st13_1 xs13_1) s) (exec (En tb13) 0 (.loop [0, 4] l13_1) s) :=
  loopL_below (E := En tb13) (enc := en13_1) (body := (.pc l13_1)) (alts := as13_1) (xs := xs13_1) (.pc _) rfl (.cons la13_1_0 .nil) (.cons nx13_1_1 (.cons nx13_1_2 .nil)) (fun p s => sp13_1 p s) s
noncomputable def ps13 : PS := (.seq (.pc (.ops [(o 2 (.mv (ci 0)))])) (.seq (.pc (.seq (.ops [(o 5 (.mv (.t 0))), (o 6 (.len (.t 5))), (o 7 (.bin .gtr (.t 6) (ci 100)))]) (.cond (.t 7) (.seq (.ops [(o 2 (.mv (ci 2)))]) .ret) .skip))) (.seq (.seq (.pc (.ops [(o 3 (.mv (ci 0)))])) (.block 0 (.sum (loopL 0 [0, 3] as13_0 st13_0 xs13_0)))) (.seq (.seq (.pc (.ops [(o 4 (.mv (ci 1)))])) (.block 2 (.sum (loopL 0 [0, 4] as13_1 st13_1 xs13_1)))) (.pc (.seq (.ops [(o 2 (.mv (ci 0)))]) .ret))))))
theorem sd13 : Stands (En tb13) 0 ps13 pf13.body := (.seq (.pc _) (.seq (.pc _) (.seq (.seq (.pc _) (.block _ (.sum lo13_0))) (.seq (.seq (.pc _) (.block _ (.sum lo13_1))) (.pc _)))))
noncomputable def p13 (x : List Ent) : Int := let t1 := (lp (st13_0 (⟨(List.length x), (fun k => rE (gE x k))⟩ : Pg13_0)) (⟨0⟩ : Sg13_0)); let t3 := (lp (st13_1 (⟨(List.length x), (fun k => rE (gE x k))⟩ : Pg13_1)) (⟨1⟩ : Sg13_1)); (sel (decide ((↑(List.length x) : Int) > 100)) 2 (sel (Nat.beq t1.1 1) 3 (sel (Nat.beq t3.1 1) 7 0)))
noncomputable def g13 (x : List Ent) : Bool := let t1 := (lp (st13_0 (⟨(List.length x), (fun k => rE (gE x k))⟩ : Pg13_0)) (⟨0⟩ : Sg13_0)); let t3 := (lp (st13_1 (⟨(List.length x), (fun k => rE (gE x k))⟩ : Pg13_1)) (⟨1⟩ : Sg13_1)); ((decide ((↑(List.length x) : Int) > 100)) || ((Nat.beq t1.1 1) || ((Nat.beq t1.1 2) && ((Nat.beq t3.1 1) || (Nat.beq t3.1 2)))))
noncomputable def S13 : Sum := sum1 cEL (fun x => DT.guard (g13 x) (.ret (i (p13 x), [])))
theorem r13 (x : List Ent) (t1 : Nat × Sg13_0) (ht1 : t1 = (lp (st13_0 (⟨(List.length x), (fun k => rE (gE x k))⟩ : Pg13_0)) (⟨0⟩ : Sg13_0))) (t3 : Nat × Sg13_1) (ht3 : t3 = (lp (st13_1 (⟨(List.length x), (fun k => rE (gE x k))⟩ : Pg13_1)) (⟨1⟩ : Sg13_1))) : (runS (En tb13) pf13 ps13 [cEL.enc x] []).run = (sel (decide ((↑(List.length x) : Int) > 100))
 (some ((i 2), []))
 (sel (Nat.beq t1.1 1)
  (some ((i 3), []))
  (sel (Nat.beq t1.1 2)
   (sel (Nat.beq t3.1 1)
    (some ((i 7), []))
    (sel (Nat.beq t3.1 2)
     (some ((i 0), []))
     none))
   none))) := by subst ht1; subst ht3; kernel_rfl
theorem m13 (c1 c2 c3 c4 c5 : Bool) (x : List Ent)  : ((sel c1
 (some ((i 2), []))
 (sel c2
  (some ((i 3), []))
  (sel c3
   (sel c4
    (some ((i 7), []))
    (sel c5
     (some ((i 0), []))
     none))
   none))) : Option (AVal × List ABlk)) = (sel (c1 || (c2 || (c3 && (c4 || c5)))) (some ((i (sel c1 2 (sel c2 3 (sel c4 7 0)))), [])) none) := by
 cases c1
 ·
  cases c2
  ·
   cases c3
   ·
    rfl
   ·
    cases c4
    ·
     cases c5
     ·
      rfl
     ·
      rfl
    ·
     rfl
  ·
   rfl
 ·
  rfl
theorem k13 (x : List Ent) (t1 : Nat × Sg13_0) (ht1 : t1 = (lp (st13_0 (⟨(List.length x), (fun k => rE (gE x k))⟩ : Pg13_0)) (⟨0⟩ : Sg13_0))) (t3 : Nat × Sg13_1) (ht3 : t3 = (lp (st13_1 (⟨(List.length x), (fun k => rE (gE x k))⟩ : Pg13_1)) (⟨1⟩ : Sg13_1))) : (DT.guard (g13 x) (.ret (i (p13 x), [])) : DT (AVal × List ABlk)).run = (sel ((decide ((↑(List.length x) : Int) > 100)) || ((Nat.beq t1.1 1) || ((Nat.beq t1.1 2) && ((Nat.beq t3.1 1) || (Nat.beq t3.1 2))))) (some ((i (sel (decide ((↑(List.length x) : Int) > 100)) 2 (sel (Nat.beq t1.1 1) 3 (sel (Nat.beq t3.1 1) 7 0)))), [])) none) := by subst ht1; subst ht3; rw [run_grd]; kernel_rfl
theorem ok13 : FnOk Try.prog G 13 S13 := sum1_ok (b13 (E := En tb13) rfl (tdeps tbo13)) fun x r h => runS_below sd13 _ (((r13 x _ rfl _ rfl).trans (m13 _ _ _ _ _ x )).trans ((k13 x _ rfl _ rfl).symm.trans h))
noncomputable def tb37 : List (Nat × Sum) := [(33, S33)]
theorem tbo37 : TblOk Try.prog G tb37 := ⟨ok33, trivial⟩
structure Pg37_0 where
  ns0 : Nat
  gs0 : Nat → List AVal
  ih0_0_0 : Int
  ih0_0_1 : Int
  ih0_0_2 : Int
  ih0_0_3 : Int
structure Sg37_0 where
  is5 : Int
noncomputable def h37_0_0 (p : Pg37_0) (s : Sg37_0) : St := ⟨[(.tree 4 p.ns0 p.gs0), .unk, .unk, (.ptr 0 0 0 0), .unk, (i s.is5), .unk, .unk, .unk, .unk, .unk, .unk, .unk, .unk, .unk, .unk, .unk, .unk, .unk, .unk, .unk], [⟨0, 4, [[(i p.ih0_0_0), (i p.ih0_0_1), (i p.ih0_0_2), (i p.ih0_0_3)]], true, false, 0⟩]⟩
noncomputable def en37_0 (p : Pg37_0) (s : Sg37_0) : St := (h37_0_0 p s)
noncomputable def x37_0_1 (p : Pg37_0) (s : Sg37_0) : XExit × St := let t1 := (p33 (⟨(toI (hdA (p.gs0 s.is5.toNat))), (toI (hdA (tlA (p.gs0 s.is5.toNat)))), (toI (hdA (tlA (tlA (p.gs0 s.is5.toNat))))), (toI (hdA (tlA (tlA (tlA (p.gs0 s.is5.toNat))))))⟩ : Ent) (⟨p.ih0_0_0, p.ih0_0_1, p.ih0_0_2, p.ih0_0_3⟩ : Ent)); (.exit 0, ⟨[(.tree 4 p.ns0 p.gs0), .unk, .unk, (.ptr 0 0 0 0), .unk, (i s.is5), (i s.is5), (.tree 4 p.ns0 p.gs0), (i (↑p.ns0 : Int)), (b (decide (s.is5 < (↑p.ns0 : Int)))), (b true), (.tree 4 p.ns0 p.gs0), (i s.is5), (.tptr (p.gs0 s.is5.toNat)), (.agg [(i (toI (hdA (p.gs0 s.is5.toNat)))), (i (toI (hdA (tlA (p.gs0 s.is5.toNat))))), (i (toI (hdA (tlA (tlA (p.gs0 s.is5.toNat)))))), (i (toI (hdA (tlA (tlA (tlA (p.gs0 s.is5.toNat)))))))]), (.agg [(i p.ih0_0_0), (i p.ih0_0_1), (i p.ih0_0_2), (i p.ih0_0_3)]), (b t1), (b t1), .unk, .unk, .unk], [⟨0, 4, [[(i p.ih0_0_0), (i p.ih0_0_1), (i p.ih0_0_2), (i p.ih0_0_3)]], true, false, 0⟩]⟩)
theorem nx37_0_1 (p : Pg37_0) (s : Sg37_0) : (x37_0_1 p s).1 ≠ .normal := fun h => by
  have h : XExit.exit 0 = XExit.normal := h
  cases h
noncomputable def x37_0_2 (p : Pg37_0) (s : Sg37_0) : XExit × St := (.exit 0, ⟨[(.tree 4 p.ns0 p.gs0), .unk, .unk, (.ptr 0 0 0 0), .unk, (i s.is5), (i s.is5), (.tree 4 p.ns0 p.gs0), (i (↑p.ns0 : Int)), (b (decide (s.is5 < (↑p.ns0 : Int)))), (b false), u, u, u, u, u, u, (b false), .unk, .unk, .unk], [⟨0, 4, [[(i p.ih0_0_0), (i p.ih0_0_1), (i p.ih0_0_2), (i p.ih0_0_3)]], true, false, 0⟩]⟩)
theorem nx37_0_2 (p : Pg37_0) (s : Sg37_0) : (x37_0_2 p s).1 ≠ .normal := fun h => by
  have h : XExit.exit 0 = XExit.normal := h
  cases h
noncomputable def xs37_0 : List (Pg37_0 → Sg37_0 → XExit × St) := [x37_0_1, x37_0_2]
@[reducible] def l37_0 : PC := (.seq (.seq (.draw [6, 7, 8, 9, 10, 11, 12, 13, 14, 15, 16, 17] [] [(o 6 (.mv (.t 5))), (o 7 (.mv (.t 0))), (o 8 (.len (.t 7))), (o 9 (.bin .lss (.t 6) (.t 8))), (o 10 (.mv (.t 9))), ⟨(.some 11), (.some (10, true)), [], (.mv (.t 0))⟩, ⟨(.some 12), (.some (10, true)), [], (.mv (.t 5))⟩, ⟨(.some 13), (.some (10, true)), [], (.idxS 4 (.t 11) (.t 12))⟩, ⟨(.some 14), (.some (10, true)), [], (.load (ki 4) 4 true (.t 13))⟩, ⟨(.some 15), (.some (10, true)), [], (.load (ki 4) 4 true (.t 3))⟩, ⟨(.some 16), (.some (10, true)), [], (.call 33 [(.t 14), (.t 15)])⟩, (o 17 (.pick (.t 10) (.t 16) (cb false)))] []) (.cond (.t 17) .skip (.exit 0))) (.block 1 (.ops [(o 18 (.mv (.t 5))), (o 19 (.bin .add (.t 18) (ci 1))), (o 5 (.mv (.t 19)))])))
noncomputable def fo37_0 (p : Pg37_0) (s : Sg37_0) : Stp Sg37_0 → Option (XExit × St) := onStp (fun s' => some (.normal, en37_0 p s')) (fun t => xAt xs37_0 p s t 1) none
theorem rd37_0_0 (p : Pg37_0) (s : Sg37_0) (t1 : Bool) (ht1 : t1 = (p33 (⟨(toI (hdA (p.gs0 s.is5.toNat))), (toI (hdA (tlA (p.gs0 s.is5.toNat)))), (toI (hdA (tlA (tlA (p.gs0 s.is5.toNat))))), (toI (hdA (tlA (tlA (tlA (p.gs0 s.is5.toNat))))))⟩ : Ent) (⟨p.ih0_0_0, p.ih0_0_1, p.ih0_0_2, p.ih0_0_3⟩ : Ent))) : (roundE (En tb37) 0 [0, 3, 5] (.pc l37_0) (h37_0_0 p s)).run = (sel (decide (s.is5 < (↑p.ns0 : Int)))
 (sel (inB s.is5 p.ns0)
  (sel ((Nat.ble 4 (len (p.gs0 s.is5.toNat))) && (okCKs [(CK.int .i64), (CK.int .i64), (CK.int .i64), (CK.int .i64)] (p.gs0 s.is5.toNat)))
  (sel t1
  (some (.normal, h37_0_0 p ⟨(W (s.is5 + 1))⟩))
  (some (x37_0_1 p s)))
  none)
  none)
 (some (x37_0_2 p s))) := by subst ht1; kernel_rfl
noncomputable def su37_0_0 (p : Pg37_0) (s : Sg37_0) : Stp Sg37_0 := let t1 := (p33 (⟨(toI (hdA (p.gs0 s.is5.toNat))), (toI (hdA (tlA (p.gs0 s.is5.toNat)))), (toI (hdA (tlA (tlA (p.gs0 s.is5.toNat))))), (toI (hdA (tlA (tlA (tlA (p.gs0 s.is5.toNat))))))⟩ : Ent) (⟨p.ih0_0_0, p.ih0_0_1, p.ih0_0_2, p.ih0_0_3⟩ : Ent)); (sel (decide (s.is5 < (↑p.ns0 : Int)))
 (sel (inB s.is5 p.ns0)
  (sel ((Nat.ble 4 (len (p.gs0 s.is5.toNat))) && (okCKs [(CK.int .i64), (CK.int .i64), (CK.int .i64), (CK.int .i64)] (p.gs0 s.is5.toNat)))
  (sel t1
  (.next ⟨(W (s.is5 + 1))⟩)
  (.exit 1))
  .fail)
  .fail)
 (.exit 2))
theorem q37_0_0 (p : Pg37_0) (s : Sg37_0) (c1 c2 c3 c4 : Bool)  : (fo37_0 p s) (sel c1
 (sel c2
  (sel c3
  (sel c4
  (.next ⟨(W (s.is5 + 1))⟩)
  (.exit 1))
  .fail)
  .fail)
 (.exit 2)) = (sel c1
 (sel c2
  (sel c3
  (sel c4
  (some (.normal, h37_0_0 p ⟨(W (s.is5 + 1))⟩))
  (some (x37_0_1 p s)))
  none)
  none)
 (some (x37_0_2 p s))) := (stpSel (f := (fo37_0 p s)) (stpSel (f := (fo37_0 p s)) (stpSel (f := (fo37_0 p s)) (stpSel (f := (fo37_0 p s)) rfl rfl) rfl) rfl) rfl)
theorem sp37_0_0 (p : Pg37_0) (s : Sg37_0) : (roundE (En tb37) 0 [0, 3, 5] (.pc l37_0) (h37_0_0 p s)).run = fo37_0 p s (su37_0_0 p s) := (rd37_0_0 p s _ rfl).trans (q37_0_0 p s _ _ _ _).symm
noncomputable def st37_0 (p : Pg37_0) (s : Sg37_0) : Stp Sg37_0 := (su37_0_0 p s)
theorem sp37_0 (p : Pg37_0) (s : Sg37_0) : (roundE (En tb37) 0 [0, 3, 5] (.pc l37_0) (en37_0 p s)).run = fo37_0 p s (st37_0 p s) := by
  show (roundE (En tb37) 0 [0, 3, 5] (.pc l37_0) (h37_0_0 p s)).run = fo37_0 p s (su37_0_0 p s)
  exact sp37_0_0 p s
noncomputable def al37_0_0 : Alt Pg37_0 Sg37_0 := ⟨[(.s (.tree 4)), (.s .unk), (.s .unk), (.s (.ptr 0 0 0 0)), (.s .unk), (.s (.int .i64)), (.s .unk), (.s .unk), (.s .unk), (.s .unk), (.s .unk), (.s .unk), (.s .unk), (.s .unk), (.s .unk), (.s .unk), (.s .unk), (.s .unk), (.s .unk), (.s .unk), (.s .unk)], [⟨0, 4, true, (some [[(.int .i64), (.int .i64), (.int .i64), (.int .i64)]])⟩], fun a H => (⟨(toN (slotA a 0)), (toG (slotA a 0)), (toI (hdA (dropN (getRow (elsA H 0) 0) 0))), (toI (hdA (dropN (getRow (elsA H 0) 0) 1))), (toI (hdA (dropN (getRow (elsA H 0) 0) 2))), (toI (hdA (dropN (getRow (elsA H 0) 0) 3)))⟩, ⟨(toI (slotA a 5))⟩)⟩
theorem la37_0_0 (a : List AVal) (H : List ABlk) : (⟨asSls al37_0_0.sh a, asBks al37_0_0.bl H⟩ : St) = en37_0 (al37_0_0.rd (asSls al37_0_0.sh a) (asBks al37_0_0.bl H)).1 (al37_0_0.rd (asSls al37_0_0.sh a) (asBks al37_0_0.bl H)).2 := by kernel_rfl
noncomputable def as37_0 : List (Alt Pg37_0 Sg37_0) := [al37_0_0]
theorem lo37_0 (s : St) : Below ((loopL 0 [0, 3, 5] as37_0 st37_0 xs37_0) s) (exec (En tb37) 0 (.loop [0, 3, 5] l37_0) s) :=
  loopL_below (E := En tb37) (enc := en37_0) (body := (.pc l37_0)) (alts := as37_0) (xs := xs37_0) (.pc _) rfl (.cons la37_0_0 .nil) (.cons nx37_0_1 (.cons nx37_0_2 .nil)) (fun p s => sp37_0 p s) s
noncomputable def ps37 : PS := (.seq (.pc (.ops [(o 3 (.box (.t 1))), (o 4 (.mv (ci 0)))])) (.seq (.pc (.ops [(o 5 (.mv (ci 0)))])) (.seq (.block 0 (.sum (loopL 0 [0, 3, 5] as37_0 st37_0 xs37_0))) (.pc (.seq (.ops [(o 20 (.mv (.t 5))), (o 4 (.mv (.t 20)))]) .ret)))))
theorem sd37 : Stands (En tb37) 0 ps37 pf37.body := (.seq (.pc _) (.seq (.pc _) (.seq (.block _ (.sum lo37_0)) (.pc _))))
noncomputable def p37 (x : List Ent) (y : Ent) : Int := let t1 := (lp (st37_0 (⟨(List.length x), (fun k => rE (gE x k)), y.t, y.o, y.l, y.h⟩ : Pg37_0)) (⟨0⟩ : Sg37_0)); t1.2.is5
noncomputable def g37 (x : List Ent) (y : Ent) : Bool := let t1 := (lp (st37_0 (⟨(List.length x), (fun k => rE (gE x k)), y.t, y.o, y.l, y.h⟩ : Pg37_0)) (⟨0⟩ : Sg37_0)); ((Nat.beq t1.1 1) || (Nat.beq t1.1 2))
noncomputable def S37 : Sum := sum2 cEL cN (fun x y => DT.guard (g37 x y) (.ret (i (p37 x y), [])))
theorem r37 (x : List Ent) (y : Ent) (t1 : Nat × Sg37_0) (ht1 : t1 = (lp (st37_0 (⟨(List.length x), (fun k => rE (gE x k)), y.t, y.o, y.l, y.h⟩ : Pg37_0)) (⟨0⟩ : Sg37_0))) : (runS (En tb37) pf37 ps37 [cEL.enc x, cN.enc y] []).run = (sel (Nat.beq t1.1 1)
 (some ((i t1.2.is5), []))
 (sel (Nat.beq t1.1 2)
  (some ((i t1.2.is5), []))
  none)) := by subst ht1; kernel_rfl
theorem m37 (c1 c2 : Bool) (x : List Ent) (y : Ent) (t1 : Nat × Sg37_0) : ((sel c1
 (some ((i t1.2.is5), []))
 (sel c2
  (some ((i t1.2.is5), []))
  none)) : Option (AVal × List ABlk)) = (sel (c1 || c2) (some ((i t1.2.is5), [])) none) := by
 cases c1
 ·
  cases c2
  ·
   rfl
  ·
   rfl
 ·
  rfl
theorem k37 (x : List Ent) (y : Ent) (t1 : Nat × Sg37_0) (ht1 : t1 = (lp (st37_0 (⟨(List.length x), (fun k => rE (gE x k)), y.t, y.o, y.l, y.h⟩ : Pg37_0)) (⟨0⟩ : Sg37_0))) : (DT.guard (g37 x y) (.ret (i (p37 x y), [])) : DT (AVal × List ABlk)).run = (sel ((Nat.beq t1.1 1) || (Nat.beq t1.1 2)) (some ((i t1.2.is5), [])) none) := by subst ht1; rw [run_grd]; kernel_rfl
theorem ok37 : FnOk Try.prog G 37 S37 := sum2_ok (b37 (E := En tb37) rfl (tdeps tbo37)) fun x y r h => runS_below sd37 _ (((r37 x y _ rfl).trans (m37 _ _ x y _)).trans ((k37 x y _ rfl).symm.trans h))
noncomputable def tb38 : List (Nat × Sum) := []
theorem tbo38 : TblOk Try.prog G tb38 := trivial
noncomputable def p38 (x : List Ent) (y : Int) (z : Ent) : Bool := ((decide (y < (↑(List.length x) : Int))) && (((gE x y.toNat).t == z.t) && ((gE x y.toNat).o == z.o)))
noncomputable def g38 (x : List Ent) (y : Int) (z : Ent) : Bool := ((!(decide (y < (↑(List.length x) : Int)))) || (inB y (List.length x)))
noncomputable def S38 : Sum := sum3 cEL cI cN (fun x y z => DT.guard (g38 x y z) (.ret (b (p38 x y z), [])))
theorem r38 (x : List Ent) (y : Int) (z : Ent)  : (runFn (En tb38) pf38 [cEL.enc x, cI.enc y, cN.enc z] []).run = (sel (decide (y < (↑(List.length x) : Int)))
 (sel (inB y (List.length x))
  (sel ((gE x y.toNat).t == z.t)
   (sel (inB y (List.length x))
    (some ((b ((gE x y.toNat).o == z.o)), []))
    none)
   (some ((b false), [])))
  none)
 (some ((b false), []))) := by kernel_rfl
theorem m38 (c1 c2 c3 : Bool) (x : List Ent) (y : Int) (z : Ent)  : ((sel c1
 (sel c2
  (sel c3
   (sel c2
    (some ((b ((gE x y.toNat).o == z.o)), []))
    none)
   (some ((b false), [])))
  none)
 (some ((b false), []))) : Option (AVal × List ABlk)) = (sel ((!c1) || c2) (some ((b (c1 && (c3 && ((gE x y.toNat).o == z.o)))), [])) none) := by
 cases c1
 ·
  rfl
 ·
  cases c2
  ·
   rfl
  ·
   cases c3
   ·
    rfl
   ·
    rfl
theorem k38 (x : List Ent) (y : Int) (z : Ent)  : (DT.guard (g38 x y z) (.ret (b (p38 x y z), [])) : DT (AVal × List ABlk)).run = (sel ((!(decide (y < (↑(List.length x) : Int)))) || (inB y (List.length x))) (some ((b ((decide (y < (↑(List.length x) : Int))) && (((gE x y.toNat).t == z.t) && ((gE x y.toNat).o == z.o)))), [])) none) := by rw [run_grd]; kernel_rfl
theorem ok38 : FnOk Try.prog G 38 S38 := sum3_ok (b38 (E := En tb38) rfl (tdeps tbo38)) fun x y z r h => ((r38 x y z ).trans (m38 _ _ _ x y z )).trans ((k38 x y z ).symm.trans h)
noncomputable def tb16 : List (Nat × Sum) := []
theorem tbo16 : TblOk Try.prog G tb16 := trivial
structure Pg16_0 where
  ns0 : Nat
  gs0 : Nat → List AVal
  ns1 : Nat
  gs1 : Nat → List AVal
structure Sg16_0 where
  is5 : Int
noncomputable def h16_0_0 (p : Pg16_0) (s : Sg16_0) : St := ⟨[(.tree 4 p.ns0 p.gs0), (.tree 4 p.ns1 p.gs1), .unk, .unk, .unk, (i s.is5), .unk, .unk, .unk, .unk, .unk, .unk, .unk, .unk, .unk, .unk, .unk, .unk, .unk, .unk, .unk, .unk, .unk, .unk, .unk, .unk], []⟩
noncomputable def en16_0 (p : Pg16_0) (s : Sg16_0) : St := (h16_0_0 p s)
noncomputable def x16_0_1 (p : Pg16_0) (s : Sg16_0) : XExit × St := (.ret, ⟨[(.tree 4 p.ns0 p.gs0), (.tree 4 p.ns1 p.gs1), .unk, .unk, (b false), (i s.is5), .unk, .unk, .unk, .unk, .unk, (i s.is5), (.tree 4 p.ns0 p.gs0), (i (↑p.ns0 : Int)), (b (decide (s.is5 < (↑p.ns0 : Int)))), .unk, .unk, (.tree 4 p.ns0 p.gs0), (i s.is5), (.tptr (p.gs0 s.is5.toNat)), (.agg [(i (toI (hdA (p.gs0 s.is5.toNat)))), (i (toI (hdA (tlA (p.gs0 s.is5.toNat))))), (i (toI (hdA (tlA (tlA (p.gs0 s.is5.toNat)))))), (i (toI (hdA (tlA (tlA (tlA (p.gs0 s.is5.toNat)))))))]), (.tree 4 p.ns1 p.gs1), (i s.is5), (.tptr (p.gs1 s.is5.toNat)), (.agg [(i (toI (hdA (p.gs1 s.is5.toNat)))), (i (toI (hdA (tlA (p.gs1 s.is5.toNat))))), (i (toI (hdA (tlA (tlA (p.gs1 s.is5.toNat)))))), (i (toI (hdA (tlA (tlA (tlA (p.gs1 s.is5.toNat)))))))]), (b (!(((toI (hdA (p.gs0 s.is5.toNat))) == (toI (hdA (p.gs1 s.is5.toNat)))) && (((toI (hdA (tlA (p.gs0 s.is5.toNat)))) == (toI (hdA (tlA (p.gs1 s.is5.toNat))))) && (((toI (hdA (tlA (tlA (p.gs0 s.is5.toNat))))) == (toI (hdA (tlA (tlA (p.gs1 s.is5.toNat)))))) && (((toI (hdA (tlA (tlA (tlA (p.gs0 s.is5.toNat)))))) == (toI (hdA (tlA (tlA (tlA (p.gs1 s.is5.toNat))))))) && true))))))], []⟩)
theorem nx16_0_1 (p : Pg16_0) (s : Sg16_0) : (x16_0_1 p s).1 ≠ .normal := fun h => by
  have h : XExit.ret = XExit.normal := h
  cases h
noncomputable def x16_0_2 (p : Pg16_0) (s : Sg16_0) : XExit × St := (.exit 0, ⟨[(.tree 4 p.ns0 p.gs0), (.tree 4 p.ns1 p.gs1), .unk, .unk, .unk, (i s.is5), .unk, .unk, .unk, .unk, .unk, (i s.is5), (.tree 4 p.ns0 p.gs0), (i (↑p.ns0 : Int)), (b (decide (s.is5 < (↑p.ns0 : Int)))), .unk, .unk, .unk, .unk, .unk, .unk, .unk, .unk, .unk, .unk, .unk], []⟩)
theorem nx16_0_2 (p : Pg16_0) (s : Sg16_0) : (x16_0_2 p s).1 ≠ .normal := fun h => by
  have h : XExit.exit 0 = XExit.normal := h
  cases h
noncomputable def xs16_0 : List (Pg16_0 → Sg16_0 → XExit × St) := [x16_0_1, x16_0_2]
@[reducible] def l16_0 : PC := (.seq (.seq (.ops [(o 11 (.mv (.t 5))), (o 12 (.mv (.t 0))), (o 13 (.len (.t 12))), (o 14 (.bin .lss (.t 11) (.t 13)))]) (.cond (.t 14) .skip (.exit 0))) (.seq (.block 1 (.seq (.draw [17, 18, 19, 20, 21, 22, 23, 24, 25] [] [(o 17 (.mv (.t 0))), (o 18 (.mv (.t 5))), (o 19 (.idxS 4 (.t 17) (.t 18))), (o 20 (.load (ki 4) 4 true (.t 19))), (o 21 (.mv (.t 1))), (o 22 (.mv (.t 5))), (o 23 (.idxS 4 (.t 21) (.t 22))), (o 24 (.load (ki 4) 4 true (.t 23))), (o 25 (.eqc true [(0, (.int .i64)), (1, (.int .i64)), (2, (.int .i64)), (3, (.int .i64))] (.t 20) (.t 24)))] []) (.cond (.t 25) (.seq (.ops [(o 4 (.mv (cb false)))]) .ret) .skip))) (.ops [(o 15 (.mv (.t 5))), (o 16 (.bin .add (.t 15) (ci 1))), (o 5 (.mv (.t 16)))])))
noncomputable def fo16_0 (p : Pg16_0) (s : Sg16_0) : Stp Sg16_0 → Option (XExit × St) := onStp (fun s' => some (.normal, en16_0 p s')) (fun t => xAt xs16_0 p s t 1) none
theorem rd16_0_0 (p : Pg16_0) (s : Sg16_0)  : (roundE (En tb16) 0 [0, 1, 5] (.pc l16_0) (h16_0_0 p s)).run = (sel (decide (s.is5 < (↑p.ns0 : Int)))
 (sel (inB s.is5 p.ns0)
  (sel ((Nat.ble 4 (len (p.gs0 s.is5.toNat))) && (okCKs [(CK.int .i64), (CK.int .i64), (CK.int .i64), (CK.int .i64)] (p.gs0 s.is5.toNat)))
  (sel (inB s.is5 p.ns1)
  (sel ((Nat.ble 4 (len (p.gs1 s.is5.toNat))) && (okCKs [(CK.int .i64), (CK.int .i64), (CK.int .i64), (CK.int .i64)] (p.gs1 s.is5.toNat)))
  (sel (!(((toI (hdA (p.gs0 s.is5.toNat))) == (toI (hdA (p.gs1 s.is5.toNat)))) && (((toI (hdA (tlA (p.gs0 s.is5.toNat)))) == (toI (hdA (tlA (p.gs1 s.is5.toNat))))) && (((toI (hdA (tlA (tlA (p.gs0 s.is5.toNat))))) == (toI (hdA (tlA (tlA (p.gs1 s.is5.toNat)))))) && (((toI (hdA (tlA (tlA (tlA (p.gs0 s.is5.toNat)))))) == (toI (hdA (tlA (tlA (tlA (p.gs1 s.is5.toNat))))))) && true)))))
  (some (x16_0_1 p s))
  (some (.normal, h16_0_0 p ⟨(W (s.is5 + 1))⟩)))
  none)
  none)
  none)
  none)
 (some (x16_0_2 p s))) := by kernel_rfl
noncomputable def su16_0_0 (p : Pg16_0) (s : Sg16_0) : Stp Sg16_0 := (sel (decide (s.is5 < (↑p.ns0 : Int)))
 (sel (inB s.is5 p.ns0)
  (sel ((Nat.ble 4 (len (p.gs0 s.is5.toNat))) && (okCKs [(CK.int .i64), (CK.int .i64), (CK.int .i64), (CK.int .i64)] (p.gs0 s.is5.toNat)))
  (sel (inB s.is5 p.ns1)
  (sel ((Nat.ble 4 (len (p.gs1 s.is5.toNat))) && (okCKs [(CK.int .i64), (CK.int .i64), (CK.int .i64), (CK.int .i64)] (p.gs1 s.is5.toNat)))
  (sel (!(((toI (hdA (p.gs0 s.is5.toNat))) == (toI (hdA (p.gs1 s.is5.toNat)))) && (((toI (hdA (tlA (p.gs0 s.is5.toNat)))) == (toI (hdA (tlA (p.gs1 s.is5.toNat))))) && (((toI (hdA (tlA (tlA (p.gs0 s.is5.toNat))))) == (toI (hdA (tlA (tlA (p.gs1 s.is5.toNat)))))) && (((toI (hdA (tlA (tlA (tlA (p.gs0 s.is5.toNat)))))) == (toI (hdA (tlA (tlA (tlA (p.gs1 s.is5.toNat))))))) && true)))))
  (.exit 1)
  (.next ⟨(W (s.is5 + 1))⟩))
  .fail)
  .fail)
  .fail)
  .fail)
 (.exit 2))
theorem q16_0_0 (p : Pg16_0) (s : Sg16_0) (c1 c2 c3 c4 c5 c6 : Bool)  : (fo16_0 p s) (sel c1
 (sel c2
  (sel c3
  (sel c4
  (sel c5
  (sel c6
  (.exit 1)
  (.next ⟨(W (s.is5 + 1))⟩))
  .fail)
  .fail)
  .fail)
  .fail)
 (.exit 2)) = (sel c1
 (sel c2
  (sel c3
  (sel c4
  (sel c5
  (sel c6
  (some (x16_0_1 p s))
  (some (.normal, h16_0_0 p ⟨(W (s.is5 + 1))⟩)))
  none)
  none)
  none)
  none)
 (some (x16_0_2 p s))) := (stpSel (f := (fo16_0 p s)) (stpSel (f := (fo16_0 p s)) (stpSel (f := (fo16_0 p s)) (stpSel (f := (fo16_0 p s)) (stpSel (f := (fo16_0 p s)) (stpSel (f := (fo16_0 p s)) rfl rfl) rfl) rfl) rfl) rfl) rfl)
theorem sp16_0_0 (p : Pg16_0) (s : Sg16_0) : (roundE (En tb16) 0 [0, 1, 5] (.pc l16_0) (h16_0_0 p s)).run = fo16_0 p s (su16_0_0 p s) := (rd16_0_0 p s ).trans (q16_0_0 p s _ _ _ _ _ _).symm
noncomputable def st16_0 (p : Pg16_0) (s : Sg16_0) : Stp Sg16_0 := (su16_0_0 p s)
theorem sp16_0 (p : Pg16_0) (s : Sg16_0) : (roundE (En tb16) 0 [0, 1, 5] (.pc l16_0) (en16_0 p s)).run = fo16_0 p s (st16_0 p s) := by
  show (roundE (En tb16) 0 [0, 1, 5] (.pc l16_0) (h16_0_0 p s)).run = fo16_0 p s (su16_0_0 p s)
  exact sp16_0_0 p s
noncomputable def al16_0_0 : Alt Pg16_0 Sg16_0 := ⟨[(.s (.tree 4)), (.s (.tree 4)), (.s .unk), (.s .unk), (.s .unk), (.s (.int .i64)), (.s .unk), (.s .unk), (.s .unk), (.s .unk), (.s .unk), (.s .unk), (.s .unk), (.s .unk), (.s .unk), (.s .unk), (.s .unk), (.s .unk), (.s .unk), (.s .unk), (.s .unk), (.s .unk), (.s .unk), (.s .unk), (.s .unk), (.s .unk)], [], fun a H => (⟨(toN (slotA a 0)), (toG (slotA a 0)), (toN (slotA a 1)), (toG (slotA a 1))⟩, ⟨(toI (slotA a 5))⟩)⟩
theorem la16_0_0 (a : List AVal) (H : List ABlk) : (⟨asSls al16_0_0.sh a, asBks al16_0_0.bl H⟩ : St) = en16_0 (al16_0_0.rd (asSls al16_0_0.sh a) (asBks al16_0_0.bl H)).1 (al16_0_0.rd (asSls al16_0_0.sh a) (asBks al16_0_0.bl H)).2 := by kernel_rfl
noncomputable def as16_0 : List (Alt Pg16_0 Sg16_0) := [al16_0_0]
theorem lo16_0 (s : St) : Below ((loopL 0 [0, 1, 5] as16_0 st16_0 xs16_0) s) (exec (En tb16) 0 (.loop [0, 1, 5] l16_0) s) :=
  loopL_below (E := En tb16) (enc := en16_0) (body := (.pc l16_0)) (alts := as16_0) (xs := xs16_0) (.pc _) rfl (.cons la16_0_0 .nil) (.cons nx16_0_1 (.cons nx16_0_2 .nil)) (fun p s => sp16_0 p s) s
noncomputable def ps16 : PS := (.seq (.pc (.ops [(o 4 (.mv (cb false)))])) (.seq (.pc (.seq (.ops [(o 6 (.mv (.t 0))), (o 7 (.len (.t 6))), (o 8 (.mv (.t 1))), (o 9 (.len (.t 8))), (o 10 (.bin .neq (.t 7) (.t 9)))]) (.cond (.t 10) (.seq (.ops [(o 4 (.mv (cb false)))]) .ret) .skip))) (.seq (.seq (.pc (.ops [(o 5 (.mv (ci 0)))])) (.block 0 (.sum (loopL 0 [0, 1, 5] as16_0 st16_0 xs16_0)))) (.pc (.seq (.ops [(o 4 (.mv (cb true)))]) .ret)))))
theorem sd16 : Stands (En tb16) 0 ps16 pf16.body := (.seq (.pc _) (.seq (.pc _) (.seq (.seq (.pc _) (.block _ (.sum lo16_0))) (.pc _))))
noncomputable def p16 (x : List Ent) (y : List Ent) : Bool := let t1 := (lp (st16_0 (⟨(List.length x), (fun k => rE (gE x k)), (List.length y), (fun k => rE (gE y k))⟩ : Pg16_0)) (⟨0⟩ : Sg16_0)); ((!((↑(List.length x) : Int) != (↑(List.length y) : Int))) && (!(Nat.beq t1.1 1)))
noncomputable def g16 (x : List Ent) (y : List Ent) : Bool := let t1 := (lp (st16_0 (⟨(List.length x), (fun k => rE (gE x k)), (List.length y), (fun k => rE (gE y k))⟩ : Pg16_0)) (⟨0⟩ : Sg16_0)); (((↑(List.length x) : Int) != (↑(List.length y) : Int)) || ((Nat.beq t1.1 1) || (Nat.beq t1.1 2)))
noncomputable def S16 : Sum := sum2 cEL cEL (fun x y => DT.guard (g16 x y) (.ret (b (p16 x y), [])))
theorem r16 (x : List Ent) (y : List Ent) (t1 : Nat × Sg16_0) (ht1 : t1 = (lp (st16_0 (⟨(List.length x), (fun k => rE (gE x k)), (List.length y), (fun k => rE (gE y k))⟩ : Pg16_0)) (⟨0⟩ : Sg16_0))) : (runS (En tb16) pf16 ps16 [cEL.enc x, cEL.enc y] []).run = (sel ((↑(List.length x) : Int) != (↑(List.length y) : Int))
 (some ((b false), []))
 (sel (Nat.beq t1.1 1)
  (some ((b false), []))
  (sel (Nat.beq t1.1 2)
   (some ((b true), []))
   none))) := by subst ht1; kernel_rfl
theorem m16 (c1 c2 c3 : Bool) (x : List Ent) (y : List Ent)  : ((sel c1
 (some ((b false), []))
 (sel c2
  (some ((b false), []))
  (sel c3
   (some ((b true), []))
   none))) : Option (AVal × List ABlk)) = (sel (c1 || (c2 || c3)) (some ((b ((!c1) && (!c2))), [])) none) := by
 cases c1
 ·
  cases c2
  ·
   cases c3
   ·
    rfl
   ·
    rfl
  ·
   rfl
 ·
  rfl
theorem k16 (x : List Ent) (y : List Ent) (t1 : Nat × Sg16_0) (ht1 : t1 = (lp (st16_0 (⟨(List.length x), (fun k => rE (gE x k)), (List.length y), (fun k => rE (gE y k))⟩ : Pg16_0)) (⟨0⟩ : Sg16_0))) : (DT.guard (g16 x y) (.ret (b (p16 x y), [])) : DT (AVal × List ABlk)).run = (sel (((↑(List.length x) : Int) != (↑(List.length y) : Int)) || ((Nat.beq t1.1 1) || (Nat.beq t1.1 2))) (some ((b ((!((↑(List.length x) : Int) != (↑(List.length y) : Int))) && (!(Nat.beq t1.1 1)))), [])) none) := by subst ht1; rw [run_grd]; kernel_rfl
theorem ok16 : FnOk Try.prog G 16 S16 := sum2_ok (b16 (E := En tb16) rfl (tdeps tbo16)) fun x y r h => runS_below sd16 _ (((r16 x y _ rfl).trans (m16 _ _ _ x y )).trans ((k16 x y _ rfl).symm.trans h))
structure Ag46 where
  ns0 : Nat
  gs0 : Nat → List AVal
noncomputable def tb46u : List (Nat × Sum) := [(30, S30)]
theorem tbo46u : TblOk Try.prog G tb46u := ⟨ok30, trivial⟩
structure Pg46_0 where
  ns0 : Nat
  gs0 : Nat → List AVal
  is7 : Int
structure Sg46_0 where
  is8 : Int
noncomputable def h46_0_0 (p : Pg46_0) (s : Sg46_0) : St := ⟨[(.tree 4 p.ns0 p.gs0), (.fn 30 []), .unk, .unk, .unk, .unk, .unk, (i p.is7), (i s.is8), .unk, .unk, .unk, .unk, .unk, .unk, .unk, .unk, .unk, .unk], []⟩
noncomputable def en46_0 (p : Pg46_0) (s : Sg46_0) : St := (h46_0_0 p s)
noncomputable def x46_0_1 (p : Pg46_0) (s : Sg46_0) : XExit × St := let t1 := (p30 (⟨(toI (hdA (p.gs0 s.is8.toNat))), (toI (hdA (tlA (p.gs0 s.is8.toNat)))), (toI (hdA (tlA (tlA (p.gs0 s.is8.toNat))))), (toI (hdA (tlA (tlA (tlA (p.gs0 s.is8.toNat))))))⟩ : Ent)); (.ret, ⟨[(.tree 4 p.ns0 p.gs0), (.fn 30 []), .unk, .unk, (i s.is8), (i s.is8), .unk, (i p.is7), (i s.is8), (b (decide (s.is8 < p.is7))), (i s.is8), (.fn 30 []), (.tree 4 p.ns0 p.gs0), (i s.is8), (.tptr (p.gs0 s.is8.toNat)), (.agg [(i (toI (hdA (p.gs0 s.is8.toNat)))), (i (toI (hdA (tlA (p.gs0 s.is8.toNat))))), (i (toI (hdA (tlA (tlA (p.gs0 s.is8.toNat)))))), (i (toI (hdA (tlA (tlA (tlA (p.gs0 s.is8.toNat)))))))]), (b t1), (i s.is8), .unk], []⟩)
theorem nx46_0_1 (p : Pg46_0) (s : Sg46_0) : (x46_0_1 p s).1 ≠ .normal := fun h => by
  have h : XExit.ret = XExit.normal := h
  cases h
noncomputable def x46_0_2 (p : Pg46_0) (s : Sg46_0) : XExit × St := (.exit 0, ⟨[(.tree 4 p.ns0 p.gs0), (.fn 30 []), .unk, .unk, .unk, .unk, .unk, (i p.is7), (i s.is8), (b (decide (s.is8 < p.is7))), .unk, .unk, .unk, .unk, .unk, .unk, .unk, .unk, .unk], []⟩)
theorem nx46_0_2 (p : Pg46_0) (s : Sg46_0) : (x46_0_2 p s).1 ≠ .normal := fun h => by
  have h : XExit.exit 0 = XExit.normal := h
  cases h
noncomputable def xs46_0 : List (Pg46_0 → Sg46_0 → XExit × St) := [x46_0_1, x46_0_2]
@[reducible] def l46_0 : PC := (.seq (.ops [(o 9 (.bin .lss (.t 8) (.t 7)))]) (.seq (.cond (.t 9) .skip (.exit 0)) (.seq (.block 1 (.seq (.ops [(o 10 (.mv (.t 8))), (o 5 (.mv (.t 10)))]) (.seq (.ops [(o 11 (.mv (.t 1))), (o 12 (.mv (.t 0))), (o 13 (.mv (.t 5))), (o 14 (.idxS 4 (.t 12) (.t 13))), (o 15 (.load (ki 4) 4 true (.t 14))), (o 16 (.calld (.t 11) [(.t 15)]))]) (.cond (.t 16) (.seq (.ops [(o 17 (.mv (.t 5))), (o 4 (.mv (.t 17)))]) .ret) .skip)))) (.ops [(o 18 (.bin .add (.t 8) (ci 1))), (o 8 (.mv (.t 18)))]))))
noncomputable def fo46_0 (p : Pg46_0) (s : Sg46_0) : Stp Sg46_0 → Option (XExit × St) := onStp (fun s' => some (.normal, en46_0 p s')) (fun t => xAt xs46_0 p s t 1) none
theorem rd46_0_0 (p : Pg46_0) (s : Sg46_0) (t1 : Bool) (ht1 : t1 = (p30 (⟨(toI (hdA (p.gs0 s.is8.toNat))), (toI (hdA (tlA (p.gs0 s.is8.toNat)))), (toI (hdA (tlA (tlA (p.gs0 s.is8.toNat))))), (toI (hdA (tlA (tlA (tlA (p.gs0 s.is8.toNat))))))⟩ : Ent))) : (roundE (En tb46u) 0 [0, 1, 7, 8] (.pc l46_0) (h46_0_0 p s)).run = (sel (decide (s.is8 < p.is7))
 (sel (inB s.is8 p.ns0)
  (sel ((Nat.ble 4 (len (p.gs0 s.is8.toNat))) && (okCKs [(CK.int .i64), (CK.int .i64), (CK.int .i64), (CK.int .i64)] (p.gs0 s.is8.toNat)))
  (sel t1
  (some (x46_0_1 p s))
  (some (.normal, h46_0_0 p ⟨(W (s.is8 + 1))⟩)))
  none)
  none)
 (some (x46_0_2 p s))) := by subst ht1; kernel_rfl
noncomputable def su46_0_0 (p : Pg46_0) (s : Sg46_0) : Stp Sg46_0 := let t1 := (p30 (⟨(toI (hdA (p.gs0 s.is8.toNat))), (toI (hdA (tlA (p.gs0 s.is8.toNat)))), (toI (hdA (tlA (tlA (p.gs0 s.is8.toNat))))), (toI (hdA (tlA (tlA (tlA (p.gs0 s.is8.toNat))))))⟩ : Ent)); (sel (decide (s.is8 < p.is7))
 (sel (inB s.is8 p.ns0)
  (sel ((Nat.ble 4 (len (p.gs0 s.is8.toNat))) && (okCKs [(CK.int .i64), (CK.int .i64), (CK.int .i64), (CK.int .i64)] (p.gs0 s.is8.toNat)))
  (sel t1
  (.exit 1)
  (.next ⟨(W (s.is8 + 1))⟩))
  .fail)
  .fail)
 (.exit 2))
theorem q46_0_0 (p : Pg46_0) (s : Sg46_0) (c1 c2 c3 c4 : Bool)  : (fo46_0 p s) (sel c1
 (sel c2
  (sel c3
  (sel c4
  (.exit 1)
  (.next ⟨(W (s.is8 + 1))⟩))
  .fail)
  .fail)
 (.exit 2)) = (sel c1
 (sel c2
  (sel c3
  (sel c4
  (some (x46_0_1 p s))
  (some (.normal, h46_0_0 p ⟨(W (s.is8 + 1))⟩)))
  none)
  none)
 (some (x46_0_2 p s))) := (stpSel (f := (fo46_0 p s)) (stpSel (f := (fo46_0 p s)) (stpSel (f := (fo46_0 p s)) (stpSel (f := (fo46_0 p s)) rfl rfl) rfl) rfl) rfl)
theorem sp46_0_0 (p : Pg46_0) (s : Sg46_0) : (roundE (En tb46u) 0 [0, 1, 7, 8] (.pc l46_0) (h46_0_0 p s)).run = fo46_0 p s (su46_0_0 p s) := (rd46_0_0 p s _ rfl).trans (q46_0_0 p s _ _ _ _).symm
noncomputable def st46_0 (p : Pg46_0) (s : Sg46_0) : Stp Sg46_0 := (su46_0_0 p s)
theorem sp46_0 (p : Pg46_0) (s : Sg46_0) : (roundE (En tb46u) 0 [0, 1, 7, 8] (.pc l46_0) (en46_0 p s)).run = fo46_0 p s (st46_0 p s) := by
  show (roundE (En tb46u) 0 [0, 1, 7, 8] (.pc l46_0) (h46_0_0 p s)).run = fo46_0 p s (su46_0_0 p s)
  exact sp46_0_0 p s
noncomputable def al46_0_0 : Alt Pg46_0 Sg46_0 := ⟨[(.s (.tree 4)), (.s (.fn 30)), (.s .unk), (.s .unk), (.s .unk), (.s .unk), (.s .unk), (.s (.int .i64)), (.s (.int .i64)), (.s .unk), (.s .unk), (.s .unk), (.s .unk), (.s .unk), (.s .unk), (.s .unk), (.s .unk), (.s .unk), (.s .unk)], [], fun a H => (⟨(toN (slotA a 0)), (toG (slotA a 0)), (toI (slotA a 7))⟩, ⟨(toI (slotA a 8))⟩)⟩
theorem la46_0_0 (a : List AVal) (H : List ABlk) : (⟨asSls al46_0_0.sh a, asBks al46_0_0.bl H⟩ : St) = en46_0 (al46_0_0.rd (asSls al46_0_0.sh a) (asBks al46_0_0.bl H)).1 (al46_0_0.rd (asSls al46_0_0.sh a) (asBks al46_0_0.bl H)).2 := by kernel_rfl
noncomputable def as46_0 : List (Alt Pg46_0 Sg46_0) := [al46_0_0]
theorem lo46_0 (s : St) : Below ((loopL 0 [0, 1, 7, 8] as46_0 st46_0 xs46_0) s) (exec (En tb46u) 0 (.loop [0, 1, 7, 8] l46_0) s) :=
  loopL_below (E := En tb46u) (enc := en46_0) (body := (.pc l46_0)) (alts := as46_0) (xs := xs46_0) (.pc _) rfl (.cons la46_0_0 .nil) (.cons nx46_0_1 (.cons nx46_0_2 .nil)) (fun p s => sp46_0 p s) s
noncomputable def ps46 : PS := (.seq (.pc (.ops [(o 4 (.mv (ci 0)))])) (.seq (.seq (.pc (.ops [(o 6 (.mv (.t 0))), (o 7 (.len (.t 6))), (o 8 (.mv (ci 0)))])) (.block 0 (.sum (loopL 0 [0, 1, 7, 8] as46_0 st46_0 xs46_0)))) (.pc (.seq (.ops [(o 4 (.mv (ci (-1))))]) .ret))))
theorem sd46 : Stands (En tb46u) 0 ps46 pf46.body := (.seq (.pc _) (.seq (.seq (.pc _) (.block _ (.sum lo46_0))) (.pc _)))
structure Rg46 where
  alt : Nat
  is0 : Int
noncomputable def p46u (x : Ag46) : Rg46 := let t1 := (lp (st46_0 (⟨x.ns0, x.gs0, (↑x.ns0 : Int)⟩ : Pg46_0)) (⟨0⟩ : Sg46_0)); (sel (Nat.beq t1.1 1)
 (⟨1, t1.2.is8⟩ : Rg46)
 (sel (Nat.beq t1.1 2)
  (⟨1, (-1)⟩ : Rg46)
  (⟨0, 0⟩ : Rg46)))
noncomputable def ko46 (x : Ag46) (r : Rg46) : DT (AVal × List ABlk) := (.ite (Nat.beq r.alt 1) (.ret ((i r.is0), [])) .fail)
noncomputable def ea46 (x : Ag46) : St := ⟨[(.tree 4 x.ns0 x.gs0), (.fn 30 [])], []⟩
noncomputable def aa46 : Alt Ag46 Unit := ⟨[(.s (.tree 4)), (.s (.fn 30))], [], fun a H => (⟨(toN (slotA a 0)), (toG (slotA a 0))⟩, ())⟩
theorem ala46 (a : List AVal) (H : List ABlk) : (⟨asSls aa46.sh a, asBks aa46.bl H⟩ : St) = ea46 (aa46.rd (asSls aa46.sh a) (asBks aa46.bl H)).1 := by kernel_rfl
noncomputable def S46u : Sum := sumA aa46 (fun x => ko46 x (p46u x))
theorem r46 (x : Ag46) (t1 : Nat × Sg46_0) (ht1 : t1 = (lp (st46_0 (⟨x.ns0, x.gs0, (↑x.ns0 : Int)⟩ : Pg46_0)) (⟨0⟩ : Sg46_0))) : (runS (En tb46u) pf46 ps46 [(.tree 4 x.ns0 x.gs0), (.fn 30 [])] []).run = (sel (Nat.beq t1.1 1)
 (some ((i t1.2.is8), []))
 (sel (Nat.beq t1.1 2)
  (some ((i (-1)), []))
  none)) := by subst ht1; kernel_rfl
noncomputable def fo46 (x : Ag46) : Rg46 → Option (AVal × List ABlk) := fun r => (ko46 x r).run
theorem m46 (x : Ag46) (c1 c2 : Bool) (t1 : Nat × Sg46_0) : (fo46 x) (sel c1
 (⟨1, t1.2.is8⟩ : Rg46)
 (sel c2
  (⟨1, (-1)⟩ : Rg46)
  (⟨0, 0⟩ : Rg46))) = (sel c1
 (some ((i t1.2.is8), []))
 (sel c2
  (some ((i (-1)), []))
  none)) := (stpSel (f := (fo46 x)) rfl (stpSel (f := (fo46 x)) rfl rfl))
theorem ok46u : FnOk Try.prog G 46 S46u := sumA_ok (enc := ea46) ala46 (b46 (E := En tb46u) rfl (tdeps tbo46u)) fun x r h => runS_below sd46 _ (((r46 x _ rfl).trans (m46 x _ _ _).symm).trans h)
@[reducible] noncomputable def S46 : Sum := S46u
theorem ok46 : FnOk Try.prog G 46 S46 := ok46u
structure Ag29 where
  ns0 : Nat
  gs0 : Nat → List AVal
noncomputable def tb29u : List (Nat × Sum) := [(46, S46)]
theorem tbo29u : TblOk Try.prog G tb29u := ⟨ok46, trivial⟩
structure Rg29 where
  alt : Nat
  bs0 : Bool
noncomputable def p29u (x : Ag29) : Rg29 := let t1 := (p46u ⟨x.ns0, x.gs0⟩); (sel (Nat.beq t1.alt 1)
 (⟨1, (decide (t1.is0 ≥ 0))⟩ : Rg29)
 (⟨0, false⟩ : Rg29))
noncomputable def ko29 (x : Ag29) (r : Rg29) : DT (AVal × List ABlk) := (.ite (Nat.beq r.alt 1) (.ret ((b r.bs0), [])) .fail)
noncomputable def ea29 (x : Ag29) : St := ⟨[(.tree 4 x.ns0 x.gs0), (.fn 30 [])], []⟩
noncomputable def aa29 : Alt Ag29 Unit := ⟨[(.s (.tree 4)), (.s (.fn 30))], [], fun a H => (⟨(toN (slotA a 0)), (toG (slotA a 0))⟩, ())⟩
theorem ala29 (a : List AVal) (H : List ABlk) : (⟨asSls aa29.sh a, asBks aa29.bl H⟩ : St) = ea29 (aa29.rd (asSls aa29.sh a) (asBks aa29.bl H)).1 := by kernel_rfl
noncomputable def S29u : Sum := sumA aa29 (fun x => ko29 x (p29u x))
theorem r29 (x : Ag29) (t1 : Rg46) (ht1 : t1 = (p46u ⟨x.ns0, x.gs0⟩)) : (runFn (En tb29u) pf29 [(.tree 4 x.ns0 x.gs0), (.fn 30 [])] []).run = (sel (Nat.beq t1.alt 1)
 (some ((b (decide (t1.is0 ≥ 0))), []))
 none) := by subst ht1; kernel_rfl
noncomputable def fo29 (x : Ag29) : Rg29 → Option (AVal × List ABlk) := fun r => (ko29 x r).run
theorem m29 (x : Ag29) (c1 : Bool) (t1 : Rg46) : (fo29 x) (sel c1
 (⟨1, (decide (t1.is0 ≥ 0))⟩ : Rg29)
 (⟨0, false⟩ : Rg29)) = (sel c1
 (some ((b (decide (t1.is0 ≥ 0))), []))
 none) := (stpSel (f := (fo29 x)) rfl rfl)
theorem ok29u : FnOk Try.prog G 29 S29u := sumA_ok (enc := ea29) ala29 (b29 (E := En tb29u) rfl (tdeps tbo29u)) fun x r h => ((r29 x _ rfl).trans (m29 x _ _).symm).trans h
@[reducible] noncomputable def S29 : Sum := S29u
theorem ok29 : FnOk Try.prog G 29 S29 := ok29u
structure Ag34 where
  ns0 : Nat
  gs0 : Nat → List AVal
  is1_0 : Int
  is1_1 : Int
  is1_2 : Int
  is1_3 : Int
noncomputable def tb34u : List (Nat × Sum) := [(31, S31)]
theorem tbo34u : TblOk Try.prog G tb34u := ⟨ok31, trivial⟩
structure Pg34_0 where
  ns0 : Nat
  gs0 : Nat → List AVal
  is8 : Int
  ih0_0_0 : Int
  ih0_0_1 : Int
  ih0_0_2 : Int
  ih0_0_3 : Int
structure Sg34_0 where
  is9 : Int
  is10 : Int
noncomputable def h34_0_0 (p : Pg34_0) (s : Sg34_0) : St := ⟨[(.tree 4 p.ns0 p.gs0), .unk, (.fn 31 []), .unk, (.ptr 0 0 0 0), .unk, .unk, .unk, (i p.is8), (i s.is9), (i s.is10), .unk, .unk, .unk, .unk, .unk, .unk, .unk, .unk, .unk, .unk, .unk, .unk, .unk, .unk, .unk, .unk, .unk, .unk, .unk, .unk, .unk, .unk, .unk, .unk, .unk, .unk, .unk, .unk, .unk, .unk, .unk, .unk, .unk, .unk, .unk, .unk, .unk, .unk], [⟨0, 4, [[(i p.ih0_0_0), (i p.ih0_0_1), (i p.ih0_0_2), (i p.ih0_0_3)]], true, false, 0⟩]⟩
noncomputable def en34_0 (p : Pg34_0) (s : Sg34_0) : St := (h34_0_0 p s)
noncomputable def x34_0_1 (p : Pg34_0) (s : Sg34_0) : XExit × St := (.exit 0, ⟨[(.tree 4 p.ns0 p.gs0), .unk, (.fn 31 []), .unk, (.ptr 0 0 0 0), .unk, .unk, .unk, (i p.is8), (i s.is9), (i s.is10), .unk, .unk, .unk, .unk, (i s.is9), (i s.is10), (b (decide (s.is9 < s.is10))), .unk, .unk, .unk, .unk, .unk, .unk, .unk, .unk, .unk, .unk, .unk, .unk, .unk, .unk, .unk, .unk, .unk, .unk, .unk, .unk, .unk, .unk, .unk, .unk, .unk, .unk, .unk, .unk, .unk, .unk, .unk], [⟨0, 4, [[(i p.ih0_0_0), (i p.ih0_0_1), (i p.ih0_0_2), (i p.ih0_0_3)]], true, false, 0⟩]⟩)
theorem nx34_0_1 (p : Pg34_0) (s : Sg34_0) : (x34_0_1 p s).1 ≠ .normal := fun h => by
  have h : XExit.exit 0 = XExit.normal := h
  cases h
noncomputable def xs34_0 : List (Pg34_0 → Sg34_0 → XExit × St) := [x34_0_1]
@[reducible] def l34_0 : PC := (.seq (.seq (.ops [(o 15 (.mv (.t 9))), (o 16 (.mv (.t 10))), (o 17 (.bin .lss (.t 15) (.t 16)))]) (.cond (.t 17) .skip (.exit 0))) (.block 1 (.seq (.ops [(o 18 (.mv (.t 9))), (o 19 (.mv (.t 10))), (o 20 (.bin .add (.t 18) (.t 19))), (o 21 (.gen ⟨none, (.convert 3 82 (.tmp 20)), 82, "", #[], none⟩ [20])), (o 22 (.gen ⟨none, (.binOp .shr 82 (.tmp 21) (.const (.int .u64 1)) 82), 82, "", #[], none⟩ [21])), (o 23 (.gen ⟨none, (.convert 82 3 (.tmp 22)), 3, "", #[], none⟩ [22])), (o 11 (.mv (.t 23)))]) (.seq (.draw [24, 25, 26, 27, 28, 29, 30, 31] [] [(o 24 (.mv (.t 2))), (o 25 (.mv (.t 0))), (o 26 (.mv (.t 11))), (o 27 (.idxS 4 (.t 25) (.t 26))), (o 28 (.load (ki 4) 4 true (.t 27))), (o 29 (.load (ki 4) 4 true (.t 4))), (o 30 (.calld (.t 24) [(.t 28), (.t 29)])), (o 31 (.bin .lss (.t 30) (ci 0)))] []) (.cond (.t 31) (.ops [(o 32 (.mv (.t 11))), (o 33 (.bin .add (.t 32) (ci 1))), (o 9 (.mv (.t 33)))]) (.ops [(o 34 (.mv (.t 11))), (o 10 (.mv (.t 34)))]))))))
noncomputable def fo34_0 (p : Pg34_0) (s : Sg34_0) : Stp Sg34_0 → Option (XExit × St) := onStp (fun s' => some (.normal, en34_0 p s')) (fun t => xAt xs34_0 p s t 1) none
theorem rd34_0_0 (p : Pg34_0) (s : Sg34_0) (t1 : Int) (ht1 : t1 = (p31 (⟨(toI (hdA (p.gs0 (W (Int.fdiv (IntKind.wrap .u64 (W (s.is9 + s.is10))) 2)).toNat))), (toI (hdA (tlA (p.gs0 (W (Int.fdiv (IntKind.wrap .u64 (W (s.is9 + s.is10))) 2)).toNat)))), (toI (hdA (tlA (tlA (p.gs0 (W (Int.fdiv (IntKind.wrap .u64 (W (s.is9 + s.is10))) 2)).toNat))))), (toI (hdA (tlA (tlA (tlA (p.gs0 (W (Int.fdiv (IntKind.wrap .u64 (W (s.is9 + s.is10))) 2)).toNat))))))⟩ : Ent) (⟨p.ih0_0_0, p.ih0_0_1, p.ih0_0_2, p.ih0_0_3⟩ : Ent))) : (roundE (En tb34u) 0 [0, 2, 4, 8, 9, 10] (.pc l34_0) (h34_0_0 p s)).run = (sel (decide (s.is9 < s.is10))
 (sel (inB (W (Int.fdiv (IntKind.wrap .u64 (W (s.is9 + s.is10))) 2)) p.ns0)
  (sel ((Nat.ble 4 (len (p.gs0 (W (Int.fdiv (IntKind.wrap .u64 (W (s.is9 + s.is10))) 2)).toNat))) && (okCKs [(CK.int .i64), (CK.int .i64), (CK.int .i64), (CK.int .i64)] (p.gs0 (W (Int.fdiv (IntKind.wrap .u64 (W (s.is9 + s.is10))) 2)).toNat)))
  (sel (decide (t1 < 0))
  (some (.normal, h34_0_0 p ⟨(W ((W (Int.fdiv (IntKind.wrap .u64 (W (s.is9 + s.is10))) 2)) + 1)), s.is10⟩))
  (some (.normal, h34_0_0 p ⟨s.is9, (W (Int.fdiv (IntKind.wrap .u64 (W (s.is9 + s.is10))) 2))⟩)))
  none)
  none)
 (some (x34_0_1 p s))) := by subst ht1; kernel_rfl
noncomputable def su34_0_0 (p : Pg34_0) (s : Sg34_0) : Stp Sg34_0 := let t1 := (p31 (⟨(toI (hdA (p.gs0 (W (Int.fdiv (IntKind.wrap .u64 (W (s.is9 + s.is10))) 2)).toNat))), (toI (hdA (tlA (p.gs0 (W (Int.fdiv (IntKind.wrap .u64 (W (s.is9 + s.is10))) 2)).toNat)))), (toI (hdA (tlA (tlA (p.gs0 (W (Int.fdiv (IntKind.wrap .u64 (W (s.is9 + s.is10))) 2)).toNat))))), (toI (hdA (tlA (tlA (tlA (p.gs0 (W (Int.fdiv (IntKind.wrap .u64 (W (s.is9 + s.is10))) 2)).toNat))))))⟩ : Ent) (⟨p.ih0_0_0, p.ih0_0_1, p.ih0_0_2, p.ih0_0_3⟩ : Ent)); (sel (decide (s.is9 < s.is10))
 (sel (inB (W (Int.fdiv (IntKind.wrap .u64 (W (s.is9 + s.is10))) 2)) p.ns0)
  (sel ((Nat.ble 4 (len (p.gs0 (W (Int.fdiv (IntKind.wrap .u64 (W (s.is9 + s.is10))) 2)).toNat))) && (okCKs [(CK.int .i64), (CK.int .i64), (CK.int .i64), (CK.int .i64)] (p.gs0 (W (Int.fdiv (IntKind.wrap .u64 (W (s.is9 + s.is10))) 2)).toNat)))
  (sel (decide (t1 < 0))
  (.next ⟨(W ((W (Int.fdiv (IntKind.wrap .u64 (W (s.is9 + s.is10))) 2)) + 1)), s.is10⟩)
  (.next ⟨s.is9, (W (Int.fdiv (IntKind.wrap .u64 (W (s.is9 + s.is10))) 2))⟩))
  .fail)
  .fail)
 (.exit 1))
theorem q34_0_0 (p : Pg34_0) (s : Sg34_0) (c1 c2 c3 c4 : Bool)  : (fo34_0 p s) (sel c1
 (sel c2
  (sel c3
  (sel c4
  (.next ⟨(W ((W (Int.fdiv (IntKind.wrap .u64 (W (s.is9 + s.is10))) 2)) + 1)), s.is10⟩)
  (.next ⟨s.is9, (W (Int.fdiv (IntKind.wrap .u64 (W (s.is9 + s.is10))) 2))⟩))
  .fail)
  .fail)
 (.exit 1)) = (sel c1
 (sel c2
  (sel c3
  (sel c4
  (some (.normal, h34_0_0 p ⟨(W ((W (Int.fdiv (IntKind.wrap .u64 (W (s.is9 + s.is10))) 2)) + 1)), s.is10⟩))
  (some (.normal, h34_0_0 p ⟨s.is9, (W (Int.fdiv (IntKind.wrap .u64 (W (s.is9 + s.is10))) 2))⟩)))
  none)
  none)
 (some (x34_0_1 p s))) := (stpSel (f := (fo34_0 p s)) (stpSel (f := (fo34_0 p s)) (stpSel (f := (fo34_0 p s)) (stpSel (f := (fo34_0 p s)) rfl rfl) rfl) rfl) rfl)
theorem sp34_0_0 (p : Pg34_0) (s : Sg34_0) : (roundE (En tb34u) 0 [0, 2, 4, 8, 9, 10] (.pc l34_0) (h34_0_0 p s)).run = fo34_0 p s (su34_0_0 p s) := (rd34_0_0 p s _ rfl).trans (q34_0_0 p s _ _ _ _).symm
noncomputable def st34_0 (p : Pg34_0) (s : Sg34_0) : Stp Sg34_0 := (su34_0_0 p s)
theorem sp34_0 (p : Pg34_0) (s : Sg34_0) : (roundE (En tb34u) 0 [0, 2, 4, 8, 9, 10] (.pc l34_0) (en34_0 p s)).run = fo34_0 p s (st34_0 p s) := by
  show (roundE (En tb34u) 0 [0, 2, 4, 8, 9, 10] (.pc l34_0) (h34_0_0 p s)).run = fo34_0 p s (su34_0_0 p s)
  exact sp34_0_0 p s
noncomputable def al34_0_0 : Alt Pg34_0 Sg34_0 := ⟨[(.s (.tree 4)), (.s .unk), (.s (.fn 31)), (.s .unk), (.s (.ptr 0 0 0 0)), (.s .unk), (.s .unk), (.s .unk), (.s (.int .i64)), (.s (.int .i64)), (.s (.int .i64)), (.s .unk), (.s .unk), (.s .unk), (.s .unk), (.s .unk), (.s .unk), (.s .unk), (.s .unk), (.s .unk), (.s .unk), (.s .unk), (.s .unk), (.s .unk), (.s .unk), (.s .unk), (.s .unk), (.s .unk), (.s .unk), (.s .unk), (.s .unk), (.s .unk), (.s .unk), (.s .unk), (.s .unk), (.s .unk), (.s .unk), (.s .unk), (.s .unk), (.s .unk), (.s .unk), (.s .unk), (.s .unk), (.s .unk), (.s .unk), (.s .unk), (.s .unk), (.s .unk), (.s .unk)], [⟨0, 4, true, (some [[(.int .i64), (.int .i64), (.int .i64), (.int .i64)]])⟩], fun a H => (⟨(toN (slotA a 0)), (toG (slotA a 0)), (toI (slotA a 8)), (toI (hdA (dropN (getRow (elsA H 0) 0) 0))), (toI (hdA (dropN (getRow (elsA H 0) 0) 1))), (toI (hdA (dropN (getRow (elsA H 0) 0) 2))), (toI (hdA (dropN (getRow (elsA H 0) 0) 3)))⟩, ⟨(toI (slotA a 9)), (toI (slotA a 10))⟩)⟩
theorem la34_0_0 (a : List AVal) (H : List ABlk) : (⟨asSls al34_0_0.sh a, asBks al34_0_0.bl H⟩ : St) = en34_0 (al34_0_0.rd (asSls al34_0_0.sh a) (asBks al34_0_0.bl H)).1 (al34_0_0.rd (asSls al34_0_0.sh a) (asBks al34_0_0.bl H)).2 := by kernel_rfl
noncomputable def as34_0 : List (Alt Pg34_0 Sg34_0) := [al34_0_0]
theorem lo34_0 (s : St) : Below ((loopL 0 [0, 2, 4, 8, 9, 10] as34_0 st34_0 xs34_0) s) (exec (En tb34u) 0 (.loop [0, 2, 4, 8, 9, 10] l34_0) s) :=
  loopL_below (E := En tb34u) (enc := en34_0) (body := (.pc l34_0)) (alts := as34_0) (xs := xs34_0) (.pc _) rfl (.cons la34_0_0 .nil) (.cons nx34_0_1 .nil) (fun p s => sp34_0 p s) s
noncomputable def ps34 : PS := (.seq (.pc (.ops [(o 4 (.box (.t 1))), (o 6 (.mv (ci 0))), (o 7 (.mv (cb false)))])) (.seq (.pc (.ops [(o 12 (.mv (.t 0))), (o 13 (.len (.t 12))), (o 8 (.mv (.t 13)))])) (.seq (.pc (.ops [(o 14 (.mv (.t 8))), (o 9 (.mv (ci 0))), (o 10 (.mv (.t 14)))])) (.seq (.block 0 (.sum (loopL 0 [0, 2, 4, 8, 9, 10] as34_0 st34_0 xs34_0))) (.pc (.seq (.draw [35, 36, 37, 38, 39, 40, 41, 42, 43, 44, 45, 46, 47, 48, 6, 7] [] [(o 35 (.mv (.t 9))), (o 36 (.mv (.t 9))), (o 37 (.mv (.t 8))), (o 38 (.bin .lss (.t 36) (.t 37))), (o 39 (.mv (.t 38))), ⟨(.some 40), (.some (39, true)), [], (.mv (.t 2))⟩, ⟨(.some 41), (.some (39, true)), [], (.mv (.t 0))⟩, ⟨(.some 42), (.some (39, true)), [], (.mv (.t 9))⟩, ⟨(.some 43), (.some (39, true)), [], (.idxS 4 (.t 41) (.t 42))⟩, ⟨(.some 44), (.some (39, true)), [], (.load (ki 4) 4 true (.t 43))⟩, ⟨(.some 45), (.some (39, true)), [], (.load (ki 4) 4 true (.t 4))⟩, ⟨(.some 46), (.some (39, true)), [], (.calld (.t 40) [(.t 44), (.t 45)])⟩, ⟨(.some 47), (.some (39, true)), [], (.bin .eql (.t 46) (ci 0))⟩, (o 48 (.pick (.t 39) (.t 47) (cb false))), (o 6 (.mv (.t 35))), (o 7 (.mv (.t 48)))] [((.mv (.t 9)), (.calld (.t 40) [(.t 44), (.t 45)]))]) .ret))))))
theorem sd34 : Stands (En tb34u) 0 ps34 pf34.body := (.seq (.pc _) (.seq (.pc _) (.seq (.pc _) (.seq (.block _ (.sum lo34_0)) (.pc _)))))
structure Rg34 where
  alt : Nat
  is0 : Int
  bs1 : Bool
noncomputable def p34u (x : Ag34) : Rg34 := let t1 := (lp (st34_0 (⟨x.ns0, x.gs0, (↑x.ns0 : Int), x.is1_0, x.is1_1, x.is1_2, x.is1_3⟩ : Pg34_0)) (⟨0, (↑x.ns0 : Int)⟩ : Sg34_0)); let t2 := (p31 (⟨(toI (hdA (x.gs0 t1.2.is9.toNat))), (toI (hdA (tlA (x.gs0 t1.2.is9.toNat)))), (toI (hdA (tlA (tlA (x.gs0 t1.2.is9.toNat))))), (toI (hdA (tlA (tlA (tlA (x.gs0 t1.2.is9.toNat))))))⟩ : Ent) (⟨x.is1_0, x.is1_1, x.is1_2, x.is1_3⟩ : Ent)); (sel (Nat.beq t1.1 1)
 (sel (decide (t1.2.is9 < (↑x.ns0 : Int)))
  (sel (inB t1.2.is9 x.ns0)
  (sel ((Nat.ble 4 (len (x.gs0 t1.2.is9.toNat))) && (okCKs [(CK.int .i64), (CK.int .i64), (CK.int .i64), (CK.int .i64)] (x.gs0 t1.2.is9.toNat)))
  (⟨1, t1.2.is9, (t2 == 0)⟩ : Rg34)
  (⟨0, 0, false⟩ : Rg34))
  (⟨0, 0, false⟩ : Rg34))
  (⟨1, t1.2.is9, false⟩ : Rg34))
 (⟨0, 0, false⟩ : Rg34))
noncomputable def ko34 (x : Ag34) (r : Rg34) : DT (AVal × List ABlk) := (.ite (Nat.beq r.alt 1) (.ret ((.tup [(i r.is0), (b r.bs1)]), [])) .fail)
noncomputable def ea34 (x : Ag34) : St := ⟨[(.tree 4 x.ns0 x.gs0), (.agg [(i x.is1_0), (i x.is1_1), (i x.is1_2), (i x.is1_3)]), (.fn 31 [])], []⟩
noncomputable def aa34 : Alt Ag34 Unit := ⟨[(.s (.tree 4)), (.agg [(.int .i64), (.int .i64), (.int .i64), (.int .i64)]), (.s (.fn 31))], [], fun a H => (⟨(toN (slotA a 0)), (toG (slotA a 0)), (toI (hdA (dropN (cellsOf (slotA a 1)) 0))), (toI (hdA (dropN (cellsOf (slotA a 1)) 1))), (toI (hdA (dropN (cellsOf (slotA a 1)) 2))), (toI (hdA (dropN (cellsOf (slotA a 1)) 3)))⟩, ())⟩
theorem ala34 (a : List AVal) (H : List ABlk) : (⟨asSls aa34.sh a, asBks aa34.bl H⟩ : St) = ea34 (aa34.rd (asSls aa34.sh a) (asBks aa34.bl H)).1 := by kernel_rfl
noncomputable def S34u : Sum := sumA aa34 (fun x => ko34 x (p34u x))
theorem r34 (x : Ag34) (t1 : Nat × Sg34_0) (ht1 : t1 = (lp (st34_0 (⟨x.ns0, x.gs0, (↑x.ns0 : Int), x.is1_0, x.is1_1, x.is1_2, x.is1_3⟩ : Pg34_0)) (⟨0, (↑x.ns0 : Int)⟩ : Sg34_0))) (t2 : Int) (ht2 : t2 = (p31 (⟨(toI (hdA (x.gs0 t1.2.is9.toNat))), (toI (hdA (tlA (x.gs0 t1.2.is9.toNat)))), (toI (hdA (tlA (tlA (x.gs0 t1.2.is9.toNat))))), (toI (hdA (tlA (tlA (tlA (x.gs0 t1.2.is9.toNat))))))⟩ : Ent) (⟨x.is1_0, x.is1_1, x.is1_2, x.is1_3⟩ : Ent))) : (runS (En tb34u) pf34 ps34 [(.tree 4 x.ns0 x.gs0), (.agg [(i x.is1_0), (i x.is1_1), (i x.is1_2), (i x.is1_3)]), (.fn 31 [])] []).run = (sel (Nat.beq t1.1 1)
 (sel (decide (t1.2.is9 < (↑x.ns0 : Int)))
  (sel (inB t1.2.is9 x.ns0)
  (sel ((Nat.ble 4 (len (x.gs0 t1.2.is9.toNat))) && (okCKs [(CK.int .i64), (CK.int .i64), (CK.int .i64), (CK.int .i64)] (x.gs0 t1.2.is9.toNat)))
  (some ((.tup [(i t1.2.is9), (b (t2 == 0))]), []))
  none)
  none)
  (some ((.tup [(i t1.2.is9), (b false)]), [])))
 none) := by subst ht1; subst ht2; kernel_rfl
noncomputable def fo34 (x : Ag34) : Rg34 → Option (AVal × List ABlk) := fun r => (ko34 x r).run
theorem m34 (x : Ag34) (c1 c2 c3 c4 : Bool) (t1 : Nat × Sg34_0) (t2 : Int) : (fo34 x) (sel c1
 (sel c2
  (sel c3
  (sel c4
  (⟨1, t1.2.is9, (t2 == 0)⟩ : Rg34)
  (⟨0, 0, false⟩ : Rg34))
  (⟨0, 0, false⟩ : Rg34))
  (⟨1, t1.2.is9, false⟩ : Rg34))
 (⟨0, 0, false⟩ : Rg34)) = (sel c1
 (sel c2
  (sel c3
  (sel c4
  (some ((.tup [(i t1.2.is9), (b (t2 == 0))]), []))
  none)
  none)
  (some ((.tup [(i t1.2.is9), (b false)]), [])))
 none) := (stpSel (f := (fo34 x)) (stpSel (f := (fo34 x)) (stpSel (f := (fo34 x)) (stpSel (f := (fo34 x)) rfl rfl) rfl) rfl) rfl)
theorem ok34u : FnOk Try.prog G 34 S34u := sumA_ok (enc := ea34) ala34 (b34 (E := En tb34u) rfl (tdeps tbo34u)) fun x r h => runS_below sd34 _ (((r34 x _ rfl _ rfl).trans (m34 x _ _ _ _ _ _).symm).trans h)
@[reducible] noncomputable def S34 : Sum := S34u
theorem ok34 : FnOk Try.prog G 34 S34 := ok34u
noncomputable def tb12 : List (Nat × Sum) := [(29, S29), (31, S31)]
theorem tbo12 : TblOk Try.prog G tb12 := ⟨ok29, ok31, trivial⟩
structure Pg12_0 where
  ns0 : Nat
  gs0 : Nat → List AVal
  is13 : Int
structure Sg12_0 where
  is14 : Int
noncomputable def h12_0_0 (p : Pg12_0) (s : Sg12_0) : St := ⟨[(.tree 4 p.ns0 p.gs0), .unk, .unk, .unk, .unk, .unk, .unk, .unk, .unk, .unk, .unk, .unk, .unk, (i p.is13), (i s.is14), .unk, .unk, .unk, .unk, .unk, .unk, .unk, .unk, .unk, .unk, .unk, .unk, .unk, .unk], []⟩
noncomputable def en12_0 (p : Pg12_0) (s : Sg12_0) : St := (h12_0_0 p s)
noncomputable def x12_0_1 (p : Pg12_0) (s : Sg12_0) : XExit × St := let t1 := (p31 (⟨(toI (hdA (p.gs0 s.is14.toNat))), (toI (hdA (tlA (p.gs0 s.is14.toNat)))), (toI (hdA (tlA (tlA (p.gs0 s.is14.toNat))))), (toI (hdA (tlA (tlA (tlA (p.gs0 s.is14.toNat))))))⟩ : Ent) (⟨(toI (hdA (p.gs0 (W (s.is14 + 1)).toNat))), (toI (hdA (tlA (p.gs0 (W (s.is14 + 1)).toNat)))), (toI (hdA (tlA (tlA (p.gs0 (W (s.is14 + 1)).toNat))))), (toI (hdA (tlA (tlA (tlA (p.gs0 (W (s.is14 + 1)).toNat))))))⟩ : Ent)); (.ret, ⟨[(.tree 4 p.ns0 p.gs0), .unk, (i 7), (i s.is14), .unk, .unk, .unk, .unk, .unk, .unk, .unk, .unk, .unk, (i p.is13), (i s.is14), (b (decide (s.is14 < p.is13))), (i s.is14), (.tree 4 p.ns0 p.gs0), (i s.is14), (.tptr (p.gs0 s.is14.toNat)), (.agg [(i (toI (hdA (p.gs0 s.is14.toNat)))), (i (toI (hdA (tlA (p.gs0 s.is14.toNat))))), (i (toI (hdA (tlA (tlA (p.gs0 s.is14.toNat)))))), (i (toI (hdA (tlA (tlA (tlA (p.gs0 s.is14.toNat)))))))]), (.tree 4 p.ns0 p.gs0), (i s.is14), (i (W (s.is14 + 1))), (.tptr (p.gs0 (W (s.is14 + 1)).toNat)), (.agg [(i (toI (hdA (p.gs0 (W (s.is14 + 1)).toNat)))), (i (toI (hdA (tlA (p.gs0 (W (s.is14 + 1)).toNat))))), (i (toI (hdA (tlA (tlA (p.gs0 (W (s.is14 + 1)).toNat)))))), (i (toI (hdA (tlA (tlA (tlA (p.gs0 (W (s.is14 + 1)).toNat)))))))]), (i t1), (b (decide (t1 ≥ 0))), .unk], []⟩)
theorem nx12_0_1 (p : Pg12_0) (s : Sg12_0) : (x12_0_1 p s).1 ≠ .normal := fun h => by
  have h : XExit.ret = XExit.normal := h
  cases h
noncomputable def x12_0_2 (p : Pg12_0) (s : Sg12_0) : XExit × St := (.exit 1, ⟨[(.tree 4 p.ns0 p.gs0), .unk, .unk, .unk, .unk, .unk, .unk, .unk, .unk, .unk, .unk, .unk, .unk, (i p.is13), (i s.is14), (b (decide (s.is14 < p.is13))), .unk, .unk, .unk, .unk, .unk, .unk, .unk, .unk, .unk, .unk, .unk, .unk, .unk], []⟩)
theorem nx12_0_2 (p : Pg12_0) (s : Sg12_0) : (x12_0_2 p s).1 ≠ .normal := fun h => by
  have h : XExit.exit 1 = XExit.normal := h
  cases h
noncomputable def xs12_0 : List (Pg12_0 → Sg12_0 → XExit × St) := [x12_0_1, x12_0_2]
@[reducible] def l12_0 : PC := (.seq (.ops [(o 15 (.bin .lss (.t 14) (.t 13)))]) (.seq (.cond (.t 15) .skip (.exit 1)) (.seq (.block 2 (.seq (.ops [(o 16 (.mv (.t 14))), (o 3 (.mv (.t 16)))]) (.seq (.draw [17, 18, 19, 20, 21, 22, 23, 24, 25, 26, 27] [] [(o 17 (.mv (.t 0))), (o 18 (.mv (.t 3))), (o 19 (.idxS 4 (.t 17) (.t 18))), (o 20 (.load (ki 4) 4 true (.t 19))), (o 21 (.mv (.t 0))), (o 22 (.mv (.t 3))), (o 23 (.bin .add (.t 22) (ci 1))), (o 24 (.idxS 4 (.t 21) (.t 23))), (o 25 (.load (ki 4) 4 true (.t 24))), (o 26 (.call 31 [(.t 20), (.t 25)])), (o 27 (.bin .geq (.t 26) (ci 0)))] []) (.cond (.t 27) (.seq (.ops [(o 2 (.mv (ci 7)))]) .ret) .skip)))) (.ops [(o 28 (.bin .add (.t 14) (ci 1))), (o 14 (.mv (.t 28)))]))))
noncomputable def fo12_0 (p : Pg12_0) (s : Sg12_0) : Stp Sg12_0 → Option (XExit × St) := onStp (fun s' => some (.normal, en12_0 p s')) (fun t => xAt xs12_0 p s t 1) none
theorem rd12_0_0 (p : Pg12_0) (s : Sg12_0) (t1 : Int) (ht1 : t1 = (p31 (⟨(toI (hdA (p.gs0 s.is14.toNat))), (toI (hdA (tlA (p.gs0 s.is14.toNat)))), (toI (hdA (tlA (tlA (p.gs0 s.is14.toNat))))), (toI (hdA (tlA (tlA (tlA (p.gs0 s.is14.toNat))))))⟩ : Ent) (⟨(toI (hdA (p.gs0 (W (s.is14 + 1)).toNat))), (toI (hdA (tlA (p.gs0 (W (s.is14 + 1)).toNat)))), (toI (hdA (tlA (tlA (p.gs0 (W (s.is14 + 1)).toNat))))), (toI (hdA (tlA (tlA (tlA (p.gs0 (W (s.is14 + 1)).toNat))))))⟩ : Ent))) : (roundE (En tb12) 0 [0, 13, 14] (.pc l12_0) (h12_0_0 p s)).run = (sel (decide (s.is14 < p.is13))
 (sel (inB s.is14 p.ns0)
  (sel ((Nat.ble 4 (len (p.gs0 s.is14.toNat))) && (okCKs [(CK.int .i64), (CK.int .i64), (CK.int .i64), (CK.int .i64)] (p.gs0 s.is14.toNat)))
  (sel (inB (W (s.is14 + 1)) p.ns0)
  (sel ((Nat.ble 4 (len (p.gs0 (W (s.is14 + 1)).toNat))) && (okCKs [(CK.int .i64), (CK.int .i64), (CK.int .i64), (CK.int .i64)] (p.gs0 (W (s.is14 + 1)).toNat)))
  (sel (decide (t1 ≥ 0))
  (some (x12_0_1 p s))
  (some (.normal, h12_0_0 p ⟨(W (s.is14 + 1))⟩)))
  none)
  none)
  none)
  none)
 (some (x12_0_2 p s))) := by subst ht1; kernel_rfl
noncomputable def su12_0_0 (p : Pg12_0) (s : Sg12_0) : Stp Sg12_0 := let t1 := (p31 (⟨(toI (hdA (p.gs0 s.is14.toNat))), (toI (hdA (tlA (p.gs0 s.is14.toNat)))), (toI (hdA (tlA (tlA (p.gs0 s.is14.toNat))))), (toI (hdA (tlA (tlA (tlA (p.gs0 s.is14.toNat))))))⟩ : Ent) (⟨(toI (hdA (p.gs0 (W (s.is14 + 1)).toNat))), (toI (hdA (tlA (p.gs0 (W (s.is14 + 1)).toNat)))), (toI (hdA (tlA (tlA (p.gs0 (W (s.is14 + 1)).toNat))))), (toI (hdA (tlA (tlA (tlA (p.gs0 (W (s.is14 + 1)).toNat))))))⟩ : Ent)); (sel (decide (s.is14 < p.is13))
 (sel (inB s.is14 p.ns0)
  (sel ((Nat.ble 4 (len (p.gs0 s.is14.toNat))) && (okCKs [(CK.int .i64), (CK.int .i64), (CK.int .i64), (CK.int .i64)] (p.gs0 s.is14.toNat)))
  (sel (inB (W (s.is14 + 1)) p.ns0)
  (sel ((Nat.ble 4 (len (p.gs0 (W (s.is14 + 1)).toNat))) && (okCKs [(CK.int .i64), (CK.int .i64), (CK.int .i64), (CK.int .i64)] (p.gs0 (W (s.is14 + 1)).toNat)))
  (sel (decide (t1 ≥ 0))
  (.exit 1)
  (.next ⟨(W (s.is14 + 1))⟩))
  .fail)
  .fail)
  .fail)
  .fail)
 (.exit 2))
theorem q12_0_0 (p : Pg12_0) (s : Sg12_0) (c1 c2 c3 c4 c5 c6 : Bool)  : (fo12_0 p s) (sel c1
 (sel c2
  (sel c3
  (sel c4
  (sel c5
  (sel c6
  (.exit 1)
  (.next ⟨(W (s.is14 + 1))⟩))
  .fail)
  .fail)
  .fail)
  .fail)
 (.exit 2)) = (sel c1
 (sel c2
  (sel c3
  (sel c4
  (sel c5
  (sel c6
  (some (x12_0_1 p s))
  (some (.normal, h12_0_0 p ⟨(W (s.is14 + 1))⟩)))
  none)
  none)
  none)
  none)
 (some (x12_0_2 p s))) := (stpSel (f := (fo12_0 p s)) (stpSel (f := (fo12_0 p s)) (stpSel (f := (fo12_0 p s)) (stpSel (f := (fo12_0 p s)) (stpSel (f := (fo12_0 p s)) (stpSel (f := (fo12_0 p s)) rfl rfl) rfl) rfl) rfl) rfl) rfl)
theorem sp12_0_0 (p : Pg12_0) (s : Sg12_0) : (roundE (En tb12) 0 [0, 13, 14] (.pc l12_0) (h12_0_0 p s)).run = fo12_0 p s (su12_0_0 p s) := (rd12_0_0 p s _ rfl).trans (q12_0_0 p s _ _ _ _ _ _).symm
noncomputable def st12_0 (p : Pg12_0) (s : Sg12_0) : Stp Sg12_0 := (su12_0_0 p s)
theorem sp12_0 (p : Pg12_0) (s : Sg12_0) : (roundE (En tb12) 0 [0, 13, 14] (.pc l12_0) (en12_0 p s)).run = fo12_0 p s (st12_0 p s) := by
  show (roundE (En tb12) 0 [0, 13, 14] (.pc l12_0) (h12_0_0 p s)).run = fo12_0 p s (su12_0_0 p s)
  exact sp12_0_0 p s
noncomputable def al12_0_0 : Alt Pg12_0 Sg12_0 := ⟨[(.s (.tree 4)), (.s .unk), (.s .unk), (.s .unk), (.s .unk), (.s .unk), (.s .unk), (.s .unk), (.s .unk), (.s .unk), (.s .unk), (.s .unk), (.s .unk), (.s (.int .i64)), (.s (.int .i64)), (.s .unk), (.s .unk), (.s .unk), (.s .unk), (.s .unk), (.s .unk), (.s .unk), (.s .unk), (.s .unk), (.s .unk), (.s .unk), (.s .unk), (.s .unk), (.s .unk)], [], fun a H => (⟨(toN (slotA a 0)), (toG (slotA a 0)), (toI (slotA a 13))⟩, ⟨(toI (slotA a 14))⟩)⟩
theorem la12_0_0 (a : List AVal) (H : List ABlk) : (⟨asSls al12_0_0.sh a, asBks al12_0_0.bl H⟩ : St) = en12_0 (al12_0_0.rd (asSls al12_0_0.sh a) (asBks al12_0_0.bl H)).1 (al12_0_0.rd (asSls al12_0_0.sh a) (asBks al12_0_0.bl H)).2 := by kernel_rfl
noncomputable def as12_0 : List (Alt Pg12_0 Sg12_0) := [al12_0_0]
theorem lo12_0 (s : St) : Below ((loopL 0 [0, 13, 14] as12_0 st12_0 xs12_0) s) (exec (En tb12) 0 (.loop [0, 13, 14] l12_0) s) :=
  loopL_below (E := En tb12) (enc := en12_0) (body := (.pc l12_0)) (alts := as12_0) (xs := xs12_0) (.pc _) rfl (.cons la12_0_0 .nil) (.cons nx12_0_1 (.cons nx12_0_2 .nil)) (fun p s => sp12_0 p s) s
noncomputable def ps12 : PS := (.seq (.pc (.ops [(o 2 (.mv (ci 0)))])) (.seq (.pc (.block 0 (.seq (.ops [(o 5 (.mv (.t 0))), (o 6 (.len (.t 5))), (o 7 (.bin .gtr (.t 6) (ci 100))), (o 4 (.mv (.t 7)))]) (.cond (.t 4) (.seq (.ops [(o 2 (.mv (ci 2)))]) .ret) (.seq (.ops [(o 9 (.mv (.t 0))), (o 10 (.call 29 [(.t 9), (.c (.fn 30 []))])), (o 8 (.mv (.t 10)))]) (.cond (.t 8) (.seq (.ops [(o 2 (.mv (ci 3)))]) .ret) .skip)))))) (.seq (.seq (.pc (.ops [(o 11 (.mv (.t 0))), (o 12 (.len (.t 11))), (o 13 (.bin .sub (.t 12) (ci 1))), (o 14 (.mv (ci 0)))])) (.block 1 (.sum (loopL 0 [0, 13, 14] as12_0 st12_0 xs12_0)))) (.pc (.seq (.ops [(o 2 (.mv (ci 0)))]) .ret)))))
theorem sd12 : Stands (En tb12) 0 ps12 pf12.body := (.seq (.pc _) (.seq (.pc _) (.seq (.seq (.pc _) (.block _ (.sum lo12_0))) (.pc _))))
noncomputable def p12 (x : List Ent) : Int := let t1 := (p29u ⟨(List.length x), (fun k => rE (gE x k))⟩); let t2 := (lp (st12_0 (⟨(List.length x), (fun k => rE (gE x k)), (W ((↑(List.length x) : Int) - 1))⟩ : Pg12_0)) (⟨0⟩ : Sg12_0)); (sel (decide ((↑(List.length x) : Int) > 100)) 2 (sel t1.bs0 3 (sel (Nat.beq t2.1 1) 7 0)))
noncomputable def g12 (x : List Ent) : Bool := let t1 := (p29u ⟨(List.length x), (fun k => rE (gE x k))⟩); let t2 := (lp (st12_0 (⟨(List.length x), (fun k => rE (gE x k)), (W ((↑(List.length x) : Int) - 1))⟩ : Pg12_0)) (⟨0⟩ : Sg12_0)); ((decide ((↑(List.length x) : Int) > 100)) || ((Nat.beq t1.alt 1) && (t1.bs0 || ((Nat.beq t2.1 1) || (Nat.beq t2.1 2)))))
noncomputable def S12 : Sum := sum1 cEL (fun x => DT.guard (g12 x) (.ret (i (p12 x), [])))
theorem r12 (x : List Ent) (t1 : Rg29) (ht1 : t1 = (p29u ⟨(List.length x), (fun k => rE (gE x k))⟩)) (t2 : Nat × Sg12_0) (ht2 : t2 = (lp (st12_0 (⟨(List.length x), (fun k => rE (gE x k)), (W ((↑(List.length x) : Int) - 1))⟩ : Pg12_0)) (⟨0⟩ : Sg12_0))) : (runS (En tb12) pf12 ps12 [cEL.enc x] []).run = (sel (decide ((↑(List.length x) : Int) > 100))
 (some ((i 2), []))
 (sel (Nat.beq t1.alt 1)
  (sel t1.bs0
   (some ((i 3), []))
   (sel (Nat.beq t2.1 1)
    (some ((i 7), []))
    (sel (Nat.beq t2.1 2)
     (some ((i 0), []))
     none)))
  none)) := by subst ht1; subst ht2; kernel_rfl
theorem m12 (c1 c2 c3 c4 c5 : Bool) (x : List Ent)  : ((sel c1
 (some ((i 2), []))
 (sel c2
  (sel c3
   (some ((i 3), []))
   (sel c4
    (some ((i 7), []))
    (sel c5
     (some ((i 0), []))
     none)))
  none)) : Option (AVal × List ABlk)) = (sel (c1 || (c2 && (c3 || (c4 || c5)))) (some ((i (sel c1 2 (sel c3 3 (sel c4 7 0)))), [])) none) := by
 cases c1
 ·
  cases c2
  ·
   rfl
  ·
   cases c3
   ·
    cases c4
    ·
     cases c5
     ·
      rfl
     ·
      rfl
    ·
     rfl
   ·
    rfl
 ·
  rfl
theorem k12 (x : List Ent) (t1 : Rg29) (ht1 : t1 = (p29u ⟨(List.length x), (fun k => rE (gE x k))⟩)) (t2 : Nat × Sg12_0) (ht2 : t2 = (lp (st12_0 (⟨(List.length x), (fun k => rE (gE x k)), (W ((↑(List.length x) : Int) - 1))⟩ : Pg12_0)) (⟨0⟩ : Sg12_0))) : (DT.guard (g12 x) (.ret (i (p12 x), [])) : DT (AVal × List ABlk)).run = (sel ((decide ((↑(List.length x) : Int) > 100)) || ((Nat.beq t1.alt 1) && (t1.bs0 || ((Nat.beq t2.1 1) || (Nat.beq t2.1 2))))) (some ((i (sel (decide ((↑(List.length x) : Int) > 100)) 2 (sel t1.bs0 3 (sel (Nat.beq t2.1 1) 7 0)))), [])) none) := by subst ht1; subst ht2; rw [run_grd]; kernel_rfl
theorem ok12 : FnOk Try.prog G 12 S12 := sum1_ok (b12 (E := En tb12) rfl (tdeps tbo12)) fun x r h => runS_below sd12 _ (((r12 x _ rfl _ rfl).trans (m12 _ _ _ _ _ x )).trans ((k12 x _ rfl _ rfl).symm.trans h))
end Go.Ev.W.X

