/- Printed: functions of the wear chapter, as plain ones (own work). -/
import Derived.Test.YtblhkhjdkjjheaaEvX7
set_option linter.unusedVariables false
set_option linter.unusedSimpArgs false
set_option linter.unnecessarySimpa false
set_option linter.unusedSectionVars false
namespace Go.Ev.W.X
open Go Go.Ev Go.Ev.Ab Go.Proofs
set_option maxRecDepth 100000
noncomputable def tb43 : List (Nat × Sum) := []
theorem tbo43 : TblOk Try.prog G tb43 := trivial
noncomputable def p43 (x : Ent) : Int := x.l
noncomputable def S43 : Sum := sum1 cN (fun x => .ret (i (p43 x), []))
theorem r43 (x : Ent)  : (runFn (En tb43) pf43 [cN.enc x] []).run = some (i (p43 x), []) := by kernel_rfl
theorem ok43 : FnOk Try.prog G 43 S43 := sum1_ok (b43 (E := En tb43) rfl (tdeps tbo43)) fun x r h => (r43 x).trans h
noncomputable def tb44 : List (Nat × Sum) := []
theorem tbo44 : TblOk Try.prog G tb44 := trivial
noncomputable def p44 (x : Ent) : Int := x.h
noncomputable def S44 : Sum := sum1 cN (fun x => .ret (i (p44 x), []))
theorem r44 (x : Ent)  : (runFn (En tb44) pf44 [cN.enc x] []).run = some (i (p44 x), []) := by kernel_rfl
theorem ok44 : FnOk Try.prog G 44 S44 := sum1_ok (b44 (E := En tb44) rfl (tdeps tbo44)) fun x r h => (r44 x).trans h
structure Ag41 where
  is0_0 : Int
  is0_1 : Int
  is0_2 : Int
  is0_3 : Int
  ih0_0_0 : Int
noncomputable def tb41u : List (Nat × Sum) := []
theorem tbo41u : TblOk Try.prog G tb41u := trivial
structure Rg41 where
  bs0 : Bool
noncomputable def p41u (x : Ag41) : Rg41 := (⟨(x.is0_0 == x.ih0_0_0)⟩ : Rg41)
noncomputable def ko41 (x : Ag41) (r : Rg41) : DT (AVal × List ABlk) := .ret ((b r.bs0), [⟨0, 1, [[(i x.ih0_0_0)]], true, false, 0⟩])
noncomputable def ea41 (x : Ag41) : St := ⟨[(.agg [(i x.is0_0), (i x.is0_1), (i x.is0_2), (i x.is0_3)]), (.ptr 0 0 0 0)], [⟨0, 1, [[(i x.ih0_0_0)]], true, false, 0⟩]⟩
noncomputable def aa41 : Alt Ag41 Unit := ⟨[(.agg [(.int .i64), (.int .i64), (.int .i64), (.int .i64)]), (.s (.ptr 0 0 0 0))], [⟨0, 1, true, (some [[(.int .i64)]])⟩], fun a H => (⟨(toI (hdA (dropN (cellsOf (slotA a 0)) 0))), (toI (hdA (dropN (cellsOf (slotA a 0)) 1))), (toI (hdA (dropN (cellsOf (slotA a 0)) 2))), (toI (hdA (dropN (cellsOf (slotA a 0)) 3))), (toI (hdA (dropN (getRow (elsA H 0) 0) 0)))⟩, ())⟩
theorem ala41 (a : List AVal) (H : List ABlk) : (⟨asSls aa41.sh a, asBks aa41.bl H⟩ : St) = ea41 (aa41.rd (asSls aa41.sh a) (asBks aa41.bl H)).1 := by kernel_rfl
noncomputable def S41u : Sum := sumA aa41 (fun x => ko41 x (p41u x))
theorem r41 (x : Ag41)  : (runFn (En tb41u) pf41 [(.agg [(i x.is0_0), (i x.is0_1), (i x.is0_2), (i x.is0_3)]), (.ptr 0 0 0 0)] [⟨0, 1, [[(i x.ih0_0_0)]], true, false, 0⟩]).run = (some ((b (x.is0_0 == x.ih0_0_0)), [⟨0, 1, [[(i x.ih0_0_0)]], true, false, 0⟩])) := by kernel_rfl
noncomputable def fo41 (x : Ag41) : Rg41 → Option (AVal × List ABlk) := fun r => (ko41 x r).run
theorem m41 (x : Ag41)  : (fo41 x) (⟨(x.is0_0 == x.ih0_0_0)⟩ : Rg41) = (some ((b (x.is0_0 == x.ih0_0_0)), [⟨0, 1, [[(i x.ih0_0_0)]], true, false, 0⟩])) := rfl
theorem ok41u : FnOk Try.prog G 41 S41u := sumA_ok (enc := ea41) ala41 (b41 (E := En tb41u) rfl (tdeps tbo41u)) fun x r h => ((r41 x ).trans (m41 x ).symm).trans h
@[reducible] noncomputable def S41 : Sum := S41u
theorem ok41 : FnOk Try.prog G 41 S41 := ok41u
structure Ag42a where
  ns0 : Nat
  gs0 : Nat → List AVal
  ih0_0_0 : Int
noncomputable def tb42au : List (Nat × Sum) := [(41, S41), (43, S43)]
theorem tbo42au : TblOk Try.prog G tb42au := ⟨ok41, ok43, trivial⟩
structure Pg42a_0 where
  ns10 : Nat
  gs10 : Nat → List AVal
  is11 : Int
  ih0_0_0 : Int
structure Sg42a_0 where
  is7 : Int
  is12 : Int
noncomputable def h42a_0_0 (p : Pg42a_0) (s : Sg42a_0) : St := ⟨[.unk, (.fn 41 [(.ptr 0 0 0 0)]), (.fn 43 []), .unk, .unk, .unk, .unk, (i s.is7), .unk, .unk, (.tree 4 p.ns10 p.gs10), (i p.is11), (i s.is12), .unk, .unk, .unk, .unk, .unk, .unk, .unk, .unk, .unk, .unk, .unk, .unk, .unk], [⟨0, 1, [[(i p.ih0_0_0)]], true, false, 0⟩]⟩
noncomputable def en42a_0 (p : Pg42a_0) (s : Sg42a_0) : St := (h42a_0_0 p s)
noncomputable def x42a_0_1 (p : Pg42a_0) (s : Sg42a_0) : XExit × St := (.exit 0, ⟨[.unk, (.fn 41 [(.ptr 0 0 0 0)]), (.fn 43 []), .unk, .unk, .unk, .unk, (i s.is7), .unk, .unk, (.tree 4 p.ns10 p.gs10), (i p.is11), (i s.is12), (b (decide (s.is12 < p.is11))), .unk, .unk, .unk, .unk, .unk, .unk, .unk, .unk, .unk, .unk, .unk, .unk], [⟨0, 1, [[(i p.ih0_0_0)]], true, false, 0⟩]⟩)
theorem nx42a_0_1 (p : Pg42a_0) (s : Sg42a_0) : (x42a_0_1 p s).1 ≠ .normal := fun h => by
  have h : XExit.exit 0 = XExit.normal := h
  cases h
noncomputable def xs42a_0 : List (Pg42a_0 → Sg42a_0 → XExit × St) := [x42a_0_1]
@[reducible] def l42a_0 : PC := (.seq (.ops [(o 13 (.bin .lss (.t 12) (.t 11)))]) (.seq (.cond (.t 13) .skip (.exit 0)) (.seq (.block 1 (.seq (.ops [(o 14 (.idxS 4 (.t 10) (.t 12))), (o 15 (.load (ki 4) 4 true (.t 14))), (o 9 (.alloc (rep 4 (vi 0)))), (s (.store 4 (.t 9) (.t 15)))]) (.seq (.ops [(o 16 (.mv (.t 1))), (o 17 (.load (ki 4) 4 true (.t 9))), (o 18 (.calld (.t 16) [(.t 17)]))]) (.cond (.t 18) (.ops [(o 19 (.mv (.t 7))), (o 20 (.mv (.t 2))), (o 21 (.load (ki 4) 4 true (.t 9))), (o 22 (.calld (.t 20) [(.t 21)])), (o 23 (.bin .add (.t 19) (.t 22))), (o 7 (.mv (.t 23)))]) .skip)))) (.ops [(o 24 (.bin .add (.t 12) (ci 1))), (o 12 (.mv (.t 24)))]))))
noncomputable def fo42a_0 (p : Pg42a_0) (s : Sg42a_0) : Stp Sg42a_0 → Option (XExit × St) := onStp (fun s' => some (.normal, en42a_0 p s')) (fun t => xAt xs42a_0 p s t 1) none
theorem rd42a_0_0 (p : Pg42a_0) (s : Sg42a_0) (t1 : Rg41) (ht1 : t1 = (p41u ⟨(toI (hdA (p.gs10 s.is12.toNat))), (toI (hdA (tlA (p.gs10 s.is12.toNat)))), (toI (hdA (tlA (tlA (p.gs10 s.is12.toNat))))), (toI (hdA (tlA (tlA (tlA (p.gs10 s.is12.toNat)))))), p.ih0_0_0⟩)) (t2 : Int) (ht2 : t2 = (p43 (⟨(toI (hdA (p.gs10 s.is12.toNat))), (toI (hdA (tlA (p.gs10 s.is12.toNat)))), (toI (hdA (tlA (tlA (p.gs10 s.is12.toNat))))), (toI (hdA (tlA (tlA (tlA (p.gs10 s.is12.toNat))))))⟩ : Ent))) : (roundE (En tb42au) 1 [1, 2, 7, 10, 11, 12] (.pc l42a_0) (h42a_0_0 p s)).run = (sel (decide (s.is12 < p.is11))
 (sel (inB s.is12 p.ns10)
  (sel ((Nat.ble 4 (len (p.gs10 s.is12.toNat))) && (okCKs [(CK.int .i64), (CK.int .i64), (CK.int .i64), (CK.int .i64)] (p.gs10 s.is12.toNat)))
  (sel t1.bs0
  (some (.normal, h42a_0_0 p ⟨(W (s.is7 + t2)), (W (s.is12 + 1))⟩))
  (some (.normal, h42a_0_0 p ⟨s.is7, (W (s.is12 + 1))⟩)))
  none)
  none)
 (some (x42a_0_1 p s))) := by subst ht1; subst ht2; kernel_rfl
noncomputable def su42a_0_0 (p : Pg42a_0) (s : Sg42a_0) : Stp Sg42a_0 := let t1 := (p41u ⟨(toI (hdA (p.gs10 s.is12.toNat))), (toI (hdA (tlA (p.gs10 s.is12.toNat)))), (toI (hdA (tlA (tlA (p.gs10 s.is12.toNat))))), (toI (hdA (tlA (tlA (tlA (p.gs10 s.is12.toNat)))))), p.ih0_0_0⟩); let t2 := (p43 (⟨(toI (hdA (p.gs10 s.is12.toNat))), (toI (hdA (tlA (p.gs10 s.is12.toNat)))), (toI (hdA (tlA (tlA (p.gs10 s.is12.toNat))))), (toI (hdA (tlA (tlA (tlA (p.gs10 s.is12.toNat))))))⟩ : Ent)); (sel (decide (s.is12 < p.is11))
 (sel (inB s.is12 p.ns10)
  (sel ((Nat.ble 4 (len (p.gs10 s.is12.toNat))) && (okCKs [(CK.int .i64), (CK.int .i64), (CK.int .i64), (CK.int .i64)] (p.gs10 s.is12.toNat)))
  (sel t1.bs0
  (.next ⟨(W (s.is7 + t2)), (W (s.is12 + 1))⟩)
  (.next ⟨s.is7, (W (s.is12 + 1))⟩))
  .fail)
  .fail)
 (.exit 1))
theorem q42a_0_0 (p : Pg42a_0) (s : Sg42a_0) (c1 c2 c3 c4 : Bool) (t2 : Int) : (fo42a_0 p s) (sel c1
 (sel c2
  (sel c3
  (sel c4
  (.next ⟨(W (s.is7 + t2)), (W (s.is12 + 1))⟩)
  (.next ⟨s.is7, (W (s.is12 + 1))⟩))
  .fail)
  .fail)
 (.exit 1)) = (sel c1
 (sel c2
  (sel c3
  (sel c4
  (some (.normal, h42a_0_0 p ⟨(W (s.is7 + t2)), (W (s.is12 + 1))⟩))
  (some (.normal, h42a_0_0 p ⟨s.is7, (W (s.is12 + 1))⟩)))
  none)
  none)
 (some (x42a_0_1 p s))) := (stpSel (f := (fo42a_0 p s)) (stpSel (f := (fo42a_0 p s)) (stpSel (f := (fo42a_0 p s)) (stpSel (f := (fo42a_0 p s)) rfl rfl) rfl) rfl) rfl)
theorem sp42a_0_0 (p : Pg42a_0) (s : Sg42a_0) : (roundE (En tb42au) 1 [1, 2, 7, 10, 11, 12] (.pc l42a_0) (h42a_0_0 p s)).run = fo42a_0 p s (su42a_0_0 p s) := (rd42a_0_0 p s _ rfl _ rfl).trans (q42a_0_0 p s _ _ _ _ _).symm
noncomputable def st42a_0 (p : Pg42a_0) (s : Sg42a_0) : Stp Sg42a_0 := (su42a_0_0 p s)
theorem sp42a_0 (p : Pg42a_0) (s : Sg42a_0) : (roundE (En tb42au) 1 [1, 2, 7, 10, 11, 12] (.pc l42a_0) (en42a_0 p s)).run = fo42a_0 p s (st42a_0 p s) := by
  show (roundE (En tb42au) 1 [1, 2, 7, 10, 11, 12] (.pc l42a_0) (h42a_0_0 p s)).run = fo42a_0 p s (su42a_0_0 p s)
  exact sp42a_0_0 p s
noncomputable def al42a_0_0 : Alt Pg42a_0 Sg42a_0 := ⟨[(.s .unk), (.fn 41 [(.ptr 0 0 0 0)]), (.s (.fn 43)), (.s .unk), (.s .unk), (.s .unk), (.s .unk), (.s (.int .i64)), (.s .unk), (.s .unk), (.s (.tree 4)), (.s (.int .i64)), (.s (.int .i64)), (.s .unk), (.s .unk), (.s .unk), (.s .unk), (.s .unk), (.s .unk), (.s .unk), (.s .unk), (.s .unk), (.s .unk), (.s .unk), (.s .unk), (.s .unk)], [⟨0, 1, true, (some [[(.int .i64)]])⟩], fun a H => (⟨(toN (slotA a 10)), (toG (slotA a 10)), (toI (slotA a 11)), (toI (hdA (dropN (getRow (elsA H 0) 0) 0)))⟩, ⟨(toI (slotA a 7)), (toI (slotA a 12))⟩)⟩
theorem la42a_0_0 (a : List AVal) (H : List ABlk) : (⟨asSls al42a_0_0.sh a, asBks al42a_0_0.bl H⟩ : St) = en42a_0 (al42a_0_0.rd (asSls al42a_0_0.sh a) (asBks al42a_0_0.bl H)).1 (al42a_0_0.rd (asSls al42a_0_0.sh a) (asBks al42a_0_0.bl H)).2 := by kernel_rfl
noncomputable def as42a_0 : List (Alt Pg42a_0 Sg42a_0) := [al42a_0_0]
theorem lo42a_0 (s : St) : Below ((loopL 1 [1, 2, 7, 10, 11, 12] as42a_0 st42a_0 xs42a_0) s) (exec (En tb42au) 1 (.loop [1, 2, 7, 10, 11, 12] l42a_0) s) :=
  loopL_below (E := En tb42au) (enc := en42a_0) (body := (.pc l42a_0)) (alts := as42a_0) (xs := xs42a_0) (.pc _) rfl (.cons la42a_0_0 .nil) (.cons nx42a_0_1 .nil) (fun p s => sp42a_0 p s) s
noncomputable def ps42a : PS := (.seq (.pc (.ops [(o 6 (.mv (ci 0)))])) (.seq (.pc (.ops [(o 7 (.mv (ci 0)))])) (.seq (.seq (.pc (.ops [(o 10 (.mv (.t 0))), (o 11 (.len (.t 10))), (o 12 (.mv (ci 0)))])) (.block 0 (.sum (loopL 1 [1, 2, 7, 10, 11, 12] as42a_0 st42a_0 xs42a_0)))) (.pc (.seq (.ops [(o 25 (.mv (.t 7))), (o 6 (.mv (.t 25)))]) .ret)))))
theorem sd42a : Stands (En tb42au) 1 ps42a pf42.body := (.seq (.pc _) (.seq (.pc _) (.seq (.seq (.pc _) (.block _ (.sum lo42a_0))) (.pc _))))
structure Rg42a where
  alt : Nat
  is0 : Int
noncomputable def p42au (x : Ag42a) : Rg42a := let t1 := (lp (st42a_0 (⟨x.ns0, x.gs0, (↑x.ns0 : Int), x.ih0_0_0⟩ : Pg42a_0)) (⟨0, 0⟩ : Sg42a_0)); (sel (Nat.beq t1.1 1)
 (⟨1, t1.2.is7⟩ : Rg42a)
 (⟨0, 0⟩ : Rg42a))
noncomputable def ko42a (x : Ag42a) (r : Rg42a) : DT (AVal × List ABlk) := (.ite (Nat.beq r.alt 1) (.ret ((i r.is0), [⟨0, 1, [[(i x.ih0_0_0)]], true, false, 0⟩])) .fail)
noncomputable def ea42a (x : Ag42a) : St := ⟨[(.tree 4 x.ns0 x.gs0), (.fn 41 [(.ptr 0 0 0 0)]), (.fn 43 [])], [⟨0, 1, [[(i x.ih0_0_0)]], true, false, 0⟩]⟩
noncomputable def aa42a : Alt Ag42a Unit := ⟨[(.s (.tree 4)), (.fn 41 [(.ptr 0 0 0 0)]), (.s (.fn 43))], [⟨0, 1, true, (some [[(.int .i64)]])⟩], fun a H => (⟨(toN (slotA a 0)), (toG (slotA a 0)), (toI (hdA (dropN (getRow (elsA H 0) 0) 0)))⟩, ())⟩
theorem ala42a (a : List AVal) (H : List ABlk) : (⟨asSls aa42a.sh a, asBks aa42a.bl H⟩ : St) = ea42a (aa42a.rd (asSls aa42a.sh a) (asBks aa42a.bl H)).1 := by kernel_rfl
noncomputable def S42au : Sum := sumA aa42a (fun x => ko42a x (p42au x))
theorem r42a (x : Ag42a) (t1 : Nat × Sg42a_0) (ht1 : t1 = (lp (st42a_0 (⟨x.ns0, x.gs0, (↑x.ns0 : Int), x.ih0_0_0⟩ : Pg42a_0)) (⟨0, 0⟩ : Sg42a_0))) : (runS (En tb42au) pf42 ps42a [(.tree 4 x.ns0 x.gs0), (.fn 41 [(.ptr 0 0 0 0)]), (.fn 43 [])] [⟨0, 1, [[(i x.ih0_0_0)]], true, false, 0⟩]).run = (sel (Nat.beq t1.1 1)
 (some ((i t1.2.is7), [⟨0, 1, [[(i x.ih0_0_0)]], true, false, 0⟩]))
 none) := by subst ht1; kernel_rfl
noncomputable def fo42a (x : Ag42a) : Rg42a → Option (AVal × List ABlk) := fun r => (ko42a x r).run
theorem m42a (x : Ag42a) (c1 : Bool) (t1 : Nat × Sg42a_0) : (fo42a x) (sel c1
 (⟨1, t1.2.is7⟩ : Rg42a)
 (⟨0, 0⟩ : Rg42a)) = (sel c1
 (some ((i t1.2.is7), [⟨0, 1, [[(i x.ih0_0_0)]], true, false, 0⟩]))
 none) := (stpSel (f := (fo42a x)) rfl rfl)
theorem ok42au : FnOk Try.prog G 42 S42au := sumA_ok (enc := ea42a) ala42a (b42 (E := En tb42au) rfl (tdeps tbo42au)) fun x r h => runS_below sd42a _ (((r42a x _ rfl).trans (m42a x _ _).symm).trans h)
@[reducible] noncomputable def S42a : Sum := S42au
theorem ok42a : FnOk Try.prog G 42 S42a := ok42au
structure Ag42b where
  ns0 : Nat
  gs0 : Nat → List AVal
  ih0_0_0 : Int
noncomputable def tb42bu : List (Nat × Sum) := [(41, S41), (44, S44)]
theorem tbo42bu : TblOk Try.prog G tb42bu := ⟨ok41, ok44, trivial⟩
structure Pg42b_0 where
  ns10 : Nat
  gs10 : Nat → List AVal
  is11 : Int
  ih0_0_0 : Int
structure Sg42b_0 where
  is7 : Int
  is12 : Int
noncomputable def h42b_0_0 (p : Pg42b_0) (s : Sg42b_0) : St := ⟨[.unk, (.fn 41 [(.ptr 0 0 0 0)]), (.fn 44 []), .unk, .unk, .unk, .unk, (i s.is7), .unk, .unk, (.tree 4 p.ns10 p.gs10), (i p.is11), (i s.is12), .unk, .unk, .unk, .unk, .unk, .unk, .unk, .unk, .unk, .unk, .unk, .unk, .unk], [⟨0, 1, [[(i p.ih0_0_0)]], true, false, 0⟩]⟩
noncomputable def en42b_0 (p : Pg42b_0) (s : Sg42b_0) : St := (h42b_0_0 p s)
noncomputable def x42b_0_1 (p : Pg42b_0) (s : Sg42b_0) : XExit × St := (.exit 0, ⟨[.unk, (.fn 41 [(.ptr 0 0 0 0)]), (.fn 44 []), .unk, .unk, .unk, .unk, (i s.is7), .unk, .unk, (.tree 4 p.ns10 p.gs10), (i p.is11), (i s.is12), (b (decide (s.is12 < p.is11))), .unk, .unk, .unk, .unk, .unk, .unk, .unk, .unk, .unk, .unk, .unk, .unk], [⟨0, 1, [[(i p.ih0_0_0)]], true, false, 0⟩]⟩)
theorem nx42b_0_1 (p : Pg42b_0) (s : Sg42b_0) : (x42b_0_1 p s).1 ≠ .normal := fun h => by
  have h : XExit.exit 0 = XExit.normal := h
  cases h
noncomputable def xs42b_0 : List (Pg42b_0 → Sg42b_0 → XExit × St) := [x42b_0_1]
@[reducible] def l42b_0 : PC := (.seq (.ops [(o 13 (.bin .lss (.t 12) (.t 11)))]) (.seq (.cond (.t 13) .skip (.exit 0)) (.seq (.block 1 (.seq (.ops [(o 14 (.idxS 4 (.t 10) (.t 12))), (o 15 (.load (ki 4) 4 true (.t 14))), (o 9 (.alloc (rep 4 (vi 0)))), (s (.store 4 (.t 9) (.t 15)))]) (.seq (.ops [(o 16 (.mv (.t 1))), (o 17 (.load (ki 4) 4 true (.t 9))), (o 18 (.calld (.t 16) [(.t 17)]))]) (.cond (.t 18) (.ops [(o 19 (.mv (.t 7))), (o 20 (.mv (.t 2))), (o 21 (.load (ki 4) 4 true (.t 9))), (o 22 (.calld (.t 20) [(.t 21)])), (o 23 (.bin .add (.t 19) (.t 22))), (o 7 (.mv (.t 23)))]) .skip)))) (.ops [(o 24 (.bin .add (.t 12) (ci 1))), (o 12 (.mv (.t 24)))]))))
noncomputable def fo42b_0 (p : Pg42b_0) (s : Sg42b_0) : Stp Sg42b_0 → Option (XExit × St) := onStp (fun s' => some (.normal, en42b_0 p s')) (fun t => xAt xs42b_0 p s t 1) none
theorem rd42b_0_0 (p : Pg42b_0) (s : Sg42b_0) (t1 : Rg41) (ht1 : t1 = (p41u ⟨(toI (hdA (p.gs10 s.is12.toNat))), (toI (hdA (tlA (p.gs10 s.is12.toNat)))), (toI (hdA (tlA (tlA (p.gs10 s.is12.toNat))))), (toI (hdA (tlA (tlA (tlA (p.gs10 s.is12.toNat)))))), p.ih0_0_0⟩)) (t2 : Int) (ht2 : t2 = (p44 (⟨(toI (hdA (p.gs10 s.is12.toNat))), (toI (hdA (tlA (p.gs10 s.is12.toNat)))), (toI (hdA (tlA (tlA (p.gs10 s.is12.toNat))))), (toI (hdA (tlA (tlA (tlA (p.gs10 s.is12.toNat))))))⟩ : Ent))) : (roundE (En tb42bu) 1 [1, 2, 7, 10, 11, 12] (.pc l42b_0) (h42b_0_0 p s)).run = (sel (decide (s.is12 < p.is11))
 (sel (inB s.is12 p.ns10)
  (sel ((Nat.ble 4 (len (p.gs10 s.is12.toNat))) && (okCKs [(CK.int .i64), (CK.int .i64), (CK.int .i64), (CK.int .i64)] (p.gs10 s.is12.toNat)))
  (sel t1.bs0
  (some (.normal, h42b_0_0 p ⟨(W (s.is7 + t2)), (W (s.is12 + 1))⟩))
  (some (.normal, h42b_0_0 p ⟨s.is7, (W (s.is12 + 1))⟩)))
  none)
  none)
 (some (x42b_0_1 p s))) := by subst ht1; subst ht2; kernel_rfl
noncomputable def su42b_0_0 (p : Pg42b_0) (s : Sg42b_0) : Stp Sg42b_0 := let t1 := (p41u ⟨(toI (hdA (p.gs10 s.is12.toNat))), (toI (hdA (tlA (p.gs10 s.is12.toNat)))), (toI (hdA (tlA (tlA (p.gs10 s.is12.toNat))))), (toI (hdA (tlA (tlA (tlA (p.gs10 s.is12.toNat)))))), p.ih0_0_0⟩); let t2 := (p44 (⟨(toI (hdA (p.gs10 s.is12.toNat))), (toI (hdA (tlA (p.gs10 s.is12.toNat)))), (toI (hdA (tlA (tlA (p.gs10 s.is12.toNat))))), (toI (hdA (tlA (tlA (tlA (p.gs10 s.is12.toNat))))))⟩ : Ent)); (sel (decide (s.is12 < p.is11))
 (sel (inB s.is12 p.ns10)
  (sel ((Nat.ble 4 (len (p.gs10 s.is12.toNat))) && (okCKs [(CK.int .i64), (CK.int .i64), (CK.int .i64), (CK.int .i64)] (p.gs10 s.is12.toNat)))
  (sel t1.bs0
  (.next ⟨(W (s.is7 + t2)), (W (s.is12 + 1))⟩)
  (.next ⟨s.is7, (W (s.is12 + 1))⟩))
  .fail)
  .fail)
 (.exit 1))
theorem q42b_0_0 (p : Pg42b_0) (s : Sg42b_0) (c1 c2 c3 c4 : Bool) (t2 : Int) : (fo42b_0 p s) (sel c1
 (sel c2
  (sel c3
  (sel c4
  (.next ⟨(W (s.is7 + t2)), (W (s.is12 + 1))⟩)
  (.next ⟨s.is7, (W (s.is12 + 1))⟩))
  .fail)
  .fail)
 (.exit 1)) = (sel c1
 (sel c2
  (sel c3
  (sel c4
  (some (.normal, h42b_0_0 p ⟨(W (s.is7 + t2)), (W (s.is12 + 1))⟩))
  (some (.normal, h42b_0_0 p ⟨s.is7, (W (s.is12 + 1))⟩)))
  none)
  none)
 (some (x42b_0_1 p s))) := (stpSel (f := (fo42b_0 p s)) (stpSel (f := (fo42b_0 p s)) (stpSel (f := (fo42b_0 p s)) (stpSel (f := (fo42b_0 p s)) rfl rfl) rfl) rfl) rfl)
theorem sp42b_0_0 (p : Pg42b_0) (s : Sg42b_0) : (roundE (En tb42bu) 1 [1, 2, 7, 10, 11, 12] (.pc l42b_0) (h42b_0_0 p s)).run = fo42b_0 p s (su42b_0_0 p s) := (rd42b_0_0 p s _ rfl _ rfl).trans (q42b_0_0 p s _ _ _ _ _).symm
noncomputable def st42b_0 (p : Pg42b_0) (s : Sg42b_0) : Stp Sg42b_0 := (su42b_0_0 p s)
theorem sp42b_0 (p : Pg42b_0) (s : Sg42b_0) : (roundE (En tb42bu) 1 [1, 2, 7, 10, 11, 12] (.pc l42b_0) (en42b_0 p s)).run = fo42b_0 p s (st42b_0 p s) := by
  show (roundE (En tb42bu) 1 [1, 2, 7, 10, 11, 12] (.pc l42b_0) (h42b_0_0 p s)).run = fo42b_0 p s (su42b_0_0 p s)
  exact sp42b_0_0 p s
noncomputable def al42b_0_0 : Alt Pg42b_0 Sg42b_0 := ⟨[(.s .unk), (.fn 41 [(.ptr 0 0 0 0)]), (.s (.fn 44)), (.s .unk), (.s .unk), (.s .unk), (.s .unk), (.s (.int .i64)), (.s .unk), (.s .unk), (.s (.tree 4)), (.s (.int .i64)), (.s (.int .i64)), (.s .unk), (.s .unk), (.s .unk), (.s .unk), (.s .unk), (.s .unk), (.s .unk), (.s .unk), (.s .unk), (.s .unk), (.s .unk), (.s .unk), (.s .unk)], [⟨0, 1, true, (some [[(.int .i64)]])⟩], fun a H => (⟨(toN (slotA a 10)), (toG (slotA a 10)), (toI (slotA a 11)), (toI (hdA (dropN (getRow (elsA H 0) 0) 0)))⟩, ⟨(toI (slotA a 7)), (toI (slotA a 12))⟩)⟩
theorem la42b_0_0 (a : List AVal) (H : List ABlk) : (⟨asSls al42b_0_0.sh a, asBks al42b_0_0.bl H⟩ : St) = en42b_0 (al42b_0_0.rd (asSls al42b_0_0.sh a) (asBks al42b_0_0.bl H)).1 (al42b_0_0.rd (asSls al42b_0_0.sh a) (asBks al42b_0_0.bl H)).2 := by kernel_rfl
noncomputable def as42b_0 : List (Alt Pg42b_0 Sg42b_0) := [al42b_0_0]
theorem lo42b_0 (s : St) : Below ((loopL 1 [1, 2, 7, 10, 11, 12] as42b_0 st42b_0 xs42b_0) s) (exec (En tb42bu) 1 (.loop [1, 2, 7, 10, 11, 12] l42b_0) s) :=
  loopL_below (E := En tb42bu) (enc := en42b_0) (body := (.pc l42b_0)) (alts := as42b_0) (xs := xs42b_0) (.pc _) rfl (.cons la42b_0_0 .nil) (.cons nx42b_0_1 .nil) (fun p s => sp42b_0 p s) s
noncomputable def ps42b : PS := (.seq (.pc (.ops [(o 6 (.mv (ci 0)))])) (.seq (.pc (.ops [(o 7 (.mv (ci 0)))])) (.seq (.seq (.pc (.ops [(o 10 (.mv (.t 0))), (o 11 (.len (.t 10))), (o 12 (.mv (ci 0)))])) (.block 0 (.sum (loopL 1 [1, 2, 7, 10, 11, 12] as42b_0 st42b_0 xs42b_0)))) (.pc (.seq (.ops [(o 25 (.mv (.t 7))), (o 6 (.mv (.t 25)))]) .ret)))))
theorem sd42b : Stands (En tb42bu) 1 ps42b pf42.body := (.seq (.pc _) (.seq (.pc _) (.seq (.seq (.pc _) (.block _ (.sum lo42b_0))) (.pc _))))
structure Rg42b where
  alt : Nat
  is0 : Int
noncomputable def p42bu (x : Ag42b) : Rg42b := let t1 := (lp (st42b_0 (⟨x.ns0, x.gs0, (↑x.ns0 : Int), x.ih0_0_0⟩ : Pg42b_0)) (⟨0, 0⟩ : Sg42b_0)); (sel (Nat.beq t1.1 1)
 (⟨1, t1.2.is7⟩ : Rg42b)
 (⟨0, 0⟩ : Rg42b))
noncomputable def ko42b (x : Ag42b) (r : Rg42b) : DT (AVal × List ABlk) := (.ite (Nat.beq r.alt 1) (.ret ((i r.is0), [⟨0, 1, [[(i x.ih0_0_0)]], true, false, 0⟩])) .fail)
noncomputable def ea42b (x : Ag42b) : St := ⟨[(.tree 4 x.ns0 x.gs0), (.fn 41 [(.ptr 0 0 0 0)]), (.fn 44 [])], [⟨0, 1, [[(i x.ih0_0_0)]], true, false, 0⟩]⟩
noncomputable def aa42b : Alt Ag42b Unit := ⟨[(.s (.tree 4)), (.fn 41 [(.ptr 0 0 0 0)]), (.s (.fn 44))], [⟨0, 1, true, (some [[(.int .i64)]])⟩], fun a H => (⟨(toN (slotA a 0)), (toG (slotA a 0)), (toI (hdA (dropN (getRow (elsA H 0) 0) 0)))⟩, ())⟩
theorem ala42b (a : List AVal) (H : List ABlk) : (⟨asSls aa42b.sh a, asBks aa42b.bl H⟩ : St) = ea42b (aa42b.rd (asSls aa42b.sh a) (asBks aa42b.bl H)).1 := by kernel_rfl
noncomputable def S42bu : Sum := sumA aa42b (fun x => ko42b x (p42bu x))
theorem r42b (x : Ag42b) (t1 : Nat × Sg42b_0) (ht1 : t1 = (lp (st42b_0 (⟨x.ns0, x.gs0, (↑x.ns0 : Int), x.ih0_0_0⟩ : Pg42b_0)) (⟨0, 0⟩ : Sg42b_0))) : (runS (En tb42bu) pf42 ps42b [(.tree 4 x.ns0 x.gs0), (.fn 41 [(.ptr 0 0 0 0)]), (.fn 44 [])] [⟨0, 1, [[(i x.ih0_0_0)]], true, false, 0⟩]).run = (sel (Nat.beq t1.1 1)
 (some ((i t1.2.is7), [⟨0, 1, [[(i x.ih0_0_0)]], true, false, 0⟩]))
 none) := by subst ht1; kernel_rfl
noncomputable def fo42b (x : Ag42b) : Rg42b → Option (AVal × List ABlk) := fun r => (ko42b x r).run
theorem m42b (x : Ag42b) (c1 : Bool) (t1 : Nat × Sg42b_0) : (fo42b x) (sel c1
 (⟨1, t1.2.is7⟩ : Rg42b)
 (⟨0, 0⟩ : Rg42b)) = (sel c1
 (some ((i t1.2.is7), [⟨0, 1, [[(i x.ih0_0_0)]], true, false, 0⟩]))
 none) := (stpSel (f := (fo42b x)) rfl rfl)
theorem ok42bu : FnOk Try.prog G 42 S42bu := sumA_ok (enc := ea42b) ala42b (b42 (E := En tb42bu) rfl (tdeps tbo42bu)) fun x r h => runS_below sd42b _ (((r42b x _ rfl).trans (m42b x _ _).symm).trans h)
@[reducible] noncomputable def S42b : Sum := S42bu
theorem ok42b : FnOk Try.prog G 42 S42b := ok42bu
noncomputable def S42 : Sum := altS (fun l => match l with | [_, _, .fn n _] => Nat.beq n 43 | _ => false) S42a S42b
theorem ok42 : FnOk Try.prog G 42 S42 := altS_ok ok42a ok42b
noncomputable def tb20 : List (Nat × Sum) := [(12, SC12), (42, S42)]
theorem tbo20 : TblOk Try.prog G tb20 := ⟨okC12, ok42, trivial⟩
noncomputable def ps20 : PS := (.pc (.seq (.ops [(o 3 (.box (.t 1))), (o 4 (.mv (ci 0))), (o 5 (.mv (ci 0))), (o 6 (.mv (ci 0)))]) (.seq (.seq (.ops [(o 11 (.mv (.t 0))), (o 12 (.call 12 [(.t 11)])), (o 7 (.mv (.t 12)))]) (.seq (.ops [(o 13 (.mv (.t 7))), (o 14 (.bin .neq (.t 13) (ci 0)))]) (.cond (.t 14) (.seq (.ops [(o 15 (.mv (.t 7))), (o 4 (.mv (ci 0))), (o 5 (.mv (ci 0))), (o 6 (.mv (.t 15)))]) .ret) .skip))) (.seq (.ops [(o 16 (.mkfn 41 [(.t 3)])), (o 8 (.mv (.t 16)))]) (.seq (.ops [(o 17 (.mv (.t 0))), (o 18 (.mv (.t 8))), (o 19 (.call 42 [(.t 17), (.t 18), (.c (.fn 43 []))])), (o 9 (.mv (.t 19)))]) (.seq (.ops [(o 20 (.mv (.t 0))), (o 21 (.mv (.t 8))), (o 22 (.call 42 [(.t 20), (.t 21), (.c (.fn 44 []))])), (o 10 (.mv (.t 22)))]) (.seq (.ops [(o 23 (.mv (.t 9))), (o 24 (.mv (.t 10))), (o 4 (.mv (.t 23))), (o 5 (.mv (.t 24))), (o 6 (.mv (ci 0)))]) .ret)))))))
theorem sd20 : Stands (En tb20) 0 ps20 pf20.body := (.pc _)
noncomputable def p20 (x : List Ent) (y : Int) : Int × Int × Int := let t1 := (pC (lsE (List.length x) (fun k => rE (gE x k)))); let t2 := (p42au ⟨(List.length x), (fun k => rE (gE x k)), y⟩); let t3 := (p42bu ⟨(List.length x), (fun k => rE (gE x k)), y⟩); ((sel (t1 != 0) 0 t2.is0), (sel (t1 != 0) 0 t3.is0), (sel (t1 != 0) t1 0))
noncomputable def g20 (x : List Ent) (y : Int) : Bool := let t1 := (pC (lsE (List.length x) (fun k => rE (gE x k)))); let t2 := (p42au ⟨(List.length x), (fun k => rE (gE x k)), y⟩); let t3 := (p42bu ⟨(List.length x), (fun k => rE (gE x k)), y⟩); ((okEs (List.length x) (fun k => rE (gE x k))) && ((gC (lsE (List.length x) (fun k => rE (gE x k)))) && ((t1 != 0) || ((Nat.beq t2.alt 1) && (Nat.beq t3.alt 1)))))
noncomputable def S20 : Sum := sum2 cEL cI (fun x y => DT.guard (g20 x y) (.ret (.tup [i (p20 x y).1, i (p20 x y).2.1, i (p20 x y).2.2], [])))
theorem r20 (x : List Ent) (y : Int) (t1 : Int) (ht1 : t1 = (pC (lsE (List.length x) (fun k => rE (gE x k))))) (t2 : Rg42a) (ht2 : t2 = (p42au ⟨(List.length x), (fun k => rE (gE x k)), y⟩)) (t3 : Rg42b) (ht3 : t3 = (p42bu ⟨(List.length x), (fun k => rE (gE x k)), y⟩)) : (runS (En tb20) pf20 ps20 [cEL.enc x, cI.enc y] []).run = (sel (okEs (List.length x) (fun k => rE (gE x k)))
 (sel (gC (lsE (List.length x) (fun k => rE (gE x k))))
  (sel (t1 != 0)
   (some ((.tup [(i 0), (i 0), (i t1)]), []))
   (sel (Nat.beq t2.alt 1)
    (sel (Nat.beq t3.alt 1)
     (some ((.tup [(i t2.is0), (i t3.is0), (i 0)]), []))
     none)
    none))
  none)
 none) := by subst ht1; subst ht2; subst ht3; kernel_rfl
theorem m20 (c1 c2 c3 c4 c5 : Bool) (x : List Ent) (y : Int) (t1 : Int) (t2 : Rg42a) (t3 : Rg42b) : ((sel c1
 (sel c2
  (sel c3
   (some ((.tup [(i 0), (i 0), (i t1)]), []))
   (sel c4
    (sel c5
     (some ((.tup [(i t2.is0), (i t3.is0), (i 0)]), []))
     none)
    none))
  none)
 none) : Option (AVal × List ABlk)) = (sel (c1 && (c2 && (c3 || (c4 && c5)))) (some ((.tup [(i (sel c3 0 t2.is0)), (i (sel c3 0 t3.is0)), (i (sel c3 t1 0))]), [])) none) := by
 cases c1
 ·
  rfl
 ·
  cases c2
  ·
   rfl
  ·
   cases c3
   ·
    cases c4
    ·
     rfl
    ·
     cases c5
     ·
      rfl
     ·
      rfl
   ·
    rfl
theorem k20 (x : List Ent) (y : Int) (t1 : Int) (ht1 : t1 = (pC (lsE (List.length x) (fun k => rE (gE x k))))) (t2 : Rg42a) (ht2 : t2 = (p42au ⟨(List.length x), (fun k => rE (gE x k)), y⟩)) (t3 : Rg42b) (ht3 : t3 = (p42bu ⟨(List.length x), (fun k => rE (gE x k)), y⟩)) : (DT.guard (g20 x y) (.ret (.tup [i (p20 x y).1, i (p20 x y).2.1, i (p20 x y).2.2], [])) : DT (AVal × List ABlk)).run = (sel ((okEs (List.length x) (fun k => rE (gE x k))) && ((gC (lsE (List.length x) (fun k => rE (gE x k)))) && ((t1 != 0) || ((Nat.beq t2.alt 1) && (Nat.beq t3.alt 1))))) (some ((.tup [(i (sel (t1 != 0) 0 t2.is0)), (i (sel (t1 != 0) 0 t3.is0)), (i (sel (t1 != 0) t1 0))]), [])) none) := by subst ht1; subst ht2; subst ht3; rw [run_grd]; kernel_rfl
theorem ok20 : FnOk Try.prog G 20 S20 := sum2_ok (b20 (E := En tb20) rfl (tdeps tbo20)) fun x y r h => runS_below sd20 _ (((r20 x y _ rfl _ rfl _ rfl).trans (m20 _ _ _ _ _ x y _ _ _)).trans ((k20 x y _ rfl _ rfl _ rfl).symm.trans h))
end Go.Ev.W.X

