/- Printed: functions of the geometry chapters, as plain ones (own work). -/
import Derived.Test.YthbcfinnphpcbaaDoorEvU3
import Derived.Test.YthbcfinnphpcbaaDoorEvU4
import Derived.Test.YthbcfinnphpcbaaDoorEvLp
set_option linter.unusedVariables false
set_option linter.unusedSimpArgs false
set_option linter.unnecessarySimpa false
set_option linter.unusedSectionVars false
namespace Go.Ev.T
open Go Go.Ev Go.Ev.Ab Go.Proofs
set_option maxRecDepth 100000
noncomputable def tb7 : List (Nat × Sum) := [(9, S9), (10, S10), (11, S11), (17, S17), (16, S16), (25, S25), (26, S26), (22, S22), (27, S27), (28, S28), (29, S29), (30, S30), (31, S31), (32, S32)]
theorem tbo7 : TblOk Tryd.prog G tb7 := ⟨ok9, ok10, ok11, ok17, ok16, ok25, ok26, ok22, ok27, ok28, ok29, ok30, ok31, ok32, trivial⟩
structure Pg7_0 where
  ns1 : Nat
  gs1 : Nat → List AVal
  is18 : Int
  ih0_0_0 : Int
  ih0_0_1 : Int
  ih0_0_2 : Int
  ih0_0_3 : Int
  ih0_0_4 : Int
  ih0_0_5 : Int
  ih1_0_0 : Int
  ih1_0_1 : Int
  ih1_0_2 : Int
  ih2_0_0 : Int
  ih2_0_1 : Int
  ih2_0_2 : Int
  ih2_0_3 : Int
  ih2_0_4 : Int
  ih2_0_5 : Int
  ih2_0_6 : Int
  ih2_0_7 : Int
  ih2_0_8 : Int
  ih2_0_9 : Int
  ih2_0_10 : Int
  ih2_0_11 : Int
  ih2_0_12 : Int
  ih3_0_0 : Int
  ih3_0_1 : Int
  ih3_0_2 : Int
  ih3_0_3 : Int
  ih3_0_4 : Int
  ih3_0_5 : Int
  ih3_0_6 : Int
  ih3_0_7 : Int
  ih3_0_8 : Int
  ih3_0_9 : Int
  ih3_0_10 : Int
  ih3_0_11 : Int
  ih3_0_12 : Int
  ih4_0_0 : Int
  ih4_0_1 : Int
  ih4_0_2 : Int
  ih4_0_3 : Int
  ih4_0_4 : Int
  ih4_0_5 : Int
  ih4_0_6 : Int
  ih4_0_7 : Int
  ih4_0_8 : Int
  ih4_0_9 : Int
  ih4_0_10 : Int
  ih4_0_11 : Int
  ih4_0_12 : Int
  ih5_0_0 : Int
  ih5_0_1 : Int
  ih5_0_2 : Int
structure Sg7_0 where
  ns19 : Nat
  is20 : Int
  eh6 : List (List AVal)
noncomputable def h7_0_0 (p : Pg7_0) (s : Sg7_0) : St := ⟨(.unk :: ((.tree 1 p.ns1 p.gs1) :: (ra 6 ((.ptr 0 0 0 0) :: (.unk :: ((.ptr 1 0 0 0) :: (.unk :: (.unk :: ((b true) :: ((.ptr 2 0 0 0) :: ((.ptr 3 0 0 0) :: ((.ptr 4 0 0 0) :: ((.ptr 5 0 0 0) :: ((i p.is18) :: ((.sl 6 0 s.ns19 0) :: ((i s.is20) :: (ra 191 []))))))))))))))))), [⟨0, 6, [[(i p.ih0_0_0), (i p.ih0_0_1), (i p.ih0_0_2), (i p.ih0_0_3), (i p.ih0_0_4), (i p.ih0_0_5)]], true, false, 0⟩, ⟨0, 3, [[(i p.ih1_0_0), (i p.ih1_0_1), (i p.ih1_0_2)]], true, false, 0⟩, ⟨0, 13, [[(i p.ih2_0_0), (i p.ih2_0_1), (i p.ih2_0_2), (i p.ih2_0_3), (i p.ih2_0_4), (i p.ih2_0_5), (i p.ih2_0_6), (i p.ih2_0_7), (i p.ih2_0_8), (i p.ih2_0_9), (i p.ih2_0_10), (i p.ih2_0_11), (i p.ih2_0_12)]], true, false, 0⟩, ⟨0, 13, [[(i p.ih3_0_0), (i p.ih3_0_1), (i p.ih3_0_2), (i p.ih3_0_3), (i p.ih3_0_4), (i p.ih3_0_5), (i p.ih3_0_6), (i p.ih3_0_7), (i p.ih3_0_8), (i p.ih3_0_9), (i p.ih3_0_10), (i p.ih3_0_11), (i p.ih3_0_12)]], true, false, 0⟩, ⟨0, 13, [[(i p.ih4_0_0), (i p.ih4_0_1), (i p.ih4_0_2), (i p.ih4_0_3), (i p.ih4_0_4), (i p.ih4_0_5), (i p.ih4_0_6), (i p.ih4_0_7), (i p.ih4_0_8), (i p.ih4_0_9), (i p.ih4_0_10), (i p.ih4_0_11), (i p.ih4_0_12)]], true, false, 0⟩, ⟨0, 3, [[(i p.ih5_0_0), (i p.ih5_0_1), (i p.ih5_0_2)]], true, false, 0⟩, ⟨56, 4, s.eh6, true, false, 0⟩]⟩
noncomputable def en7_0 (p : Pg7_0) (s : Sg7_0) : St := (h7_0_0 p s)
noncomputable def x7_0_1 (p : Pg7_0) (s : Sg7_0) : XExit × St := (.exit 0, ⟨(.unk :: ((.tree 1 p.ns1 p.gs1) :: (ra 6 ((.ptr 0 0 0 0) :: (.unk :: ((.ptr 1 0 0 0) :: (.unk :: (.unk :: ((b true) :: ((.ptr 2 0 0 0) :: ((.ptr 3 0 0 0) :: ((.ptr 4 0 0 0) :: ((.ptr 5 0 0 0) :: ((i p.is18) :: ((.sl 6 0 s.ns19 0) :: ((i s.is20) :: (ra 53 ((i s.is20) :: ((.tree 1 p.ns1 p.gs1) :: ((i (↑p.ns1 : Int)) :: ((b (decide (s.is20 < (↑p.ns1 : Int)))) :: ((b true) :: ((i s.is20) :: ((b (decide (s.is20 < 4))) :: ((b (decide (s.is20 < 4))) :: (ra 130 [])))))))))))))))))))))))))), [⟨0, 6, [[(i p.ih0_0_0), (i p.ih0_0_1), (i p.ih0_0_2), (i p.ih0_0_3), (i p.ih0_0_4), (i p.ih0_0_5)]], true, false, 0⟩, ⟨0, 3, [[(i p.ih1_0_0), (i p.ih1_0_1), (i p.ih1_0_2)]], true, false, 0⟩, ⟨0, 13, [[(i p.ih2_0_0), (i p.ih2_0_1), (i p.ih2_0_2), (i p.ih2_0_3), (i p.ih2_0_4), (i p.ih2_0_5), (i p.ih2_0_6), (i p.ih2_0_7), (i p.ih2_0_8), (i p.ih2_0_9), (i p.ih2_0_10), (i p.ih2_0_11), (i p.ih2_0_12)]], true, false, 0⟩, ⟨0, 13, [[(i p.ih3_0_0), (i p.ih3_0_1), (i p.ih3_0_2), (i p.ih3_0_3), (i p.ih3_0_4), (i p.ih3_0_5), (i p.ih3_0_6), (i p.ih3_0_7), (i p.ih3_0_8), (i p.ih3_0_9), (i p.ih3_0_10), (i p.ih3_0_11), (i p.ih3_0_12)]], true, false, 0⟩, ⟨0, 13, [[(i p.ih4_0_0), (i p.ih4_0_1), (i p.ih4_0_2), (i p.ih4_0_3), (i p.ih4_0_4), (i p.ih4_0_5), (i p.ih4_0_6), (i p.ih4_0_7), (i p.ih4_0_8), (i p.ih4_0_9), (i p.ih4_0_10), (i p.ih4_0_11), (i p.ih4_0_12)]], true, false, 0⟩, ⟨0, 3, [[(i p.ih5_0_0), (i p.ih5_0_1), (i p.ih5_0_2)]], true, false, 0⟩, ⟨56, 4, s.eh6, true, false, 0⟩]⟩)
theorem nx7_0_1 (p : Pg7_0) (s : Sg7_0) : (x7_0_1 p s).1 ≠ .normal := fun h => by
  have h : XExit.exit 0 = XExit.normal := h
  cases h
noncomputable def x7_0_2 (p : Pg7_0) (s : Sg7_0) : XExit × St := (.exit 0, ⟨(.unk :: ((.tree 1 p.ns1 p.gs1) :: (ra 6 ((.ptr 0 0 0 0) :: (.unk :: ((.ptr 1 0 0 0) :: (.unk :: (.unk :: ((b true) :: ((.ptr 2 0 0 0) :: ((.ptr 3 0 0 0) :: ((.ptr 4 0 0 0) :: ((.ptr 5 0 0 0) :: ((i p.is18) :: ((.sl 6 0 s.ns19 0) :: ((i s.is20) :: (ra 53 ((i s.is20) :: ((.tree 1 p.ns1 p.gs1) :: ((i (↑p.ns1 : Int)) :: ((b (decide (s.is20 < (↑p.ns1 : Int)))) :: ((b false) :: (u :: (u :: ((b false) :: (ra 130 [])))))))))))))))))))))))))), [⟨0, 6, [[(i p.ih0_0_0), (i p.ih0_0_1), (i p.ih0_0_2), (i p.ih0_0_3), (i p.ih0_0_4), (i p.ih0_0_5)]], true, false, 0⟩, ⟨0, 3, [[(i p.ih1_0_0), (i p.ih1_0_1), (i p.ih1_0_2)]], true, false, 0⟩, ⟨0, 13, [[(i p.ih2_0_0), (i p.ih2_0_1), (i p.ih2_0_2), (i p.ih2_0_3), (i p.ih2_0_4), (i p.ih2_0_5), (i p.ih2_0_6), (i p.ih2_0_7), (i p.ih2_0_8), (i p.ih2_0_9), (i p.ih2_0_10), (i p.ih2_0_11), (i p.ih2_0_12)]], true, false, 0⟩, ⟨0, 13, [[(i p.ih3_0_0), (i p.ih3_0_1), (i p.ih3_0_2), (i p.ih3_0_3), (i p.ih3_0_4), (i p.ih3_0_5), (i p.ih3_0_6), (i p.ih3_0_7), (i p.ih3_0_8), (i p.ih3_0_9), (i p.ih3_0_10), (i p.ih3_0_11), (i p.ih3_0_12)]], true, false, 0⟩, ⟨0, 13, [[(i p.ih4_0_0), (i p.ih4_0_1), (i p.ih4_0_2), (i p.ih4_0_3), (i p.ih4_0_4), (i p.ih4_0_5), (i p.ih4_0_6), (i p.ih4_0_7), (i p.ih4_0_8), (i p.ih4_0_9), (i p.ih4_0_10), (i p.ih4_0_11), (i p.ih4_0_12)]], true, false, 0⟩, ⟨0, 3, [[(i p.ih5_0_0), (i p.ih5_0_1), (i p.ih5_0_2)]], true, false, 0⟩, ⟨56, 4, s.eh6, true, false, 0⟩]⟩)
theorem nx7_0_2 (p : Pg7_0) (s : Sg7_0) : (x7_0_2 p s).1 ≠ .normal := fun h => by
  have h : XExit.exit 0 = XExit.normal := h
  cases h
noncomputable def xs7_0 : List (Pg7_0 → Sg7_0 → XExit × St) := [x7_0_1, x7_0_2]
@[reducible] def l7_0 : PC := (.seq (.seq (.ops [(o 74 (.mv (.t 20))), (o 75 (.mv (.t 1))), (o 76 (.len (.t 75))), (o 77 (.bin .lss (.t 74) (.t 76))), (o 78 (.mv (.t 77))), ⟨(.some 79), (.some (78, true)), [], (.mv (.t 20))⟩, ⟨(.some 80), (.some (78, true)), [], (.bin .lss (.t 79) (ci 4))⟩, (o 81 (.pick (.t 78) (.t 80) (cb false)))]) (.cond (.t 81) .skip (.exit 0))) (.seq (.block 1 (.seq (.ops [(o 84 (.mv (.t 1))), (o 85 (.mv (.t 20))), (o 86 (.idxS 1 (.t 84) (.t 85))), (o 87 (.load [(.sl 1)] 1 false (.t 86))), (o 88 (.call 25 [(.t 87)])), (o 21 (.alloc (rep 4 (vi 0)))), (s (.store 4 (.t 21) (.t 88)))]) (.draw [89, 90, 91, 92, 93, 94, 95, 96, 19] [] [(o 89 (.mv (.t 19))), (o 90 (.load (ki 4) 4 true (.t 21))), (o 91 (.load (ki 4) 4 true (.t 21))), (o 92 (.idxA 2 3 (.t 8) (ci 1))), (o 93 (.load (ki 3) 3 true (.t 92))), (o 94 (.call 26 [(.t 91), (.t 93)])), (o 95 (.bslice 56 4 2 (rep 8 (vi 0)) [(0, (4, (.t 90))), (4, (4, (.t 94)))])), (o 96 (.append 56 4 32 (.t 89) (.t 95))), (o 19 (.mv (.t 96)))] [((.mv (.t 19)), (.call 26 [(.t 91), (.t 93)])), ((.mv (.t 19)), (.bslice 56 4 2 (rep 8 (vi 0)) [(0, (4, (.t 90))), (4, (4, (.t 94)))])), ((.load (ki 4) 4 true (.t 21)), (.call 26 [(.t 91), (.t 93)]))]))) (.ops [(o 82 (.mv (.t 20))), (o 83 (.bin .add (.t 82) (ci 1))), (o 20 (.mv (.t 83)))])))
noncomputable def fo7_0 (p : Pg7_0) (s : Sg7_0) : Stp Sg7_0 → Option (XExit × St) := onStp (fun s' => some (.normal, en7_0 p s')) (fun t => xAt xs7_0 p s t 1) none
noncomputable def ut7_0_0 {α : Type} (k : Sg7_0 → α) (e : Nat → α) (z : α) (p : Pg7_0) (s : Sg7_0) : α := let t1 := (p.gs1 s.is20.toNat); let t2 := (p25 (⟨(toN (hdA t1)), fun k => toI (hdA ((toG (hdA t1)) k))⟩ : IL)); let t3 := (p26 t2 (⟨p.ih0_0_3, p.ih0_0_4, p.ih0_0_5⟩ : V3)); (sel (decide (s.is20 < (↑p.ns1 : Int)))
 (sel (decide (s.is20 < 4))
  (sel (inB s.is20 p.ns1)
  (sel ((Nat.ble 1 (len (p.gs1 s.is20.toNat))) && (okCKs [(CK.sl 1)] t1))
  (sel (okInts (toN (hdA t1)) (toG (hdA t1)))
  (sel (g25 (⟨(toN (hdA t1)), fun k => toI (hdA ((toG (hdA t1)) k))⟩ : IL))
  (sel (g26 t2 (⟨p.ih0_0_3, p.ih0_0_4, p.ih0_0_5⟩ : V3))
  (sel (Nat.beq s.ns19 (len s.eh6) && Nat.ble ((s.ns19 + 2) * 32) room)
  (k ⟨(s.ns19 + 2), (W (s.is20 + 1)), (app s.eh6 [[(i t2.n.x), (i t2.n.y), (i t2.n.z), (i t2.b)], [(i t3.n.x), (i t3.n.y), (i t3.n.z), (i t3.b)]])⟩)
  z)
  z)
  z)
  z)
  z)
  z)
  (e 1))
 (e 2))
noncomputable def su7_0_0 (p : Pg7_0) (s : Sg7_0) : Stp Sg7_0 := ut7_0_0 .next .exit .fail p s
theorem q7_0_0 {α β : Type} (F : α → β) (k : Sg7_0 → α) (e : Nat → α) (z : α) (p : Pg7_0) (s : Sg7_0) : F (ut7_0_0 k e z p s) = ut7_0_0 (fun x => F (k x)) (fun t => F (e t)) (F z) p s := by
  unfold ut7_0_0
  exact (stpSel (f := F) (stpSel (f := F) (stpSel (f := F) (stpSel (f := F) (stpSel (f := F) (stpSel (f := F) (stpSel (f := F) (stpSel (f := F) rfl rfl) rfl) rfl) rfl) rfl) rfl) rfl) rfl)
theorem rd7_0_0 (p : Pg7_0) (s : Sg7_0) : (roundC (En tb7) 0 pf7.res [1, 8, 10, 13, 14, 15, 16, 17, 18, 19, 20] (.pc l7_0) (h7_0_0 p s)).run = ut7_0_0 (fun s' => some (.normal, en7_0 p s')) (fun t => xAt xs7_0 p s t 1) none p s := by kernel_rfl
theorem sp7_0_0 (p : Pg7_0) (s : Sg7_0) : (roundC (En tb7) 0 pf7.res [1, 8, 10, 13, 14, 15, 16, 17, 18, 19, 20] (.pc l7_0) (h7_0_0 p s)).run = fo7_0 p s (su7_0_0 p s) := (rd7_0_0 p s).trans (q7_0_0 (fo7_0 p s) Stp.next Stp.exit Stp.fail p s).symm
noncomputable def st7_0 (p : Pg7_0) (s : Sg7_0) : Stp Sg7_0 := (su7_0_0 p s)
theorem sp7_0 (p : Pg7_0) (s : Sg7_0) : (roundC (En tb7) 0 pf7.res [1, 8, 10, 13, 14, 15, 16, 17, 18, 19, 20] (.pc l7_0) (en7_0 p s)).run = fo7_0 p s (st7_0 p s) := by
  show (roundC (En tb7) 0 pf7.res [1, 8, 10, 13, 14, 15, 16, 17, 18, 19, 20] (.pc l7_0) (h7_0_0 p s)).run = fo7_0 p s (su7_0_0 p s)
  exact sp7_0_0 p s
noncomputable def al7_0_0 : Alt Pg7_0 Sg7_0 := ⟨((.s .unk) :: ((.s (.tree 1)) :: (ru 6 ((.s (.ptr 0 0 0 0)) :: ((.s .unk) :: ((.s (.ptr 1 0 0 0)) :: ((.s .unk) :: ((.s .unk) :: ((.s (.blit true)) :: ((.s (.ptr 2 0 0 0)) :: ((.s (.ptr 3 0 0 0)) :: ((.s (.ptr 4 0 0 0)) :: ((.s (.ptr 5 0 0 0)) :: ((.s (.int .i64)) :: ((.s (.sl 6 0 (some 0) none)) :: ((.s (.int .i64)) :: (ru 191 []))))))))))))))))), [⟨0, 6, true, (some [[(.int .i64), (.int .i64), (.int .i64), (.int .i64), (.int .i64), (.int .i64)]])⟩, ⟨0, 3, true, (some [[(.int .i64), (.int .i64), (.int .i64)]])⟩, ⟨0, 13, true, (some [[(.int .i64), (.int .i64), (.int .i64), (.int .i64), (.int .i64), (.int .i64), (.int .i64), (.int .i64), (.int .i64), (.int .i64), (.int .i64), (.int .i64), (.int .i64)]])⟩, ⟨0, 13, true, (some [[(.int .i64), (.int .i64), (.int .i64), (.int .i64), (.int .i64), (.int .i64), (.int .i64), (.int .i64), (.int .i64), (.int .i64), (.int .i64), (.int .i64), (.int .i64)]])⟩, ⟨0, 13, true, (some [[(.int .i64), (.int .i64), (.int .i64), (.int .i64), (.int .i64), (.int .i64), (.int .i64), (.int .i64), (.int .i64), (.int .i64), (.int .i64), (.int .i64), (.int .i64)]])⟩, ⟨0, 3, true, (some [[(.int .i64), (.int .i64), (.int .i64)]])⟩, ⟨56, 4, true, none⟩], fun a H => (⟨(toN (slotA a 1)), (toG (slotA a 1)), (toI (slotA a 18)), (toI (hdA (dropN (getRow (elsA H 0) 0) 0))), (toI (hdA (dropN (getRow (elsA H 0) 0) 1))), (toI (hdA (dropN (getRow (elsA H 0) 0) 2))), (toI (hdA (dropN (getRow (elsA H 0) 0) 3))), (toI (hdA (dropN (getRow (elsA H 0) 0) 4))), (toI (hdA (dropN (getRow (elsA H 0) 0) 5))), (toI (hdA (dropN (getRow (elsA H 1) 0) 0))), (toI (hdA (dropN (getRow (elsA H 1) 0) 1))), (toI (hdA (dropN (getRow (elsA H 1) 0) 2))), (toI (hdA (dropN (getRow (elsA H 2) 0) 0))), (toI (hdA (dropN (getRow (elsA H 2) 0) 1))), (toI (hdA (dropN (getRow (elsA H 2) 0) 2))), (toI (hdA (dropN (getRow (elsA H 2) 0) 3))), (toI (hdA (dropN (getRow (elsA H 2) 0) 4))), (toI (hdA (dropN (getRow (elsA H 2) 0) 5))), (toI (hdA (dropN (getRow (elsA H 2) 0) 6))), (toI (hdA (dropN (getRow (elsA H 2) 0) 7))), (toI (hdA (dropN (getRow (elsA H 2) 0) 8))), (toI (hdA (dropN (getRow (elsA H 2) 0) 9))), (toI (hdA (dropN (getRow (elsA H 2) 0) 10))), (toI (hdA (dropN (getRow (elsA H 2) 0) 11))), (toI (hdA (dropN (getRow (elsA H 2) 0) 12))), (toI (hdA (dropN (getRow (elsA H 3) 0) 0))), (toI (hdA (dropN (getRow (elsA H 3) 0) 1))), (toI (hdA (dropN (getRow (elsA H 3) 0) 2))), (toI (hdA (dropN (getRow (elsA H 3) 0) 3))), (toI (hdA (dropN (getRow (elsA H 3) 0) 4))), (toI (hdA (dropN (getRow (elsA H 3) 0) 5))), (toI (hdA (dropN (getRow (elsA H 3) 0) 6))), (toI (hdA (dropN (getRow (elsA H 3) 0) 7))), (toI (hdA (dropN (getRow (elsA H 3) 0) 8))), (toI (hdA (dropN (getRow (elsA H 3) 0) 9))), (toI (hdA (dropN (getRow (elsA H 3) 0) 10))), (toI (hdA (dropN (getRow (elsA H 3) 0) 11))), (toI (hdA (dropN (getRow (elsA H 3) 0) 12))), (toI (hdA (dropN (getRow (elsA H 4) 0) 0))), (toI (hdA (dropN (getRow (elsA H 4) 0) 1))), (toI (hdA (dropN (getRow (elsA H 4) 0) 2))), (toI (hdA (dropN (getRow (elsA H 4) 0) 3))), (toI (hdA (dropN (getRow (elsA H 4) 0) 4))), (toI (hdA (dropN (getRow (elsA H 4) 0) 5))), (toI (hdA (dropN (getRow (elsA H 4) 0) 6))), (toI (hdA (dropN (getRow (elsA H 4) 0) 7))), (toI (hdA (dropN (getRow (elsA H 4) 0) 8))), (toI (hdA (dropN (getRow (elsA H 4) 0) 9))), (toI (hdA (dropN (getRow (elsA H 4) 0) 10))), (toI (hdA (dropN (getRow (elsA H 4) 0) 11))), (toI (hdA (dropN (getRow (elsA H 4) 0) 12))), (toI (hdA (dropN (getRow (elsA H 5) 0) 0))), (toI (hdA (dropN (getRow (elsA H 5) 0) 1))), (toI (hdA (dropN (getRow (elsA H 5) 0) 2)))⟩, ⟨(slN (slotA a 19)), (toI (slotA a 20)), (elsA H 6)⟩)⟩
theorem la7_0_0 (a : List AVal) (H : List ABlk) : (⟨asSls al7_0_0.sh a, asBks al7_0_0.bl H⟩ : St) = en7_0 (al7_0_0.rd (asSls al7_0_0.sh a) (asBks al7_0_0.bl H)).1 (al7_0_0.rd (asSls al7_0_0.sh a) (asBks al7_0_0.bl H)).2 := by kernel_rfl
noncomputable def as7_0 : List (Alt Pg7_0 Sg7_0) := [al7_0_0]
theorem lo7_0 (s : St) : BelowC 0 pf7.res ((loopL 0 [1, 8, 10, 13, 14, 15, 16, 17, 18, 19, 20] as7_0 st7_0 xs7_0) s) (exec (En tb7) 0 (.loop [1, 8, 10, 13, 14, 15, 16, 17, 18, 19, 20] l7_0) s) :=
  loopC_below (res := pf7.res) (E := En tb7) (enc := en7_0) (body := (.pc l7_0)) (alts := as7_0) (xs := xs7_0) (.pc _) rfl (.cons la7_0_0 .nil) (.cons nx7_0_1 (.cons nx7_0_2 .nil)) (fun p s => sp7_0 p s) s
structure Pg7_2 where
  is18 : Int
  ns19 : Nat
  is102 : Int
  ns148 : Nat
  is149 : Int
  ih0_0_0 : Int
  ih0_0_1 : Int
  ih0_0_2 : Int
  ih1_0_0 : Int
  ih1_0_1 : Int
  ih1_0_2 : Int
  eh2 : List (List AVal)
  ih3_0_0 : Int
  ih3_0_1 : Int
  ih3_0_2 : Int
  ih3_0_3 : Int
  ih3_0_4 : Int
  ih3_0_5 : Int
  ih3_0_6 : Int
  ih3_0_7 : Int
  ih3_0_8 : Int
  ih3_0_9 : Int
  ih3_0_10 : Int
  ih3_0_11 : Int
  ih3_0_12 : Int
  ih4_0_4 : Int
  ih4_0_5 : Int
  ih4_0_6 : Int
  ih4_0_7 : Int
  ih4_0_8 : Int
  ih4_0_9 : Int
  ih4_0_10 : Int
  ih4_0_11 : Int
  ih4_0_12 : Int
  ih4_1_0 : Int
  ih4_1_1 : Int
  ih4_1_2 : Int
  ih4_1_3 : Int
  ih4_1_4 : Int
  ih4_1_5 : Int
  ih4_1_6 : Int
  ih4_1_7 : Int
  ih4_1_8 : Int
  ih4_1_9 : Int
  ih4_1_10 : Int
  ih4_1_11 : Int
  ih4_1_12 : Int
  ih4_2_0 : Int
  ih4_2_1 : Int
  ih4_2_2 : Int
  ih4_2_3 : Int
  ih4_2_4 : Int
  ih4_2_5 : Int
  ih4_2_6 : Int
  ih4_2_7 : Int
  ih4_2_8 : Int
  ih4_2_9 : Int
  ih4_2_10 : Int
  ih4_2_11 : Int
  ih4_2_12 : Int
structure Sg7_2 where
  ph : Nat
  is150 : Int
  ih4_0_0 : Int
  ih4_0_1 : Int
  ih4_0_2 : Int
  ih4_0_3 : Int
  ns30 : Nat
  eh4 : List (List AVal)
  ih5_0_0 : Int
  ih5_0_1 : Int
  ih5_0_2 : Int
  ih5_0_3 : Int
  ih5_0_4 : Int
  ih5_0_5 : Int
  ih5_0_6 : Int
  ih5_0_7 : Int
  ih5_0_8 : Int
  ih5_0_9 : Int
  ih5_0_10 : Int
  ih5_0_11 : Int
  ih5_0_12 : Int
  ih5_1_0 : Int
  ih5_1_1 : Int
  ih5_1_2 : Int
  ih5_1_3 : Int
  ih5_1_4 : Int
  ih5_1_5 : Int
  ih5_1_6 : Int
  ih5_1_7 : Int
  ih5_1_8 : Int
  ih5_1_9 : Int
  ih5_1_10 : Int
  ih5_1_11 : Int
  ih5_1_12 : Int
  ih5_2_0 : Int
  ih5_2_1 : Int
  ih5_2_2 : Int
  ih5_2_3 : Int
  ih5_2_4 : Int
  ih5_2_5 : Int
  ih5_2_6 : Int
  ih5_2_7 : Int
  ih5_2_8 : Int
  ih5_2_9 : Int
  ih5_2_10 : Int
  ih5_2_11 : Int
  ih5_2_12 : Int
noncomputable def h7_2_0 (p : Pg7_2) (s : Sg7_2) : St := ⟨(ra 10 ((.ptr 0 0 0 0) :: (.unk :: (.unk :: ((b true) :: (ra 3 ((.ptr 1 0 0 0) :: ((i p.is18) :: ((.sl 2 0 p.ns19 0) :: (ra 3 ((.ptr 3 0 0 0) :: (ra 6 ((.v (.slice none 0 0)) :: (ra 69 ((.sl 4 0 3 0) :: ((i 3) :: ((i p.is102) :: (ra 45 ((.sl 2 0 p.ns148 0) :: ((i p.is149) :: ((i s.is150) :: (ra 61 [])))))))))))))))))))))), [⟨0, 3, [[(i p.ih0_0_0), (i p.ih0_0_1), (i p.ih0_0_2)]], true, false, 0⟩, ⟨0, 3, [[(i p.ih1_0_0), (i p.ih1_0_1), (i p.ih1_0_2)]], true, false, 0⟩, ⟨56, 4, p.eh2, true, false, 0⟩, ⟨0, 13, [[(i p.ih3_0_0), (i p.ih3_0_1), (i p.ih3_0_2), (i p.ih3_0_3), (i p.ih3_0_4), (i p.ih3_0_5), (i p.ih3_0_6), (i p.ih3_0_7), (i p.ih3_0_8), (i p.ih3_0_9), (i p.ih3_0_10), (i p.ih3_0_11), (i p.ih3_0_12)]], true, false, 0⟩, ⟨32, 13, [[(i s.ih4_0_0), (i s.ih4_0_1), (i s.ih4_0_2), (i s.ih4_0_3), (i p.ih4_0_4), (i p.ih4_0_5), (i p.ih4_0_6), (i p.ih4_0_7), (i p.ih4_0_8), (i p.ih4_0_9), (i p.ih4_0_10), (i p.ih4_0_11), (i p.ih4_0_12)], [(i p.ih4_1_0), (i p.ih4_1_1), (i p.ih4_1_2), (i p.ih4_1_3), (i p.ih4_1_4), (i p.ih4_1_5), (i p.ih4_1_6), (i p.ih4_1_7), (i p.ih4_1_8), (i p.ih4_1_9), (i p.ih4_1_10), (i p.ih4_1_11), (i p.ih4_1_12)], [(i p.ih4_2_0), (i p.ih4_2_1), (i p.ih4_2_2), (i p.ih4_2_3), (i p.ih4_2_4), (i p.ih4_2_5), (i p.ih4_2_6), (i p.ih4_2_7), (i p.ih4_2_8), (i p.ih4_2_9), (i p.ih4_2_10), (i p.ih4_2_11), (i p.ih4_2_12)]], true, false, 0⟩]⟩
noncomputable def h7_2_1 (p : Pg7_2) (s : Sg7_2) : St := ⟨(ra 10 ((.ptr 0 0 0 0) :: (.unk :: (.unk :: ((b true) :: (ra 3 ((.ptr 1 0 0 0) :: ((i p.is18) :: ((.sl 2 0 p.ns19 0) :: (ra 3 ((.ptr 3 0 0 0) :: (ra 6 ((.sl 4 0 s.ns30 0) :: (ra 69 ((.sl 5 0 3 0) :: ((i 3) :: ((i p.is102) :: (ra 45 ((.sl 2 0 p.ns148 0) :: ((i p.is149) :: ((i s.is150) :: (ra 61 [])))))))))))))))))))))), [⟨0, 3, [[(i p.ih0_0_0), (i p.ih0_0_1), (i p.ih0_0_2)]], true, false, 0⟩, ⟨0, 3, [[(i p.ih1_0_0), (i p.ih1_0_1), (i p.ih1_0_2)]], true, false, 0⟩, ⟨56, 4, p.eh2, true, false, 0⟩, ⟨0, 13, [[(i p.ih3_0_0), (i p.ih3_0_1), (i p.ih3_0_2), (i p.ih3_0_3), (i p.ih3_0_4), (i p.ih3_0_5), (i p.ih3_0_6), (i p.ih3_0_7), (i p.ih3_0_8), (i p.ih3_0_9), (i p.ih3_0_10), (i p.ih3_0_11), (i p.ih3_0_12)]], true, false, 0⟩, ⟨56, 4, s.eh4, true, false, 0⟩, ⟨32, 13, [[(i s.ih5_0_0), (i s.ih5_0_1), (i s.ih5_0_2), (i s.ih5_0_3), (i s.ih5_0_4), (i s.ih5_0_5), (i s.ih5_0_6), (i s.ih5_0_7), (i s.ih5_0_8), (i s.ih5_0_9), (i s.ih5_0_10), (i s.ih5_0_11), (i s.ih5_0_12)], [(i s.ih5_1_0), (i s.ih5_1_1), (i s.ih5_1_2), (i s.ih5_1_3), (i s.ih5_1_4), (i s.ih5_1_5), (i s.ih5_1_6), (i s.ih5_1_7), (i s.ih5_1_8), (i s.ih5_1_9), (i s.ih5_1_10), (i s.ih5_1_11), (i s.ih5_1_12)], [(i s.ih5_2_0), (i s.ih5_2_1), (i s.ih5_2_2), (i s.ih5_2_3), (i s.ih5_2_4), (i s.ih5_2_5), (i s.ih5_2_6), (i s.ih5_2_7), (i s.ih5_2_8), (i s.ih5_2_9), (i s.ih5_2_10), (i s.ih5_2_11), (i s.ih5_2_12)]], true, false, 0⟩]⟩
noncomputable def h7_2_2 (p : Pg7_2) (s : Sg7_2) : St := ⟨(ra 10 ((.ptr 0 0 0 0) :: (.unk :: (.unk :: ((b true) :: (ra 3 ((.ptr 1 0 0 0) :: ((i p.is18) :: ((.sl 2 0 p.ns19 0) :: (ra 3 ((.ptr 3 0 0 0) :: (ra 6 ((.v (.slice none 0 0)) :: (ra 69 ((.sl 4 0 3 0) :: ((i 3) :: ((i p.is102) :: (ra 45 ((.sl 2 0 p.ns148 0) :: ((i p.is149) :: ((i s.is150) :: (ra 61 [])))))))))))))))))))))), [⟨0, 3, [[(i p.ih0_0_0), (i p.ih0_0_1), (i p.ih0_0_2)]], true, false, 0⟩, ⟨0, 3, [[(i p.ih1_0_0), (i p.ih1_0_1), (i p.ih1_0_2)]], true, false, 0⟩, ⟨56, 4, p.eh2, false, false, 0⟩, ⟨0, 13, [[(i p.ih3_0_0), (i p.ih3_0_1), (i p.ih3_0_2), (i p.ih3_0_3), (i p.ih3_0_4), (i p.ih3_0_5), (i p.ih3_0_6), (i p.ih3_0_7), (i p.ih3_0_8), (i p.ih3_0_9), (i p.ih3_0_10), (i p.ih3_0_11), (i p.ih3_0_12)]], true, false, 0⟩, ⟨32, 13, [[(i s.ih4_0_0), (i s.ih4_0_1), (i s.ih4_0_2), (i s.ih4_0_3), (i p.ih4_0_4), (i p.ih4_0_5), (i p.ih4_0_6), (i p.ih4_0_7), (i p.ih4_0_8), (i p.ih4_0_9), (i p.ih4_0_10), (i p.ih4_0_11), (i p.ih4_0_12)], [(i p.ih4_1_0), (i p.ih4_1_1), (i p.ih4_1_2), (i p.ih4_1_3), (i p.ih4_1_4), (i p.ih4_1_5), (i p.ih4_1_6), (i p.ih4_1_7), (i p.ih4_1_8), (i p.ih4_1_9), (i p.ih4_1_10), (i p.ih4_1_11), (i p.ih4_1_12)], [(i p.ih4_2_0), (i p.ih4_2_1), (i p.ih4_2_2), (i p.ih4_2_3), (i p.ih4_2_4), (i p.ih4_2_5), (i p.ih4_2_6), (i p.ih4_2_7), (i p.ih4_2_8), (i p.ih4_2_9), (i p.ih4_2_10), (i p.ih4_2_11), (i p.ih4_2_12)]], true, false, 0⟩]⟩
noncomputable def h7_2_3 (p : Pg7_2) (s : Sg7_2) : St := ⟨(ra 10 ((.ptr 0 0 0 0) :: (.unk :: (.unk :: ((b true) :: (ra 3 ((.ptr 1 0 0 0) :: ((i p.is18) :: ((.sl 2 0 p.ns19 0) :: (ra 3 ((.ptr 3 0 0 0) :: (ra 6 ((.sl 4 0 s.ns30 0) :: (ra 69 ((.sl 5 0 3 0) :: ((i 3) :: ((i p.is102) :: (ra 45 ((.sl 2 0 p.ns148 0) :: ((i p.is149) :: ((i s.is150) :: (ra 61 [])))))))))))))))))))))), [⟨0, 3, [[(i p.ih0_0_0), (i p.ih0_0_1), (i p.ih0_0_2)]], true, false, 0⟩, ⟨0, 3, [[(i p.ih1_0_0), (i p.ih1_0_1), (i p.ih1_0_2)]], true, false, 0⟩, ⟨56, 4, p.eh2, false, false, 0⟩, ⟨0, 13, [[(i p.ih3_0_0), (i p.ih3_0_1), (i p.ih3_0_2), (i p.ih3_0_3), (i p.ih3_0_4), (i p.ih3_0_5), (i p.ih3_0_6), (i p.ih3_0_7), (i p.ih3_0_8), (i p.ih3_0_9), (i p.ih3_0_10), (i p.ih3_0_11), (i p.ih3_0_12)]], true, false, 0⟩, ⟨56, 4, s.eh4, true, false, 0⟩, ⟨32, 13, [[(i s.ih5_0_0), (i s.ih5_0_1), (i s.ih5_0_2), (i s.ih5_0_3), (i s.ih5_0_4), (i s.ih5_0_5), (i s.ih5_0_6), (i s.ih5_0_7), (i s.ih5_0_8), (i s.ih5_0_9), (i s.ih5_0_10), (i s.ih5_0_11), (i s.ih5_0_12)], [(i s.ih5_1_0), (i s.ih5_1_1), (i s.ih5_1_2), (i s.ih5_1_3), (i s.ih5_1_4), (i s.ih5_1_5), (i s.ih5_1_6), (i s.ih5_1_7), (i s.ih5_1_8), (i s.ih5_1_9), (i s.ih5_1_10), (i s.ih5_1_11), (i s.ih5_1_12)], [(i s.ih5_2_0), (i s.ih5_2_1), (i s.ih5_2_2), (i s.ih5_2_3), (i s.ih5_2_4), (i s.ih5_2_5), (i s.ih5_2_6), (i s.ih5_2_7), (i s.ih5_2_8), (i s.ih5_2_9), (i s.ih5_2_10), (i s.ih5_2_11), (i s.ih5_2_12)]], true, false, 0⟩]⟩
noncomputable def en7_2 (p : Pg7_2) (s : Sg7_2) : St := (sel (Nat.beq s.ph 3) (h7_2_3 p s) (sel (Nat.beq s.ph 2) (h7_2_2 p s) (sel (Nat.beq s.ph 1) (h7_2_1 p s) (h7_2_0 p s))))
noncomputable def x7_2_1 (p : Pg7_2) (s : Sg7_2) : XExit × St := (.ret, ⟨[(b false)], []⟩)
theorem nx7_2_1 (p : Pg7_2) (s : Sg7_2) : (x7_2_1 p s).1 ≠ .normal := fun h => by
  have h : XExit.ret = XExit.normal := h
  cases h
noncomputable def x7_2_2 (p : Pg7_2) (s : Sg7_2) : XExit × St := (.exit 6, ⟨(ra 10 ((.ptr 0 0 0 0) :: (.unk :: (.unk :: ((b true) :: (ra 3 ((.ptr 1 0 0 0) :: ((i p.is18) :: ((.sl 2 0 p.ns19 0) :: (ra 3 ((.ptr 3 0 0 0) :: (ra 6 ((.v (.slice none 0 0)) :: (ra 69 ((.sl 4 0 3 0) :: ((i 3) :: ((i p.is102) :: (ra 45 ((.sl 2 0 p.ns148 0) :: ((i p.is149) :: ((i s.is150) :: ((b (decide (s.is150 < p.is149))) :: (ra 60 []))))))))))))))))))))))), [⟨0, 3, [[(i p.ih0_0_0), (i p.ih0_0_1), (i p.ih0_0_2)]], true, false, 0⟩, ⟨0, 3, [[(i p.ih1_0_0), (i p.ih1_0_1), (i p.ih1_0_2)]], true, false, 0⟩, ⟨56, 4, p.eh2, true, false, 0⟩, ⟨0, 13, [[(i p.ih3_0_0), (i p.ih3_0_1), (i p.ih3_0_2), (i p.ih3_0_3), (i p.ih3_0_4), (i p.ih3_0_5), (i p.ih3_0_6), (i p.ih3_0_7), (i p.ih3_0_8), (i p.ih3_0_9), (i p.ih3_0_10), (i p.ih3_0_11), (i p.ih3_0_12)]], true, false, 0⟩, ⟨32, 13, [[(i s.ih4_0_0), (i s.ih4_0_1), (i s.ih4_0_2), (i s.ih4_0_3), (i p.ih4_0_4), (i p.ih4_0_5), (i p.ih4_0_6), (i p.ih4_0_7), (i p.ih4_0_8), (i p.ih4_0_9), (i p.ih4_0_10), (i p.ih4_0_11), (i p.ih4_0_12)], [(i p.ih4_1_0), (i p.ih4_1_1), (i p.ih4_1_2), (i p.ih4_1_3), (i p.ih4_1_4), (i p.ih4_1_5), (i p.ih4_1_6), (i p.ih4_1_7), (i p.ih4_1_8), (i p.ih4_1_9), (i p.ih4_1_10), (i p.ih4_1_11), (i p.ih4_1_12)], [(i p.ih4_2_0), (i p.ih4_2_1), (i p.ih4_2_2), (i p.ih4_2_3), (i p.ih4_2_4), (i p.ih4_2_5), (i p.ih4_2_6), (i p.ih4_2_7), (i p.ih4_2_8), (i p.ih4_2_9), (i p.ih4_2_10), (i p.ih4_2_11), (i p.ih4_2_12)]], true, false, 0⟩]⟩)
theorem nx7_2_2 (p : Pg7_2) (s : Sg7_2) : (x7_2_2 p s).1 ≠ .normal := fun h => by
  have h : XExit.exit 6 = XExit.normal := h
  cases h
noncomputable def x7_2_3 (p : Pg7_2) (s : Sg7_2) : XExit × St := (.exit 6, ⟨(ra 10 ((.ptr 0 0 0 0) :: (.unk :: (.unk :: ((b true) :: (ra 3 ((.ptr 1 0 0 0) :: ((i p.is18) :: ((.sl 2 0 p.ns19 0) :: (ra 3 ((.ptr 3 0 0 0) :: (ra 6 ((.sl 4 0 s.ns30 0) :: (ra 69 ((.sl 5 0 3 0) :: ((i 3) :: ((i p.is102) :: (ra 45 ((.sl 2 0 p.ns148 0) :: ((i p.is149) :: ((i s.is150) :: ((b (decide (s.is150 < p.is149))) :: (ra 60 []))))))))))))))))))))))), [⟨0, 3, [[(i p.ih0_0_0), (i p.ih0_0_1), (i p.ih0_0_2)]], true, false, 0⟩, ⟨0, 3, [[(i p.ih1_0_0), (i p.ih1_0_1), (i p.ih1_0_2)]], true, false, 0⟩, ⟨56, 4, p.eh2, true, false, 0⟩, ⟨0, 13, [[(i p.ih3_0_0), (i p.ih3_0_1), (i p.ih3_0_2), (i p.ih3_0_3), (i p.ih3_0_4), (i p.ih3_0_5), (i p.ih3_0_6), (i p.ih3_0_7), (i p.ih3_0_8), (i p.ih3_0_9), (i p.ih3_0_10), (i p.ih3_0_11), (i p.ih3_0_12)]], true, false, 0⟩, ⟨56, 4, s.eh4, true, false, 0⟩, ⟨32, 13, [[(i s.ih5_0_0), (i s.ih5_0_1), (i s.ih5_0_2), (i s.ih5_0_3), (i s.ih5_0_4), (i s.ih5_0_5), (i s.ih5_0_6), (i s.ih5_0_7), (i s.ih5_0_8), (i s.ih5_0_9), (i s.ih5_0_10), (i s.ih5_0_11), (i s.ih5_0_12)], [(i s.ih5_1_0), (i s.ih5_1_1), (i s.ih5_1_2), (i s.ih5_1_3), (i s.ih5_1_4), (i s.ih5_1_5), (i s.ih5_1_6), (i s.ih5_1_7), (i s.ih5_1_8), (i s.ih5_1_9), (i s.ih5_1_10), (i s.ih5_1_11), (i s.ih5_1_12)], [(i s.ih5_2_0), (i s.ih5_2_1), (i s.ih5_2_2), (i s.ih5_2_3), (i s.ih5_2_4), (i s.ih5_2_5), (i s.ih5_2_6), (i s.ih5_2_7), (i s.ih5_2_8), (i s.ih5_2_9), (i s.ih5_2_10), (i s.ih5_2_11), (i s.ih5_2_12)]], true, false, 0⟩]⟩)
theorem nx7_2_3 (p : Pg7_2) (s : Sg7_2) : (x7_2_3 p s).1 ≠ .normal := fun h => by
  have h : XExit.exit 6 = XExit.normal := h
  cases h
noncomputable def x7_2_4 (p : Pg7_2) (s : Sg7_2) : XExit × St := (.exit 6, ⟨(ra 10 ((.ptr 0 0 0 0) :: (.unk :: (.unk :: ((b true) :: (ra 3 ((.ptr 1 0 0 0) :: ((i p.is18) :: ((.sl 2 0 p.ns19 0) :: (ra 3 ((.ptr 3 0 0 0) :: (ra 6 ((.v (.slice none 0 0)) :: (ra 69 ((.sl 4 0 3 0) :: ((i 3) :: ((i p.is102) :: (ra 45 ((.sl 2 0 p.ns148 0) :: ((i p.is149) :: ((i s.is150) :: ((b (decide (s.is150 < p.is149))) :: (ra 60 []))))))))))))))))))))))), [⟨0, 3, [[(i p.ih0_0_0), (i p.ih0_0_1), (i p.ih0_0_2)]], true, false, 0⟩, ⟨0, 3, [[(i p.ih1_0_0), (i p.ih1_0_1), (i p.ih1_0_2)]], true, false, 0⟩, ⟨56, 4, p.eh2, false, false, 0⟩, ⟨0, 13, [[(i p.ih3_0_0), (i p.ih3_0_1), (i p.ih3_0_2), (i p.ih3_0_3), (i p.ih3_0_4), (i p.ih3_0_5), (i p.ih3_0_6), (i p.ih3_0_7), (i p.ih3_0_8), (i p.ih3_0_9), (i p.ih3_0_10), (i p.ih3_0_11), (i p.ih3_0_12)]], true, false, 0⟩, ⟨32, 13, [[(i s.ih4_0_0), (i s.ih4_0_1), (i s.ih4_0_2), (i s.ih4_0_3), (i p.ih4_0_4), (i p.ih4_0_5), (i p.ih4_0_6), (i p.ih4_0_7), (i p.ih4_0_8), (i p.ih4_0_9), (i p.ih4_0_10), (i p.ih4_0_11), (i p.ih4_0_12)], [(i p.ih4_1_0), (i p.ih4_1_1), (i p.ih4_1_2), (i p.ih4_1_3), (i p.ih4_1_4), (i p.ih4_1_5), (i p.ih4_1_6), (i p.ih4_1_7), (i p.ih4_1_8), (i p.ih4_1_9), (i p.ih4_1_10), (i p.ih4_1_11), (i p.ih4_1_12)], [(i p.ih4_2_0), (i p.ih4_2_1), (i p.ih4_2_2), (i p.ih4_2_3), (i p.ih4_2_4), (i p.ih4_2_5), (i p.ih4_2_6), (i p.ih4_2_7), (i p.ih4_2_8), (i p.ih4_2_9), (i p.ih4_2_10), (i p.ih4_2_11), (i p.ih4_2_12)]], true, false, 0⟩]⟩)
theorem nx7_2_4 (p : Pg7_2) (s : Sg7_2) : (x7_2_4 p s).1 ≠ .normal := fun h => by
  have h : XExit.exit 6 = XExit.normal := h
  cases h
noncomputable def x7_2_5 (p : Pg7_2) (s : Sg7_2) : XExit × St := (.exit 6, ⟨(ra 10 ((.ptr 0 0 0 0) :: (.unk :: (.unk :: ((b true) :: (ra 3 ((.ptr 1 0 0 0) :: ((i p.is18) :: ((.sl 2 0 p.ns19 0) :: (ra 3 ((.ptr 3 0 0 0) :: (ra 6 ((.sl 4 0 s.ns30 0) :: (ra 69 ((.sl 5 0 3 0) :: ((i 3) :: ((i p.is102) :: (ra 45 ((.sl 2 0 p.ns148 0) :: ((i p.is149) :: ((i s.is150) :: ((b (decide (s.is150 < p.is149))) :: (ra 60 []))))))))))))))))))))))), [⟨0, 3, [[(i p.ih0_0_0), (i p.ih0_0_1), (i p.ih0_0_2)]], true, false, 0⟩, ⟨0, 3, [[(i p.ih1_0_0), (i p.ih1_0_1), (i p.ih1_0_2)]], true, false, 0⟩, ⟨56, 4, p.eh2, false, false, 0⟩, ⟨0, 13, [[(i p.ih3_0_0), (i p.ih3_0_1), (i p.ih3_0_2), (i p.ih3_0_3), (i p.ih3_0_4), (i p.ih3_0_5), (i p.ih3_0_6), (i p.ih3_0_7), (i p.ih3_0_8), (i p.ih3_0_9), (i p.ih3_0_10), (i p.ih3_0_11), (i p.ih3_0_12)]], true, false, 0⟩, ⟨56, 4, s.eh4, true, false, 0⟩, ⟨32, 13, [[(i s.ih5_0_0), (i s.ih5_0_1), (i s.ih5_0_2), (i s.ih5_0_3), (i s.ih5_0_4), (i s.ih5_0_5), (i s.ih5_0_6), (i s.ih5_0_7), (i s.ih5_0_8), (i s.ih5_0_9), (i s.ih5_0_10), (i s.ih5_0_11), (i s.ih5_0_12)], [(i s.ih5_1_0), (i s.ih5_1_1), (i s.ih5_1_2), (i s.ih5_1_3), (i s.ih5_1_4), (i s.ih5_1_5), (i s.ih5_1_6), (i s.ih5_1_7), (i s.ih5_1_8), (i s.ih5_1_9), (i s.ih5_1_10), (i s.ih5_1_11), (i s.ih5_1_12)], [(i s.ih5_2_0), (i s.ih5_2_1), (i s.ih5_2_2), (i s.ih5_2_3), (i s.ih5_2_4), (i s.ih5_2_5), (i s.ih5_2_6), (i s.ih5_2_7), (i s.ih5_2_8), (i s.ih5_2_9), (i s.ih5_2_10), (i s.ih5_2_11), (i s.ih5_2_12)]], true, false, 0⟩]⟩)
theorem nx7_2_5 (p : Pg7_2) (s : Sg7_2) : (x7_2_5 p s).1 ≠ .normal := fun h => by
  have h : XExit.exit 6 = XExit.normal := h
  cases h
noncomputable def xs7_2 : List (Pg7_2 → Sg7_2 → XExit × St) := [x7_2_1, x7_2_2, x7_2_3, x7_2_4, x7_2_5]
@[reducible] def l7_2 : PC := (.seq (.ops [(o 151 (.bin .lss (.t 150) (.t 149)))]) (.seq (.cond (.t 151) .skip (.exit 6)) (.seq (.block 7 (.seq (.ops [(o 152 (.idxS 4 (.t 148) (.t 150))), (o 153 (.load (ki 4) 4 true (.t 152))), (o 32 (.alloc (rep 4 (vi 0)))), (s (.store 4 (.t 32) (.t 153)))]) (.seq (.ops [(o 155 (.load (ki 13) 13 true (.t 23))), (o 156 (.load (ki 4) 4 true (.t 32))), (o 157 (.call 28 [(.t 155), (.t 156)])), (o 154 (.mv (.t 157))), (o 158 (.ext (.t 154) 0)), (o 159 (.ext (.t 154) 1)), (o 33 (.alloc (rep 4 (vi 0)))), (s (.store 4 (.t 33) (.t 158))), (o 34 (.mv (.t 159)))]) (.seq (.ops [(o 161 (.load (ki 13) 13 true (.t 23))), (o 162 (.load (ki 4) 4 true (.t 32))), (o 163 (.call 29 [(.t 161), (.t 162)])), (o 160 (.mv (.t 163))), (o 164 (.ext (.t 160) 0)), (o 165 (.ext (.t 160) 1)), (o 35 (.alloc (rep 4 (vi 0)))), (s (.store 4 (.t 35) (.t 164))), (o 36 (.mv (.t 165)))]) (.seq (.seq (.ops [(o 166 (.load (ki 4) 4 true (.t 33))), (o 167 (.load (ki 4) 4 true (.t 35))), (o 168 (.eqc true [(0, (.int .i64)), (1, (.int .i64)), (2, (.int .i64)), (3, (.int .i64))] (.t 166) (.t 167))), (o 169 (.mv (.t 168))), ⟨(.some 170), (.some (169, false)), [], (.mv (.t 34))⟩, ⟨(.some 171), (.some (169, false)), [], (.mv (.t 36))⟩, ⟨(.some 172), (.some (169, false)), [], (.eqn 3 true (.t 170) (.t 171) ⟨none, (.binOp .neq 4 (.tmp 170) (.tmp 171) 4), 4, "", #[], none⟩ [170, 171])⟩, (o 173 (.pick (.t 169) (cb true) (.t 172)))]) (.cond (.t 173) (.seq (.ops [(o 12 (.mv (cb false)))]) .ret) .skip)) (.seq (.ops [(o 174 (.mv (.t 36)))]) (.cond (.t 174) (.ops [(o 175 (.mv (.t 30))), (o 176 (.load (ki 4) 4 true (.t 32))), (o 177 (.bslice 56 4 1 (rep 4 (vi 0)) [(0, (4, (.t 176)))])), (o 178 (.append 56 4 32 (.t 175) (.t 177))), (o 30 (.mv (.t 178)))]) .skip))))))) (.ops [(o 179 (.bin .add (.t 150) (ci 1))), (o 150 (.mv (.t 179)))]))))
noncomputable def fo7_2 (p : Pg7_2) (s : Sg7_2) : Stp Sg7_2 → Option (XExit × St) := onStp (fun s' => some (.normal, en7_2 p s')) (fun t => xAt xs7_2 p s t 1) none
noncomputable def ut7_2_0 {α : Type} (k : Sg7_2 → α) (e : Nat → α) (z : α) (p : Pg7_2) (s : Sg7_2) : α := let t1 := (getRow p.eh2 (0 + s.is150.toNat)); let t2 := (dropN t1 0); let t3 := (toI (hdA t2)); let t4 := (toI (hdA (tlA t2))); let t5 := (toI (hdA (tlA (tlA t2)))); let t6 := (toI (hdA (tlA (tlA (tlA t2))))); let t7 := (p28 (⟨(⟨(⟨(⟨p.ih3_0_0, p.ih3_0_1, p.ih3_0_2⟩ : V3), (⟨p.ih3_0_3, p.ih3_0_4, p.ih3_0_5⟩ : V3), (⟨p.ih3_0_6, p.ih3_0_7, p.ih3_0_8⟩ : V3)⟩ : M3), p.ih3_0_9⟩ : Trn), (⟨p.ih3_0_10, p.ih3_0_11, p.ih3_0_12⟩ : V3)⟩ : Frm) (⟨(⟨t3, t4, t5⟩ : V3), t6⟩ : Pln)); let t8 := (p29 (⟨(⟨(⟨(⟨p.ih3_0_0, p.ih3_0_1, p.ih3_0_2⟩ : V3), (⟨p.ih3_0_3, p.ih3_0_4, p.ih3_0_5⟩ : V3), (⟨p.ih3_0_6, p.ih3_0_7, p.ih3_0_8⟩ : V3)⟩ : M3), p.ih3_0_9⟩ : Trn), (⟨p.ih3_0_10, p.ih3_0_11, p.ih3_0_12⟩ : V3)⟩ : Frm) (⟨(⟨t3, t4, t5⟩ : V3), t6⟩ : Pln)); (sel (decide (s.is150 < p.is149))
 (sel (inB s.is150 p.ns148)
  (sel (((Nat.blt (0 + s.is150.toNat) (len p.eh2)) && (Nat.ble (0 + 4) (len t1))) && (okCKs [(CK.int .i64), (CK.int .i64), (CK.int .i64), (CK.int .i64)] t2))
  (sel (g28 (⟨(⟨(⟨(⟨p.ih3_0_0, p.ih3_0_1, p.ih3_0_2⟩ : V3), (⟨p.ih3_0_3, p.ih3_0_4, p.ih3_0_5⟩ : V3), (⟨p.ih3_0_6, p.ih3_0_7, p.ih3_0_8⟩ : V3)⟩ : M3), p.ih3_0_9⟩ : Trn), (⟨p.ih3_0_10, p.ih3_0_11, p.ih3_0_12⟩ : V3)⟩ : Frm) (⟨(⟨t3, t4, t5⟩ : V3), t6⟩ : Pln))
  (sel (g29 (⟨(⟨(⟨(⟨p.ih3_0_0, p.ih3_0_1, p.ih3_0_2⟩ : V3), (⟨p.ih3_0_3, p.ih3_0_4, p.ih3_0_5⟩ : V3), (⟨p.ih3_0_6, p.ih3_0_7, p.ih3_0_8⟩ : V3)⟩ : M3), p.ih3_0_9⟩ : Trn), (⟨p.ih3_0_10, p.ih3_0_11, p.ih3_0_12⟩ : V3)⟩ : Frm) (⟨(⟨t3, t4, t5⟩ : V3), t6⟩ : Pln))
  (sel (!((t7.1.n.x == t8.1.n.x) && ((t7.1.n.y == t8.1.n.y) && ((t7.1.n.z == t8.1.n.z) && ((t7.1.b == t8.1.b) && true)))))
  (e 1)
  (sel (!(t7.2 == t8.2))
  (e 1)
  (sel t8.2
  (k ⟨1, (W (s.is150 + 1)), 0, 0, 0, 0, 1, [[(i t3), (i t4), (i t5), (i t6)]], s.ih4_0_0, s.ih4_0_1, s.ih4_0_2, s.ih4_0_3, p.ih4_0_4, p.ih4_0_5, p.ih4_0_6, p.ih4_0_7, p.ih4_0_8, p.ih4_0_9, p.ih4_0_10, p.ih4_0_11, p.ih4_0_12, p.ih4_1_0, p.ih4_1_1, p.ih4_1_2, p.ih4_1_3, p.ih4_1_4, p.ih4_1_5, p.ih4_1_6, p.ih4_1_7, p.ih4_1_8, p.ih4_1_9, p.ih4_1_10, p.ih4_1_11, p.ih4_1_12, p.ih4_2_0, p.ih4_2_1, p.ih4_2_2, p.ih4_2_3, p.ih4_2_4, p.ih4_2_5, p.ih4_2_6, p.ih4_2_7, p.ih4_2_8, p.ih4_2_9, p.ih4_2_10, p.ih4_2_11, p.ih4_2_12⟩)
  (k ⟨0, (W (s.is150 + 1)), s.ih4_0_0, s.ih4_0_1, s.ih4_0_2, s.ih4_0_3, 0, [], 0, 0, 0, 0, 0, 0, 0, 0, 0, 0, 0, 0, 0, 0, 0, 0, 0, 0, 0, 0, 0, 0, 0, 0, 0, 0, 0, 0, 0, 0, 0, 0, 0, 0, 0, 0, 0, 0, 0⟩))))
  z)
  z)
  z)
  z)
 (e 2))
noncomputable def su7_2_0 (p : Pg7_2) (s : Sg7_2) : Stp Sg7_2 := ut7_2_0 .next .exit .fail p s
theorem q7_2_0 {α β : Type} (F : α → β) (k : Sg7_2 → α) (e : Nat → α) (z : α) (p : Pg7_2) (s : Sg7_2) : F (ut7_2_0 k e z p s) = ut7_2_0 (fun x => F (k x)) (fun t => F (e t)) (F z) p s := by
  unfold ut7_2_0
  exact (stpSel (f := F) (stpSel (f := F) (stpSel (f := F) (stpSel (f := F) (stpSel (f := F) (stpSel (f := F) rfl (stpSel (f := F) rfl (stpSel (f := F) rfl rfl))) rfl) rfl) rfl) rfl) rfl)
theorem rd7_2_0 (p : Pg7_2) (s : Sg7_2) : (roundC (En tb7) 0 pf7.res [10, 13, 17, 18, 19, 23, 30, 100, 101, 102, 148, 149, 150] (.pc l7_2) (h7_2_0 p s)).run = ut7_2_0 (fun s' => some (.normal, en7_2 p s')) (fun t => xAt xs7_2 p s t 1) none p s := by kernel_rfl
theorem sp7_2_0 (p : Pg7_2) (s : Sg7_2) : (roundC (En tb7) 0 pf7.res [10, 13, 17, 18, 19, 23, 30, 100, 101, 102, 148, 149, 150] (.pc l7_2) (h7_2_0 p s)).run = fo7_2 p s (su7_2_0 p s) := (rd7_2_0 p s).trans (q7_2_0 (fo7_2 p s) Stp.next Stp.exit Stp.fail p s).symm
noncomputable def ut7_2_1 {α : Type} (k : Sg7_2 → α) (e : Nat → α) (z : α) (p : Pg7_2) (s : Sg7_2) : α := let t1 := (getRow p.eh2 (0 + s.is150.toNat)); let t2 := (dropN t1 0); let t3 := (toI (hdA t2)); let t4 := (toI (hdA (tlA t2))); let t5 := (toI (hdA (tlA (tlA t2)))); let t6 := (toI (hdA (tlA (tlA (tlA t2))))); let t7 := (p28 (⟨(⟨(⟨(⟨p.ih3_0_0, p.ih3_0_1, p.ih3_0_2⟩ : V3), (⟨p.ih3_0_3, p.ih3_0_4, p.ih3_0_5⟩ : V3), (⟨p.ih3_0_6, p.ih3_0_7, p.ih3_0_8⟩ : V3)⟩ : M3), p.ih3_0_9⟩ : Trn), (⟨p.ih3_0_10, p.ih3_0_11, p.ih3_0_12⟩ : V3)⟩ : Frm) (⟨(⟨t3, t4, t5⟩ : V3), t6⟩ : Pln)); let t8 := (p29 (⟨(⟨(⟨(⟨p.ih3_0_0, p.ih3_0_1, p.ih3_0_2⟩ : V3), (⟨p.ih3_0_3, p.ih3_0_4, p.ih3_0_5⟩ : V3), (⟨p.ih3_0_6, p.ih3_0_7, p.ih3_0_8⟩ : V3)⟩ : M3), p.ih3_0_9⟩ : Trn), (⟨p.ih3_0_10, p.ih3_0_11, p.ih3_0_12⟩ : V3)⟩ : Frm) (⟨(⟨t3, t4, t5⟩ : V3), t6⟩ : Pln)); (sel (decide (s.is150 < p.is149))
 (sel (inB s.is150 p.ns148)
  (sel (((Nat.blt (0 + s.is150.toNat) (len p.eh2)) && (Nat.ble (0 + 4) (len t1))) && (okCKs [(CK.int .i64), (CK.int .i64), (CK.int .i64), (CK.int .i64)] t2))
  (sel (g28 (⟨(⟨(⟨(⟨p.ih3_0_0, p.ih3_0_1, p.ih3_0_2⟩ : V3), (⟨p.ih3_0_3, p.ih3_0_4, p.ih3_0_5⟩ : V3), (⟨p.ih3_0_6, p.ih3_0_7, p.ih3_0_8⟩ : V3)⟩ : M3), p.ih3_0_9⟩ : Trn), (⟨p.ih3_0_10, p.ih3_0_11, p.ih3_0_12⟩ : V3)⟩ : Frm) (⟨(⟨t3, t4, t5⟩ : V3), t6⟩ : Pln))
  (sel (g29 (⟨(⟨(⟨(⟨p.ih3_0_0, p.ih3_0_1, p.ih3_0_2⟩ : V3), (⟨p.ih3_0_3, p.ih3_0_4, p.ih3_0_5⟩ : V3), (⟨p.ih3_0_6, p.ih3_0_7, p.ih3_0_8⟩ : V3)⟩ : M3), p.ih3_0_9⟩ : Trn), (⟨p.ih3_0_10, p.ih3_0_11, p.ih3_0_12⟩ : V3)⟩ : Frm) (⟨(⟨t3, t4, t5⟩ : V3), t6⟩ : Pln))
  (sel (!((t7.1.n.x == t8.1.n.x) && ((t7.1.n.y == t8.1.n.y) && ((t7.1.n.z == t8.1.n.z) && ((t7.1.b == t8.1.b) && true)))))
  (e 1)
  (sel (!(t7.2 == t8.2))
  (e 1)
  (sel t8.2
  (sel (Nat.beq s.ns30 (len s.eh4) && Nat.ble ((s.ns30 + 1) * 32) room)
  (k ⟨1, (W (s.is150 + 1)), 0, 0, 0, 0, (s.ns30 + 1), (app s.eh4 [[(i t3), (i t4), (i t5), (i t6)]]), s.ih5_0_0, s.ih5_0_1, s.ih5_0_2, s.ih5_0_3, s.ih5_0_4, s.ih5_0_5, s.ih5_0_6, s.ih5_0_7, s.ih5_0_8, s.ih5_0_9, s.ih5_0_10, s.ih5_0_11, s.ih5_0_12, s.ih5_1_0, s.ih5_1_1, s.ih5_1_2, s.ih5_1_3, s.ih5_1_4, s.ih5_1_5, s.ih5_1_6, s.ih5_1_7, s.ih5_1_8, s.ih5_1_9, s.ih5_1_10, s.ih5_1_11, s.ih5_1_12, s.ih5_2_0, s.ih5_2_1, s.ih5_2_2, s.ih5_2_3, s.ih5_2_4, s.ih5_2_5, s.ih5_2_6, s.ih5_2_7, s.ih5_2_8, s.ih5_2_9, s.ih5_2_10, s.ih5_2_11, s.ih5_2_12⟩)
  z)
  (k ⟨1, (W (s.is150 + 1)), 0, 0, 0, 0, s.ns30, s.eh4, s.ih5_0_0, s.ih5_0_1, s.ih5_0_2, s.ih5_0_3, s.ih5_0_4, s.ih5_0_5, s.ih5_0_6, s.ih5_0_7, s.ih5_0_8, s.ih5_0_9, s.ih5_0_10, s.ih5_0_11, s.ih5_0_12, s.ih5_1_0, s.ih5_1_1, s.ih5_1_2, s.ih5_1_3, s.ih5_1_4, s.ih5_1_5, s.ih5_1_6, s.ih5_1_7, s.ih5_1_8, s.ih5_1_9, s.ih5_1_10, s.ih5_1_11, s.ih5_1_12, s.ih5_2_0, s.ih5_2_1, s.ih5_2_2, s.ih5_2_3, s.ih5_2_4, s.ih5_2_5, s.ih5_2_6, s.ih5_2_7, s.ih5_2_8, s.ih5_2_9, s.ih5_2_10, s.ih5_2_11, s.ih5_2_12⟩))))
  z)
  z)
  z)
  z)
 (e 3))
noncomputable def su7_2_1 (p : Pg7_2) (s : Sg7_2) : Stp Sg7_2 := ut7_2_1 .next .exit .fail p s
theorem q7_2_1 {α β : Type} (F : α → β) (k : Sg7_2 → α) (e : Nat → α) (z : α) (p : Pg7_2) (s : Sg7_2) : F (ut7_2_1 k e z p s) = ut7_2_1 (fun x => F (k x)) (fun t => F (e t)) (F z) p s := by
  unfold ut7_2_1
  exact (stpSel (f := F) (stpSel (f := F) (stpSel (f := F) (stpSel (f := F) (stpSel (f := F) (stpSel (f := F) rfl (stpSel (f := F) rfl (stpSel (f := F) (stpSel (f := F) rfl rfl) rfl))) rfl) rfl) rfl) rfl) rfl)
theorem rd7_2_1 (p : Pg7_2) (s : Sg7_2) : (roundC (En tb7) 0 pf7.res [10, 13, 17, 18, 19, 23, 30, 100, 101, 102, 148, 149, 150] (.pc l7_2) (h7_2_1 p s)).run = ut7_2_1 (fun s' => some (.normal, en7_2 p s')) (fun t => xAt xs7_2 p s t 1) none p s := by kernel_rfl
theorem sp7_2_1 (p : Pg7_2) (s : Sg7_2) : (roundC (En tb7) 0 pf7.res [10, 13, 17, 18, 19, 23, 30, 100, 101, 102, 148, 149, 150] (.pc l7_2) (h7_2_1 p s)).run = fo7_2 p s (su7_2_1 p s) := (rd7_2_1 p s).trans (q7_2_1 (fo7_2 p s) Stp.next Stp.exit Stp.fail p s).symm
noncomputable def ut7_2_2 {α : Type} (k : Sg7_2 → α) (e : Nat → α) (z : α) (p : Pg7_2) (s : Sg7_2) : α := let t1 := (getRow p.eh2 (0 + s.is150.toNat)); let t2 := (dropN t1 0); let t3 := (toI (hdA t2)); let t4 := (toI (hdA (tlA t2))); let t5 := (toI (hdA (tlA (tlA t2)))); let t6 := (toI (hdA (tlA (tlA (tlA t2))))); let t7 := (p28 (⟨(⟨(⟨(⟨p.ih3_0_0, p.ih3_0_1, p.ih3_0_2⟩ : V3), (⟨p.ih3_0_3, p.ih3_0_4, p.ih3_0_5⟩ : V3), (⟨p.ih3_0_6, p.ih3_0_7, p.ih3_0_8⟩ : V3)⟩ : M3), p.ih3_0_9⟩ : Trn), (⟨p.ih3_0_10, p.ih3_0_11, p.ih3_0_12⟩ : V3)⟩ : Frm) (⟨(⟨t3, t4, t5⟩ : V3), t6⟩ : Pln)); let t8 := (p29 (⟨(⟨(⟨(⟨p.ih3_0_0, p.ih3_0_1, p.ih3_0_2⟩ : V3), (⟨p.ih3_0_3, p.ih3_0_4, p.ih3_0_5⟩ : V3), (⟨p.ih3_0_6, p.ih3_0_7, p.ih3_0_8⟩ : V3)⟩ : M3), p.ih3_0_9⟩ : Trn), (⟨p.ih3_0_10, p.ih3_0_11, p.ih3_0_12⟩ : V3)⟩ : Frm) (⟨(⟨t3, t4, t5⟩ : V3), t6⟩ : Pln)); (sel (decide (s.is150 < p.is149))
 (sel (inB s.is150 p.ns148)
  (sel (((Nat.blt (0 + s.is150.toNat) (len p.eh2)) && (Nat.ble (0 + 4) (len t1))) && (okCKs [(CK.int .i64), (CK.int .i64), (CK.int .i64), (CK.int .i64)] t2))
  (sel (g28 (⟨(⟨(⟨(⟨p.ih3_0_0, p.ih3_0_1, p.ih3_0_2⟩ : V3), (⟨p.ih3_0_3, p.ih3_0_4, p.ih3_0_5⟩ : V3), (⟨p.ih3_0_6, p.ih3_0_7, p.ih3_0_8⟩ : V3)⟩ : M3), p.ih3_0_9⟩ : Trn), (⟨p.ih3_0_10, p.ih3_0_11, p.ih3_0_12⟩ : V3)⟩ : Frm) (⟨(⟨t3, t4, t5⟩ : V3), t6⟩ : Pln))
  (sel (g29 (⟨(⟨(⟨(⟨p.ih3_0_0, p.ih3_0_1, p.ih3_0_2⟩ : V3), (⟨p.ih3_0_3, p.ih3_0_4, p.ih3_0_5⟩ : V3), (⟨p.ih3_0_6, p.ih3_0_7, p.ih3_0_8⟩ : V3)⟩ : M3), p.ih3_0_9⟩ : Trn), (⟨p.ih3_0_10, p.ih3_0_11, p.ih3_0_12⟩ : V3)⟩ : Frm) (⟨(⟨t3, t4, t5⟩ : V3), t6⟩ : Pln))
  (sel (!((t7.1.n.x == t8.1.n.x) && ((t7.1.n.y == t8.1.n.y) && ((t7.1.n.z == t8.1.n.z) && ((t7.1.b == t8.1.b) && true)))))
  (e 1)
  (sel (!(t7.2 == t8.2))
  (e 1)
  (sel t8.2
  (k ⟨3, (W (s.is150 + 1)), 0, 0, 0, 0, 1, [[(i t3), (i t4), (i t5), (i t6)]], s.ih4_0_0, s.ih4_0_1, s.ih4_0_2, s.ih4_0_3, p.ih4_0_4, p.ih4_0_5, p.ih4_0_6, p.ih4_0_7, p.ih4_0_8, p.ih4_0_9, p.ih4_0_10, p.ih4_0_11, p.ih4_0_12, p.ih4_1_0, p.ih4_1_1, p.ih4_1_2, p.ih4_1_3, p.ih4_1_4, p.ih4_1_5, p.ih4_1_6, p.ih4_1_7, p.ih4_1_8, p.ih4_1_9, p.ih4_1_10, p.ih4_1_11, p.ih4_1_12, p.ih4_2_0, p.ih4_2_1, p.ih4_2_2, p.ih4_2_3, p.ih4_2_4, p.ih4_2_5, p.ih4_2_6, p.ih4_2_7, p.ih4_2_8, p.ih4_2_9, p.ih4_2_10, p.ih4_2_11, p.ih4_2_12⟩)
  (k ⟨2, (W (s.is150 + 1)), s.ih4_0_0, s.ih4_0_1, s.ih4_0_2, s.ih4_0_3, 0, [], 0, 0, 0, 0, 0, 0, 0, 0, 0, 0, 0, 0, 0, 0, 0, 0, 0, 0, 0, 0, 0, 0, 0, 0, 0, 0, 0, 0, 0, 0, 0, 0, 0, 0, 0, 0, 0, 0, 0⟩))))
  z)
  z)
  z)
  z)
 (e 4))
noncomputable def su7_2_2 (p : Pg7_2) (s : Sg7_2) : Stp Sg7_2 := ut7_2_2 .next .exit .fail p s
theorem q7_2_2 {α β : Type} (F : α → β) (k : Sg7_2 → α) (e : Nat → α) (z : α) (p : Pg7_2) (s : Sg7_2) : F (ut7_2_2 k e z p s) = ut7_2_2 (fun x => F (k x)) (fun t => F (e t)) (F z) p s := by
  unfold ut7_2_2
  exact (stpSel (f := F) (stpSel (f := F) (stpSel (f := F) (stpSel (f := F) (stpSel (f := F) (stpSel (f := F) rfl (stpSel (f := F) rfl (stpSel (f := F) rfl rfl))) rfl) rfl) rfl) rfl) rfl)
theorem rd7_2_2 (p : Pg7_2) (s : Sg7_2) : (roundC (En tb7) 0 pf7.res [10, 13, 17, 18, 19, 23, 30, 100, 101, 102, 148, 149, 150] (.pc l7_2) (h7_2_2 p s)).run = ut7_2_2 (fun s' => some (.normal, en7_2 p s')) (fun t => xAt xs7_2 p s t 1) none p s := by kernel_rfl
theorem sp7_2_2 (p : Pg7_2) (s : Sg7_2) : (roundC (En tb7) 0 pf7.res [10, 13, 17, 18, 19, 23, 30, 100, 101, 102, 148, 149, 150] (.pc l7_2) (h7_2_2 p s)).run = fo7_2 p s (su7_2_2 p s) := (rd7_2_2 p s).trans (q7_2_2 (fo7_2 p s) Stp.next Stp.exit Stp.fail p s).symm
noncomputable def ut7_2_3 {α : Type} (k : Sg7_2 → α) (e : Nat → α) (z : α) (p : Pg7_2) (s : Sg7_2) : α := let t1 := (getRow p.eh2 (0 + s.is150.toNat)); let t2 := (dropN t1 0); let t3 := (toI (hdA t2)); let t4 := (toI (hdA (tlA t2))); let t5 := (toI (hdA (tlA (tlA t2)))); let t6 := (toI (hdA (tlA (tlA (tlA t2))))); let t7 := (p28 (⟨(⟨(⟨(⟨p.ih3_0_0, p.ih3_0_1, p.ih3_0_2⟩ : V3), (⟨p.ih3_0_3, p.ih3_0_4, p.ih3_0_5⟩ : V3), (⟨p.ih3_0_6, p.ih3_0_7, p.ih3_0_8⟩ : V3)⟩ : M3), p.ih3_0_9⟩ : Trn), (⟨p.ih3_0_10, p.ih3_0_11, p.ih3_0_12⟩ : V3)⟩ : Frm) (⟨(⟨t3, t4, t5⟩ : V3), t6⟩ : Pln)); let t8 := (p29 (⟨(⟨(⟨(⟨p.ih3_0_0, p.ih3_0_1, p.ih3_0_2⟩ : V3), (⟨p.ih3_0_3, p.ih3_0_4, p.ih3_0_5⟩ : V3), (⟨p.ih3_0_6, p.ih3_0_7, p.ih3_0_8⟩ : V3)⟩ : M3), p.ih3_0_9⟩ : Trn), (⟨p.ih3_0_10, p.ih3_0_11, p.ih3_0_12⟩ : V3)⟩ : Frm) (⟨(⟨t3, t4, t5⟩ : V3), t6⟩ : Pln)); (sel (decide (s.is150 < p.is149))
 (sel (inB s.is150 p.ns148)
  (sel (((Nat.blt (0 + s.is150.toNat) (len p.eh2)) && (Nat.ble (0 + 4) (len t1))) && (okCKs [(CK.int .i64), (CK.int .i64), (CK.int .i64), (CK.int .i64)] t2))
  (sel (g28 (⟨(⟨(⟨(⟨p.ih3_0_0, p.ih3_0_1, p.ih3_0_2⟩ : V3), (⟨p.ih3_0_3, p.ih3_0_4, p.ih3_0_5⟩ : V3), (⟨p.ih3_0_6, p.ih3_0_7, p.ih3_0_8⟩ : V3)⟩ : M3), p.ih3_0_9⟩ : Trn), (⟨p.ih3_0_10, p.ih3_0_11, p.ih3_0_12⟩ : V3)⟩ : Frm) (⟨(⟨t3, t4, t5⟩ : V3), t6⟩ : Pln))
  (sel (g29 (⟨(⟨(⟨(⟨p.ih3_0_0, p.ih3_0_1, p.ih3_0_2⟩ : V3), (⟨p.ih3_0_3, p.ih3_0_4, p.ih3_0_5⟩ : V3), (⟨p.ih3_0_6, p.ih3_0_7, p.ih3_0_8⟩ : V3)⟩ : M3), p.ih3_0_9⟩ : Trn), (⟨p.ih3_0_10, p.ih3_0_11, p.ih3_0_12⟩ : V3)⟩ : Frm) (⟨(⟨t3, t4, t5⟩ : V3), t6⟩ : Pln))
  (sel (!((t7.1.n.x == t8.1.n.x) && ((t7.1.n.y == t8.1.n.y) && ((t7.1.n.z == t8.1.n.z) && ((t7.1.b == t8.1.b) && true)))))
  (e 1)
  (sel (!(t7.2 == t8.2))
  (e 1)
  (sel t8.2
  (sel (Nat.beq s.ns30 (len s.eh4) && Nat.ble ((s.ns30 + 1) * 32) room)
  (k ⟨3, (W (s.is150 + 1)), 0, 0, 0, 0, (s.ns30 + 1), (app s.eh4 [[(i t3), (i t4), (i t5), (i t6)]]), s.ih5_0_0, s.ih5_0_1, s.ih5_0_2, s.ih5_0_3, s.ih5_0_4, s.ih5_0_5, s.ih5_0_6, s.ih5_0_7, s.ih5_0_8, s.ih5_0_9, s.ih5_0_10, s.ih5_0_11, s.ih5_0_12, s.ih5_1_0, s.ih5_1_1, s.ih5_1_2, s.ih5_1_3, s.ih5_1_4, s.ih5_1_5, s.ih5_1_6, s.ih5_1_7, s.ih5_1_8, s.ih5_1_9, s.ih5_1_10, s.ih5_1_11, s.ih5_1_12, s.ih5_2_0, s.ih5_2_1, s.ih5_2_2, s.ih5_2_3, s.ih5_2_4, s.ih5_2_5, s.ih5_2_6, s.ih5_2_7, s.ih5_2_8, s.ih5_2_9, s.ih5_2_10, s.ih5_2_11, s.ih5_2_12⟩)
  z)
  (k ⟨3, (W (s.is150 + 1)), 0, 0, 0, 0, s.ns30, s.eh4, s.ih5_0_0, s.ih5_0_1, s.ih5_0_2, s.ih5_0_3, s.ih5_0_4, s.ih5_0_5, s.ih5_0_6, s.ih5_0_7, s.ih5_0_8, s.ih5_0_9, s.ih5_0_10, s.ih5_0_11, s.ih5_0_12, s.ih5_1_0, s.ih5_1_1, s.ih5_1_2, s.ih5_1_3, s.ih5_1_4, s.ih5_1_5, s.ih5_1_6, s.ih5_1_7, s.ih5_1_8, s.ih5_1_9, s.ih5_1_10, s.ih5_1_11, s.ih5_1_12, s.ih5_2_0, s.ih5_2_1, s.ih5_2_2, s.ih5_2_3, s.ih5_2_4, s.ih5_2_5, s.ih5_2_6, s.ih5_2_7, s.ih5_2_8, s.ih5_2_9, s.ih5_2_10, s.ih5_2_11, s.ih5_2_12⟩))))
  z)
  z)
  z)
  z)
 (e 5))
noncomputable def su7_2_3 (p : Pg7_2) (s : Sg7_2) : Stp Sg7_2 := ut7_2_3 .next .exit .fail p s
theorem q7_2_3 {α β : Type} (F : α → β) (k : Sg7_2 → α) (e : Nat → α) (z : α) (p : Pg7_2) (s : Sg7_2) : F (ut7_2_3 k e z p s) = ut7_2_3 (fun x => F (k x)) (fun t => F (e t)) (F z) p s := by
  unfold ut7_2_3
  exact (stpSel (f := F) (stpSel (f := F) (stpSel (f := F) (stpSel (f := F) (stpSel (f := F) (stpSel (f := F) rfl (stpSel (f := F) rfl (stpSel (f := F) (stpSel (f := F) rfl rfl) rfl))) rfl) rfl) rfl) rfl) rfl)
theorem rd7_2_3 (p : Pg7_2) (s : Sg7_2) : (roundC (En tb7) 0 pf7.res [10, 13, 17, 18, 19, 23, 30, 100, 101, 102, 148, 149, 150] (.pc l7_2) (h7_2_3 p s)).run = ut7_2_3 (fun s' => some (.normal, en7_2 p s')) (fun t => xAt xs7_2 p s t 1) none p s := by kernel_rfl
theorem sp7_2_3 (p : Pg7_2) (s : Sg7_2) : (roundC (En tb7) 0 pf7.res [10, 13, 17, 18, 19, 23, 30, 100, 101, 102, 148, 149, 150] (.pc l7_2) (h7_2_3 p s)).run = fo7_2 p s (su7_2_3 p s) := (rd7_2_3 p s).trans (q7_2_3 (fo7_2 p s) Stp.next Stp.exit Stp.fail p s).symm
noncomputable def st7_2 (p : Pg7_2) (s : Sg7_2) : Stp Sg7_2 := (sel (Nat.beq s.ph 3) (su7_2_3 p s) (sel (Nat.beq s.ph 2) (su7_2_2 p s) (sel (Nat.beq s.ph 1) (su7_2_1 p s) (su7_2_0 p s))))
theorem sp7_2 (p : Pg7_2) (s : Sg7_2) : (roundC (En tb7) 0 pf7.res [10, 13, 17, 18, 19, 23, 30, 100, 101, 102, 148, 149, 150] (.pc l7_2) (en7_2 p s)).run = fo7_2 p s (st7_2 p s) := by
  show (roundC (En tb7) 0 pf7.res [10, 13, 17, 18, 19, 23, 30, 100, 101, 102, 148, 149, 150] (.pc l7_2) (sel (Nat.beq s.ph 3) (h7_2_3 p s) (sel (Nat.beq s.ph 2) (h7_2_2 p s) (sel (Nat.beq s.ph 1) (h7_2_1 p s) (h7_2_0 p s))))).run = fo7_2 p s (sel (Nat.beq s.ph 3) (su7_2_3 p s) (sel (Nat.beq s.ph 2) (su7_2_2 p s) (sel (Nat.beq s.ph 1) (su7_2_1 p s) (su7_2_0 p s))))
  cases Nat.beq s.ph 3 with
  | true => exact sp7_2_3 p s
  | false =>
  cases Nat.beq s.ph 2 with
  | true => exact sp7_2_2 p s
  | false =>
  cases Nat.beq s.ph 1 with
  | true => exact sp7_2_1 p s
  | false =>
  exact sp7_2_0 p s
noncomputable def al7_2_0 : Alt Pg7_2 Sg7_2 := ⟨(ru 10 ((.s (.ptr 0 0 0 0)) :: ((.s .unk) :: ((.s .unk) :: ((.s (.blit true)) :: (ru 3 ((.s (.ptr 1 0 0 0)) :: ((.s (.int .i64)) :: ((.s (.sl 2 0 (some 0) none)) :: (ru 3 ((.s (.ptr 3 0 0 0)) :: (ru 6 ((.s .nil) :: (ru 69 ((.s (.sl 4 0 (some 0) (some 3))) :: ((.s (.lit .i64 3)) :: ((.s (.int .i64)) :: (ru 45 ((.s (.sl 2 0 (some 0) none)) :: ((.s (.int .i64)) :: ((.s (.int .i64)) :: (ru 61 [])))))))))))))))))))))), [⟨0, 3, true, (some [[(.int .i64), (.int .i64), (.int .i64)]])⟩, ⟨0, 3, true, (some [[(.int .i64), (.int .i64), (.int .i64)]])⟩, ⟨56, 4, true, none⟩, ⟨0, 13, true, (some [[(.int .i64), (.int .i64), (.int .i64), (.int .i64), (.int .i64), (.int .i64), (.int .i64), (.int .i64), (.int .i64), (.int .i64), (.int .i64), (.int .i64), (.int .i64)]])⟩, ⟨32, 13, true, (some [[(.int .i64), (.int .i64), (.int .i64), (.int .i64), (.int .i64), (.int .i64), (.int .i64), (.int .i64), (.int .i64), (.int .i64), (.int .i64), (.int .i64), (.int .i64)], [(.int .i64), (.int .i64), (.int .i64), (.int .i64), (.int .i64), (.int .i64), (.int .i64), (.int .i64), (.int .i64), (.int .i64), (.int .i64), (.int .i64), (.int .i64)], [(.int .i64), (.int .i64), (.int .i64), (.int .i64), (.int .i64), (.int .i64), (.int .i64), (.int .i64), (.int .i64), (.int .i64), (.int .i64), (.int .i64), (.int .i64)]])⟩], fun a H => (⟨(toI (slotA a 18)), (slN (slotA a 19)), (toI (slotA a 102)), (slN (slotA a 148)), (toI (slotA a 149)), (toI (hdA (dropN (getRow (elsA H 0) 0) 0))), (toI (hdA (dropN (getRow (elsA H 0) 0) 1))), (toI (hdA (dropN (getRow (elsA H 0) 0) 2))), (toI (hdA (dropN (getRow (elsA H 1) 0) 0))), (toI (hdA (dropN (getRow (elsA H 1) 0) 1))), (toI (hdA (dropN (getRow (elsA H 1) 0) 2))), (elsA H 2), (toI (hdA (dropN (getRow (elsA H 3) 0) 0))), (toI (hdA (dropN (getRow (elsA H 3) 0) 1))), (toI (hdA (dropN (getRow (elsA H 3) 0) 2))), (toI (hdA (dropN (getRow (elsA H 3) 0) 3))), (toI (hdA (dropN (getRow (elsA H 3) 0) 4))), (toI (hdA (dropN (getRow (elsA H 3) 0) 5))), (toI (hdA (dropN (getRow (elsA H 3) 0) 6))), (toI (hdA (dropN (getRow (elsA H 3) 0) 7))), (toI (hdA (dropN (getRow (elsA H 3) 0) 8))), (toI (hdA (dropN (getRow (elsA H 3) 0) 9))), (toI (hdA (dropN (getRow (elsA H 3) 0) 10))), (toI (hdA (dropN (getRow (elsA H 3) 0) 11))), (toI (hdA (dropN (getRow (elsA H 3) 0) 12))), (toI (hdA (dropN (getRow (elsA H 4) 0) 4))), (toI (hdA (dropN (getRow (elsA H 4) 0) 5))), (toI (hdA (dropN (getRow (elsA H 4) 0) 6))), (toI (hdA (dropN (getRow (elsA H 4) 0) 7))), (toI (hdA (dropN (getRow (elsA H 4) 0) 8))), (toI (hdA (dropN (getRow (elsA H 4) 0) 9))), (toI (hdA (dropN (getRow (elsA H 4) 0) 10))), (toI (hdA (dropN (getRow (elsA H 4) 0) 11))), (toI (hdA (dropN (getRow (elsA H 4) 0) 12))), (toI (hdA (dropN (getRow (elsA H 4) 1) 0))), (toI (hdA (dropN (getRow (elsA H 4) 1) 1))), (toI (hdA (dropN (getRow (elsA H 4) 1) 2))), (toI (hdA (dropN (getRow (elsA H 4) 1) 3))), (toI (hdA (dropN (getRow (elsA H 4) 1) 4))), (toI (hdA (dropN (getRow (elsA H 4) 1) 5))), (toI (hdA (dropN (getRow (elsA H 4) 1) 6))), (toI (hdA (dropN (getRow (elsA H 4) 1) 7))), (toI (hdA (dropN (getRow (elsA H 4) 1) 8))), (toI (hdA (dropN (getRow (elsA H 4) 1) 9))), (toI (hdA (dropN (getRow (elsA H 4) 1) 10))), (toI (hdA (dropN (getRow (elsA H 4) 1) 11))), (toI (hdA (dropN (getRow (elsA H 4) 1) 12))), (toI (hdA (dropN (getRow (elsA H 4) 2) 0))), (toI (hdA (dropN (getRow (elsA H 4) 2) 1))), (toI (hdA (dropN (getRow (elsA H 4) 2) 2))), (toI (hdA (dropN (getRow (elsA H 4) 2) 3))), (toI (hdA (dropN (getRow (elsA H 4) 2) 4))), (toI (hdA (dropN (getRow (elsA H 4) 2) 5))), (toI (hdA (dropN (getRow (elsA H 4) 2) 6))), (toI (hdA (dropN (getRow (elsA H 4) 2) 7))), (toI (hdA (dropN (getRow (elsA H 4) 2) 8))), (toI (hdA (dropN (getRow (elsA H 4) 2) 9))), (toI (hdA (dropN (getRow (elsA H 4) 2) 10))), (toI (hdA (dropN (getRow (elsA H 4) 2) 11))), (toI (hdA (dropN (getRow (elsA H 4) 2) 12)))⟩, ⟨0, (toI (slotA a 150)), (toI (hdA (dropN (getRow (elsA H 4) 0) 0))), (toI (hdA (dropN (getRow (elsA H 4) 0) 1))), (toI (hdA (dropN (getRow (elsA H 4) 0) 2))), (toI (hdA (dropN (getRow (elsA H 4) 0) 3))), 0, [], 0, 0, 0, 0, 0, 0, 0, 0, 0, 0, 0, 0, 0, 0, 0, 0, 0, 0, 0, 0, 0, 0, 0, 0, 0, 0, 0, 0, 0, 0, 0, 0, 0, 0, 0, 0, 0, 0, 0⟩)⟩
theorem la7_2_0 (a : List AVal) (H : List ABlk) : (⟨asSls al7_2_0.sh a, asBks al7_2_0.bl H⟩ : St) = en7_2 (al7_2_0.rd (asSls al7_2_0.sh a) (asBks al7_2_0.bl H)).1 (al7_2_0.rd (asSls al7_2_0.sh a) (asBks al7_2_0.bl H)).2 := by kernel_rfl
noncomputable def al7_2_1 : Alt Pg7_2 Sg7_2 := ⟨(ru 10 ((.s (.ptr 0 0 0 0)) :: ((.s .unk) :: ((.s .unk) :: ((.s (.blit true)) :: (ru 3 ((.s (.ptr 1 0 0 0)) :: ((.s (.int .i64)) :: ((.s (.sl 2 0 (some 0) none)) :: (ru 3 ((.s (.ptr 3 0 0 0)) :: (ru 6 ((.s (.sl 4 0 (some 0) none)) :: (ru 69 ((.s (.sl 5 0 (some 0) (some 3))) :: ((.s (.lit .i64 3)) :: ((.s (.int .i64)) :: (ru 45 ((.s (.sl 2 0 (some 0) none)) :: ((.s (.int .i64)) :: ((.s (.int .i64)) :: (ru 61 [])))))))))))))))))))))), [⟨0, 3, true, (some [[(.int .i64), (.int .i64), (.int .i64)]])⟩, ⟨0, 3, true, (some [[(.int .i64), (.int .i64), (.int .i64)]])⟩, ⟨56, 4, true, none⟩, ⟨0, 13, true, (some [[(.int .i64), (.int .i64), (.int .i64), (.int .i64), (.int .i64), (.int .i64), (.int .i64), (.int .i64), (.int .i64), (.int .i64), (.int .i64), (.int .i64), (.int .i64)]])⟩, ⟨56, 4, true, none⟩, ⟨32, 13, true, (some [[(.int .i64), (.int .i64), (.int .i64), (.int .i64), (.int .i64), (.int .i64), (.int .i64), (.int .i64), (.int .i64), (.int .i64), (.int .i64), (.int .i64), (.int .i64)], [(.int .i64), (.int .i64), (.int .i64), (.int .i64), (.int .i64), (.int .i64), (.int .i64), (.int .i64), (.int .i64), (.int .i64), (.int .i64), (.int .i64), (.int .i64)], [(.int .i64), (.int .i64), (.int .i64), (.int .i64), (.int .i64), (.int .i64), (.int .i64), (.int .i64), (.int .i64), (.int .i64), (.int .i64), (.int .i64), (.int .i64)]])⟩], fun a H => (⟨(toI (slotA a 18)), (slN (slotA a 19)), (toI (slotA a 102)), (slN (slotA a 148)), (toI (slotA a 149)), (toI (hdA (dropN (getRow (elsA H 0) 0) 0))), (toI (hdA (dropN (getRow (elsA H 0) 0) 1))), (toI (hdA (dropN (getRow (elsA H 0) 0) 2))), (toI (hdA (dropN (getRow (elsA H 1) 0) 0))), (toI (hdA (dropN (getRow (elsA H 1) 0) 1))), (toI (hdA (dropN (getRow (elsA H 1) 0) 2))), (elsA H 2), (toI (hdA (dropN (getRow (elsA H 3) 0) 0))), (toI (hdA (dropN (getRow (elsA H 3) 0) 1))), (toI (hdA (dropN (getRow (elsA H 3) 0) 2))), (toI (hdA (dropN (getRow (elsA H 3) 0) 3))), (toI (hdA (dropN (getRow (elsA H 3) 0) 4))), (toI (hdA (dropN (getRow (elsA H 3) 0) 5))), (toI (hdA (dropN (getRow (elsA H 3) 0) 6))), (toI (hdA (dropN (getRow (elsA H 3) 0) 7))), (toI (hdA (dropN (getRow (elsA H 3) 0) 8))), (toI (hdA (dropN (getRow (elsA H 3) 0) 9))), (toI (hdA (dropN (getRow (elsA H 3) 0) 10))), (toI (hdA (dropN (getRow (elsA H 3) 0) 11))), (toI (hdA (dropN (getRow (elsA H 3) 0) 12))), 0, 0, 0, 0, 0, 0, 0, 0, 0, 0, 0, 0, 0, 0, 0, 0, 0, 0, 0, 0, 0, 0, 0, 0, 0, 0, 0, 0, 0, 0, 0, 0, 0, 0, 0⟩, ⟨1, (toI (slotA a 150)), 0, 0, 0, 0, (slN (slotA a 30)), (elsA H 4), (toI (hdA (dropN (getRow (elsA H 5) 0) 0))), (toI (hdA (dropN (getRow (elsA H 5) 0) 1))), (toI (hdA (dropN (getRow (elsA H 5) 0) 2))), (toI (hdA (dropN (getRow (elsA H 5) 0) 3))), (toI (hdA (dropN (getRow (elsA H 5) 0) 4))), (toI (hdA (dropN (getRow (elsA H 5) 0) 5))), (toI (hdA (dropN (getRow (elsA H 5) 0) 6))), (toI (hdA (dropN (getRow (elsA H 5) 0) 7))), (toI (hdA (dropN (getRow (elsA H 5) 0) 8))), (toI (hdA (dropN (getRow (elsA H 5) 0) 9))), (toI (hdA (dropN (getRow (elsA H 5) 0) 10))), (toI (hdA (dropN (getRow (elsA H 5) 0) 11))), (toI (hdA (dropN (getRow (elsA H 5) 0) 12))), (toI (hdA (dropN (getRow (elsA H 5) 1) 0))), (toI (hdA (dropN (getRow (elsA H 5) 1) 1))), (toI (hdA (dropN (getRow (elsA H 5) 1) 2))), (toI (hdA (dropN (getRow (elsA H 5) 1) 3))), (toI (hdA (dropN (getRow (elsA H 5) 1) 4))), (toI (hdA (dropN (getRow (elsA H 5) 1) 5))), (toI (hdA (dropN (getRow (elsA H 5) 1) 6))), (toI (hdA (dropN (getRow (elsA H 5) 1) 7))), (toI (hdA (dropN (getRow (elsA H 5) 1) 8))), (toI (hdA (dropN (getRow (elsA H 5) 1) 9))), (toI (hdA (dropN (getRow (elsA H 5) 1) 10))), (toI (hdA (dropN (getRow (elsA H 5) 1) 11))), (toI (hdA (dropN (getRow (elsA H 5) 1) 12))), (toI (hdA (dropN (getRow (elsA H 5) 2) 0))), (toI (hdA (dropN (getRow (elsA H 5) 2) 1))), (toI (hdA (dropN (getRow (elsA H 5) 2) 2))), (toI (hdA (dropN (getRow (elsA H 5) 2) 3))), (toI (hdA (dropN (getRow (elsA H 5) 2) 4))), (toI (hdA (dropN (getRow (elsA H 5) 2) 5))), (toI (hdA (dropN (getRow (elsA H 5) 2) 6))), (toI (hdA (dropN (getRow (elsA H 5) 2) 7))), (toI (hdA (dropN (getRow (elsA H 5) 2) 8))), (toI (hdA (dropN (getRow (elsA H 5) 2) 9))), (toI (hdA (dropN (getRow (elsA H 5) 2) 10))), (toI (hdA (dropN (getRow (elsA H 5) 2) 11))), (toI (hdA (dropN (getRow (elsA H 5) 2) 12)))⟩)⟩
theorem la7_2_1 (a : List AVal) (H : List ABlk) : (⟨asSls al7_2_1.sh a, asBks al7_2_1.bl H⟩ : St) = en7_2 (al7_2_1.rd (asSls al7_2_1.sh a) (asBks al7_2_1.bl H)).1 (al7_2_1.rd (asSls al7_2_1.sh a) (asBks al7_2_1.bl H)).2 := by kernel_rfl
noncomputable def al7_2_2 : Alt Pg7_2 Sg7_2 := ⟨(ru 10 ((.s (.ptr 0 0 0 0)) :: ((.s .unk) :: ((.s .unk) :: ((.s (.blit true)) :: (ru 3 ((.s (.ptr 1 0 0 0)) :: ((.s (.int .i64)) :: ((.s (.sl 2 0 (some 0) none)) :: (ru 3 ((.s (.ptr 3 0 0 0)) :: (ru 6 ((.s .nil) :: (ru 69 ((.s (.sl 4 0 (some 0) (some 3))) :: ((.s (.lit .i64 3)) :: ((.s (.int .i64)) :: (ru 45 ((.s (.sl 2 0 (some 0) none)) :: ((.s (.int .i64)) :: ((.s (.int .i64)) :: (ru 61 [])))))))))))))))))))))), [⟨0, 3, true, (some [[(.int .i64), (.int .i64), (.int .i64)]])⟩, ⟨0, 3, true, (some [[(.int .i64), (.int .i64), (.int .i64)]])⟩, ⟨56, 4, false, none⟩, ⟨0, 13, true, (some [[(.int .i64), (.int .i64), (.int .i64), (.int .i64), (.int .i64), (.int .i64), (.int .i64), (.int .i64), (.int .i64), (.int .i64), (.int .i64), (.int .i64), (.int .i64)]])⟩, ⟨32, 13, true, (some [[(.int .i64), (.int .i64), (.int .i64), (.int .i64), (.int .i64), (.int .i64), (.int .i64), (.int .i64), (.int .i64), (.int .i64), (.int .i64), (.int .i64), (.int .i64)], [(.int .i64), (.int .i64), (.int .i64), (.int .i64), (.int .i64), (.int .i64), (.int .i64), (.int .i64), (.int .i64), (.int .i64), (.int .i64), (.int .i64), (.int .i64)], [(.int .i64), (.int .i64), (.int .i64), (.int .i64), (.int .i64), (.int .i64), (.int .i64), (.int .i64), (.int .i64), (.int .i64), (.int .i64), (.int .i64), (.int .i64)]])⟩], fun a H => (⟨(toI (slotA a 18)), (slN (slotA a 19)), (toI (slotA a 102)), (slN (slotA a 148)), (toI (slotA a 149)), (toI (hdA (dropN (getRow (elsA H 0) 0) 0))), (toI (hdA (dropN (getRow (elsA H 0) 0) 1))), (toI (hdA (dropN (getRow (elsA H 0) 0) 2))), (toI (hdA (dropN (getRow (elsA H 1) 0) 0))), (toI (hdA (dropN (getRow (elsA H 1) 0) 1))), (toI (hdA (dropN (getRow (elsA H 1) 0) 2))), (elsA H 2), (toI (hdA (dropN (getRow (elsA H 3) 0) 0))), (toI (hdA (dropN (getRow (elsA H 3) 0) 1))), (toI (hdA (dropN (getRow (elsA H 3) 0) 2))), (toI (hdA (dropN (getRow (elsA H 3) 0) 3))), (toI (hdA (dropN (getRow (elsA H 3) 0) 4))), (toI (hdA (dropN (getRow (elsA H 3) 0) 5))), (toI (hdA (dropN (getRow (elsA H 3) 0) 6))), (toI (hdA (dropN (getRow (elsA H 3) 0) 7))), (toI (hdA (dropN (getRow (elsA H 3) 0) 8))), (toI (hdA (dropN (getRow (elsA H 3) 0) 9))), (toI (hdA (dropN (getRow (elsA H 3) 0) 10))), (toI (hdA (dropN (getRow (elsA H 3) 0) 11))), (toI (hdA (dropN (getRow (elsA H 3) 0) 12))), (toI (hdA (dropN (getRow (elsA H 4) 0) 4))), (toI (hdA (dropN (getRow (elsA H 4) 0) 5))), (toI (hdA (dropN (getRow (elsA H 4) 0) 6))), (toI (hdA (dropN (getRow (elsA H 4) 0) 7))), (toI (hdA (dropN (getRow (elsA H 4) 0) 8))), (toI (hdA (dropN (getRow (elsA H 4) 0) 9))), (toI (hdA (dropN (getRow (elsA H 4) 0) 10))), (toI (hdA (dropN (getRow (elsA H 4) 0) 11))), (toI (hdA (dropN (getRow (elsA H 4) 0) 12))), (toI (hdA (dropN (getRow (elsA H 4) 1) 0))), (toI (hdA (dropN (getRow (elsA H 4) 1) 1))), (toI (hdA (dropN (getRow (elsA H 4) 1) 2))), (toI (hdA (dropN (getRow (elsA H 4) 1) 3))), (toI (hdA (dropN (getRow (elsA H 4) 1) 4))), (toI (hdA (dropN (getRow (elsA H 4) 1) 5))), (toI (hdA (dropN (getRow (elsA H 4) 1) 6))), (toI (hdA (dropN (getRow (elsA H 4) 1) 7))), (toI (hdA (dropN (getRow (elsA H 4) 1) 8))), (toI (hdA (dropN (getRow (elsA H 4) 1) 9))), (toI (hdA (dropN (getRow (elsA H 4) 1) 10))), (toI (hdA (dropN (getRow (elsA H 4) 1) 11))), (toI (hdA (dropN (getRow (elsA H 4) 1) 12))), (toI (hdA (dropN (getRow (elsA H 4) 2) 0))), (toI (hdA (dropN (getRow (elsA H 4) 2) 1))), (toI (hdA (dropN (getRow (elsA H 4) 2) 2))), (toI (hdA (dropN (getRow (elsA H 4) 2) 3))), (toI (hdA (dropN (getRow (elsA H 4) 2) 4))), (toI (hdA (dropN (getRow (elsA H 4) 2) 5))), (toI (hdA (dropN (getRow (elsA H 4) 2) 6))), (toI (hdA (dropN (getRow (elsA H 4) 2) 7))), (toI (hdA (dropN (getRow (elsA H 4) 2) 8))), (toI (hdA (dropN (getRow (elsA H 4) 2) 9))), (toI (hdA (dropN (getRow (elsA H 4) 2) 10))), (toI (hdA (dropN (getRow (elsA H 4) 2) 11))), (toI (hdA (dropN (getRow (elsA H 4) 2) 12)))⟩, ⟨2, (toI (slotA a 150)), (toI (hdA (dropN (getRow (elsA H 4) 0) 0))), (toI (hdA (dropN (getRow (elsA H 4) 0) 1))), (toI (hdA (dropN (getRow (elsA H 4) 0) 2))), (toI (hdA (dropN (getRow (elsA H 4) 0) 3))), 0, [], 0, 0, 0, 0, 0, 0, 0, 0, 0, 0, 0, 0, 0, 0, 0, 0, 0, 0, 0, 0, 0, 0, 0, 0, 0, 0, 0, 0, 0, 0, 0, 0, 0, 0, 0, 0, 0, 0, 0⟩)⟩
theorem la7_2_2 (a : List AVal) (H : List ABlk) : (⟨asSls al7_2_2.sh a, asBks al7_2_2.bl H⟩ : St) = en7_2 (al7_2_2.rd (asSls al7_2_2.sh a) (asBks al7_2_2.bl H)).1 (al7_2_2.rd (asSls al7_2_2.sh a) (asBks al7_2_2.bl H)).2 := by kernel_rfl
noncomputable def al7_2_3 : Alt Pg7_2 Sg7_2 := ⟨(ru 10 ((.s (.ptr 0 0 0 0)) :: ((.s .unk) :: ((.s .unk) :: ((.s (.blit true)) :: (ru 3 ((.s (.ptr 1 0 0 0)) :: ((.s (.int .i64)) :: ((.s (.sl 2 0 (some 0) none)) :: (ru 3 ((.s (.ptr 3 0 0 0)) :: (ru 6 ((.s (.sl 4 0 (some 0) none)) :: (ru 69 ((.s (.sl 5 0 (some 0) (some 3))) :: ((.s (.lit .i64 3)) :: ((.s (.int .i64)) :: (ru 45 ((.s (.sl 2 0 (some 0) none)) :: ((.s (.int .i64)) :: ((.s (.int .i64)) :: (ru 61 [])))))))))))))))))))))), [⟨0, 3, true, (some [[(.int .i64), (.int .i64), (.int .i64)]])⟩, ⟨0, 3, true, (some [[(.int .i64), (.int .i64), (.int .i64)]])⟩, ⟨56, 4, false, none⟩, ⟨0, 13, true, (some [[(.int .i64), (.int .i64), (.int .i64), (.int .i64), (.int .i64), (.int .i64), (.int .i64), (.int .i64), (.int .i64), (.int .i64), (.int .i64), (.int .i64), (.int .i64)]])⟩, ⟨56, 4, true, none⟩, ⟨32, 13, true, (some [[(.int .i64), (.int .i64), (.int .i64), (.int .i64), (.int .i64), (.int .i64), (.int .i64), (.int .i64), (.int .i64), (.int .i64), (.int .i64), (.int .i64), (.int .i64)], [(.int .i64), (.int .i64), (.int .i64), (.int .i64), (.int .i64), (.int .i64), (.int .i64), (.int .i64), (.int .i64), (.int .i64), (.int .i64), (.int .i64), (.int .i64)], [(.int .i64), (.int .i64), (.int .i64), (.int .i64), (.int .i64), (.int .i64), (.int .i64), (.int .i64), (.int .i64), (.int .i64), (.int .i64), (.int .i64), (.int .i64)]])⟩], fun a H => (⟨(toI (slotA a 18)), (slN (slotA a 19)), (toI (slotA a 102)), (slN (slotA a 148)), (toI (slotA a 149)), (toI (hdA (dropN (getRow (elsA H 0) 0) 0))), (toI (hdA (dropN (getRow (elsA H 0) 0) 1))), (toI (hdA (dropN (getRow (elsA H 0) 0) 2))), (toI (hdA (dropN (getRow (elsA H 1) 0) 0))), (toI (hdA (dropN (getRow (elsA H 1) 0) 1))), (toI (hdA (dropN (getRow (elsA H 1) 0) 2))), (elsA H 2), (toI (hdA (dropN (getRow (elsA H 3) 0) 0))), (toI (hdA (dropN (getRow (elsA H 3) 0) 1))), (toI (hdA (dropN (getRow (elsA H 3) 0) 2))), (toI (hdA (dropN (getRow (elsA H 3) 0) 3))), (toI (hdA (dropN (getRow (elsA H 3) 0) 4))), (toI (hdA (dropN (getRow (elsA H 3) 0) 5))), (toI (hdA (dropN (getRow (elsA H 3) 0) 6))), (toI (hdA (dropN (getRow (elsA H 3) 0) 7))), (toI (hdA (dropN (getRow (elsA H 3) 0) 8))), (toI (hdA (dropN (getRow (elsA H 3) 0) 9))), (toI (hdA (dropN (getRow (elsA H 3) 0) 10))), (toI (hdA (dropN (getRow (elsA H 3) 0) 11))), (toI (hdA (dropN (getRow (elsA H 3) 0) 12))), 0, 0, 0, 0, 0, 0, 0, 0, 0, 0, 0, 0, 0, 0, 0, 0, 0, 0, 0, 0, 0, 0, 0, 0, 0, 0, 0, 0, 0, 0, 0, 0, 0, 0, 0⟩, ⟨3, (toI (slotA a 150)), 0, 0, 0, 0, (slN (slotA a 30)), (elsA H 4), (toI (hdA (dropN (getRow (elsA H 5) 0) 0))), (toI (hdA (dropN (getRow (elsA H 5) 0) 1))), (toI (hdA (dropN (getRow (elsA H 5) 0) 2))), (toI (hdA (dropN (getRow (elsA H 5) 0) 3))), (toI (hdA (dropN (getRow (elsA H 5) 0) 4))), (toI (hdA (dropN (getRow (elsA H 5) 0) 5))), (toI (hdA (dropN (getRow (elsA H 5) 0) 6))), (toI (hdA (dropN (getRow (elsA H 5) 0) 7))), (toI (hdA (dropN (getRow (elsA H 5) 0) 8))), (toI (hdA (dropN (getRow (elsA H 5) 0) 9))), (toI (hdA (dropN (getRow (elsA H 5) 0) 10))), (toI (hdA (dropN (getRow (elsA H 5) 0) 11))), (toI (hdA (dropN (getRow (elsA H 5) 0) 12))), (toI (hdA (dropN (getRow (elsA H 5) 1) 0))), (toI (hdA (dropN (getRow (elsA H 5) 1) 1))), (toI (hdA (dropN (getRow (elsA H 5) 1) 2))), (toI (hdA (dropN (getRow (elsA H 5) 1) 3))), (toI (hdA (dropN (getRow (elsA H 5) 1) 4))), (toI (hdA (dropN (getRow (elsA H 5) 1) 5))), (toI (hdA (dropN (getRow (elsA H 5) 1) 6))), (toI (hdA (dropN (getRow (elsA H 5) 1) 7))), (toI (hdA (dropN (getRow (elsA H 5) 1) 8))), (toI (hdA (dropN (getRow (elsA H 5) 1) 9))), (toI (hdA (dropN (getRow (elsA H 5) 1) 10))), (toI (hdA (dropN (getRow (elsA H 5) 1) 11))), (toI (hdA (dropN (getRow (elsA H 5) 1) 12))), (toI (hdA (dropN (getRow (elsA H 5) 2) 0))), (toI (hdA (dropN (getRow (elsA H 5) 2) 1))), (toI (hdA (dropN (getRow (elsA H 5) 2) 2))), (toI (hdA (dropN (getRow (elsA H 5) 2) 3))), (toI (hdA (dropN (getRow (elsA H 5) 2) 4))), (toI (hdA (dropN (getRow (elsA H 5) 2) 5))), (toI (hdA (dropN (getRow (elsA H 5) 2) 6))), (toI (hdA (dropN (getRow (elsA H 5) 2) 7))), (toI (hdA (dropN (getRow (elsA H 5) 2) 8))), (toI (hdA (dropN (getRow (elsA H 5) 2) 9))), (toI (hdA (dropN (getRow (elsA H 5) 2) 10))), (toI (hdA (dropN (getRow (elsA H 5) 2) 11))), (toI (hdA (dropN (getRow (elsA H 5) 2) 12)))⟩)⟩
theorem la7_2_3 (a : List AVal) (H : List ABlk) : (⟨asSls al7_2_3.sh a, asBks al7_2_3.bl H⟩ : St) = en7_2 (al7_2_3.rd (asSls al7_2_3.sh a) (asBks al7_2_3.bl H)).1 (al7_2_3.rd (asSls al7_2_3.sh a) (asBks al7_2_3.bl H)).2 := by kernel_rfl
noncomputable def as7_2 : List (Alt Pg7_2 Sg7_2) := [al7_2_0, al7_2_1, al7_2_2, al7_2_3]
theorem lo7_2 (s : St) : BelowC 0 pf7.res ((loopL 0 [10, 13, 17, 18, 19, 23, 30, 100, 101, 102, 148, 149, 150] as7_2 st7_2 xs7_2) s) (exec (En tb7) 0 (.loop [10, 13, 17, 18, 19, 23, 30, 100, 101, 102, 148, 149, 150] l7_2) s) :=
  loopC_below (res := pf7.res) (E := En tb7) (enc := en7_2) (body := (.pc l7_2)) (alts := as7_2) (xs := xs7_2) (.pc _) rfl (.cons la7_2_0 (.cons la7_2_1 (.cons la7_2_2 (.cons la7_2_3 .nil)))) (.cons nx7_2_1 (.cons nx7_2_2 (.cons nx7_2_3 (.cons nx7_2_4 (.cons nx7_2_5 .nil))))) (fun p s => sp7_2 p s) s
structure Pg7_1 where
  is18 : Int
  ns19 : Nat
  ih0_0_0 : Int
  ih0_0_1 : Int
  ih0_0_2 : Int
  ih1_0_0 : Int
  ih1_0_1 : Int
  ih1_0_2 : Int
  eh2 : List (List AVal)
structure Sg7_1 where
  ph : Nat
  is102 : Int
  ih3_0_0 : Int
  ih3_0_1 : Int
  ih3_0_2 : Int
  ih3_0_3 : Int
  ih3_0_4 : Int
  ih3_0_5 : Int
  ih3_0_6 : Int
  ih3_0_7 : Int
  ih3_0_8 : Int
  ih3_0_9 : Int
  ih3_0_10 : Int
  ih3_0_11 : Int
  ih3_0_12 : Int
  ih3_1_0 : Int
  ih3_1_1 : Int
  ih3_1_2 : Int
  ih3_1_3 : Int
  ih3_1_4 : Int
  ih3_1_5 : Int
  ih3_1_6 : Int
  ih3_1_7 : Int
  ih3_1_8 : Int
  ih3_1_9 : Int
  ih3_1_10 : Int
  ih3_1_11 : Int
  ih3_1_12 : Int
  ih3_2_0 : Int
  ih3_2_1 : Int
  ih3_2_2 : Int
  ih3_2_3 : Int
  ih3_2_4 : Int
  ih3_2_5 : Int
  ih3_2_6 : Int
  ih3_2_7 : Int
  ih3_2_8 : Int
  ih3_2_9 : Int
  ih3_2_10 : Int
  ih3_2_11 : Int
  ih3_2_12 : Int
noncomputable def h7_1_0 (p : Pg7_1) (s : Sg7_1) : St := ⟨(ra 10 ((.ptr 0 0 0 0) :: (.unk :: (.unk :: ((b true) :: (ra 3 ((.ptr 1 0 0 0) :: ((i p.is18) :: ((.sl 2 0 p.ns19 0) :: (ra 80 ((.sl 3 0 3 0) :: ((i 3) :: ((i s.is102) :: (ra 109 [])))))))))))))), [⟨0, 3, [[(i p.ih0_0_0), (i p.ih0_0_1), (i p.ih0_0_2)]], true, false, 0⟩, ⟨0, 3, [[(i p.ih1_0_0), (i p.ih1_0_1), (i p.ih1_0_2)]], true, false, 0⟩, ⟨56, 4, p.eh2, true, false, 0⟩, ⟨32, 13, [[(i s.ih3_0_0), (i s.ih3_0_1), (i s.ih3_0_2), (i s.ih3_0_3), (i s.ih3_0_4), (i s.ih3_0_5), (i s.ih3_0_6), (i s.ih3_0_7), (i s.ih3_0_8), (i s.ih3_0_9), (i s.ih3_0_10), (i s.ih3_0_11), (i s.ih3_0_12)], [(i s.ih3_1_0), (i s.ih3_1_1), (i s.ih3_1_2), (i s.ih3_1_3), (i s.ih3_1_4), (i s.ih3_1_5), (i s.ih3_1_6), (i s.ih3_1_7), (i s.ih3_1_8), (i s.ih3_1_9), (i s.ih3_1_10), (i s.ih3_1_11), (i s.ih3_1_12)], [(i s.ih3_2_0), (i s.ih3_2_1), (i s.ih3_2_2), (i s.ih3_2_3), (i s.ih3_2_4), (i s.ih3_2_5), (i s.ih3_2_6), (i s.ih3_2_7), (i s.ih3_2_8), (i s.ih3_2_9), (i s.ih3_2_10), (i s.ih3_2_11), (i s.ih3_2_12)]], true, false, 0⟩]⟩
noncomputable def h7_1_1 (p : Pg7_1) (s : Sg7_1) : St := ⟨(ra 10 ((.ptr 0 0 0 0) :: (.unk :: (.unk :: ((b true) :: (ra 3 ((.ptr 1 0 0 0) :: ((i p.is18) :: ((.sl 2 0 p.ns19 0) :: (ra 80 ((.sl 3 0 3 0) :: ((i 3) :: ((i s.is102) :: (ra 109 [])))))))))))))), [⟨0, 3, [[(i p.ih0_0_0), (i p.ih0_0_1), (i p.ih0_0_2)]], true, false, 0⟩, ⟨0, 3, [[(i p.ih1_0_0), (i p.ih1_0_1), (i p.ih1_0_2)]], true, false, 0⟩, ⟨56, 4, p.eh2, false, false, 0⟩, ⟨32, 13, [[(i s.ih3_0_0), (i s.ih3_0_1), (i s.ih3_0_2), (i s.ih3_0_3), (i s.ih3_0_4), (i s.ih3_0_5), (i s.ih3_0_6), (i s.ih3_0_7), (i s.ih3_0_8), (i s.ih3_0_9), (i s.ih3_0_10), (i s.ih3_0_11), (i s.ih3_0_12)], [(i s.ih3_1_0), (i s.ih3_1_1), (i s.ih3_1_2), (i s.ih3_1_3), (i s.ih3_1_4), (i s.ih3_1_5), (i s.ih3_1_6), (i s.ih3_1_7), (i s.ih3_1_8), (i s.ih3_1_9), (i s.ih3_1_10), (i s.ih3_1_11), (i s.ih3_1_12)], [(i s.ih3_2_0), (i s.ih3_2_1), (i s.ih3_2_2), (i s.ih3_2_3), (i s.ih3_2_4), (i s.ih3_2_5), (i s.ih3_2_6), (i s.ih3_2_7), (i s.ih3_2_8), (i s.ih3_2_9), (i s.ih3_2_10), (i s.ih3_2_11), (i s.ih3_2_12)]], true, false, 0⟩]⟩
noncomputable def en7_1 (p : Pg7_1) (s : Sg7_1) : St := (sel (Nat.beq s.ph 1) (h7_1_1 p s) (h7_1_0 p s))
noncomputable def x7_1_1 (p : Pg7_1) (s : Sg7_1) : XExit × St := (.ret, ⟨[(b false)], []⟩)
theorem nx7_1_1 (p : Pg7_1) (s : Sg7_1) : (x7_1_1 p s).1 ≠ .normal := fun h => by
  have h : XExit.ret = XExit.normal := h
  cases h
noncomputable def x7_1_2 (p : Pg7_1) (s : Sg7_1) : XExit × St := (.exit 2, ⟨(ra 10 ((.ptr 0 0 0 0) :: (.unk :: (.unk :: ((b true) :: (ra 3 ((.ptr 1 0 0 0) :: ((i p.is18) :: ((.sl 2 0 p.ns19 0) :: (ra 80 ((.sl 3 0 3 0) :: ((i 3) :: ((i s.is102) :: ((b (decide (s.is102 < 3))) :: (ra 108 []))))))))))))))), [⟨0, 3, [[(i p.ih0_0_0), (i p.ih0_0_1), (i p.ih0_0_2)]], true, false, 0⟩, ⟨0, 3, [[(i p.ih1_0_0), (i p.ih1_0_1), (i p.ih1_0_2)]], true, false, 0⟩, ⟨56, 4, p.eh2, true, false, 0⟩, ⟨32, 13, [[(i s.ih3_0_0), (i s.ih3_0_1), (i s.ih3_0_2), (i s.ih3_0_3), (i s.ih3_0_4), (i s.ih3_0_5), (i s.ih3_0_6), (i s.ih3_0_7), (i s.ih3_0_8), (i s.ih3_0_9), (i s.ih3_0_10), (i s.ih3_0_11), (i s.ih3_0_12)], [(i s.ih3_1_0), (i s.ih3_1_1), (i s.ih3_1_2), (i s.ih3_1_3), (i s.ih3_1_4), (i s.ih3_1_5), (i s.ih3_1_6), (i s.ih3_1_7), (i s.ih3_1_8), (i s.ih3_1_9), (i s.ih3_1_10), (i s.ih3_1_11), (i s.ih3_1_12)], [(i s.ih3_2_0), (i s.ih3_2_1), (i s.ih3_2_2), (i s.ih3_2_3), (i s.ih3_2_4), (i s.ih3_2_5), (i s.ih3_2_6), (i s.ih3_2_7), (i s.ih3_2_8), (i s.ih3_2_9), (i s.ih3_2_10), (i s.ih3_2_11), (i s.ih3_2_12)]], true, false, 0⟩]⟩)
theorem nx7_1_2 (p : Pg7_1) (s : Sg7_1) : (x7_1_2 p s).1 ≠ .normal := fun h => by
  have h : XExit.exit 2 = XExit.normal := h
  cases h
noncomputable def x7_1_3 (p : Pg7_1) (s : Sg7_1) : XExit × St := (.exit 2, ⟨(ra 10 ((.ptr 0 0 0 0) :: (.unk :: (.unk :: ((b true) :: (ra 3 ((.ptr 1 0 0 0) :: ((i p.is18) :: ((.sl 2 0 p.ns19 0) :: (ra 80 ((.sl 3 0 3 0) :: ((i 3) :: ((i s.is102) :: ((b (decide (s.is102 < 3))) :: (ra 108 []))))))))))))))), [⟨0, 3, [[(i p.ih0_0_0), (i p.ih0_0_1), (i p.ih0_0_2)]], true, false, 0⟩, ⟨0, 3, [[(i p.ih1_0_0), (i p.ih1_0_1), (i p.ih1_0_2)]], true, false, 0⟩, ⟨56, 4, p.eh2, false, false, 0⟩, ⟨32, 13, [[(i s.ih3_0_0), (i s.ih3_0_1), (i s.ih3_0_2), (i s.ih3_0_3), (i s.ih3_0_4), (i s.ih3_0_5), (i s.ih3_0_6), (i s.ih3_0_7), (i s.ih3_0_8), (i s.ih3_0_9), (i s.ih3_0_10), (i s.ih3_0_11), (i s.ih3_0_12)], [(i s.ih3_1_0), (i s.ih3_1_1), (i s.ih3_1_2), (i s.ih3_1_3), (i s.ih3_1_4), (i s.ih3_1_5), (i s.ih3_1_6), (i s.ih3_1_7), (i s.ih3_1_8), (i s.ih3_1_9), (i s.ih3_1_10), (i s.ih3_1_11), (i s.ih3_1_12)], [(i s.ih3_2_0), (i s.ih3_2_1), (i s.ih3_2_2), (i s.ih3_2_3), (i s.ih3_2_4), (i s.ih3_2_5), (i s.ih3_2_6), (i s.ih3_2_7), (i s.ih3_2_8), (i s.ih3_2_9), (i s.ih3_2_10), (i s.ih3_2_11), (i s.ih3_2_12)]], true, false, 0⟩]⟩)
theorem nx7_1_3 (p : Pg7_1) (s : Sg7_1) : (x7_1_3 p s).1 ≠ .normal := fun h => by
  have h : XExit.exit 2 = XExit.normal := h
  cases h
noncomputable def xs7_1 : List (Pg7_1 → Sg7_1 → XExit × St) := [x7_1_1, x7_1_2, x7_1_3]
noncomputable def l7_1 : PS := (.seq (.pc (.ops [(o 103 (.bin .lss (.t 102) (.t 101)))])) (.seq (.pc (.cond (.t 103) .skip (.exit 2))) (.seq (.block 3 (.seq (.pc (.ops [(o 104 (.idxS 13 (.t 100) (.t 102))), (o 105 (.load (ki 13) 13 true (.t 104))), (o 23 (.alloc (rep 13 (vi 0)))), (s (.store 13 (.t 23) (.t 105)))])) (.seq (.pc (.seq (.draw [106, 107, 108, 109, 110, 111, 112, 113, 114, 115, 116, 117, 118, 119, 120, 121, 122, 123] [] [(o 106 (.load (ki 3) 3 true (.t 10))), (o 107 (.load (ki 3) 3 true (.t 17))), (o 108 (.mv (.t 18))), (o 109 (.fld 0 (.t 17))), (o 110 (.load (ki 1) 1 false (.t 109))), (o 111 (.bin .mul (.t 108) (.t 110))), (o 112 (.mv (.t 18))), (o 113 (.fld 1 (.t 17))), (o 114 (.load (ki 1) 1 false (.t 113))), (o 115 (.bin .mul (.t 112) (.t 114))), (o 116 (.mv (.t 18))), (o 117 (.fld 2 (.t 17))), (o 118 (.load (ki 1) 1 false (.t 117))), (o 119 (.bin .mul (.t 116) (.t 118))), (o 120 (.call 16 [(.t 111), (.t 115), (.t 119)])), (o 121 (.bslice 30 3 3 (rep 9 (vi 0)) [(0, (3, (.t 106))), (3, (3, (.t 107))), (6, (3, (.t 120)))])), (o 122 (.len (.t 121))), (o 123 (.mv (ci 0)))] [((.load (ki 3) 3 true (.t 10)), (.call 16 [(.t 111), (.t 115), (.t 119)])), ((.load (ki 3) 3 true (.t 17)), (.call 16 [(.t 111), (.t 115), (.t 119)])), ((.mv (ci 0)), (.call 16 [(.t 111), (.t 115), (.t 119)])), ((.mv (ci 0)), (.bslice 30 3 3 (rep 9 (vi 0)) [(0, (3, (.t 106))), (3, (3, (.t 107))), (6, (3, (.t 120)))]))]) (.block 4 (.loop [10, 13, 17, 18, 19, 23, 100, 101, 102, 121, 122, 123] (.seq (.ops [(o 124 (.bin .lss (.t 123) (.t 122)))]) (.seq (.cond (.t 124) .skip (.exit 4)) (.seq (.block 5 (.seq (.ops [(o 125 (.idxS 3 (.t 121) (.t 123))), (o 126 (.load (ki 3) 3 true (.t 125))), (o 25 (.alloc (rep 3 (vi 0)))), (s (.store 3 (.t 25) (.t 126)))]) (.seq (.ops [(o 128 (.load (ki 13) 13 true (.t 23))), (o 129 (.load (ki 3) 3 true (.t 25))), (o 130 (.call 22 [(.t 128), (.t 129)])), (o 127 (.mv (.t 130))), (o 131 (.ext (.t 127) 0)), (o 132 (.ext (.t 127) 1)), (o 26 (.alloc (rep 3 (vi 0)))), (s (.store 3 (.t 26) (.t 131))), (o 27 (.mv (.t 132)))]) (.seq (.ops [(o 134 (.load (ki 13) 13 true (.t 23))), (o 135 (.load (ki 3) 3 true (.t 25))), (o 136 (.call 27 [(.t 134), (.t 135)])), (o 133 (.mv (.t 136))), (o 137 (.ext (.t 133) 0)), (o 138 (.ext (.t 133) 1)), (o 28 (.alloc (rep 3 (vi 0)))), (s (.store 3 (.t 28) (.t 137))), (o 29 (.mv (.t 138)))]) (.seq (.ops [(o 139 (.load (ki 3) 3 true (.t 26))), (o 140 (.load (ki 3) 3 true (.t 28))), (o 141 (.eqc true [(0, (.int .i64)), (1, (.int .i64)), (2, (.int .i64))] (.t 139) (.t 140))), (o 142 (.mv (.t 141))), ⟨(.some 143), (.some (142, false)), [], (.mv (.t 27))⟩, ⟨(.some 144), (.some (142, false)), [], (.mv (.t 29))⟩, ⟨(.some 145), (.some (142, false)), [], (.eqn 3 true (.t 143) (.t 144) ⟨none, (.binOp .neq 4 (.tmp 143) (.tmp 144) 4), 4, "", #[], none⟩ [143, 144])⟩, (o 146 (.pick (.t 142) (cb true) (.t 145)))]) (.cond (.t 146) (.seq (.ops [(o 12 (.mv (cb false)))]) .ret) .skip)))))) (.ops [(o 147 (.bin .add (.t 123) (ci 1))), (o 123 (.mv (.t 147)))])))))))) (.seq (.pc (.ops [(o 30 (.mv (.c (.v (.slice none 0 0)))))])) (.seq (.seq (.pc (.ops [(o 148 (.mv (.t 19))), (o 149 (.len (.t 148))), (o 150 (.mv (ci 0)))])) (.block 6 (.sum (loopL 0 [10, 13, 17, 18, 19, 23, 30, 100, 101, 102, 148, 149, 150] as7_2 st7_2 xs7_2)))) (.pc (.seq (.ops [(o 180 (.mv (.t 30))), (o 181 (.mv (.t 19))), (o 182 (.bslice 57 1 3 [(.v (.slice none 0 0)), (.v (.slice none 0 0)), (.v (.slice none 0 0))] [(0, (1, (.t 180))), (1, (1, (.t 181))), (2, (1, (.c (.v (.slice none 0 0)))))])), (o 183 (.len (.t 182))), (o 184 (.mv (ci 0)))]) (.block 8 (.loop [10, 13, 17, 18, 19, 23, 100, 101, 102, 182, 183, 184] (.seq (.ops [(o 185 (.bin .lss (.t 184) (.t 183)))]) (.seq (.cond (.t 185) .skip (.exit 8)) (.seq (.block 9 (.seq (.ops [(o 186 (.idxS 1 (.t 182) (.t 184))), (o 187 (.load [(.sl 4)] 1 false (.t 186))), (o 38 (.mv (.t 187)))]) (.seq (.ops [(o 189 (.load (ki 13) 13 true (.t 23))), (o 190 (.mv (.t 38))), (o 191 (.call 30 [(.t 189), (.t 190)])), (o 188 (.mv (.t 191))), (o 192 (.ext (.t 188) 0)), (o 193 (.ext (.t 188) 1)), (o 39 (.mv (.t 192))), (o 40 (.mv (.t 193)))]) (.seq (.ops [(o 195 (.load (ki 13) 13 true (.t 23))), (o 196 (.mv (.t 38))), (o 197 (.call 31 [(.t 195), (.t 196)])), (o 194 (.mv (.t 197))), (o 198 (.ext (.t 194) 0)), (o 199 (.ext (.t 194) 1)), (o 41 (.mv (.t 198))), (o 42 (.mv (.t 199)))]) (.seq (.ops [(o 200 (.mv (.t 40))), (o 201 (.mv (.t 42))), (o 202 (.eqn 3 true (.t 200) (.t 201) ⟨none, (.binOp .neq 4 (.tmp 200) (.tmp 201) 4), 4, "", #[], none⟩ [200, 201])), (o 203 (.mv (.t 202))), ⟨(.some 204), (.some (203, false)), [], (.mv (.t 39))⟩, ⟨(.some 205), (.some (203, false)), [], (.mv (.t 41))⟩, ⟨(.some 206), (.some (203, false)), [], (.call 32 [(.t 204), (.t 205)])⟩, ⟨(.some 207), (.some (203, false)), [], (.not (.t 206))⟩, (o 208 (.pick (.t 203) (cb true) (.t 207)))]) (.cond (.t 208) (.seq (.ops [(o 12 (.mv (cb false)))]) .ret) .skip)))))) (.ops [(o 209 (.bin .add (.t 184) (ci 1))), (o 184 (.mv (.t 209)))]))))))))))))) (.pc (.ops [(o 210 (.bin .add (.t 102) (ci 1))), (o 102 (.mv (.t 210)))])))))
@[reducible] def lc7_1 : PC := (.seq (.ops [(o 103 (.bin .lss (.t 102) (.t 101)))]) (.seq (.cond (.t 103) .skip (.exit 2)) (.seq (.block 3 (.seq (.ops [(o 104 (.idxS 13 (.t 100) (.t 102))), (o 105 (.load (ki 13) 13 true (.t 104))), (o 23 (.alloc (rep 13 (vi 0)))), (s (.store 13 (.t 23) (.t 105)))]) (.seq (.seq (.draw [106, 107, 108, 109, 110, 111, 112, 113, 114, 115, 116, 117, 118, 119, 120, 121, 122, 123] [] [(o 106 (.load (ki 3) 3 true (.t 10))), (o 107 (.load (ki 3) 3 true (.t 17))), (o 108 (.mv (.t 18))), (o 109 (.fld 0 (.t 17))), (o 110 (.load (ki 1) 1 false (.t 109))), (o 111 (.bin .mul (.t 108) (.t 110))), (o 112 (.mv (.t 18))), (o 113 (.fld 1 (.t 17))), (o 114 (.load (ki 1) 1 false (.t 113))), (o 115 (.bin .mul (.t 112) (.t 114))), (o 116 (.mv (.t 18))), (o 117 (.fld 2 (.t 17))), (o 118 (.load (ki 1) 1 false (.t 117))), (o 119 (.bin .mul (.t 116) (.t 118))), (o 120 (.call 16 [(.t 111), (.t 115), (.t 119)])), (o 121 (.bslice 30 3 3 (rep 9 (vi 0)) [(0, (3, (.t 106))), (3, (3, (.t 107))), (6, (3, (.t 120)))])), (o 122 (.len (.t 121))), (o 123 (.mv (ci 0)))] [((.load (ki 3) 3 true (.t 10)), (.call 16 [(.t 111), (.t 115), (.t 119)])), ((.load (ki 3) 3 true (.t 17)), (.call 16 [(.t 111), (.t 115), (.t 119)])), ((.mv (ci 0)), (.call 16 [(.t 111), (.t 115), (.t 119)])), ((.mv (ci 0)), (.bslice 30 3 3 (rep 9 (vi 0)) [(0, (3, (.t 106))), (3, (3, (.t 107))), (6, (3, (.t 120)))]))]) (.block 4 (.loop [10, 13, 17, 18, 19, 23, 100, 101, 102, 121, 122, 123] (.seq (.ops [(o 124 (.bin .lss (.t 123) (.t 122)))]) (.seq (.cond (.t 124) .skip (.exit 4)) (.seq (.block 5 (.seq (.ops [(o 125 (.idxS 3 (.t 121) (.t 123))), (o 126 (.load (ki 3) 3 true (.t 125))), (o 25 (.alloc (rep 3 (vi 0)))), (s (.store 3 (.t 25) (.t 126)))]) (.seq (.ops [(o 128 (.load (ki 13) 13 true (.t 23))), (o 129 (.load (ki 3) 3 true (.t 25))), (o 130 (.call 22 [(.t 128), (.t 129)])), (o 127 (.mv (.t 130))), (o 131 (.ext (.t 127) 0)), (o 132 (.ext (.t 127) 1)), (o 26 (.alloc (rep 3 (vi 0)))), (s (.store 3 (.t 26) (.t 131))), (o 27 (.mv (.t 132)))]) (.seq (.ops [(o 134 (.load (ki 13) 13 true (.t 23))), (o 135 (.load (ki 3) 3 true (.t 25))), (o 136 (.call 27 [(.t 134), (.t 135)])), (o 133 (.mv (.t 136))), (o 137 (.ext (.t 133) 0)), (o 138 (.ext (.t 133) 1)), (o 28 (.alloc (rep 3 (vi 0)))), (s (.store 3 (.t 28) (.t 137))), (o 29 (.mv (.t 138)))]) (.seq (.ops [(o 139 (.load (ki 3) 3 true (.t 26))), (o 140 (.load (ki 3) 3 true (.t 28))), (o 141 (.eqc true [(0, (.int .i64)), (1, (.int .i64)), (2, (.int .i64))] (.t 139) (.t 140))), (o 142 (.mv (.t 141))), ⟨(.some 143), (.some (142, false)), [], (.mv (.t 27))⟩, ⟨(.some 144), (.some (142, false)), [], (.mv (.t 29))⟩, ⟨(.some 145), (.some (142, false)), [], (.eqn 3 true (.t 143) (.t 144) ⟨none, (.binOp .neq 4 (.tmp 143) (.tmp 144) 4), 4, "", #[], none⟩ [143, 144])⟩, (o 146 (.pick (.t 142) (cb true) (.t 145)))]) (.cond (.t 146) (.seq (.ops [(o 12 (.mv (cb false)))]) .ret) .skip)))))) (.ops [(o 147 (.bin .add (.t 123) (ci 1))), (o 123 (.mv (.t 147)))]))))))) (.seq (.ops [(o 30 (.mv (.c (.v (.slice none 0 0)))))]) (.seq (.seq (.ops [(o 148 (.mv (.t 19))), (o 149 (.len (.t 148))), (o 150 (.mv (ci 0)))]) (.block 6 (.loop [10, 13, 17, 18, 19, 23, 30, 100, 101, 102, 148, 149, 150] (.seq (.ops [(o 151 (.bin .lss (.t 150) (.t 149)))]) (.seq (.cond (.t 151) .skip (.exit 6)) (.seq (.block 7 (.seq (.ops [(o 152 (.idxS 4 (.t 148) (.t 150))), (o 153 (.load (ki 4) 4 true (.t 152))), (o 32 (.alloc (rep 4 (vi 0)))), (s (.store 4 (.t 32) (.t 153)))]) (.seq (.ops [(o 155 (.load (ki 13) 13 true (.t 23))), (o 156 (.load (ki 4) 4 true (.t 32))), (o 157 (.call 28 [(.t 155), (.t 156)])), (o 154 (.mv (.t 157))), (o 158 (.ext (.t 154) 0)), (o 159 (.ext (.t 154) 1)), (o 33 (.alloc (rep 4 (vi 0)))), (s (.store 4 (.t 33) (.t 158))), (o 34 (.mv (.t 159)))]) (.seq (.ops [(o 161 (.load (ki 13) 13 true (.t 23))), (o 162 (.load (ki 4) 4 true (.t 32))), (o 163 (.call 29 [(.t 161), (.t 162)])), (o 160 (.mv (.t 163))), (o 164 (.ext (.t 160) 0)), (o 165 (.ext (.t 160) 1)), (o 35 (.alloc (rep 4 (vi 0)))), (s (.store 4 (.t 35) (.t 164))), (o 36 (.mv (.t 165)))]) (.seq (.seq (.ops [(o 166 (.load (ki 4) 4 true (.t 33))), (o 167 (.load (ki 4) 4 true (.t 35))), (o 168 (.eqc true [(0, (.int .i64)), (1, (.int .i64)), (2, (.int .i64)), (3, (.int .i64))] (.t 166) (.t 167))), (o 169 (.mv (.t 168))), ⟨(.some 170), (.some (169, false)), [], (.mv (.t 34))⟩, ⟨(.some 171), (.some (169, false)), [], (.mv (.t 36))⟩, ⟨(.some 172), (.some (169, false)), [], (.eqn 3 true (.t 170) (.t 171) ⟨none, (.binOp .neq 4 (.tmp 170) (.tmp 171) 4), 4, "", #[], none⟩ [170, 171])⟩, (o 173 (.pick (.t 169) (cb true) (.t 172)))]) (.cond (.t 173) (.seq (.ops [(o 12 (.mv (cb false)))]) .ret) .skip)) (.seq (.ops [(o 174 (.mv (.t 36)))]) (.cond (.t 174) (.ops [(o 175 (.mv (.t 30))), (o 176 (.load (ki 4) 4 true (.t 32))), (o 177 (.bslice 56 4 1 (rep 4 (vi 0)) [(0, (4, (.t 176)))])), (o 178 (.append 56 4 32 (.t 175) (.t 177))), (o 30 (.mv (.t 178)))]) .skip))))))) (.ops [(o 179 (.bin .add (.t 150) (ci 1))), (o 150 (.mv (.t 179)))]))))))) (.seq (.ops [(o 180 (.mv (.t 30))), (o 181 (.mv (.t 19))), (o 182 (.bslice 57 1 3 [(.v (.slice none 0 0)), (.v (.slice none 0 0)), (.v (.slice none 0 0))] [(0, (1, (.t 180))), (1, (1, (.t 181))), (2, (1, (.c (.v (.slice none 0 0)))))])), (o 183 (.len (.t 182))), (o 184 (.mv (ci 0)))]) (.block 8 (.loop [10, 13, 17, 18, 19, 23, 100, 101, 102, 182, 183, 184] (.seq (.ops [(o 185 (.bin .lss (.t 184) (.t 183)))]) (.seq (.cond (.t 185) .skip (.exit 8)) (.seq (.block 9 (.seq (.ops [(o 186 (.idxS 1 (.t 182) (.t 184))), (o 187 (.load [(.sl 4)] 1 false (.t 186))), (o 38 (.mv (.t 187)))]) (.seq (.ops [(o 189 (.load (ki 13) 13 true (.t 23))), (o 190 (.mv (.t 38))), (o 191 (.call 30 [(.t 189), (.t 190)])), (o 188 (.mv (.t 191))), (o 192 (.ext (.t 188) 0)), (o 193 (.ext (.t 188) 1)), (o 39 (.mv (.t 192))), (o 40 (.mv (.t 193)))]) (.seq (.ops [(o 195 (.load (ki 13) 13 true (.t 23))), (o 196 (.mv (.t 38))), (o 197 (.call 31 [(.t 195), (.t 196)])), (o 194 (.mv (.t 197))), (o 198 (.ext (.t 194) 0)), (o 199 (.ext (.t 194) 1)), (o 41 (.mv (.t 198))), (o 42 (.mv (.t 199)))]) (.seq (.ops [(o 200 (.mv (.t 40))), (o 201 (.mv (.t 42))), (o 202 (.eqn 3 true (.t 200) (.t 201) ⟨none, (.binOp .neq 4 (.tmp 200) (.tmp 201) 4), 4, "", #[], none⟩ [200, 201])), (o 203 (.mv (.t 202))), ⟨(.some 204), (.some (203, false)), [], (.mv (.t 39))⟩, ⟨(.some 205), (.some (203, false)), [], (.mv (.t 41))⟩, ⟨(.some 206), (.some (203, false)), [], (.call 32 [(.t 204), (.t 205)])⟩, ⟨(.some 207), (.some (203, false)), [], (.not (.t 206))⟩, (o 208 (.pick (.t 203) (cb true) (.t 207)))]) (.cond (.t 208) (.seq (.ops [(o 12 (.mv (cb false)))]) .ret) .skip)))))) (.ops [(o 209 (.bin .add (.t 184) (ci 1))), (o 184 (.mv (.t 209)))])))))))))))) (.ops [(o 210 (.bin .add (.t 102) (ci 1))), (o 102 (.mv (.t 210)))]))))
noncomputable def fo7_1 (p : Pg7_1) (s : Sg7_1) : Stp Sg7_1 → Option (XExit × St) := onStp (fun s' => some (.normal, en7_1 p s')) (fun t => xAt xs7_1 p s t 1) none
noncomputable def ut7_1_0 {α : Type} (k : Sg7_1 → α) (e : Nat → α) (z : α) (p : Pg7_1) (s : Sg7_1) : α := let t1 := [[(i s.ih3_0_0), (i s.ih3_0_1), (i s.ih3_0_2), (i s.ih3_0_3), (i s.ih3_0_4), (i s.ih3_0_5), (i s.ih3_0_6), (i s.ih3_0_7), (i s.ih3_0_8), (i s.ih3_0_9), (i s.ih3_0_10), (i s.ih3_0_11), (i s.ih3_0_12)], [(i s.ih3_1_0), (i s.ih3_1_1), (i s.ih3_1_2), (i s.ih3_1_3), (i s.ih3_1_4), (i s.ih3_1_5), (i s.ih3_1_6), (i s.ih3_1_7), (i s.ih3_1_8), (i s.ih3_1_9), (i s.ih3_1_10), (i s.ih3_1_11), (i s.ih3_1_12)], [(i s.ih3_2_0), (i s.ih3_2_1), (i s.ih3_2_2), (i s.ih3_2_3), (i s.ih3_2_4), (i s.ih3_2_5), (i s.ih3_2_6), (i s.ih3_2_7), (i s.ih3_2_8), (i s.ih3_2_9), (i s.ih3_2_10), (i s.ih3_2_11), (i s.ih3_2_12)]]; let t2 := (getRow t1 (0 + s.is102.toNat)); let t3 := (dropN t2 0); let t4 := (toI (hdA t3)); let t5 := (toI (hdA (tlA t3))); let t6 := (toI (hdA (tlA (tlA t3)))); let t7 := (toI (hdA (tlA (tlA (tlA t3))))); let t8 := (toI (hdA (tlA (tlA (tlA (tlA t3)))))); let t9 := (toI (hdA (tlA (tlA (tlA (tlA (tlA t3))))))); let t10 := (toI (hdA (tlA (tlA (tlA (tlA (tlA (tlA t3)))))))); let t11 := (toI (hdA (tlA (tlA (tlA (tlA (tlA (tlA (tlA t3))))))))); let t12 := (toI (hdA (tlA (tlA (tlA (tlA (tlA (tlA (tlA (tlA t3)))))))))); let t13 := (toI (hdA (tlA (tlA (tlA (tlA (tlA (tlA (tlA (tlA (tlA t3))))))))))); let t14 := (toI (hdA (tlA (tlA (tlA (tlA (tlA (tlA (tlA (tlA (tlA (tlA t3)))))))))))); let t15 := (toI (hdA (tlA (tlA (tlA (tlA (tlA (tlA (tlA (tlA (tlA (tlA (tlA t3))))))))))))); let t16 := (toI (hdA (tlA (tlA (tlA (tlA (tlA (tlA (tlA (tlA (tlA (tlA (tlA (tlA t3)))))))))))))); let t17 := (p16 (W (p.is18 * p.ih1_0_0)) (W (p.is18 * p.ih1_0_1)) (W (p.is18 * p.ih1_0_2))); let t18 := (p22 (⟨(⟨(⟨(⟨t4, t5, t6⟩ : V3), (⟨t7, t8, t9⟩ : V3), (⟨t10, t11, t12⟩ : V3)⟩ : M3), t13⟩ : Trn), (⟨t14, t15, t16⟩ : V3)⟩ : Frm) (⟨p.ih0_0_0, p.ih0_0_1, p.ih0_0_2⟩ : V3)); let t19 := (p27 (⟨(⟨(⟨(⟨t4, t5, t6⟩ : V3), (⟨t7, t8, t9⟩ : V3), (⟨t10, t11, t12⟩ : V3)⟩ : M3), t13⟩ : Trn), (⟨t14, t15, t16⟩ : V3)⟩ : Frm) (⟨p.ih0_0_0, p.ih0_0_1, p.ih0_0_2⟩ : V3)); let t20 := (p22 (⟨(⟨(⟨(⟨t4, t5, t6⟩ : V3), (⟨t7, t8, t9⟩ : V3), (⟨t10, t11, t12⟩ : V3)⟩ : M3), t13⟩ : Trn), (⟨t14, t15, t16⟩ : V3)⟩ : Frm) (⟨p.ih1_0_0, p.ih1_0_1, p.ih1_0_2⟩ : V3)); let t21 := (p27 (⟨(⟨(⟨(⟨t4, t5, t6⟩ : V3), (⟨t7, t8, t9⟩ : V3), (⟨t10, t11, t12⟩ : V3)⟩ : M3), t13⟩ : Trn), (⟨t14, t15, t16⟩ : V3)⟩ : Frm) (⟨p.ih1_0_0, p.ih1_0_1, p.ih1_0_2⟩ : V3)); let t22 := (p22 (⟨(⟨(⟨(⟨t4, t5, t6⟩ : V3), (⟨t7, t8, t9⟩ : V3), (⟨t10, t11, t12⟩ : V3)⟩ : M3), t13⟩ : Trn), (⟨t14, t15, t16⟩ : V3)⟩ : Frm) t17); let t23 := (p27 (⟨(⟨(⟨(⟨t4, t5, t6⟩ : V3), (⟨t7, t8, t9⟩ : V3), (⟨t10, t11, t12⟩ : V3)⟩ : M3), t13⟩ : Trn), (⟨t14, t15, t16⟩ : V3)⟩ : Frm) t17); let t24 := (lp (st7_2 (⟨p.is18, p.ns19, s.is102, p.ns19, (↑p.ns19 : Int), p.ih0_0_0, p.ih0_0_1, p.ih0_0_2, p.ih1_0_0, p.ih1_0_1, p.ih1_0_2, p.eh2, t4, t5, t6, t7, t8, t9, t10, t11, t12, t13, t14, t15, t16, s.ih3_0_4, s.ih3_0_5, s.ih3_0_6, s.ih3_0_7, s.ih3_0_8, s.ih3_0_9, s.ih3_0_10, s.ih3_0_11, s.ih3_0_12, s.ih3_1_0, s.ih3_1_1, s.ih3_1_2, s.ih3_1_3, s.ih3_1_4, s.ih3_1_5, s.ih3_1_6, s.ih3_1_7, s.ih3_1_8, s.ih3_1_9, s.ih3_1_10, s.ih3_1_11, s.ih3_1_12, s.ih3_2_0, s.ih3_2_1, s.ih3_2_2, s.ih3_2_3, s.ih3_2_4, s.ih3_2_5, s.ih3_2_6, s.ih3_2_7, s.ih3_2_8, s.ih3_2_9, s.ih3_2_10, s.ih3_2_11, s.ih3_2_12⟩ : Pg7_2)) (⟨0, 0, s.ih3_0_0, s.ih3_0_1, s.ih3_0_2, s.ih3_0_3, 0, [], 0, 0, 0, 0, 0, 0, 0, 0, 0, 0, 0, 0, 0, 0, 0, 0, 0, 0, 0, 0, 0, 0, 0, 0, 0, 0, 0, 0, 0, 0, 0, 0, 0, 0, 0, 0, 0, 0, 0⟩ : Sg7_2)); let t25 := (p30 (⟨(⟨(⟨(⟨t4, t5, t6⟩ : V3), (⟨t7, t8, t9⟩ : V3), (⟨t10, t11, t12⟩ : V3)⟩ : M3), t13⟩ : Trn), (⟨t14, t15, t16⟩ : V3)⟩ : Frm) (lsP 0 (fun _ => []))); let t26 := (p31 (⟨(⟨(⟨(⟨t4, t5, t6⟩ : V3), (⟨t7, t8, t9⟩ : V3), (⟨t10, t11, t12⟩ : V3)⟩ : M3), t13⟩ : Trn), (⟨t14, t15, t16⟩ : V3)⟩ : Frm) (lsP 0 (fun _ => []))); let t27 := (p32 (lsP (List.length t25.1) (fun k => rP (gP t25.1 k))) (lsP (List.length t26.1) (fun k => rP (gP t26.1 k)))); let t28 := (p30 (⟨(⟨(⟨(⟨t4, t5, t6⟩ : V3), (⟨t7, t8, t9⟩ : V3), (⟨t10, t11, t12⟩ : V3)⟩ : M3), t13⟩ : Trn), (⟨t14, t15, t16⟩ : V3)⟩ : Frm) (lsP p.ns19 (fun i => getRow p.eh2 (0 + i)))); let t29 := (p31 (⟨(⟨(⟨(⟨t4, t5, t6⟩ : V3), (⟨t7, t8, t9⟩ : V3), (⟨t10, t11, t12⟩ : V3)⟩ : M3), t13⟩ : Trn), (⟨t14, t15, t16⟩ : V3)⟩ : Frm) (lsP p.ns19 (fun i => getRow p.eh2 (0 + i)))); let t30 := (p32 (lsP (List.length t28.1) (fun k => rP (gP t28.1 k))) (lsP (List.length t29.1) (fun k => rP (gP t29.1 k)))); let t31 := (p30 (⟨(⟨(⟨(⟨t4, t5, t6⟩ : V3), (⟨t7, t8, t9⟩ : V3), (⟨t10, t11, t12⟩ : V3)⟩ : M3), t13⟩ : Trn), (⟨t14, t15, t16⟩ : V3)⟩ : Frm) (lsP t24.2.ns30 (fun i => getRow t24.2.eh4 (0 + i)))); let t32 := (p31 (⟨(⟨(⟨(⟨t4, t5, t6⟩ : V3), (⟨t7, t8, t9⟩ : V3), (⟨t10, t11, t12⟩ : V3)⟩ : M3), t13⟩ : Trn), (⟨t14, t15, t16⟩ : V3)⟩ : Frm) (lsP t24.2.ns30 (fun i => getRow t24.2.eh4 (0 + i)))); let t33 := (p32 (lsP (List.length t31.1) (fun k => rP (gP t31.1 k))) (lsP (List.length t32.1) (fun k => rP (gP t32.1 k)))); (sel (decide (s.is102 < 3))
 (sel (inB s.is102 3)
  (sel (((Nat.blt (0 + s.is102.toNat) (len t1)) && (Nat.ble (0 + 13) (len t2))) && (okCKs [(CK.int .i64), (CK.int .i64), (CK.int .i64), (CK.int .i64), (CK.int .i64), (CK.int .i64), (CK.int .i64), (CK.int .i64), (CK.int .i64), (CK.int .i64), (CK.int .i64), (CK.int .i64), (CK.int .i64)] t3))
  (sel (g22 (⟨(⟨(⟨(⟨t4, t5, t6⟩ : V3), (⟨t7, t8, t9⟩ : V3), (⟨t10, t11, t12⟩ : V3)⟩ : M3), t13⟩ : Trn), (⟨t14, t15, t16⟩ : V3)⟩ : Frm) (⟨p.ih0_0_0, p.ih0_0_1, p.ih0_0_2⟩ : V3))
  (sel (g27 (⟨(⟨(⟨(⟨t4, t5, t6⟩ : V3), (⟨t7, t8, t9⟩ : V3), (⟨t10, t11, t12⟩ : V3)⟩ : M3), t13⟩ : Trn), (⟨t14, t15, t16⟩ : V3)⟩ : Frm) (⟨p.ih0_0_0, p.ih0_0_1, p.ih0_0_2⟩ : V3))
  (sel (!((t18.1.x == t19.1.x) && ((t18.1.y == t19.1.y) && ((t18.1.z == t19.1.z) && true))))
  (e 1)
  (sel (!(t18.2 == t19.2))
  (e 1)
  (sel (g22 (⟨(⟨(⟨(⟨t4, t5, t6⟩ : V3), (⟨t7, t8, t9⟩ : V3), (⟨t10, t11, t12⟩ : V3)⟩ : M3), t13⟩ : Trn), (⟨t14, t15, t16⟩ : V3)⟩ : Frm) (⟨p.ih1_0_0, p.ih1_0_1, p.ih1_0_2⟩ : V3))
  (sel (g27 (⟨(⟨(⟨(⟨t4, t5, t6⟩ : V3), (⟨t7, t8, t9⟩ : V3), (⟨t10, t11, t12⟩ : V3)⟩ : M3), t13⟩ : Trn), (⟨t14, t15, t16⟩ : V3)⟩ : Frm) (⟨p.ih1_0_0, p.ih1_0_1, p.ih1_0_2⟩ : V3))
  (sel (!((t20.1.x == t21.1.x) && ((t20.1.y == t21.1.y) && ((t20.1.z == t21.1.z) && true))))
  (e 1)
  (sel (!(t20.2 == t21.2))
  (e 1)
  (sel (g22 (⟨(⟨(⟨(⟨t4, t5, t6⟩ : V3), (⟨t7, t8, t9⟩ : V3), (⟨t10, t11, t12⟩ : V3)⟩ : M3), t13⟩ : Trn), (⟨t14, t15, t16⟩ : V3)⟩ : Frm) t17)
  (sel (g27 (⟨(⟨(⟨(⟨t4, t5, t6⟩ : V3), (⟨t7, t8, t9⟩ : V3), (⟨t10, t11, t12⟩ : V3)⟩ : M3), t13⟩ : Trn), (⟨t14, t15, t16⟩ : V3)⟩ : Frm) t17)
  (sel (!((t22.1.x == t23.1.x) && ((t22.1.y == t23.1.y) && ((t22.1.z == t23.1.z) && true))))
  (e 1)
  (sel (!(t22.2 == t23.2))
  (e 1)
  (sel (Nat.beq t24.1 1)
  (e 1)
  (sel (Nat.beq t24.1 2)
  (sel (okPs 0 (fun _ => []))
  (sel (g30 (⟨(⟨(⟨(⟨t4, t5, t6⟩ : V3), (⟨t7, t8, t9⟩ : V3), (⟨t10, t11, t12⟩ : V3)⟩ : M3), t13⟩ : Trn), (⟨t14, t15, t16⟩ : V3)⟩ : Frm) (lsP 0 (fun _ => [])))
  (sel (okPs 0 (fun _ => []))
  (sel (g31 (⟨(⟨(⟨(⟨t4, t5, t6⟩ : V3), (⟨t7, t8, t9⟩ : V3), (⟨t10, t11, t12⟩ : V3)⟩ : M3), t13⟩ : Trn), (⟨t14, t15, t16⟩ : V3)⟩ : Frm) (lsP 0 (fun _ => [])))
  (sel (!(t25.2 == t26.2))
  (e 1)
  (sel (okPs (List.length t25.1) (fun k => rP (gP t25.1 k)))
  (sel (okPs (List.length t26.1) (fun k => rP (gP t26.1 k)))
  (sel (g32 (lsP (List.length t25.1) (fun k => rP (gP t25.1 k))) (lsP (List.length t26.1) (fun k => rP (gP t26.1 k))))
  (sel (!t27)
  (e 1)
  (sel (okPs p.ns19 (fun i => getRow p.eh2 (0 + i)))
  (sel (g30 (⟨(⟨(⟨(⟨t4, t5, t6⟩ : V3), (⟨t7, t8, t9⟩ : V3), (⟨t10, t11, t12⟩ : V3)⟩ : M3), t13⟩ : Trn), (⟨t14, t15, t16⟩ : V3)⟩ : Frm) (lsP p.ns19 (fun i => getRow p.eh2 (0 + i))))
  (sel (okPs p.ns19 (fun i => getRow p.eh2 (0 + i)))
  (sel (g31 (⟨(⟨(⟨(⟨t4, t5, t6⟩ : V3), (⟨t7, t8, t9⟩ : V3), (⟨t10, t11, t12⟩ : V3)⟩ : M3), t13⟩ : Trn), (⟨t14, t15, t16⟩ : V3)⟩ : Frm) (lsP p.ns19 (fun i => getRow p.eh2 (0 + i))))
  (sel (!(t28.2 == t29.2))
  (e 1)
  (sel (okPs (List.length t28.1) (fun k => rP (gP t28.1 k)))
  (sel (okPs (List.length t29.1) (fun k => rP (gP t29.1 k)))
  (sel (g32 (lsP (List.length t28.1) (fun k => rP (gP t28.1 k))) (lsP (List.length t29.1) (fun k => rP (gP t29.1 k))))
  (sel (!t30)
  (e 1)
  (sel (okPs 0 (fun _ => []))
  (sel (g30 (⟨(⟨(⟨(⟨t4, t5, t6⟩ : V3), (⟨t7, t8, t9⟩ : V3), (⟨t10, t11, t12⟩ : V3)⟩ : M3), t13⟩ : Trn), (⟨t14, t15, t16⟩ : V3)⟩ : Frm) (lsP 0 (fun _ => [])))
  (sel (okPs 0 (fun _ => []))
  (sel (g31 (⟨(⟨(⟨(⟨t4, t5, t6⟩ : V3), (⟨t7, t8, t9⟩ : V3), (⟨t10, t11, t12⟩ : V3)⟩ : M3), t13⟩ : Trn), (⟨t14, t15, t16⟩ : V3)⟩ : Frm) (lsP 0 (fun _ => [])))
  (sel (!(t25.2 == t26.2))
  (e 1)
  (sel (okPs (List.length t25.1) (fun k => rP (gP t25.1 k)))
  (sel (okPs (List.length t26.1) (fun k => rP (gP t26.1 k)))
  (sel (g32 (lsP (List.length t25.1) (fun k => rP (gP t25.1 k))) (lsP (List.length t26.1) (fun k => rP (gP t26.1 k))))
  (sel (!t27)
  (e 1)
  (k ⟨1, (W (s.is102 + 1)), t24.2.ih4_0_0, t24.2.ih4_0_1, t24.2.ih4_0_2, t24.2.ih4_0_3, s.ih3_0_4, s.ih3_0_5, s.ih3_0_6, s.ih3_0_7, s.ih3_0_8, s.ih3_0_9, s.ih3_0_10, s.ih3_0_11, s.ih3_0_12, s.ih3_1_0, s.ih3_1_1, s.ih3_1_2, s.ih3_1_3, s.ih3_1_4, s.ih3_1_5, s.ih3_1_6, s.ih3_1_7, s.ih3_1_8, s.ih3_1_9, s.ih3_1_10, s.ih3_1_11, s.ih3_1_12, s.ih3_2_0, s.ih3_2_1, s.ih3_2_2, s.ih3_2_3, s.ih3_2_4, s.ih3_2_5, s.ih3_2_6, s.ih3_2_7, s.ih3_2_8, s.ih3_2_9, s.ih3_2_10, s.ih3_2_11, s.ih3_2_12⟩))
  z)
  z)
  z))
  z)
  z)
  z)
  z))
  z)
  z)
  z))
  z)
  z)
  z)
  z))
  z)
  z)
  z))
  z)
  z)
  z)
  z)
  (sel (Nat.beq t24.1 3)
  (sel (okPs t24.2.ns30 (fun i => getRow t24.2.eh4 (0 + i)))
  (sel (g30 (⟨(⟨(⟨(⟨t4, t5, t6⟩ : V3), (⟨t7, t8, t9⟩ : V3), (⟨t10, t11, t12⟩ : V3)⟩ : M3), t13⟩ : Trn), (⟨t14, t15, t16⟩ : V3)⟩ : Frm) (lsP t24.2.ns30 (fun i => getRow t24.2.eh4 (0 + i))))
  (sel (okPs t24.2.ns30 (fun i => getRow t24.2.eh4 (0 + i)))
  (sel (g31 (⟨(⟨(⟨(⟨t4, t5, t6⟩ : V3), (⟨t7, t8, t9⟩ : V3), (⟨t10, t11, t12⟩ : V3)⟩ : M3), t13⟩ : Trn), (⟨t14, t15, t16⟩ : V3)⟩ : Frm) (lsP t24.2.ns30 (fun i => getRow t24.2.eh4 (0 + i))))
  (sel (!(t31.2 == t32.2))
  (e 1)
  (sel (okPs (List.length t31.1) (fun k => rP (gP t31.1 k)))
  (sel (okPs (List.length t32.1) (fun k => rP (gP t32.1 k)))
  (sel (g32 (lsP (List.length t31.1) (fun k => rP (gP t31.1 k))) (lsP (List.length t32.1) (fun k => rP (gP t32.1 k))))
  (sel (!t33)
  (e 1)
  (sel (okPs p.ns19 (fun i => getRow p.eh2 (0 + i)))
  (sel (g30 (⟨(⟨(⟨(⟨t4, t5, t6⟩ : V3), (⟨t7, t8, t9⟩ : V3), (⟨t10, t11, t12⟩ : V3)⟩ : M3), t13⟩ : Trn), (⟨t14, t15, t16⟩ : V3)⟩ : Frm) (lsP p.ns19 (fun i => getRow p.eh2 (0 + i))))
  (sel (okPs p.ns19 (fun i => getRow p.eh2 (0 + i)))
  (sel (g31 (⟨(⟨(⟨(⟨t4, t5, t6⟩ : V3), (⟨t7, t8, t9⟩ : V3), (⟨t10, t11, t12⟩ : V3)⟩ : M3), t13⟩ : Trn), (⟨t14, t15, t16⟩ : V3)⟩ : Frm) (lsP p.ns19 (fun i => getRow p.eh2 (0 + i))))
  (sel (!(t28.2 == t29.2))
  (e 1)
  (sel (okPs (List.length t28.1) (fun k => rP (gP t28.1 k)))
  (sel (okPs (List.length t29.1) (fun k => rP (gP t29.1 k)))
  (sel (g32 (lsP (List.length t28.1) (fun k => rP (gP t28.1 k))) (lsP (List.length t29.1) (fun k => rP (gP t29.1 k))))
  (sel (!t30)
  (e 1)
  (sel (okPs 0 (fun _ => []))
  (sel (g30 (⟨(⟨(⟨(⟨t4, t5, t6⟩ : V3), (⟨t7, t8, t9⟩ : V3), (⟨t10, t11, t12⟩ : V3)⟩ : M3), t13⟩ : Trn), (⟨t14, t15, t16⟩ : V3)⟩ : Frm) (lsP 0 (fun _ => [])))
  (sel (okPs 0 (fun _ => []))
  (sel (g31 (⟨(⟨(⟨(⟨t4, t5, t6⟩ : V3), (⟨t7, t8, t9⟩ : V3), (⟨t10, t11, t12⟩ : V3)⟩ : M3), t13⟩ : Trn), (⟨t14, t15, t16⟩ : V3)⟩ : Frm) (lsP 0 (fun _ => [])))
  (sel (!(t25.2 == t26.2))
  (e 1)
  (sel (okPs (List.length t25.1) (fun k => rP (gP t25.1 k)))
  (sel (okPs (List.length t26.1) (fun k => rP (gP t26.1 k)))
  (sel (g32 (lsP (List.length t25.1) (fun k => rP (gP t25.1 k))) (lsP (List.length t26.1) (fun k => rP (gP t26.1 k))))
  (sel (!t27)
  (e 1)
  (k ⟨1, (W (s.is102 + 1)), t24.2.ih5_0_0, t24.2.ih5_0_1, t24.2.ih5_0_2, t24.2.ih5_0_3, t24.2.ih5_0_4, t24.2.ih5_0_5, t24.2.ih5_0_6, t24.2.ih5_0_7, t24.2.ih5_0_8, t24.2.ih5_0_9, t24.2.ih5_0_10, t24.2.ih5_0_11, t24.2.ih5_0_12, t24.2.ih5_1_0, t24.2.ih5_1_1, t24.2.ih5_1_2, t24.2.ih5_1_3, t24.2.ih5_1_4, t24.2.ih5_1_5, t24.2.ih5_1_6, t24.2.ih5_1_7, t24.2.ih5_1_8, t24.2.ih5_1_9, t24.2.ih5_1_10, t24.2.ih5_1_11, t24.2.ih5_1_12, t24.2.ih5_2_0, t24.2.ih5_2_1, t24.2.ih5_2_2, t24.2.ih5_2_3, t24.2.ih5_2_4, t24.2.ih5_2_5, t24.2.ih5_2_6, t24.2.ih5_2_7, t24.2.ih5_2_8, t24.2.ih5_2_9, t24.2.ih5_2_10, t24.2.ih5_2_11, t24.2.ih5_2_12⟩))
  z)
  z)
  z))
  z)
  z)
  z)
  z))
  z)
  z)
  z))
  z)
  z)
  z)
  z))
  z)
  z)
  z))
  z)
  z)
  z)
  z)
  (sel (Nat.beq t24.1 4)
  (sel (okPs 0 (fun _ => []))
  (sel (g30 (⟨(⟨(⟨(⟨t4, t5, t6⟩ : V3), (⟨t7, t8, t9⟩ : V3), (⟨t10, t11, t12⟩ : V3)⟩ : M3), t13⟩ : Trn), (⟨t14, t15, t16⟩ : V3)⟩ : Frm) (lsP 0 (fun _ => [])))
  (sel (okPs 0 (fun _ => []))
  (sel (g31 (⟨(⟨(⟨(⟨t4, t5, t6⟩ : V3), (⟨t7, t8, t9⟩ : V3), (⟨t10, t11, t12⟩ : V3)⟩ : M3), t13⟩ : Trn), (⟨t14, t15, t16⟩ : V3)⟩ : Frm) (lsP 0 (fun _ => [])))
  (sel (!(t25.2 == t26.2))
  (e 1)
  (sel (okPs (List.length t25.1) (fun k => rP (gP t25.1 k)))
  (sel (okPs (List.length t26.1) (fun k => rP (gP t26.1 k)))
  (sel (g32 (lsP (List.length t25.1) (fun k => rP (gP t25.1 k))) (lsP (List.length t26.1) (fun k => rP (gP t26.1 k))))
  (sel (!t27)
  (e 1)
  (sel (okPs p.ns19 (fun i => getRow p.eh2 (0 + i)))
  (sel (g30 (⟨(⟨(⟨(⟨t4, t5, t6⟩ : V3), (⟨t7, t8, t9⟩ : V3), (⟨t10, t11, t12⟩ : V3)⟩ : M3), t13⟩ : Trn), (⟨t14, t15, t16⟩ : V3)⟩ : Frm) (lsP p.ns19 (fun i => getRow p.eh2 (0 + i))))
  (sel (okPs p.ns19 (fun i => getRow p.eh2 (0 + i)))
  (sel (g31 (⟨(⟨(⟨(⟨t4, t5, t6⟩ : V3), (⟨t7, t8, t9⟩ : V3), (⟨t10, t11, t12⟩ : V3)⟩ : M3), t13⟩ : Trn), (⟨t14, t15, t16⟩ : V3)⟩ : Frm) (lsP p.ns19 (fun i => getRow p.eh2 (0 + i))))
  (sel (!(t28.2 == t29.2))
  (e 1)
  (sel (okPs (List.length t28.1) (fun k => rP (gP t28.1 k)))
  (sel (okPs (List.length t29.1) (fun k => rP (gP t29.1 k)))
  (sel (g32 (lsP (List.length t28.1) (fun k => rP (gP t28.1 k))) (lsP (List.length t29.1) (fun k => rP (gP t29.1 k))))
  (sel (!t30)
  (e 1)
  (sel (okPs 0 (fun _ => []))
  (sel (g30 (⟨(⟨(⟨(⟨t4, t5, t6⟩ : V3), (⟨t7, t8, t9⟩ : V3), (⟨t10, t11, t12⟩ : V3)⟩ : M3), t13⟩ : Trn), (⟨t14, t15, t16⟩ : V3)⟩ : Frm) (lsP 0 (fun _ => [])))
  (sel (okPs 0 (fun _ => []))
  (sel (g31 (⟨(⟨(⟨(⟨t4, t5, t6⟩ : V3), (⟨t7, t8, t9⟩ : V3), (⟨t10, t11, t12⟩ : V3)⟩ : M3), t13⟩ : Trn), (⟨t14, t15, t16⟩ : V3)⟩ : Frm) (lsP 0 (fun _ => [])))
  (sel (!(t25.2 == t26.2))
  (e 1)
  (sel (okPs (List.length t25.1) (fun k => rP (gP t25.1 k)))
  (sel (okPs (List.length t26.1) (fun k => rP (gP t26.1 k)))
  (sel (g32 (lsP (List.length t25.1) (fun k => rP (gP t25.1 k))) (lsP (List.length t26.1) (fun k => rP (gP t26.1 k))))
  (sel (!t27)
  (e 1)
  (k ⟨1, (W (s.is102 + 1)), t24.2.ih4_0_0, t24.2.ih4_0_1, t24.2.ih4_0_2, t24.2.ih4_0_3, s.ih3_0_4, s.ih3_0_5, s.ih3_0_6, s.ih3_0_7, s.ih3_0_8, s.ih3_0_9, s.ih3_0_10, s.ih3_0_11, s.ih3_0_12, s.ih3_1_0, s.ih3_1_1, s.ih3_1_2, s.ih3_1_3, s.ih3_1_4, s.ih3_1_5, s.ih3_1_6, s.ih3_1_7, s.ih3_1_8, s.ih3_1_9, s.ih3_1_10, s.ih3_1_11, s.ih3_1_12, s.ih3_2_0, s.ih3_2_1, s.ih3_2_2, s.ih3_2_3, s.ih3_2_4, s.ih3_2_5, s.ih3_2_6, s.ih3_2_7, s.ih3_2_8, s.ih3_2_9, s.ih3_2_10, s.ih3_2_11, s.ih3_2_12⟩))
  z)
  z)
  z))
  z)
  z)
  z)
  z))
  z)
  z)
  z))
  z)
  z)
  z)
  z))
  z)
  z)
  z))
  z)
  z)
  z)
  z)
  (sel (Nat.beq t24.1 5)
  (sel (okPs t24.2.ns30 (fun i => getRow t24.2.eh4 (0 + i)))
  (sel (g30 (⟨(⟨(⟨(⟨t4, t5, t6⟩ : V3), (⟨t7, t8, t9⟩ : V3), (⟨t10, t11, t12⟩ : V3)⟩ : M3), t13⟩ : Trn), (⟨t14, t15, t16⟩ : V3)⟩ : Frm) (lsP t24.2.ns30 (fun i => getRow t24.2.eh4 (0 + i))))
  (sel (okPs t24.2.ns30 (fun i => getRow t24.2.eh4 (0 + i)))
  (sel (g31 (⟨(⟨(⟨(⟨t4, t5, t6⟩ : V3), (⟨t7, t8, t9⟩ : V3), (⟨t10, t11, t12⟩ : V3)⟩ : M3), t13⟩ : Trn), (⟨t14, t15, t16⟩ : V3)⟩ : Frm) (lsP t24.2.ns30 (fun i => getRow t24.2.eh4 (0 + i))))
  (sel (!(t31.2 == t32.2))
  (e 1)
  (sel (okPs (List.length t31.1) (fun k => rP (gP t31.1 k)))
  (sel (okPs (List.length t32.1) (fun k => rP (gP t32.1 k)))
  (sel (g32 (lsP (List.length t31.1) (fun k => rP (gP t31.1 k))) (lsP (List.length t32.1) (fun k => rP (gP t32.1 k))))
  (sel (!t33)
  (e 1)
  (sel (okPs p.ns19 (fun i => getRow p.eh2 (0 + i)))
  (sel (g30 (⟨(⟨(⟨(⟨t4, t5, t6⟩ : V3), (⟨t7, t8, t9⟩ : V3), (⟨t10, t11, t12⟩ : V3)⟩ : M3), t13⟩ : Trn), (⟨t14, t15, t16⟩ : V3)⟩ : Frm) (lsP p.ns19 (fun i => getRow p.eh2 (0 + i))))
  (sel (okPs p.ns19 (fun i => getRow p.eh2 (0 + i)))
  (sel (g31 (⟨(⟨(⟨(⟨t4, t5, t6⟩ : V3), (⟨t7, t8, t9⟩ : V3), (⟨t10, t11, t12⟩ : V3)⟩ : M3), t13⟩ : Trn), (⟨t14, t15, t16⟩ : V3)⟩ : Frm) (lsP p.ns19 (fun i => getRow p.eh2 (0 + i))))
  (sel (!(t28.2 == t29.2))
  (e 1)
  (sel (okPs (List.length t28.1) (fun k => rP (gP t28.1 k)))
  (sel (okPs (List.length t29.1) (fun k => rP (gP t29.1 k)))
  (sel (g32 (lsP (List.length t28.1) (fun k => rP (gP t28.1 k))) (lsP (List.length t29.1) (fun k => rP (gP t29.1 k))))
  (sel (!t30)
  (e 1)
  (sel (okPs 0 (fun _ => []))
  (sel (g30 (⟨(⟨(⟨(⟨t4, t5, t6⟩ : V3), (⟨t7, t8, t9⟩ : V3), (⟨t10, t11, t12⟩ : V3)⟩ : M3), t13⟩ : Trn), (⟨t14, t15, t16⟩ : V3)⟩ : Frm) (lsP 0 (fun _ => [])))
  (sel (okPs 0 (fun _ => []))
  (sel (g31 (⟨(⟨(⟨(⟨t4, t5, t6⟩ : V3), (⟨t7, t8, t9⟩ : V3), (⟨t10, t11, t12⟩ : V3)⟩ : M3), t13⟩ : Trn), (⟨t14, t15, t16⟩ : V3)⟩ : Frm) (lsP 0 (fun _ => [])))
  (sel (!(t25.2 == t26.2))
  (e 1)
  (sel (okPs (List.length t25.1) (fun k => rP (gP t25.1 k)))
  (sel (okPs (List.length t26.1) (fun k => rP (gP t26.1 k)))
  (sel (g32 (lsP (List.length t25.1) (fun k => rP (gP t25.1 k))) (lsP (List.length t26.1) (fun k => rP (gP t26.1 k))))
  (sel (!t27)
  (e 1)
  (k ⟨1, (W (s.is102 + 1)), t24.2.ih5_0_0, t24.2.ih5_0_1, t24.2.ih5_0_2, t24.2.ih5_0_3, t24.2.ih5_0_4, t24.2.ih5_0_5, t24.2.ih5_0_6, t24.2.ih5_0_7, t24.2.ih5_0_8, t24.2.ih5_0_9, t24.2.ih5_0_10, t24.2.ih5_0_11, t24.2.ih5_0_12, t24.2.ih5_1_0, t24.2.ih5_1_1, t24.2.ih5_1_2, t24.2.ih5_1_3, t24.2.ih5_1_4, t24.2.ih5_1_5, t24.2.ih5_1_6, t24.2.ih5_1_7, t24.2.ih5_1_8, t24.2.ih5_1_9, t24.2.ih5_1_10, t24.2.ih5_1_11, t24.2.ih5_1_12, t24.2.ih5_2_0, t24.2.ih5_2_1, t24.2.ih5_2_2, t24.2.ih5_2_3, t24.2.ih5_2_4, t24.2.ih5_2_5, t24.2.ih5_2_6, t24.2.ih5_2_7, t24.2.ih5_2_8, t24.2.ih5_2_9, t24.2.ih5_2_10, t24.2.ih5_2_11, t24.2.ih5_2_12⟩))
  z)
  z)
  z))
  z)
  z)
  z)
  z))
  z)
  z)
  z))
  z)
  z)
  z)
  z))
  z)
  z)
  z))
  z)
  z)
  z)
  z)
  z)))))))
  z)
  z)))
  z)
  z)))
  z)
  z)
  z)
  z)
 (e 2))
noncomputable def su7_1_0 (p : Pg7_1) (s : Sg7_1) : Stp Sg7_1 := ut7_1_0 .next .exit .fail p s
theorem q7_1_0 {α β : Type} (F : α → β) (k : Sg7_1 → α) (e : Nat → α) (z : α) (p : Pg7_1) (s : Sg7_1) : F (ut7_1_0 k e z p s) = ut7_1_0 (fun x => F (k x)) (fun t => F (e t)) (F z) p s := by
  unfold ut7_1_0
  exact (stpSel (f := F) (stpSel (f := F) (stpSel (f := F) (stpSel (f := F) (stpSel (f := F) (stpSel (f := F) rfl (stpSel (f := F) rfl (stpSel (f := F) (stpSel (f := F) (stpSel (f := F) rfl (stpSel (f := F) rfl (stpSel (f := F) (stpSel (f := F) (stpSel (f := F) rfl (stpSel (f := F) rfl (stpSel (f := F) rfl (stpSel (f := F) (stpSel (f := F) (stpSel (f := F) (stpSel (f := F) (stpSel (f := F) (stpSel (f := F) rfl (stpSel (f := F) (stpSel (f := F) (stpSel (f := F) (stpSel (f := F) rfl (stpSel (f := F) (stpSel (f := F) (stpSel (f := F) (stpSel (f := F) (stpSel (f := F) rfl (stpSel (f := F) (stpSel (f := F) (stpSel (f := F) (stpSel (f := F) rfl (stpSel (f := F) (stpSel (f := F) (stpSel (f := F) (stpSel (f := F) (stpSel (f := F) rfl (stpSel (f := F) (stpSel (f := F) (stpSel (f := F) (stpSel (f := F) rfl rfl) rfl) rfl) rfl)) rfl) rfl) rfl) rfl)) rfl) rfl) rfl)) rfl) rfl) rfl) rfl)) rfl) rfl) rfl)) rfl) rfl) rfl) rfl) (stpSel (f := F) (stpSel (f := F) (stpSel (f := F) (stpSel (f := F) (stpSel (f := F) (stpSel (f := F) rfl (stpSel (f := F) (stpSel (f := F) (stpSel (f := F) (stpSel (f := F) rfl (stpSel (f := F) (stpSel (f := F) (stpSel (f := F) (stpSel (f := F) (stpSel (f := F) rfl (stpSel (f := F) (stpSel (f := F) (stpSel (f := F) (stpSel (f := F) rfl (stpSel (f := F) (stpSel (f := F) (stpSel (f := F) (stpSel (f := F) (stpSel (f := F) rfl (stpSel (f := F) (stpSel (f := F) (stpSel (f := F) (stpSel (f := F) rfl rfl) rfl) rfl) rfl)) rfl) rfl) rfl) rfl)) rfl) rfl) rfl)) rfl) rfl) rfl) rfl)) rfl) rfl) rfl)) rfl) rfl) rfl) rfl) (stpSel (f := F) (stpSel (f := F) (stpSel (f := F) (stpSel (f := F) (stpSel (f := F) (stpSel (f := F) rfl (stpSel (f := F) (stpSel (f := F) (stpSel (f := F) (stpSel (f := F) rfl (stpSel (f := F) (stpSel (f := F) (stpSel (f := F) (stpSel (f := F) (stpSel (f := F) rfl (stpSel (f := F) (stpSel (f := F) (stpSel (f := F) (stpSel (f := F) rfl (stpSel (f := F) (stpSel (f := F) (stpSel (f := F) (stpSel (f := F) (stpSel (f := F) rfl (stpSel (f := F) (stpSel (f := F) (stpSel (f := F) (stpSel (f := F) rfl rfl) rfl) rfl) rfl)) rfl) rfl) rfl) rfl)) rfl) rfl) rfl)) rfl) rfl) rfl) rfl)) rfl) rfl) rfl)) rfl) rfl) rfl) rfl) (stpSel (f := F) (stpSel (f := F) (stpSel (f := F) (stpSel (f := F) (stpSel (f := F) (stpSel (f := F) rfl (stpSel (f := F) (stpSel (f := F) (stpSel (f := F) (stpSel (f := F) rfl (stpSel (f := F) (stpSel (f := F) (stpSel (f := F) (stpSel (f := F) (stpSel (f := F) rfl (stpSel (f := F) (stpSel (f := F) (stpSel (f := F) (stpSel (f := F) rfl (stpSel (f := F) (stpSel (f := F) (stpSel (f := F) (stpSel (f := F) (stpSel (f := F) rfl (stpSel (f := F) (stpSel (f := F) (stpSel (f := F) (stpSel (f := F) rfl rfl) rfl) rfl) rfl)) rfl) rfl) rfl) rfl)) rfl) rfl) rfl)) rfl) rfl) rfl) rfl)) rfl) rfl) rfl)) rfl) rfl) rfl) rfl) rfl))))))) rfl) rfl))) rfl) rfl))) rfl) rfl) rfl) rfl) rfl)
theorem rd7_1_0 (p : Pg7_1) (s : Sg7_1) : (roundC (En tb7) 0 pf7.res [10, 13, 17, 18, 19, 100, 101, 102] l7_1 (h7_1_0 p s)).run = ut7_1_0 (fun s' => some (.normal, en7_1 p s')) (fun t => xAt xs7_1 p s t 1) none p s := by kernel_rfl
theorem sp7_1_0 (p : Pg7_1) (s : Sg7_1) : (roundC (En tb7) 0 pf7.res [10, 13, 17, 18, 19, 100, 101, 102] l7_1 (h7_1_0 p s)).run = fo7_1 p s (su7_1_0 p s) := (rd7_1_0 p s).trans (q7_1_0 (fo7_1 p s) Stp.next Stp.exit Stp.fail p s).symm
noncomputable def ut7_1_1 {α : Type} (k : Sg7_1 → α) (e : Nat → α) (z : α) (p : Pg7_1) (s : Sg7_1) : α := let t1 := [[(i s.ih3_0_0), (i s.ih3_0_1), (i s.ih3_0_2), (i s.ih3_0_3), (i s.ih3_0_4), (i s.ih3_0_5), (i s.ih3_0_6), (i s.ih3_0_7), (i s.ih3_0_8), (i s.ih3_0_9), (i s.ih3_0_10), (i s.ih3_0_11), (i s.ih3_0_12)], [(i s.ih3_1_0), (i s.ih3_1_1), (i s.ih3_1_2), (i s.ih3_1_3), (i s.ih3_1_4), (i s.ih3_1_5), (i s.ih3_1_6), (i s.ih3_1_7), (i s.ih3_1_8), (i s.ih3_1_9), (i s.ih3_1_10), (i s.ih3_1_11), (i s.ih3_1_12)], [(i s.ih3_2_0), (i s.ih3_2_1), (i s.ih3_2_2), (i s.ih3_2_3), (i s.ih3_2_4), (i s.ih3_2_5), (i s.ih3_2_6), (i s.ih3_2_7), (i s.ih3_2_8), (i s.ih3_2_9), (i s.ih3_2_10), (i s.ih3_2_11), (i s.ih3_2_12)]]; let t2 := (getRow t1 (0 + s.is102.toNat)); let t3 := (dropN t2 0); let t4 := (toI (hdA t3)); let t5 := (toI (hdA (tlA t3))); let t6 := (toI (hdA (tlA (tlA t3)))); let t7 := (toI (hdA (tlA (tlA (tlA t3))))); let t8 := (toI (hdA (tlA (tlA (tlA (tlA t3)))))); let t9 := (toI (hdA (tlA (tlA (tlA (tlA (tlA t3))))))); let t10 := (toI (hdA (tlA (tlA (tlA (tlA (tlA (tlA t3)))))))); let t11 := (toI (hdA (tlA (tlA (tlA (tlA (tlA (tlA (tlA t3))))))))); let t12 := (toI (hdA (tlA (tlA (tlA (tlA (tlA (tlA (tlA (tlA t3)))))))))); let t13 := (toI (hdA (tlA (tlA (tlA (tlA (tlA (tlA (tlA (tlA (tlA t3))))))))))); let t14 := (toI (hdA (tlA (tlA (tlA (tlA (tlA (tlA (tlA (tlA (tlA (tlA t3)))))))))))); let t15 := (toI (hdA (tlA (tlA (tlA (tlA (tlA (tlA (tlA (tlA (tlA (tlA (tlA t3))))))))))))); let t16 := (toI (hdA (tlA (tlA (tlA (tlA (tlA (tlA (tlA (tlA (tlA (tlA (tlA (tlA t3)))))))))))))); let t17 := (p16 (W (p.is18 * p.ih1_0_0)) (W (p.is18 * p.ih1_0_1)) (W (p.is18 * p.ih1_0_2))); let t18 := (p22 (⟨(⟨(⟨(⟨t4, t5, t6⟩ : V3), (⟨t7, t8, t9⟩ : V3), (⟨t10, t11, t12⟩ : V3)⟩ : M3), t13⟩ : Trn), (⟨t14, t15, t16⟩ : V3)⟩ : Frm) (⟨p.ih0_0_0, p.ih0_0_1, p.ih0_0_2⟩ : V3)); let t19 := (p27 (⟨(⟨(⟨(⟨t4, t5, t6⟩ : V3), (⟨t7, t8, t9⟩ : V3), (⟨t10, t11, t12⟩ : V3)⟩ : M3), t13⟩ : Trn), (⟨t14, t15, t16⟩ : V3)⟩ : Frm) (⟨p.ih0_0_0, p.ih0_0_1, p.ih0_0_2⟩ : V3)); let t20 := (p22 (⟨(⟨(⟨(⟨t4, t5, t6⟩ : V3), (⟨t7, t8, t9⟩ : V3), (⟨t10, t11, t12⟩ : V3)⟩ : M3), t13⟩ : Trn), (⟨t14, t15, t16⟩ : V3)⟩ : Frm) (⟨p.ih1_0_0, p.ih1_0_1, p.ih1_0_2⟩ : V3)); let t21 := (p27 (⟨(⟨(⟨(⟨t4, t5, t6⟩ : V3), (⟨t7, t8, t9⟩ : V3), (⟨t10, t11, t12⟩ : V3)⟩ : M3), t13⟩ : Trn), (⟨t14, t15, t16⟩ : V3)⟩ : Frm) (⟨p.ih1_0_0, p.ih1_0_1, p.ih1_0_2⟩ : V3)); let t22 := (p22 (⟨(⟨(⟨(⟨t4, t5, t6⟩ : V3), (⟨t7, t8, t9⟩ : V3), (⟨t10, t11, t12⟩ : V3)⟩ : M3), t13⟩ : Trn), (⟨t14, t15, t16⟩ : V3)⟩ : Frm) t17); let t23 := (p27 (⟨(⟨(⟨(⟨t4, t5, t6⟩ : V3), (⟨t7, t8, t9⟩ : V3), (⟨t10, t11, t12⟩ : V3)⟩ : M3), t13⟩ : Trn), (⟨t14, t15, t16⟩ : V3)⟩ : Frm) t17); let t24 := (lp (st7_2 (⟨p.is18, p.ns19, s.is102, p.ns19, (↑p.ns19 : Int), p.ih0_0_0, p.ih0_0_1, p.ih0_0_2, p.ih1_0_0, p.ih1_0_1, p.ih1_0_2, p.eh2, t4, t5, t6, t7, t8, t9, t10, t11, t12, t13, t14, t15, t16, s.ih3_0_4, s.ih3_0_5, s.ih3_0_6, s.ih3_0_7, s.ih3_0_8, s.ih3_0_9, s.ih3_0_10, s.ih3_0_11, s.ih3_0_12, s.ih3_1_0, s.ih3_1_1, s.ih3_1_2, s.ih3_1_3, s.ih3_1_4, s.ih3_1_5, s.ih3_1_6, s.ih3_1_7, s.ih3_1_8, s.ih3_1_9, s.ih3_1_10, s.ih3_1_11, s.ih3_1_12, s.ih3_2_0, s.ih3_2_1, s.ih3_2_2, s.ih3_2_3, s.ih3_2_4, s.ih3_2_5, s.ih3_2_6, s.ih3_2_7, s.ih3_2_8, s.ih3_2_9, s.ih3_2_10, s.ih3_2_11, s.ih3_2_12⟩ : Pg7_2)) (⟨2, 0, s.ih3_0_0, s.ih3_0_1, s.ih3_0_2, s.ih3_0_3, 0, [], 0, 0, 0, 0, 0, 0, 0, 0, 0, 0, 0, 0, 0, 0, 0, 0, 0, 0, 0, 0, 0, 0, 0, 0, 0, 0, 0, 0, 0, 0, 0, 0, 0, 0, 0, 0, 0, 0, 0⟩ : Sg7_2)); let t25 := (p30 (⟨(⟨(⟨(⟨t4, t5, t6⟩ : V3), (⟨t7, t8, t9⟩ : V3), (⟨t10, t11, t12⟩ : V3)⟩ : M3), t13⟩ : Trn), (⟨t14, t15, t16⟩ : V3)⟩ : Frm) (lsP 0 (fun _ => []))); let t26 := (p31 (⟨(⟨(⟨(⟨t4, t5, t6⟩ : V3), (⟨t7, t8, t9⟩ : V3), (⟨t10, t11, t12⟩ : V3)⟩ : M3), t13⟩ : Trn), (⟨t14, t15, t16⟩ : V3)⟩ : Frm) (lsP 0 (fun _ => []))); let t27 := (p32 (lsP (List.length t25.1) (fun k => rP (gP t25.1 k))) (lsP (List.length t26.1) (fun k => rP (gP t26.1 k)))); let t28 := (p30 (⟨(⟨(⟨(⟨t4, t5, t6⟩ : V3), (⟨t7, t8, t9⟩ : V3), (⟨t10, t11, t12⟩ : V3)⟩ : M3), t13⟩ : Trn), (⟨t14, t15, t16⟩ : V3)⟩ : Frm) (lsP p.ns19 (fun i => getRow p.eh2 (0 + i)))); let t29 := (p31 (⟨(⟨(⟨(⟨t4, t5, t6⟩ : V3), (⟨t7, t8, t9⟩ : V3), (⟨t10, t11, t12⟩ : V3)⟩ : M3), t13⟩ : Trn), (⟨t14, t15, t16⟩ : V3)⟩ : Frm) (lsP p.ns19 (fun i => getRow p.eh2 (0 + i)))); let t30 := (p32 (lsP (List.length t28.1) (fun k => rP (gP t28.1 k))) (lsP (List.length t29.1) (fun k => rP (gP t29.1 k)))); let t31 := (p30 (⟨(⟨(⟨(⟨t4, t5, t6⟩ : V3), (⟨t7, t8, t9⟩ : V3), (⟨t10, t11, t12⟩ : V3)⟩ : M3), t13⟩ : Trn), (⟨t14, t15, t16⟩ : V3)⟩ : Frm) (lsP t24.2.ns30 (fun i => getRow t24.2.eh4 (0 + i)))); let t32 := (p31 (⟨(⟨(⟨(⟨t4, t5, t6⟩ : V3), (⟨t7, t8, t9⟩ : V3), (⟨t10, t11, t12⟩ : V3)⟩ : M3), t13⟩ : Trn), (⟨t14, t15, t16⟩ : V3)⟩ : Frm) (lsP t24.2.ns30 (fun i => getRow t24.2.eh4 (0 + i)))); let t33 := (p32 (lsP (List.length t31.1) (fun k => rP (gP t31.1 k))) (lsP (List.length t32.1) (fun k => rP (gP t32.1 k)))); (sel (decide (s.is102 < 3))
 (sel (inB s.is102 3)
  (sel (((Nat.blt (0 + s.is102.toNat) (len t1)) && (Nat.ble (0 + 13) (len t2))) && (okCKs [(CK.int .i64), (CK.int .i64), (CK.int .i64), (CK.int .i64), (CK.int .i64), (CK.int .i64), (CK.int .i64), (CK.int .i64), (CK.int .i64), (CK.int .i64), (CK.int .i64), (CK.int .i64), (CK.int .i64)] t3))
  (sel (g22 (⟨(⟨(⟨(⟨t4, t5, t6⟩ : V3), (⟨t7, t8, t9⟩ : V3), (⟨t10, t11, t12⟩ : V3)⟩ : M3), t13⟩ : Trn), (⟨t14, t15, t16⟩ : V3)⟩ : Frm) (⟨p.ih0_0_0, p.ih0_0_1, p.ih0_0_2⟩ : V3))
  (sel (g27 (⟨(⟨(⟨(⟨t4, t5, t6⟩ : V3), (⟨t7, t8, t9⟩ : V3), (⟨t10, t11, t12⟩ : V3)⟩ : M3), t13⟩ : Trn), (⟨t14, t15, t16⟩ : V3)⟩ : Frm) (⟨p.ih0_0_0, p.ih0_0_1, p.ih0_0_2⟩ : V3))
  (sel (!((t18.1.x == t19.1.x) && ((t18.1.y == t19.1.y) && ((t18.1.z == t19.1.z) && true))))
  (e 1)
  (sel (!(t18.2 == t19.2))
  (e 1)
  (sel (g22 (⟨(⟨(⟨(⟨t4, t5, t6⟩ : V3), (⟨t7, t8, t9⟩ : V3), (⟨t10, t11, t12⟩ : V3)⟩ : M3), t13⟩ : Trn), (⟨t14, t15, t16⟩ : V3)⟩ : Frm) (⟨p.ih1_0_0, p.ih1_0_1, p.ih1_0_2⟩ : V3))
  (sel (g27 (⟨(⟨(⟨(⟨t4, t5, t6⟩ : V3), (⟨t7, t8, t9⟩ : V3), (⟨t10, t11, t12⟩ : V3)⟩ : M3), t13⟩ : Trn), (⟨t14, t15, t16⟩ : V3)⟩ : Frm) (⟨p.ih1_0_0, p.ih1_0_1, p.ih1_0_2⟩ : V3))
  (sel (!((t20.1.x == t21.1.x) && ((t20.1.y == t21.1.y) && ((t20.1.z == t21.1.z) && true))))
  (e 1)
  (sel (!(t20.2 == t21.2))
  (e 1)
  (sel (g22 (⟨(⟨(⟨(⟨t4, t5, t6⟩ : V3), (⟨t7, t8, t9⟩ : V3), (⟨t10, t11, t12⟩ : V3)⟩ : M3), t13⟩ : Trn), (⟨t14, t15, t16⟩ : V3)⟩ : Frm) t17)
  (sel (g27 (⟨(⟨(⟨(⟨t4, t5, t6⟩ : V3), (⟨t7, t8, t9⟩ : V3), (⟨t10, t11, t12⟩ : V3)⟩ : M3), t13⟩ : Trn), (⟨t14, t15, t16⟩ : V3)⟩ : Frm) t17)
  (sel (!((t22.1.x == t23.1.x) && ((t22.1.y == t23.1.y) && ((t22.1.z == t23.1.z) && true))))
  (e 1)
  (sel (!(t22.2 == t23.2))
  (e 1)
  (sel (Nat.beq t24.1 1)
  (e 1)
  (sel (Nat.beq t24.1 2)
  (sel (okPs 0 (fun _ => []))
  (sel (g30 (⟨(⟨(⟨(⟨t4, t5, t6⟩ : V3), (⟨t7, t8, t9⟩ : V3), (⟨t10, t11, t12⟩ : V3)⟩ : M3), t13⟩ : Trn), (⟨t14, t15, t16⟩ : V3)⟩ : Frm) (lsP 0 (fun _ => [])))
  (sel (okPs 0 (fun _ => []))
  (sel (g31 (⟨(⟨(⟨(⟨t4, t5, t6⟩ : V3), (⟨t7, t8, t9⟩ : V3), (⟨t10, t11, t12⟩ : V3)⟩ : M3), t13⟩ : Trn), (⟨t14, t15, t16⟩ : V3)⟩ : Frm) (lsP 0 (fun _ => [])))
  (sel (!(t25.2 == t26.2))
  (e 1)
  (sel (okPs (List.length t25.1) (fun k => rP (gP t25.1 k)))
  (sel (okPs (List.length t26.1) (fun k => rP (gP t26.1 k)))
  (sel (g32 (lsP (List.length t25.1) (fun k => rP (gP t25.1 k))) (lsP (List.length t26.1) (fun k => rP (gP t26.1 k))))
  (sel (!t27)
  (e 1)
  (sel (okPs p.ns19 (fun i => getRow p.eh2 (0 + i)))
  (sel (g30 (⟨(⟨(⟨(⟨t4, t5, t6⟩ : V3), (⟨t7, t8, t9⟩ : V3), (⟨t10, t11, t12⟩ : V3)⟩ : M3), t13⟩ : Trn), (⟨t14, t15, t16⟩ : V3)⟩ : Frm) (lsP p.ns19 (fun i => getRow p.eh2 (0 + i))))
  (sel (okPs p.ns19 (fun i => getRow p.eh2 (0 + i)))
  (sel (g31 (⟨(⟨(⟨(⟨t4, t5, t6⟩ : V3), (⟨t7, t8, t9⟩ : V3), (⟨t10, t11, t12⟩ : V3)⟩ : M3), t13⟩ : Trn), (⟨t14, t15, t16⟩ : V3)⟩ : Frm) (lsP p.ns19 (fun i => getRow p.eh2 (0 + i))))
  (sel (!(t28.2 == t29.2))
  (e 1)
  (sel (okPs (List.length t28.1) (fun k => rP (gP t28.1 k)))
  (sel (okPs (List.length t29.1) (fun k => rP (gP t29.1 k)))
  (sel (g32 (lsP (List.length t28.1) (fun k => rP (gP t28.1 k))) (lsP (List.length t29.1) (fun k => rP (gP t29.1 k))))
  (sel (!t30)
  (e 1)
  (sel (okPs 0 (fun _ => []))
  (sel (g30 (⟨(⟨(⟨(⟨t4, t5, t6⟩ : V3), (⟨t7, t8, t9⟩ : V3), (⟨t10, t11, t12⟩ : V3)⟩ : M3), t13⟩ : Trn), (⟨t14, t15, t16⟩ : V3)⟩ : Frm) (lsP 0 (fun _ => [])))
  (sel (okPs 0 (fun _ => []))
  (sel (g31 (⟨(⟨(⟨(⟨t4, t5, t6⟩ : V3), (⟨t7, t8, t9⟩ : V3), (⟨t10, t11, t12⟩ : V3)⟩ : M3), t13⟩ : Trn), (⟨t14, t15, t16⟩ : V3)⟩ : Frm) (lsP 0 (fun _ => [])))
  (sel (!(t25.2 == t26.2))
  (e 1)
  (sel (okPs (List.length t25.1) (fun k => rP (gP t25.1 k)))
  (sel (okPs (List.length t26.1) (fun k => rP (gP t26.1 k)))
  (sel (g32 (lsP (List.length t25.1) (fun k => rP (gP t25.1 k))) (lsP (List.length t26.1) (fun k => rP (gP t26.1 k))))
  (sel (!t27)
  (e 1)
  (k ⟨1, (W (s.is102 + 1)), t24.2.ih4_0_0, t24.2.ih4_0_1, t24.2.ih4_0_2, t24.2.ih4_0_3, s.ih3_0_4, s.ih3_0_5, s.ih3_0_6, s.ih3_0_7, s.ih3_0_8, s.ih3_0_9, s.ih3_0_10, s.ih3_0_11, s.ih3_0_12, s.ih3_1_0, s.ih3_1_1, s.ih3_1_2, s.ih3_1_3, s.ih3_1_4, s.ih3_1_5, s.ih3_1_6, s.ih3_1_7, s.ih3_1_8, s.ih3_1_9, s.ih3_1_10, s.ih3_1_11, s.ih3_1_12, s.ih3_2_0, s.ih3_2_1, s.ih3_2_2, s.ih3_2_3, s.ih3_2_4, s.ih3_2_5, s.ih3_2_6, s.ih3_2_7, s.ih3_2_8, s.ih3_2_9, s.ih3_2_10, s.ih3_2_11, s.ih3_2_12⟩))
  z)
  z)
  z))
  z)
  z)
  z)
  z))
  z)
  z)
  z))
  z)
  z)
  z)
  z))
  z)
  z)
  z))
  z)
  z)
  z)
  z)
  (sel (Nat.beq t24.1 3)
  (sel (okPs t24.2.ns30 (fun i => getRow t24.2.eh4 (0 + i)))
  (sel (g30 (⟨(⟨(⟨(⟨t4, t5, t6⟩ : V3), (⟨t7, t8, t9⟩ : V3), (⟨t10, t11, t12⟩ : V3)⟩ : M3), t13⟩ : Trn), (⟨t14, t15, t16⟩ : V3)⟩ : Frm) (lsP t24.2.ns30 (fun i => getRow t24.2.eh4 (0 + i))))
  (sel (okPs t24.2.ns30 (fun i => getRow t24.2.eh4 (0 + i)))
  (sel (g31 (⟨(⟨(⟨(⟨t4, t5, t6⟩ : V3), (⟨t7, t8, t9⟩ : V3), (⟨t10, t11, t12⟩ : V3)⟩ : M3), t13⟩ : Trn), (⟨t14, t15, t16⟩ : V3)⟩ : Frm) (lsP t24.2.ns30 (fun i => getRow t24.2.eh4 (0 + i))))
  (sel (!(t31.2 == t32.2))
  (e 1)
  (sel (okPs (List.length t31.1) (fun k => rP (gP t31.1 k)))
  (sel (okPs (List.length t32.1) (fun k => rP (gP t32.1 k)))
  (sel (g32 (lsP (List.length t31.1) (fun k => rP (gP t31.1 k))) (lsP (List.length t32.1) (fun k => rP (gP t32.1 k))))
  (sel (!t33)
  (e 1)
  (sel (okPs p.ns19 (fun i => getRow p.eh2 (0 + i)))
  (sel (g30 (⟨(⟨(⟨(⟨t4, t5, t6⟩ : V3), (⟨t7, t8, t9⟩ : V3), (⟨t10, t11, t12⟩ : V3)⟩ : M3), t13⟩ : Trn), (⟨t14, t15, t16⟩ : V3)⟩ : Frm) (lsP p.ns19 (fun i => getRow p.eh2 (0 + i))))
  (sel (okPs p.ns19 (fun i => getRow p.eh2 (0 + i)))
  (sel (g31 (⟨(⟨(⟨(⟨t4, t5, t6⟩ : V3), (⟨t7, t8, t9⟩ : V3), (⟨t10, t11, t12⟩ : V3)⟩ : M3), t13⟩ : Trn), (⟨t14, t15, t16⟩ : V3)⟩ : Frm) (lsP p.ns19 (fun i => getRow p.eh2 (0 + i))))
  (sel (!(t28.2 == t29.2))
  (e 1)
  (sel (okPs (List.length t28.1) (fun k => rP (gP t28.1 k)))
  (sel (okPs (List.length t29.1) (fun k => rP (gP t29.1 k)))
  (sel (g32 (lsP (List.length t28.1) (fun k => rP (gP t28.1 k))) (lsP (List.length t29.1) (fun k => rP (gP t29.1 k))))
  (sel (!t30)
  (e 1)
  (sel (okPs 0 (fun _ => []))
  (sel (g30 (⟨(⟨(⟨(⟨t4, t5, t6⟩ : V3), (⟨t7, t8, t9⟩ : V3), (⟨t10, t11, t12⟩ : V3)⟩ : M3), t13⟩ : Trn), (⟨t14, t15, t16⟩ : V3)⟩ : Frm) (lsP 0 (fun _ => [])))
  (sel (okPs 0 (fun _ => []))
  (sel (g31 (⟨(⟨(⟨(⟨t4, t5, t6⟩ : V3), (⟨t7, t8, t9⟩ : V3), (⟨t10, t11, t12⟩ : V3)⟩ : M3), t13⟩ : Trn), (⟨t14, t15, t16⟩ : V3)⟩ : Frm) (lsP 0 (fun _ => [])))
  (sel (!(t25.2 == t26.2))
  (e 1)
  (sel (okPs (List.length t25.1) (fun k => rP (gP t25.1 k)))
  (sel (okPs (List.length t26.1) (fun k => rP (gP t26.1 k)))
  (sel (g32 (lsP (List.length t25.1) (fun k => rP (gP t25.1 k))) (lsP (List.length t26.1) (fun k => rP (gP t26.1 k))))
  (sel (!t27)
  (e 1)
  (k ⟨1, (W (s.is102 + 1)), t24.2.ih5_0_0, t24.2.ih5_0_1, t24.2.ih5_0_2, t24.2.ih5_0_3, t24.2.ih5_0_4, t24.2.ih5_0_5, t24.2.ih5_0_6, t24.2.ih5_0_7, t24.2.ih5_0_8, t24.2.ih5_0_9, t24.2.ih5_0_10, t24.2.ih5_0_11, t24.2.ih5_0_12, t24.2.ih5_1_0, t24.2.ih5_1_1, t24.2.ih5_1_2, t24.2.ih5_1_3, t24.2.ih5_1_4, t24.2.ih5_1_5, t24.2.ih5_1_6, t24.2.ih5_1_7, t24.2.ih5_1_8, t24.2.ih5_1_9, t24.2.ih5_1_10, t24.2.ih5_1_11, t24.2.ih5_1_12, t24.2.ih5_2_0, t24.2.ih5_2_1, t24.2.ih5_2_2, t24.2.ih5_2_3, t24.2.ih5_2_4, t24.2.ih5_2_5, t24.2.ih5_2_6, t24.2.ih5_2_7, t24.2.ih5_2_8, t24.2.ih5_2_9, t24.2.ih5_2_10, t24.2.ih5_2_11, t24.2.ih5_2_12⟩))
  z)
  z)
  z))
  z)
  z)
  z)
  z))
  z)
  z)
  z))
  z)
  z)
  z)
  z))
  z)
  z)
  z))
  z)
  z)
  z)
  z)
  (sel (Nat.beq t24.1 4)
  (sel (okPs 0 (fun _ => []))
  (sel (g30 (⟨(⟨(⟨(⟨t4, t5, t6⟩ : V3), (⟨t7, t8, t9⟩ : V3), (⟨t10, t11, t12⟩ : V3)⟩ : M3), t13⟩ : Trn), (⟨t14, t15, t16⟩ : V3)⟩ : Frm) (lsP 0 (fun _ => [])))
  (sel (okPs 0 (fun _ => []))
  (sel (g31 (⟨(⟨(⟨(⟨t4, t5, t6⟩ : V3), (⟨t7, t8, t9⟩ : V3), (⟨t10, t11, t12⟩ : V3)⟩ : M3), t13⟩ : Trn), (⟨t14, t15, t16⟩ : V3)⟩ : Frm) (lsP 0 (fun _ => [])))
  (sel (!(t25.2 == t26.2))
  (e 1)
  (sel (okPs (List.length t25.1) (fun k => rP (gP t25.1 k)))
  (sel (okPs (List.length t26.1) (fun k => rP (gP t26.1 k)))
  (sel (g32 (lsP (List.length t25.1) (fun k => rP (gP t25.1 k))) (lsP (List.length t26.1) (fun k => rP (gP t26.1 k))))
  (sel (!t27)
  (e 1)
  (sel (okPs p.ns19 (fun i => getRow p.eh2 (0 + i)))
  (sel (g30 (⟨(⟨(⟨(⟨t4, t5, t6⟩ : V3), (⟨t7, t8, t9⟩ : V3), (⟨t10, t11, t12⟩ : V3)⟩ : M3), t13⟩ : Trn), (⟨t14, t15, t16⟩ : V3)⟩ : Frm) (lsP p.ns19 (fun i => getRow p.eh2 (0 + i))))
  (sel (okPs p.ns19 (fun i => getRow p.eh2 (0 + i)))
  (sel (g31 (⟨(⟨(⟨(⟨t4, t5, t6⟩ : V3), (⟨t7, t8, t9⟩ : V3), (⟨t10, t11, t12⟩ : V3)⟩ : M3), t13⟩ : Trn), (⟨t14, t15, t16⟩ : V3)⟩ : Frm) (lsP p.ns19 (fun i => getRow p.eh2 (0 + i))))
  (sel (!(t28.2 == t29.2))
  (e 1)
  (sel (okPs (List.length t28.1) (fun k => rP (gP t28.1 k)))
  (sel (okPs (List.length t29.1) (fun k => rP (gP t29.1 k)))
  (sel (g32 (lsP (List.length t28.1) (fun k => rP (gP t28.1 k))) (lsP (List.length t29.1) (fun k => rP (gP t29.1 k))))
  (sel (!t30)
  (e 1)
  (sel (okPs 0 (fun _ => []))
  (sel (g30 (⟨(⟨(⟨(⟨t4, t5, t6⟩ : V3), (⟨t7, t8, t9⟩ : V3), (⟨t10, t11, t12⟩ : V3)⟩ : M3), t13⟩ : Trn), (⟨t14, t15, t16⟩ : V3)⟩ : Frm) (lsP 0 (fun _ => [])))
  (sel (okPs 0 (fun _ => []))
  (sel (g31 (⟨(⟨(⟨(⟨t4, t5, t6⟩ : V3), (⟨t7, t8, t9⟩ : V3), (⟨t10, t11, t12⟩ : V3)⟩ : M3), t13⟩ : Trn), (⟨t14, t15, t16⟩ : V3)⟩ : Frm) (lsP 0 (fun _ => [])))
  (sel (!(t25.2 == t26.2))
  (e 1)
  (sel (okPs (List.length t25.1) (fun k => rP (gP t25.1 k)))
  (sel (okPs (List.length t26.1) (fun k => rP (gP t26.1 k)))
  (sel (g32 (lsP (List.length t25.1) (fun k => rP (gP t25.1 k))) (lsP (List.length t26.1) (fun k => rP (gP t26.1 k))))
  (sel (!t27)
  (e 1)
  (k ⟨1, (W (s.is102 + 1)), t24.2.ih4_0_0, t24.2.ih4_0_1, t24.2.ih4_0_2, t24.2.ih4_0_3, s.ih3_0_4, s.ih3_0_5, s.ih3_0_6, s.ih3_0_7, s.ih3_0_8, s.ih3_0_9, s.ih3_0_10, s.ih3_0_11, s.ih3_0_12, s.ih3_1_0, s.ih3_1_1, s.ih3_1_2, s.ih3_1_3, s.ih3_1_4, s.ih3_1_5, s.ih3_1_6, s.ih3_1_7, s.ih3_1_8, s.ih3_1_9, s.ih3_1_10, s.ih3_1_11, s.ih3_1_12, s.ih3_2_0, s.ih3_2_1, s.ih3_2_2, s.ih3_2_3, s.ih3_2_4, s.ih3_2_5, s.ih3_2_6, s.ih3_2_7, s.ih3_2_8, s.ih3_2_9, s.ih3_2_10, s.ih3_2_11, s.ih3_2_12⟩))
  z)
  z)
  z))
  z)
  z)
  z)
  z))
  z)
  z)
  z))
  z)
  z)
  z)
  z))
  z)
  z)
  z))
  z)
  z)
  z)
  z)
  (sel (Nat.beq t24.1 5)
  (sel (okPs t24.2.ns30 (fun i => getRow t24.2.eh4 (0 + i)))
  (sel (g30 (⟨(⟨(⟨(⟨t4, t5, t6⟩ : V3), (⟨t7, t8, t9⟩ : V3), (⟨t10, t11, t12⟩ : V3)⟩ : M3), t13⟩ : Trn), (⟨t14, t15, t16⟩ : V3)⟩ : Frm) (lsP t24.2.ns30 (fun i => getRow t24.2.eh4 (0 + i))))
  (sel (okPs t24.2.ns30 (fun i => getRow t24.2.eh4 (0 + i)))
  (sel (g31 (⟨(⟨(⟨(⟨t4, t5, t6⟩ : V3), (⟨t7, t8, t9⟩ : V3), (⟨t10, t11, t12⟩ : V3)⟩ : M3), t13⟩ : Trn), (⟨t14, t15, t16⟩ : V3)⟩ : Frm) (lsP t24.2.ns30 (fun i => getRow t24.2.eh4 (0 + i))))
  (sel (!(t31.2 == t32.2))
  (e 1)
  (sel (okPs (List.length t31.1) (fun k => rP (gP t31.1 k)))
  (sel (okPs (List.length t32.1) (fun k => rP (gP t32.1 k)))
  (sel (g32 (lsP (List.length t31.1) (fun k => rP (gP t31.1 k))) (lsP (List.length t32.1) (fun k => rP (gP t32.1 k))))
  (sel (!t33)
  (e 1)
  (sel (okPs p.ns19 (fun i => getRow p.eh2 (0 + i)))
  (sel (g30 (⟨(⟨(⟨(⟨t4, t5, t6⟩ : V3), (⟨t7, t8, t9⟩ : V3), (⟨t10, t11, t12⟩ : V3)⟩ : M3), t13⟩ : Trn), (⟨t14, t15, t16⟩ : V3)⟩ : Frm) (lsP p.ns19 (fun i => getRow p.eh2 (0 + i))))
  (sel (okPs p.ns19 (fun i => getRow p.eh2 (0 + i)))
  (sel (g31 (⟨(⟨(⟨(⟨t4, t5, t6⟩ : V3), (⟨t7, t8, t9⟩ : V3), (⟨t10, t11, t12⟩ : V3)⟩ : M3), t13⟩ : Trn), (⟨t14, t15, t16⟩ : V3)⟩ : Frm) (lsP p.ns19 (fun i => getRow p.eh2 (0 + i))))
  (sel (!(t28.2 == t29.2))
  (e 1)
  (sel (okPs (List.length t28.1) (fun k => rP (gP t28.1 k)))
  (sel (okPs (List.length t29.1) (fun k => rP (gP t29.1 k)))
  (sel (g32 (lsP (List.length t28.1) (fun k => rP (gP t28.1 k))) (lsP (List.length t29.1) (fun k => rP (gP t29.1 k))))
  (sel (!t30)
  (e 1)
  (sel (okPs 0 (fun _ => []))
  (sel (g30 (⟨(⟨(⟨(⟨t4, t5, t6⟩ : V3), (⟨t7, t8, t9⟩ : V3), (⟨t10, t11, t12⟩ : V3)⟩ : M3), t13⟩ : Trn), (⟨t14, t15, t16⟩ : V3)⟩ : Frm) (lsP 0 (fun _ => [])))
  (sel (okPs 0 (fun _ => []))
  (sel (g31 (⟨(⟨(⟨(⟨t4, t5, t6⟩ : V3), (⟨t7, t8, t9⟩ : V3), (⟨t10, t11, t12⟩ : V3)⟩ : M3), t13⟩ : Trn), (⟨t14, t15, t16⟩ : V3)⟩ : Frm) (lsP 0 (fun _ => [])))
  (sel (!(t25.2 == t26.2))
  (e 1)
  (sel (okPs (List.length t25.1) (fun k => rP (gP t25.1 k)))
  (sel (okPs (List.length t26.1) (fun k => rP (gP t26.1 k)))
  (sel (g32 (lsP (List.length t25.1) (fun k => rP (gP t25.1 k))) (lsP (List.length t26.1) (fun k => rP (gP t26.1 k))))
  (sel (!t27)
  (e 1)
  (k ⟨1, (W (s.is102 + 1)), t24.2.ih5_0_0, t24.2.ih5_0_1, t24.2.ih5_0_2, t24.2.ih5_0_3, t24.2.ih5_0_4, t24.2.ih5_0_5, t24.2.ih5_0_6, t24.2.ih5_0_7, t24.2.ih5_0_8, t24.2.ih5_0_9, t24.2.ih5_0_10, t24.2.ih5_0_11, t24.2.ih5_0_12, t24.2.ih5_1_0, t24.2.ih5_1_1, t24.2.ih5_1_2, t24.2.ih5_1_3, t24.2.ih5_1_4, t24.2.ih5_1_5, t24.2.ih5_1_6, t24.2.ih5_1_7, t24.2.ih5_1_8, t24.2.ih5_1_9, t24.2.ih5_1_10, t24.2.ih5_1_11, t24.2.ih5_1_12, t24.2.ih5_2_0, t24.2.ih5_2_1, t24.2.ih5_2_2, t24.2.ih5_2_3, t24.2.ih5_2_4, t24.2.ih5_2_5, t24.2.ih5_2_6, t24.2.ih5_2_7, t24.2.ih5_2_8, t24.2.ih5_2_9, t24.2.ih5_2_10, t24.2.ih5_2_11, t24.2.ih5_2_12⟩))
  z)
  z)
  z))
  z)
  z)
  z)
  z))
  z)
  z)
  z))
  z)
  z)
  z)
  z))
  z)
  z)
  z))
  z)
  z)
  z)
  z)
  z)))))))
  z)
  z)))
  z)
  z)))
  z)
  z)
  z)
  z)
 (e 3))
noncomputable def su7_1_1 (p : Pg7_1) (s : Sg7_1) : Stp Sg7_1 := ut7_1_1 .next .exit .fail p s
theorem q7_1_1 {α β : Type} (F : α → β) (k : Sg7_1 → α) (e : Nat → α) (z : α) (p : Pg7_1) (s : Sg7_1) : F (ut7_1_1 k e z p s) = ut7_1_1 (fun x => F (k x)) (fun t => F (e t)) (F z) p s := by
  unfold ut7_1_1
  exact (stpSel (f := F) (stpSel (f := F) (stpSel (f := F) (stpSel (f := F) (stpSel (f := F) (stpSel (f := F) rfl (stpSel (f := F) rfl (stpSel (f := F) (stpSel (f := F) (stpSel (f := F) rfl (stpSel (f := F) rfl (stpSel (f := F) (stpSel (f := F) (stpSel (f := F) rfl (stpSel (f := F) rfl (stpSel (f := F) rfl (stpSel (f := F) (stpSel (f := F) (stpSel (f := F) (stpSel (f := F) (stpSel (f := F) (stpSel (f := F) rfl (stpSel (f := F) (stpSel (f := F) (stpSel (f := F) (stpSel (f := F) rfl (stpSel (f := F) (stpSel (f := F) (stpSel (f := F) (stpSel (f := F) (stpSel (f := F) rfl (stpSel (f := F) (stpSel (f := F) (stpSel (f := F) (stpSel (f := F) rfl (stpSel (f := F) (stpSel (f := F) (stpSel (f := F) (stpSel (f := F) (stpSel (f := F) rfl (stpSel (f := F) (stpSel (f := F) (stpSel (f := F) (stpSel (f := F) rfl rfl) rfl) rfl) rfl)) rfl) rfl) rfl) rfl)) rfl) rfl) rfl)) rfl) rfl) rfl) rfl)) rfl) rfl) rfl)) rfl) rfl) rfl) rfl) (stpSel (f := F) (stpSel (f := F) (stpSel (f := F) (stpSel (f := F) (stpSel (f := F) (stpSel (f := F) rfl (stpSel (f := F) (stpSel (f := F) (stpSel (f := F) (stpSel (f := F) rfl (stpSel (f := F) (stpSel (f := F) (stpSel (f := F) (stpSel (f := F) (stpSel (f := F) rfl (stpSel (f := F) (stpSel (f := F) (stpSel (f := F) (stpSel (f := F) rfl (stpSel (f := F) (stpSel (f := F) (stpSel (f := F) (stpSel (f := F) (stpSel (f := F) rfl (stpSel (f := F) (stpSel (f := F) (stpSel (f := F) (stpSel (f := F) rfl rfl) rfl) rfl) rfl)) rfl) rfl) rfl) rfl)) rfl) rfl) rfl)) rfl) rfl) rfl) rfl)) rfl) rfl) rfl)) rfl) rfl) rfl) rfl) (stpSel (f := F) (stpSel (f := F) (stpSel (f := F) (stpSel (f := F) (stpSel (f := F) (stpSel (f := F) rfl (stpSel (f := F) (stpSel (f := F) (stpSel (f := F) (stpSel (f := F) rfl (stpSel (f := F) (stpSel (f := F) (stpSel (f := F) (stpSel (f := F) (stpSel (f := F) rfl (stpSel (f := F) (stpSel (f := F) (stpSel (f := F) (stpSel (f := F) rfl (stpSel (f := F) (stpSel (f := F) (stpSel (f := F) (stpSel (f := F) (stpSel (f := F) rfl (stpSel (f := F) (stpSel (f := F) (stpSel (f := F) (stpSel (f := F) rfl rfl) rfl) rfl) rfl)) rfl) rfl) rfl) rfl)) rfl) rfl) rfl)) rfl) rfl) rfl) rfl)) rfl) rfl) rfl)) rfl) rfl) rfl) rfl) (stpSel (f := F) (stpSel (f := F) (stpSel (f := F) (stpSel (f := F) (stpSel (f := F) (stpSel (f := F) rfl (stpSel (f := F) (stpSel (f := F) (stpSel (f := F) (stpSel (f := F) rfl (stpSel (f := F) (stpSel (f := F) (stpSel (f := F) (stpSel (f := F) (stpSel (f := F) rfl (stpSel (f := F) (stpSel (f := F) (stpSel (f := F) (stpSel (f := F) rfl (stpSel (f := F) (stpSel (f := F) (stpSel (f := F) (stpSel (f := F) (stpSel (f := F) rfl (stpSel (f := F) (stpSel (f := F) (stpSel (f := F) (stpSel (f := F) rfl rfl) rfl) rfl) rfl)) rfl) rfl) rfl) rfl)) rfl) rfl) rfl)) rfl) rfl) rfl) rfl)) rfl) rfl) rfl)) rfl) rfl) rfl) rfl) rfl))))))) rfl) rfl))) rfl) rfl))) rfl) rfl) rfl) rfl) rfl)
theorem rd7_1_1 (p : Pg7_1) (s : Sg7_1) : (roundC (En tb7) 0 pf7.res [10, 13, 17, 18, 19, 100, 101, 102] l7_1 (h7_1_1 p s)).run = ut7_1_1 (fun s' => some (.normal, en7_1 p s')) (fun t => xAt xs7_1 p s t 1) none p s := by kernel_rfl
theorem sp7_1_1 (p : Pg7_1) (s : Sg7_1) : (roundC (En tb7) 0 pf7.res [10, 13, 17, 18, 19, 100, 101, 102] l7_1 (h7_1_1 p s)).run = fo7_1 p s (su7_1_1 p s) := (rd7_1_1 p s).trans (q7_1_1 (fo7_1 p s) Stp.next Stp.exit Stp.fail p s).symm
noncomputable def st7_1 (p : Pg7_1) (s : Sg7_1) : Stp Sg7_1 := (sel (Nat.beq s.ph 1) (su7_1_1 p s) (su7_1_0 p s))
theorem sp7_1 (p : Pg7_1) (s : Sg7_1) : (roundC (En tb7) 0 pf7.res [10, 13, 17, 18, 19, 100, 101, 102] l7_1 (en7_1 p s)).run = fo7_1 p s (st7_1 p s) := by
  show (roundC (En tb7) 0 pf7.res [10, 13, 17, 18, 19, 100, 101, 102] l7_1 (sel (Nat.beq s.ph 1) (h7_1_1 p s) (h7_1_0 p s))).run = fo7_1 p s (sel (Nat.beq s.ph 1) (su7_1_1 p s) (su7_1_0 p s))
  cases Nat.beq s.ph 1 with
  | true => exact sp7_1_1 p s
  | false =>
  exact sp7_1_0 p s
noncomputable def al7_1_0 : Alt Pg7_1 Sg7_1 := ⟨(ru 10 ((.s (.ptr 0 0 0 0)) :: ((.s .unk) :: ((.s .unk) :: ((.s (.blit true)) :: (ru 3 ((.s (.ptr 1 0 0 0)) :: ((.s (.int .i64)) :: ((.s (.sl 2 0 (some 0) none)) :: (ru 80 ((.s (.sl 3 0 (some 0) (some 3))) :: ((.s (.lit .i64 3)) :: ((.s (.int .i64)) :: (ru 109 [])))))))))))))), [⟨0, 3, true, (some [[(.int .i64), (.int .i64), (.int .i64)]])⟩, ⟨0, 3, true, (some [[(.int .i64), (.int .i64), (.int .i64)]])⟩, ⟨56, 4, true, none⟩, ⟨32, 13, true, (some [[(.int .i64), (.int .i64), (.int .i64), (.int .i64), (.int .i64), (.int .i64), (.int .i64), (.int .i64), (.int .i64), (.int .i64), (.int .i64), (.int .i64), (.int .i64)], [(.int .i64), (.int .i64), (.int .i64), (.int .i64), (.int .i64), (.int .i64), (.int .i64), (.int .i64), (.int .i64), (.int .i64), (.int .i64), (.int .i64), (.int .i64)], [(.int .i64), (.int .i64), (.int .i64), (.int .i64), (.int .i64), (.int .i64), (.int .i64), (.int .i64), (.int .i64), (.int .i64), (.int .i64), (.int .i64), (.int .i64)]])⟩], fun a H => (⟨(toI (slotA a 18)), (slN (slotA a 19)), (toI (hdA (dropN (getRow (elsA H 0) 0) 0))), (toI (hdA (dropN (getRow (elsA H 0) 0) 1))), (toI (hdA (dropN (getRow (elsA H 0) 0) 2))), (toI (hdA (dropN (getRow (elsA H 1) 0) 0))), (toI (hdA (dropN (getRow (elsA H 1) 0) 1))), (toI (hdA (dropN (getRow (elsA H 1) 0) 2))), (elsA H 2)⟩, ⟨0, (toI (slotA a 102)), (toI (hdA (dropN (getRow (elsA H 3) 0) 0))), (toI (hdA (dropN (getRow (elsA H 3) 0) 1))), (toI (hdA (dropN (getRow (elsA H 3) 0) 2))), (toI (hdA (dropN (getRow (elsA H 3) 0) 3))), (toI (hdA (dropN (getRow (elsA H 3) 0) 4))), (toI (hdA (dropN (getRow (elsA H 3) 0) 5))), (toI (hdA (dropN (getRow (elsA H 3) 0) 6))), (toI (hdA (dropN (getRow (elsA H 3) 0) 7))), (toI (hdA (dropN (getRow (elsA H 3) 0) 8))), (toI (hdA (dropN (getRow (elsA H 3) 0) 9))), (toI (hdA (dropN (getRow (elsA H 3) 0) 10))), (toI (hdA (dropN (getRow (elsA H 3) 0) 11))), (toI (hdA (dropN (getRow (elsA H 3) 0) 12))), (toI (hdA (dropN (getRow (elsA H 3) 1) 0))), (toI (hdA (dropN (getRow (elsA H 3) 1) 1))), (toI (hdA (dropN (getRow (elsA H 3) 1) 2))), (toI (hdA (dropN (getRow (elsA H 3) 1) 3))), (toI (hdA (dropN (getRow (elsA H 3) 1) 4))), (toI (hdA (dropN (getRow (elsA H 3) 1) 5))), (toI (hdA (dropN (getRow (elsA H 3) 1) 6))), (toI (hdA (dropN (getRow (elsA H 3) 1) 7))), (toI (hdA (dropN (getRow (elsA H 3) 1) 8))), (toI (hdA (dropN (getRow (elsA H 3) 1) 9))), (toI (hdA (dropN (getRow (elsA H 3) 1) 10))), (toI (hdA (dropN (getRow (elsA H 3) 1) 11))), (toI (hdA (dropN (getRow (elsA H 3) 1) 12))), (toI (hdA (dropN (getRow (elsA H 3) 2) 0))), (toI (hdA (dropN (getRow (elsA H 3) 2) 1))), (toI (hdA (dropN (getRow (elsA H 3) 2) 2))), (toI (hdA (dropN (getRow (elsA H 3) 2) 3))), (toI (hdA (dropN (getRow (elsA H 3) 2) 4))), (toI (hdA (dropN (getRow (elsA H 3) 2) 5))), (toI (hdA (dropN (getRow (elsA H 3) 2) 6))), (toI (hdA (dropN (getRow (elsA H 3) 2) 7))), (toI (hdA (dropN (getRow (elsA H 3) 2) 8))), (toI (hdA (dropN (getRow (elsA H 3) 2) 9))), (toI (hdA (dropN (getRow (elsA H 3) 2) 10))), (toI (hdA (dropN (getRow (elsA H 3) 2) 11))), (toI (hdA (dropN (getRow (elsA H 3) 2) 12)))⟩)⟩
theorem la7_1_0 (a : List AVal) (H : List ABlk) : (⟨asSls al7_1_0.sh a, asBks al7_1_0.bl H⟩ : St) = en7_1 (al7_1_0.rd (asSls al7_1_0.sh a) (asBks al7_1_0.bl H)).1 (al7_1_0.rd (asSls al7_1_0.sh a) (asBks al7_1_0.bl H)).2 := by kernel_rfl
noncomputable def al7_1_1 : Alt Pg7_1 Sg7_1 := ⟨(ru 10 ((.s (.ptr 0 0 0 0)) :: ((.s .unk) :: ((.s .unk) :: ((.s (.blit true)) :: (ru 3 ((.s (.ptr 1 0 0 0)) :: ((.s (.int .i64)) :: ((.s (.sl 2 0 (some 0) none)) :: (ru 80 ((.s (.sl 3 0 (some 0) (some 3))) :: ((.s (.lit .i64 3)) :: ((.s (.int .i64)) :: (ru 109 [])))))))))))))), [⟨0, 3, true, (some [[(.int .i64), (.int .i64), (.int .i64)]])⟩, ⟨0, 3, true, (some [[(.int .i64), (.int .i64), (.int .i64)]])⟩, ⟨56, 4, false, none⟩, ⟨32, 13, true, (some [[(.int .i64), (.int .i64), (.int .i64), (.int .i64), (.int .i64), (.int .i64), (.int .i64), (.int .i64), (.int .i64), (.int .i64), (.int .i64), (.int .i64), (.int .i64)], [(.int .i64), (.int .i64), (.int .i64), (.int .i64), (.int .i64), (.int .i64), (.int .i64), (.int .i64), (.int .i64), (.int .i64), (.int .i64), (.int .i64), (.int .i64)], [(.int .i64), (.int .i64), (.int .i64), (.int .i64), (.int .i64), (.int .i64), (.int .i64), (.int .i64), (.int .i64), (.int .i64), (.int .i64), (.int .i64), (.int .i64)]])⟩], fun a H => (⟨(toI (slotA a 18)), (slN (slotA a 19)), (toI (hdA (dropN (getRow (elsA H 0) 0) 0))), (toI (hdA (dropN (getRow (elsA H 0) 0) 1))), (toI (hdA (dropN (getRow (elsA H 0) 0) 2))), (toI (hdA (dropN (getRow (elsA H 1) 0) 0))), (toI (hdA (dropN (getRow (elsA H 1) 0) 1))), (toI (hdA (dropN (getRow (elsA H 1) 0) 2))), (elsA H 2)⟩, ⟨1, (toI (slotA a 102)), (toI (hdA (dropN (getRow (elsA H 3) 0) 0))), (toI (hdA (dropN (getRow (elsA H 3) 0) 1))), (toI (hdA (dropN (getRow (elsA H 3) 0) 2))), (toI (hdA (dropN (getRow (elsA H 3) 0) 3))), (toI (hdA (dropN (getRow (elsA H 3) 0) 4))), (toI (hdA (dropN (getRow (elsA H 3) 0) 5))), (toI (hdA (dropN (getRow (elsA H 3) 0) 6))), (toI (hdA (dropN (getRow (elsA H 3) 0) 7))), (toI (hdA (dropN (getRow (elsA H 3) 0) 8))), (toI (hdA (dropN (getRow (elsA H 3) 0) 9))), (toI (hdA (dropN (getRow (elsA H 3) 0) 10))), (toI (hdA (dropN (getRow (elsA H 3) 0) 11))), (toI (hdA (dropN (getRow (elsA H 3) 0) 12))), (toI (hdA (dropN (getRow (elsA H 3) 1) 0))), (toI (hdA (dropN (getRow (elsA H 3) 1) 1))), (toI (hdA (dropN (getRow (elsA H 3) 1) 2))), (toI (hdA (dropN (getRow (elsA H 3) 1) 3))), (toI (hdA (dropN (getRow (elsA H 3) 1) 4))), (toI (hdA (dropN (getRow (elsA H 3) 1) 5))), (toI (hdA (dropN (getRow (elsA H 3) 1) 6))), (toI (hdA (dropN (getRow (elsA H 3) 1) 7))), (toI (hdA (dropN (getRow (elsA H 3) 1) 8))), (toI (hdA (dropN (getRow (elsA H 3) 1) 9))), (toI (hdA (dropN (getRow (elsA H 3) 1) 10))), (toI (hdA (dropN (getRow (elsA H 3) 1) 11))), (toI (hdA (dropN (getRow (elsA H 3) 1) 12))), (toI (hdA (dropN (getRow (elsA H 3) 2) 0))), (toI (hdA (dropN (getRow (elsA H 3) 2) 1))), (toI (hdA (dropN (getRow (elsA H 3) 2) 2))), (toI (hdA (dropN (getRow (elsA H 3) 2) 3))), (toI (hdA (dropN (getRow (elsA H 3) 2) 4))), (toI (hdA (dropN (getRow (elsA H 3) 2) 5))), (toI (hdA (dropN (getRow (elsA H 3) 2) 6))), (toI (hdA (dropN (getRow (elsA H 3) 2) 7))), (toI (hdA (dropN (getRow (elsA H 3) 2) 8))), (toI (hdA (dropN (getRow (elsA H 3) 2) 9))), (toI (hdA (dropN (getRow (elsA H 3) 2) 10))), (toI (hdA (dropN (getRow (elsA H 3) 2) 11))), (toI (hdA (dropN (getRow (elsA H 3) 2) 12)))⟩)⟩
theorem la7_1_1 (a : List AVal) (H : List ABlk) : (⟨asSls al7_1_1.sh a, asBks al7_1_1.bl H⟩ : St) = en7_1 (al7_1_1.rd (asSls al7_1_1.sh a) (asBks al7_1_1.bl H)).1 (al7_1_1.rd (asSls al7_1_1.sh a) (asBks al7_1_1.bl H)).2 := by kernel_rfl
noncomputable def as7_1 : List (Alt Pg7_1 Sg7_1) := [al7_1_0, al7_1_1]
theorem lo7_1 (s : St) : BelowC 0 pf7.res ((loopL 0 [10, 13, 17, 18, 19, 100, 101, 102] as7_1 st7_1 xs7_1) s) (exec (En tb7) 0 (.loop [10, 13, 17, 18, 19, 100, 101, 102] lc7_1) s) :=
  loopC_below (res := pf7.res) (E := En tb7) (enc := en7_1) (body := l7_1) (alts := as7_1) (xs := xs7_1) (.seq (.pc _) (.seq (.pc _) (.seq (.block _ (.seq (.pc _) (.seq (.pc _) (.seq (.pc _) (.seq (.seq (.pc _) (.block _ (.sum lo7_2))) (.pc _)))))) (.pc _)))) rfl (.cons la7_1_0 (.cons la7_1_1 .nil)) (.cons nx7_1_1 (.cons nx7_1_2 (.cons nx7_1_3 .nil))) (fun p s => sp7_1 p s) s
noncomputable def ps7 : PS := (.seq (.pc (.ops [(o 8 (.box (.t 2))), (o 9 (.box (.t 3))), (o 10 (.box (.t 4))), (o 11 (.box (.t 5))), (o 12 (.mv (cb false)))])) (.seq (.pc (.ops [(o 43 (.call 9 [])), (o 13 (.mv (.t 43)))])) (.seq (.pc (.ops [(o 44 (.mv (.t 0))), (o 45 (.call 10 [(.t 44)])), (o 14 (.alloc (rep 13 (vi 0)))), (s (.store 13 (.t 14) (.t 45)))])) (.seq (.pc (.draw [46, 47, 15, 16] [(o 15 (.alloc (rep 13 (vi 0)))), (o 16 (.alloc (rep 13 (vi 0))))] [(o 46 (.load (ki 13) 13 true (.t 14))), (o 47 (.load (ki 13) 13 true (.t 14))), (s (.store 13 (.t 15) (.t 46))), (s (.store 13 (.t 16) (.t 47)))] [((.load (ki 13) 13 true (.t 14)), (.store 13 (.t 15) (.t 46)))])) (.seq (.pc (.ops [(o 48 (.fld 0 (.t 14))), (o 49 (.load (ki 10) 10 true (.t 48))), (o 50 (.idxA 2 3 (.t 8) (ci 0))), (o 51 (.load (ki 3) 3 true (.t 50))), (o 52 (.call 11 [(.t 49), (.t 51)])), (o 53 (.fld 0 (.t 15))), (s (.store 10 (.t 53) (.t 52)))])) (.seq (.pc (.ops [(o 54 (.load (ki 3) 3 true (.t 9))), (o 55 (.fld 10 (.t 16))), (s (.store 3 (.t 55) (.t 54)))])) (.seq (.pc (.draw [56, 57, 58, 59, 60, 61, 62, 63, 64, 65, 66, 67, 68, 17] [(o 17 (.alloc (rep 3 (vi 0))))] [(o 56 (.fld 0 (.t 10))), (o 57 (.load (ki 1) 1 false (.t 56))), ⟨(.some 58), none, [17], (.call 17 [(.t 57), (ci 9)])⟩, (o 59 (.bin .sub (.t 58) (ci 4))), (o 60 (.fld 1 (.t 10))), (o 61 (.load (ki 1) 1 false (.t 60))), ⟨(.some 62), none, [17], (.call 17 [(.t 61), (ci 9)])⟩, (o 63 (.bin .sub (.t 62) (ci 4))), (o 64 (.fld 2 (.t 10))), (o 65 (.load (ki 1) 1 false (.t 64))), ⟨(.some 66), none, [17], (.call 17 [(.t 65), (ci 9)])⟩, (o 67 (.bin .sub (.t 66) (ci 4))), ⟨(.some 68), none, [17], (.call 16 [(.t 59), (.t 63), (.t 67)])⟩, (s (.store 3 (.t 17) (.t 68)))] [((.bin .sub (.t 58) (ci 4)), (.call 17 [(.t 61), (ci 9)])), ((.bin .sub (.t 58) (ci 4)), (.call 17 [(.t 65), (ci 9)])), ((.fld 1 (.t 10)), (.call 17 [(.t 57), (ci 9)])), ((.load (ki 1) 1 false (.t 60)), (.call 17 [(.t 57), (ci 9)])), ((.bin .sub (.t 62) (ci 4)), (.call 17 [(.t 65), (ci 9)])), ((.fld 2 (.t 10)), (.call 17 [(.t 57), (ci 9)])), ((.fld 2 (.t 10)), (.call 17 [(.t 61), (ci 9)])), ((.load (ki 1) 1 false (.t 64)), (.call 17 [(.t 57), (ci 9)])), ((.load (ki 1) 1 false (.t 64)), (.call 17 [(.t 61), (ci 9)]))])) (.seq (.pc (.ops [(o 69 (.fld 0 (.t 14))), (o 70 (.fld 9 (.t 69))), (o 71 (.load (ki 1) 1 false (.t 70))), (o 18 (.mv (.t 71)))])) (.seq (.pc (.ops [(o 72 (.load (ki 4) 4 true (.t 11))), (o 73 (.bslice 56 4 1 (rep 4 (vi 0)) [(0, (4, (.t 72)))])), (o 19 (.mv (.t 73)))])) (.seq (.seq (.pc (.ops [(o 20 (.mv (ci 0)))])) (.block 0 (.sum (loopL 0 [1, 8, 10, 13, 14, 15, 16, 17, 18, 19, 20] as7_0 st7_0 xs7_0)))) (.seq (.seq (.pc (.ops [(o 97 (.load (ki 13) 13 true (.t 14))), (o 98 (.load (ki 13) 13 true (.t 15))), (o 99 (.load (ki 13) 13 true (.t 16))), (o 100 (.bslice 32 13 3 (rep 39 (vi 0)) [(0, (13, (.t 97))), (13, (13, (.t 98))), (26, (13, (.t 99)))])), (o 101 (.len (.t 100))), (o 102 (.mv (ci 0)))])) (.block 2 (.sum (loopL 0 [10, 13, 17, 18, 19, 100, 101, 102] as7_1 st7_1 xs7_1)))) (.pc (.seq (.ops [(o 211 (.mv (.t 13))), (o 12 (.mv (.t 211)))]) .ret)))))))))))))
theorem sd7 : StandsC (En tb7) 0 pf7.res ps7 pf7.body := (.seq (.pc _) (.seq (.pc _) (.seq (.pc _) (.seq (.pc _) (.seq (.pc _) (.seq (.pc _) (.seq (.pc _) (.seq (.pc _) (.seq (.pc _) (.seq (.seq (.pc _) (.block _ (.sum lo7_0))) (.seq (.seq (.pc _) (.block _ (.sum lo7_1))) (.pc _))))))))))))
noncomputable def p7 (x : IL) (y : List IL) (z : Q2) (w : V3) (v : V3) (s : Pln) : Bool := let t1 := (p10 x); let t2 := (p11 t1.t z.a); let t3 := (p17 v.x 9); let t4 := (p17 v.y 9); let t5 := (p17 v.z 9); let t6 := (p16 (W (t3 - 4)) (W (t4 - 4)) (W (t5 - 4))); let t7 := (lp (st7_0 (⟨(List.length y), (fun k => rJ (gJ y k)), t1.t.d, z.a.x, z.a.y, z.a.z, z.b.x, z.b.y, z.b.z, v.x, v.y, v.z, t1.t.m.r0.x, t1.t.m.r0.y, t1.t.m.r0.z, t1.t.m.r1.x, t1.t.m.r1.y, t1.t.m.r1.z, t1.t.m.r2.x, t1.t.m.r2.y, t1.t.m.r2.z, t1.t.d, t1.s.x, t1.s.y, t1.s.z, t2.m.r0.x, t2.m.r0.y, t2.m.r0.z, t2.m.r1.x, t2.m.r1.y, t2.m.r1.z, t2.m.r2.x, t2.m.r2.y, t2.m.r2.z, t2.d, t1.s.x, t1.s.y, t1.s.z, t1.t.m.r0.x, t1.t.m.r0.y, t1.t.m.r0.z, t1.t.m.r1.x, t1.t.m.r1.y, t1.t.m.r1.z, t1.t.m.r2.x, t1.t.m.r2.y, t1.t.m.r2.z, t1.t.d, w.x, w.y, w.z, t6.x, t6.y, t6.z⟩ : Pg7_0)) (⟨1, 0, [[(i s.n.x), (i s.n.y), (i s.n.z), (i s.b)]]⟩ : Sg7_0)); let t8 := (lp (st7_1 (⟨t1.t.d, t7.2.ns19, v.x, v.y, v.z, t6.x, t6.y, t6.z, t7.2.eh6⟩ : Pg7_1)) (⟨0, 0, t1.t.m.r0.x, t1.t.m.r0.y, t1.t.m.r0.z, t1.t.m.r1.x, t1.t.m.r1.y, t1.t.m.r1.z, t1.t.m.r2.x, t1.t.m.r2.y, t1.t.m.r2.z, t1.t.d, t1.s.x, t1.s.y, t1.s.z, t2.m.r0.x, t2.m.r0.y, t2.m.r0.z, t2.m.r1.x, t2.m.r1.y, t2.m.r1.z, t2.m.r2.x, t2.m.r2.y, t2.m.r2.z, t2.d, t1.s.x, t1.s.y, t1.s.z, t1.t.m.r0.x, t1.t.m.r0.y, t1.t.m.r0.z, t1.t.m.r1.x, t1.t.m.r1.y, t1.t.m.r1.z, t1.t.m.r2.x, t1.t.m.r2.y, t1.t.m.r2.z, t1.t.d, w.x, w.y, w.z⟩ : Sg7_1)); (!(Nat.beq t8.1 1))
noncomputable def g7 (x : IL) (y : List IL) (z : Q2) (w : V3) (v : V3) (s : Pln) : Bool := let t1 := (p10 x); let t2 := (p11 t1.t z.a); let t3 := (p17 v.x 9); let t4 := (p17 v.y 9); let t5 := (p17 v.z 9); let t6 := (p16 (W (t3 - 4)) (W (t4 - 4)) (W (t5 - 4))); let t7 := (lp (st7_0 (⟨(List.length y), (fun k => rJ (gJ y k)), t1.t.d, z.a.x, z.a.y, z.a.z, z.b.x, z.b.y, z.b.z, v.x, v.y, v.z, t1.t.m.r0.x, t1.t.m.r0.y, t1.t.m.r0.z, t1.t.m.r1.x, t1.t.m.r1.y, t1.t.m.r1.z, t1.t.m.r2.x, t1.t.m.r2.y, t1.t.m.r2.z, t1.t.d, t1.s.x, t1.s.y, t1.s.z, t2.m.r0.x, t2.m.r0.y, t2.m.r0.z, t2.m.r1.x, t2.m.r1.y, t2.m.r1.z, t2.m.r2.x, t2.m.r2.y, t2.m.r2.z, t2.d, t1.s.x, t1.s.y, t1.s.z, t1.t.m.r0.x, t1.t.m.r0.y, t1.t.m.r0.z, t1.t.m.r1.x, t1.t.m.r1.y, t1.t.m.r1.z, t1.t.m.r2.x, t1.t.m.r2.y, t1.t.m.r2.z, t1.t.d, w.x, w.y, w.z, t6.x, t6.y, t6.z⟩ : Pg7_0)) (⟨1, 0, [[(i s.n.x), (i s.n.y), (i s.n.z), (i s.b)]]⟩ : Sg7_0)); let t8 := (lp (st7_1 (⟨t1.t.d, t7.2.ns19, v.x, v.y, v.z, t6.x, t6.y, t6.z, t7.2.eh6⟩ : Pg7_1)) (⟨0, 0, t1.t.m.r0.x, t1.t.m.r0.y, t1.t.m.r0.z, t1.t.m.r1.x, t1.t.m.r1.y, t1.t.m.r1.z, t1.t.m.r2.x, t1.t.m.r2.y, t1.t.m.r2.z, t1.t.d, t1.s.x, t1.s.y, t1.s.z, t2.m.r0.x, t2.m.r0.y, t2.m.r0.z, t2.m.r1.x, t2.m.r1.y, t2.m.r1.z, t2.m.r2.x, t2.m.r2.y, t2.m.r2.z, t2.d, t1.s.x, t1.s.y, t1.s.z, t1.t.m.r0.x, t1.t.m.r0.y, t1.t.m.r0.z, t1.t.m.r1.x, t1.t.m.r1.y, t1.t.m.r1.z, t1.t.m.r2.x, t1.t.m.r2.y, t1.t.m.r2.z, t1.t.d, w.x, w.y, w.z⟩ : Sg7_1)); ((okInts x.n (fun k => [i (x.g k)])) && ((g10 x) && ((g11 t1.t z.a) && ((g17 v.x 9) && ((g17 v.y 9) && ((g17 v.z 9) && (sel (Nat.beq t7.1 1) ((Nat.beq t8.1 1) || ((Nat.beq t8.1 2) || (Nat.beq t8.1 3))) ((Nat.beq t7.1 2) && ((Nat.beq t8.1 1) || ((Nat.beq t8.1 2) || (Nat.beq t8.1 3)))))))))))
noncomputable def S7 : Sum := sum6 cL cJL cQ cV cV cP (fun x y z w v s => DT.guard (g7 x y z w v s) (.ret (b (p7 x y z w v s), [])))
theorem r7 (x : IL) (y : List IL) (z : Q2) (w : V3) (v : V3) (s : Pln) (t1 : Frm) (ht1 : t1 = (p10 x)) (t2 : Trn) (ht2 : t2 = (p11 t1.t z.a)) (t3 : Int) (ht3 : t3 = (p17 v.x 9)) (t4 : Int) (ht4 : t4 = (p17 v.y 9)) (t5 : Int) (ht5 : t5 = (p17 v.z 9)) (t6 : V3) (ht6 : t6 = (p16 (W (t3 - 4)) (W (t4 - 4)) (W (t5 - 4)))) (t7 : Nat × Sg7_0) (ht7 : t7 = (lp (st7_0 (⟨(List.length y), (fun k => rJ (gJ y k)), t1.t.d, z.a.x, z.a.y, z.a.z, z.b.x, z.b.y, z.b.z, v.x, v.y, v.z, t1.t.m.r0.x, t1.t.m.r0.y, t1.t.m.r0.z, t1.t.m.r1.x, t1.t.m.r1.y, t1.t.m.r1.z, t1.t.m.r2.x, t1.t.m.r2.y, t1.t.m.r2.z, t1.t.d, t1.s.x, t1.s.y, t1.s.z, t2.m.r0.x, t2.m.r0.y, t2.m.r0.z, t2.m.r1.x, t2.m.r1.y, t2.m.r1.z, t2.m.r2.x, t2.m.r2.y, t2.m.r2.z, t2.d, t1.s.x, t1.s.y, t1.s.z, t1.t.m.r0.x, t1.t.m.r0.y, t1.t.m.r0.z, t1.t.m.r1.x, t1.t.m.r1.y, t1.t.m.r1.z, t1.t.m.r2.x, t1.t.m.r2.y, t1.t.m.r2.z, t1.t.d, w.x, w.y, w.z, t6.x, t6.y, t6.z⟩ : Pg7_0)) (⟨1, 0, [[(i s.n.x), (i s.n.y), (i s.n.z), (i s.b)]]⟩ : Sg7_0))) (t8 : Nat × Sg7_1) (ht8 : t8 = (lp (st7_1 (⟨t1.t.d, t7.2.ns19, v.x, v.y, v.z, t6.x, t6.y, t6.z, t7.2.eh6⟩ : Pg7_1)) (⟨0, 0, t1.t.m.r0.x, t1.t.m.r0.y, t1.t.m.r0.z, t1.t.m.r1.x, t1.t.m.r1.y, t1.t.m.r1.z, t1.t.m.r2.x, t1.t.m.r2.y, t1.t.m.r2.z, t1.t.d, t1.s.x, t1.s.y, t1.s.z, t2.m.r0.x, t2.m.r0.y, t2.m.r0.z, t2.m.r1.x, t2.m.r1.y, t2.m.r1.z, t2.m.r2.x, t2.m.r2.y, t2.m.r2.z, t2.d, t1.s.x, t1.s.y, t1.s.z, t1.t.m.r0.x, t1.t.m.r0.y, t1.t.m.r0.z, t1.t.m.r1.x, t1.t.m.r1.y, t1.t.m.r1.z, t1.t.m.r2.x, t1.t.m.r2.y, t1.t.m.r2.z, t1.t.d, w.x, w.y, w.z⟩ : Sg7_1))) : (runC (En tb7) pf7 ps7 [cL.enc x, cJL.enc y, cQ.enc z, cV.enc w, cV.enc v, cP.enc s] []).run = (sel (okInts x.n (fun k => [i (x.g k)]))
 (sel (g10 x)
  (sel (g11 t1.t z.a)
   (sel (g17 v.x 9)
    (sel (g17 v.y 9)
     (sel (g17 v.z 9)
      (sel (Nat.beq t7.1 1)
       (sel (Nat.beq t8.1 1)
        (some ((b false), []))
        (sel (Nat.beq t8.1 2)
         (some ((b true), []))
         (sel (Nat.beq t8.1 3)
          (some ((b true), []))
          none)))
       (sel (Nat.beq t7.1 2)
        (sel (Nat.beq t8.1 1)
         (some ((b false), []))
         (sel (Nat.beq t8.1 2)
          (some ((b true), []))
          (sel (Nat.beq t8.1 3)
           (some ((b true), []))
           none)))
        none))
      none)
     none)
    none)
   none)
  none)
 none) := by subst ht1; subst ht2; subst ht3; subst ht4; subst ht5; subst ht6; subst ht7; subst ht8; kernel_rfl
theorem m7 (c1 c2 c3 c4 c5 c6 c7 c8 c9 c10 c11 : Bool) (x : IL) (y : List IL) (z : Q2) (w : V3) (v : V3) (s : Pln)  : ((sel c1
 (sel c2
  (sel c3
   (sel c4
    (sel c5
     (sel c6
      (sel c7
       (sel c8
        (some ((b false), []))
        (sel c9
         (some ((b true), []))
         (sel c10
          (some ((b true), []))
          none)))
       (sel c11
        (sel c8
         (some ((b false), []))
         (sel c9
          (some ((b true), []))
          (sel c10
           (some ((b true), []))
           none)))
        none))
      none)
     none)
    none)
   none)
  none)
 none) : Option (AVal × List ABlk)) = (sel (c1 && (c2 && (c3 && (c4 && (c5 && (c6 && (sel c7 (c8 || (c9 || c10)) (c11 && (c8 || (c9 || c10)))))))))) (some ((b (!c8)), [])) none) := by
 cases c1
 ·
  rfl
 ·
  cases c2
  ·
   rfl
  ·
   cases c3
   ·
    rfl
   ·
    cases c4
    ·
     rfl
    ·
     cases c5
     ·
      rfl
     ·
      cases c6
      ·
       rfl
      ·
       cases c7
       ·
        cases c11
        ·
         rfl
        ·
         cases c8
         ·
          cases c9
          ·
           cases c10
           ·
            rfl
           ·
            rfl
          ·
           rfl
         ·
          rfl
       ·
        cases c8
        ·
         cases c9
         ·
          cases c10
          ·
           rfl
          ·
           rfl
         ·
          rfl
        ·
         rfl
theorem k7 (x : IL) (y : List IL) (z : Q2) (w : V3) (v : V3) (s : Pln) (t1 : Frm) (ht1 : t1 = (p10 x)) (t2 : Trn) (ht2 : t2 = (p11 t1.t z.a)) (t3 : Int) (ht3 : t3 = (p17 v.x 9)) (t4 : Int) (ht4 : t4 = (p17 v.y 9)) (t5 : Int) (ht5 : t5 = (p17 v.z 9)) (t6 : V3) (ht6 : t6 = (p16 (W (t3 - 4)) (W (t4 - 4)) (W (t5 - 4)))) (t7 : Nat × Sg7_0) (ht7 : t7 = (lp (st7_0 (⟨(List.length y), (fun k => rJ (gJ y k)), t1.t.d, z.a.x, z.a.y, z.a.z, z.b.x, z.b.y, z.b.z, v.x, v.y, v.z, t1.t.m.r0.x, t1.t.m.r0.y, t1.t.m.r0.z, t1.t.m.r1.x, t1.t.m.r1.y, t1.t.m.r1.z, t1.t.m.r2.x, t1.t.m.r2.y, t1.t.m.r2.z, t1.t.d, t1.s.x, t1.s.y, t1.s.z, t2.m.r0.x, t2.m.r0.y, t2.m.r0.z, t2.m.r1.x, t2.m.r1.y, t2.m.r1.z, t2.m.r2.x, t2.m.r2.y, t2.m.r2.z, t2.d, t1.s.x, t1.s.y, t1.s.z, t1.t.m.r0.x, t1.t.m.r0.y, t1.t.m.r0.z, t1.t.m.r1.x, t1.t.m.r1.y, t1.t.m.r1.z, t1.t.m.r2.x, t1.t.m.r2.y, t1.t.m.r2.z, t1.t.d, w.x, w.y, w.z, t6.x, t6.y, t6.z⟩ : Pg7_0)) (⟨1, 0, [[(i s.n.x), (i s.n.y), (i s.n.z), (i s.b)]]⟩ : Sg7_0))) (t8 : Nat × Sg7_1) (ht8 : t8 = (lp (st7_1 (⟨t1.t.d, t7.2.ns19, v.x, v.y, v.z, t6.x, t6.y, t6.z, t7.2.eh6⟩ : Pg7_1)) (⟨0, 0, t1.t.m.r0.x, t1.t.m.r0.y, t1.t.m.r0.z, t1.t.m.r1.x, t1.t.m.r1.y, t1.t.m.r1.z, t1.t.m.r2.x, t1.t.m.r2.y, t1.t.m.r2.z, t1.t.d, t1.s.x, t1.s.y, t1.s.z, t2.m.r0.x, t2.m.r0.y, t2.m.r0.z, t2.m.r1.x, t2.m.r1.y, t2.m.r1.z, t2.m.r2.x, t2.m.r2.y, t2.m.r2.z, t2.d, t1.s.x, t1.s.y, t1.s.z, t1.t.m.r0.x, t1.t.m.r0.y, t1.t.m.r0.z, t1.t.m.r1.x, t1.t.m.r1.y, t1.t.m.r1.z, t1.t.m.r2.x, t1.t.m.r2.y, t1.t.m.r2.z, t1.t.d, w.x, w.y, w.z⟩ : Sg7_1))) : (DT.guard (g7 x y z w v s) (.ret (b (p7 x y z w v s), [])) : DT (AVal × List ABlk)).run = (sel ((okInts x.n (fun k => [i (x.g k)])) && ((g10 x) && ((g11 t1.t z.a) && ((g17 v.x 9) && ((g17 v.y 9) && ((g17 v.z 9) && (sel (Nat.beq t7.1 1) ((Nat.beq t8.1 1) || ((Nat.beq t8.1 2) || (Nat.beq t8.1 3))) ((Nat.beq t7.1 2) && ((Nat.beq t8.1 1) || ((Nat.beq t8.1 2) || (Nat.beq t8.1 3))))))))))) (some ((b (!(Nat.beq t8.1 1))), [])) none) := by subst ht1; subst ht2; subst ht3; subst ht4; subst ht5; subst ht6; subst ht7; subst ht8; rw [run_grd]; kernel_rfl
theorem ok7 : FnOk Tryd.prog G 7 S7 := sum6_ok (b7 (E := En tb7) rfl (tdeps tbo7)) fun x y z w v s r h => runC_below sd7 _ (((r7 x y z w v s _ rfl _ rfl _ rfl _ rfl _ rfl _ rfl _ rfl _ rfl).trans (m7 _ _ _ _ _ _ _ _ _ _ _ x y z w v s )).trans ((k7 x y z w v s _ rfl _ rfl _ rfl _ rfl _ rfl _ rfl _ rfl _ rfl).symm.trans h))

end Go.Ev.T
