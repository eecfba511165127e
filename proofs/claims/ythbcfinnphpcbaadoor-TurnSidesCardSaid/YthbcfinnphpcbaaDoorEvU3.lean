/- Printed: functions of the geometry chapters, as plain ones (own work). -/
import Derived.Test.YthbcfinnphpcbaaDoorEvU2
set_option linter.unusedVariables false
set_option linter.unusedSimpArgs false
set_option linter.unnecessarySimpa false
set_option linter.unusedSectionVars false
namespace Go.Ev.T
open Go Go.Ev Go.Ev.Ab Go.Proofs
set_option maxRecDepth 100000
noncomputable def tb30u : List (Nat × Sum) := [(56, S56), (28, S28)]
theorem tbo30u : TblOk Tryd.prog G tb30u := ⟨ok56, ok28, trivial⟩
structure Pg30_0 where
  ns6 : Nat
  ns17 : Nat
  gs17 : Nat → List AVal
  is18 : Int
  ih0_0_0 : Int
  ih0_0_1 : Int
  ih0_0_2 : Int
  ih0_0_3 : Int
  ih0_0_4 : Int
  ih0_0_5 : Int
  ih0_0_6 : Int
  ih0_0_7 : Int
  ih0_0_8 : Int
  ih0_0_9 : Int
  ih0_0_10 : Int
  ih0_0_11 : Int
  ih0_0_12 : Int
structure Sg30_0 where
  is19 : Int
  eh1 : List (List AVal)
noncomputable def h30_0_0 (p : Pg30_0) (s : Sg30_0) : St := ⟨[.unk, .unk, (.ptr 0 0 0 0), .unk, .unk, .unk, (.sl 1 0 p.ns6 0), .unk, .unk, .unk, .unk, .unk, .unk, .unk, .unk, .unk, .unk, (.tree 4 p.ns17 p.gs17), (i p.is18), (i s.is19), .unk, .unk, .unk, .unk, .unk, .unk, .unk, .unk, .unk, .unk, .unk, .unk, .unk, .unk, .unk, .unk, .unk, .unk], [⟨0, 13, [[(i p.ih0_0_0), (i p.ih0_0_1), (i p.ih0_0_2), (i p.ih0_0_3), (i p.ih0_0_4), (i p.ih0_0_5), (i p.ih0_0_6), (i p.ih0_0_7), (i p.ih0_0_8), (i p.ih0_0_9), (i p.ih0_0_10), (i p.ih0_0_11), (i p.ih0_0_12)]], true, false, 0⟩, ⟨56, 4, s.eh1, true, false, 0⟩]⟩
noncomputable def en30_0 (p : Pg30_0) (s : Sg30_0) : St := (h30_0_0 p s)
noncomputable def x30_0_1 (p : Pg30_0) (s : Sg30_0) : XExit × St := let t1 := (p28 (⟨(⟨(⟨(⟨p.ih0_0_0, p.ih0_0_1, p.ih0_0_2⟩ : V3), (⟨p.ih0_0_3, p.ih0_0_4, p.ih0_0_5⟩ : V3), (⟨p.ih0_0_6, p.ih0_0_7, p.ih0_0_8⟩ : V3)⟩ : M3), p.ih0_0_9⟩ : Trn), (⟨p.ih0_0_10, p.ih0_0_11, p.ih0_0_12⟩ : V3)⟩ : Frm) (⟨(⟨(toI (hdA (p.gs17 s.is19.toNat))), (toI (hdA (tlA (p.gs17 s.is19.toNat)))), (toI (hdA (tlA (tlA (p.gs17 s.is19.toNat)))))⟩ : V3), (toI (hdA (tlA (tlA (tlA (p.gs17 s.is19.toNat))))))⟩ : Pln)); (.ret, ⟨[.unk, .unk, (.ptr 0 0 0 0), .unk, (.v (.slice none 0 0)), (b false), (.sl 1 0 p.ns6 0), (i s.is19), (.ptr 2 0 0 0), (.ptr 3 0 0 0), (b t1.2), .unk, .unk, .unk, .unk, .unk, .unk, (.tree 4 p.ns17 p.gs17), (i p.is18), (i s.is19), (b (decide (s.is19 < p.is18))), (i s.is19), (.tptr (p.gs17 s.is19.toNat)), (.agg [(i (toI (hdA (p.gs17 s.is19.toNat)))), (i (toI (hdA (tlA (p.gs17 s.is19.toNat))))), (i (toI (hdA (tlA (tlA (p.gs17 s.is19.toNat)))))), (i (toI (hdA (tlA (tlA (tlA (p.gs17 s.is19.toNat)))))))]), (.tup [(.agg [(i t1.1.n.x), (i t1.1.n.y), (i t1.1.n.z), (i t1.1.b)]), (b t1.2)]), (.agg [(i p.ih0_0_0), (i p.ih0_0_1), (i p.ih0_0_2), (i p.ih0_0_3), (i p.ih0_0_4), (i p.ih0_0_5), (i p.ih0_0_6), (i p.ih0_0_7), (i p.ih0_0_8), (i p.ih0_0_9), (i p.ih0_0_10), (i p.ih0_0_11), (i p.ih0_0_12)]), (.agg [(i (toI (hdA (p.gs17 s.is19.toNat)))), (i (toI (hdA (tlA (p.gs17 s.is19.toNat))))), (i (toI (hdA (tlA (tlA (p.gs17 s.is19.toNat)))))), (i (toI (hdA (tlA (tlA (tlA (p.gs17 s.is19.toNat)))))))]), (.tup [(.agg [(i t1.1.n.x), (i t1.1.n.y), (i t1.1.n.z), (i t1.1.b)]), (b t1.2)]), (.agg [(i t1.1.n.x), (i t1.1.n.y), (i t1.1.n.z), (i t1.1.b)]), (b t1.2), (b t1.2), (b (!t1.2)), .unk, .unk, .unk, .unk, .unk, .unk], [⟨0, 13, [[(i p.ih0_0_0), (i p.ih0_0_1), (i p.ih0_0_2), (i p.ih0_0_3), (i p.ih0_0_4), (i p.ih0_0_5), (i p.ih0_0_6), (i p.ih0_0_7), (i p.ih0_0_8), (i p.ih0_0_9), (i p.ih0_0_10), (i p.ih0_0_11), (i p.ih0_0_12)]], true, false, 0⟩, ⟨56, 4, s.eh1, true, false, 0⟩, ⟨0, 4, [[(i (toI (hdA (p.gs17 s.is19.toNat)))), (i (toI (hdA (tlA (p.gs17 s.is19.toNat))))), (i (toI (hdA (tlA (tlA (p.gs17 s.is19.toNat)))))), (i (toI (hdA (tlA (tlA (tlA (p.gs17 s.is19.toNat)))))))]], true, false, 0⟩, ⟨0, 4, [[(i t1.1.n.x), (i t1.1.n.y), (i t1.1.n.z), (i t1.1.b)]], true, false, 0⟩]⟩)
theorem nx30_0_1 (p : Pg30_0) (s : Sg30_0) : (x30_0_1 p s).1 ≠ .normal := fun h => by
  have h : XExit.ret = XExit.normal := h
  cases h
noncomputable def x30_0_2 (p : Pg30_0) (s : Sg30_0) : XExit × St := (.exit 0, ⟨[.unk, .unk, (.ptr 0 0 0 0), .unk, .unk, .unk, (.sl 1 0 p.ns6 0), .unk, .unk, .unk, .unk, .unk, .unk, .unk, .unk, .unk, .unk, (.tree 4 p.ns17 p.gs17), (i p.is18), (i s.is19), (b (decide (s.is19 < p.is18))), .unk, .unk, .unk, .unk, .unk, .unk, .unk, .unk, .unk, .unk, .unk, .unk, .unk, .unk, .unk, .unk, .unk], [⟨0, 13, [[(i p.ih0_0_0), (i p.ih0_0_1), (i p.ih0_0_2), (i p.ih0_0_3), (i p.ih0_0_4), (i p.ih0_0_5), (i p.ih0_0_6), (i p.ih0_0_7), (i p.ih0_0_8), (i p.ih0_0_9), (i p.ih0_0_10), (i p.ih0_0_11), (i p.ih0_0_12)]], true, false, 0⟩, ⟨56, 4, s.eh1, true, false, 0⟩]⟩)
theorem nx30_0_2 (p : Pg30_0) (s : Sg30_0) : (x30_0_2 p s).1 ≠ .normal := fun h => by
  have h : XExit.exit 0 = XExit.normal := h
  cases h
noncomputable def xs30_0 : List (Pg30_0 → Sg30_0 → XExit × St) := [x30_0_1, x30_0_2]
@[reducible] def l30_0 : PC := (.seq (.ops [(o 20 (.bin .lss (.t 19) (.t 18)))]) (.seq (.cond (.t 20) .skip (.exit 0)) (.seq (.block 1 (.seq (.ops [(o 21 (.mv (.t 19))), (o 22 (.idxS 4 (.t 17) (.t 19))), (o 23 (.load (ki 4) 4 true (.t 22))), (o 8 (.alloc (rep 4 (vi 0)))), (o 7 (.mv (.t 21))), (s (.store 4 (.t 8) (.t 23)))]) (.seq (.ops [(o 25 (.load (ki 13) 13 true (.t 2))), (o 26 (.load (ki 4) 4 true (.t 8))), (o 27 (.call 28 [(.t 25), (.t 26)])), (o 24 (.mv (.t 27))), (o 28 (.ext (.t 24) 0)), (o 29 (.ext (.t 24) 1)), (o 9 (.alloc (rep 4 (vi 0)))), (s (.store 4 (.t 9) (.t 28))), (o 10 (.mv (.t 29)))]) (.seq (.seq (.ops [(o 30 (.mv (.t 10))), (o 31 (.not (.t 30)))]) (.cond (.t 31) (.seq (.ops [(o 4 (.mv (.c (.v (.slice none 0 0))))), (o 5 (.mv (cb false)))]) .ret) .skip)) (.ops [(o 32 (.mv (.t 6))), (o 33 (.mv (.t 7))), (o 34 (.load (ki 4) 4 true (.t 9))), (o 35 (.idxS 4 (.t 32) (.t 33))), (s (.store 4 (.t 35) (.t 34)))]))))) (.ops [(o 36 (.bin .add (.t 19) (ci 1))), (o 19 (.mv (.t 36)))]))))
noncomputable def fo30_0 (p : Pg30_0) (s : Sg30_0) : Stp Sg30_0 → Option (XExit × St) := onStp (fun s' => some (.normal, en30_0 p s')) (fun t => xAt xs30_0 p s t 1) none
theorem rd30_0_0 (p : Pg30_0) (s : Sg30_0) (t1 : Pln × Bool) (ht1 : t1 = (p28 (⟨(⟨(⟨(⟨p.ih0_0_0, p.ih0_0_1, p.ih0_0_2⟩ : V3), (⟨p.ih0_0_3, p.ih0_0_4, p.ih0_0_5⟩ : V3), (⟨p.ih0_0_6, p.ih0_0_7, p.ih0_0_8⟩ : V3)⟩ : M3), p.ih0_0_9⟩ : Trn), (⟨p.ih0_0_10, p.ih0_0_11, p.ih0_0_12⟩ : V3)⟩ : Frm) (⟨(⟨(toI (hdA (p.gs17 s.is19.toNat))), (toI (hdA (tlA (p.gs17 s.is19.toNat)))), (toI (hdA (tlA (tlA (p.gs17 s.is19.toNat)))))⟩ : V3), (toI (hdA (tlA (tlA (tlA (p.gs17 s.is19.toNat))))))⟩ : Pln))) : (roundE (En tb30u) 0 [2, 6, 17, 18, 19] (.pc l30_0) (h30_0_0 p s)).run = (sel (decide (s.is19 < p.is18))
 (sel (inB s.is19 p.ns17)
  (sel ((Nat.ble 4 (len (p.gs17 s.is19.toNat))) && (okCKs [(CK.int .i64), (CK.int .i64), (CK.int .i64), (CK.int .i64)] (p.gs17 s.is19.toNat)))
   (sel (g28 (⟨(⟨(⟨(⟨p.ih0_0_0, p.ih0_0_1, p.ih0_0_2⟩ : V3), (⟨p.ih0_0_3, p.ih0_0_4, p.ih0_0_5⟩ : V3), (⟨p.ih0_0_6, p.ih0_0_7, p.ih0_0_8⟩ : V3)⟩ : M3), p.ih0_0_9⟩ : Trn), (⟨p.ih0_0_10, p.ih0_0_11, p.ih0_0_12⟩ : V3)⟩ : Frm) (⟨(⟨(toI (hdA (p.gs17 s.is19.toNat))), (toI (hdA (tlA (p.gs17 s.is19.toNat)))), (toI (hdA (tlA (tlA (p.gs17 s.is19.toNat)))))⟩ : V3), (toI (hdA (tlA (tlA (tlA (p.gs17 s.is19.toNat))))))⟩ : Pln))
    (sel (!t1.2)
     (some (x30_0_1 p s))
     (sel (inB s.is19 p.ns6)
      (sel ((Nat.blt (0 + s.is19.toNat) (len s.eh1)) && (Nat.ble (0 + 4) (len (getRow s.eh1 (0 + s.is19.toNat)))))
       (some (.normal, h30_0_0 p ⟨(W (s.is19 + 1)), (setAt s.eh1 (0 + s.is19.toNat) (splice (getRow s.eh1 (0 + s.is19.toNat)) 0 [(i t1.1.n.x), (i t1.1.n.y), (i t1.1.n.z), (i t1.1.b)]))⟩))
       none)
      none))
    none)
   none)
  none)
 (some (x30_0_2 p s))) := by subst ht1; kernel_rfl
noncomputable def su30_0_0 (p : Pg30_0) (s : Sg30_0) : Stp Sg30_0 := let t1 := (p28 (⟨(⟨(⟨(⟨p.ih0_0_0, p.ih0_0_1, p.ih0_0_2⟩ : V3), (⟨p.ih0_0_3, p.ih0_0_4, p.ih0_0_5⟩ : V3), (⟨p.ih0_0_6, p.ih0_0_7, p.ih0_0_8⟩ : V3)⟩ : M3), p.ih0_0_9⟩ : Trn), (⟨p.ih0_0_10, p.ih0_0_11, p.ih0_0_12⟩ : V3)⟩ : Frm) (⟨(⟨(toI (hdA (p.gs17 s.is19.toNat))), (toI (hdA (tlA (p.gs17 s.is19.toNat)))), (toI (hdA (tlA (tlA (p.gs17 s.is19.toNat)))))⟩ : V3), (toI (hdA (tlA (tlA (tlA (p.gs17 s.is19.toNat))))))⟩ : Pln)); (sel (decide (s.is19 < p.is18))
 (sel (inB s.is19 p.ns17)
  (sel ((Nat.ble 4 (len (p.gs17 s.is19.toNat))) && (okCKs [(CK.int .i64), (CK.int .i64), (CK.int .i64), (CK.int .i64)] (p.gs17 s.is19.toNat)))
   (sel (g28 (⟨(⟨(⟨(⟨p.ih0_0_0, p.ih0_0_1, p.ih0_0_2⟩ : V3), (⟨p.ih0_0_3, p.ih0_0_4, p.ih0_0_5⟩ : V3), (⟨p.ih0_0_6, p.ih0_0_7, p.ih0_0_8⟩ : V3)⟩ : M3), p.ih0_0_9⟩ : Trn), (⟨p.ih0_0_10, p.ih0_0_11, p.ih0_0_12⟩ : V3)⟩ : Frm) (⟨(⟨(toI (hdA (p.gs17 s.is19.toNat))), (toI (hdA (tlA (p.gs17 s.is19.toNat)))), (toI (hdA (tlA (tlA (p.gs17 s.is19.toNat)))))⟩ : V3), (toI (hdA (tlA (tlA (tlA (p.gs17 s.is19.toNat))))))⟩ : Pln))
    (sel (!t1.2)
     (.exit 1)
     (sel (inB s.is19 p.ns6)
      (sel ((Nat.blt (0 + s.is19.toNat) (len s.eh1)) && (Nat.ble (0 + 4) (len (getRow s.eh1 (0 + s.is19.toNat)))))
       (.next ⟨(W (s.is19 + 1)), (setAt s.eh1 (0 + s.is19.toNat) (splice (getRow s.eh1 (0 + s.is19.toNat)) 0 [(i t1.1.n.x), (i t1.1.n.y), (i t1.1.n.z), (i t1.1.b)]))⟩)
       .fail)
      .fail))
    .fail)
   .fail)
  .fail)
 (.exit 2))
theorem q30_0_0 (p : Pg30_0) (s : Sg30_0) (c1 c2 c3 c4 c5 c6 c7 : Bool) (t1 : Pln × Bool) : (fo30_0 p s) (sel c1
 (sel c2
  (sel c3
   (sel c4
    (sel c5
     (.exit 1)
     (sel c6
      (sel c7
       (.next ⟨(W (s.is19 + 1)), (setAt s.eh1 (0 + s.is19.toNat) (splice (getRow s.eh1 (0 + s.is19.toNat)) 0 [(i t1.1.n.x), (i t1.1.n.y), (i t1.1.n.z), (i t1.1.b)]))⟩)
       .fail)
      .fail))
    .fail)
   .fail)
  .fail)
 (.exit 2)) = (sel c1
 (sel c2
  (sel c3
   (sel c4
    (sel c5
     (some (x30_0_1 p s))
     (sel c6
      (sel c7
       (some (.normal, h30_0_0 p ⟨(W (s.is19 + 1)), (setAt s.eh1 (0 + s.is19.toNat) (splice (getRow s.eh1 (0 + s.is19.toNat)) 0 [(i t1.1.n.x), (i t1.1.n.y), (i t1.1.n.z), (i t1.1.b)]))⟩))
       none)
      none))
    none)
   none)
  none)
 (some (x30_0_2 p s))) := (stpSel (f := (fo30_0 p s)) (stpSel (f := (fo30_0 p s)) (stpSel (f := (fo30_0 p s)) (stpSel (f := (fo30_0 p s)) (stpSel (f := (fo30_0 p s)) rfl (stpSel (f := (fo30_0 p s)) (stpSel (f := (fo30_0 p s)) rfl rfl) rfl)) rfl) rfl) rfl) rfl)
theorem sp30_0_0 (p : Pg30_0) (s : Sg30_0) : (roundE (En tb30u) 0 [2, 6, 17, 18, 19] (.pc l30_0) (h30_0_0 p s)).run = fo30_0 p s (su30_0_0 p s) := (rd30_0_0 p s _ rfl).trans (q30_0_0 p s _ _ _ _ _ _ _ _).symm
noncomputable def st30_0 (p : Pg30_0) (s : Sg30_0) : Stp Sg30_0 := (su30_0_0 p s)
theorem sp30_0 (p : Pg30_0) (s : Sg30_0) : (roundE (En tb30u) 0 [2, 6, 17, 18, 19] (.pc l30_0) (en30_0 p s)).run = fo30_0 p s (st30_0 p s) := by
  show (roundE (En tb30u) 0 [2, 6, 17, 18, 19] (.pc l30_0) (h30_0_0 p s)).run = fo30_0 p s (su30_0_0 p s)
  exact sp30_0_0 p s
noncomputable def al30_0_0 : Alt Pg30_0 Sg30_0 := ⟨[(.s .unk), (.s .unk), (.s (.ptr 0 0 0 0)), (.s .unk), (.s .unk), (.s .unk), (.s (.sl 1 0 (some 0) none)), (.s .unk), (.s .unk), (.s .unk), (.s .unk), (.s .unk), (.s .unk), (.s .unk), (.s .unk), (.s .unk), (.s .unk), (.s (.tree 4)), (.s (.int .i64)), (.s (.int .i64)), (.s .unk), (.s .unk), (.s .unk), (.s .unk), (.s .unk), (.s .unk), (.s .unk), (.s .unk), (.s .unk), (.s .unk), (.s .unk), (.s .unk), (.s .unk), (.s .unk), (.s .unk), (.s .unk), (.s .unk), (.s .unk)], [⟨0, 13, true, (some [[(.int .i64), (.int .i64), (.int .i64), (.int .i64), (.int .i64), (.int .i64), (.int .i64), (.int .i64), (.int .i64), (.int .i64), (.int .i64), (.int .i64), (.int .i64)]])⟩, ⟨56, 4, true, none⟩], fun a H => (⟨(slN (slotA a 6)), (toN (slotA a 17)), (toG (slotA a 17)), (toI (slotA a 18)), (toI (hdA (dropN (getRow (elsA H 0) 0) 0))), (toI (hdA (dropN (getRow (elsA H 0) 0) 1))), (toI (hdA (dropN (getRow (elsA H 0) 0) 2))), (toI (hdA (dropN (getRow (elsA H 0) 0) 3))), (toI (hdA (dropN (getRow (elsA H 0) 0) 4))), (toI (hdA (dropN (getRow (elsA H 0) 0) 5))), (toI (hdA (dropN (getRow (elsA H 0) 0) 6))), (toI (hdA (dropN (getRow (elsA H 0) 0) 7))), (toI (hdA (dropN (getRow (elsA H 0) 0) 8))), (toI (hdA (dropN (getRow (elsA H 0) 0) 9))), (toI (hdA (dropN (getRow (elsA H 0) 0) 10))), (toI (hdA (dropN (getRow (elsA H 0) 0) 11))), (toI (hdA (dropN (getRow (elsA H 0) 0) 12)))⟩, ⟨(toI (slotA a 19)), (elsA H 1)⟩)⟩
theorem la30_0_0 (a : List AVal) (H : List ABlk) : (⟨asSls al30_0_0.sh a, asBks al30_0_0.bl H⟩ : St) = en30_0 (al30_0_0.rd (asSls al30_0_0.sh a) (asBks al30_0_0.bl H)).1 (al30_0_0.rd (asSls al30_0_0.sh a) (asBks al30_0_0.bl H)).2 := by kernel_rfl
noncomputable def as30_0 : List (Alt Pg30_0 Sg30_0) := [al30_0_0]
theorem lo30_0 (s : St) : Below ((loopL 0 [2, 6, 17, 18, 19] as30_0 st30_0 xs30_0) s) (exec (En tb30u) 0 (.loop [2, 6, 17, 18, 19] l30_0) s) :=
  loopL_below (E := En tb30u) (enc := en30_0) (body := (.pc l30_0)) (alts := as30_0) (xs := xs30_0) (.pc _) rfl (.cons la30_0_0 .nil) (.cons nx30_0_1 (.cons nx30_0_2 .nil)) (fun p s => sp30_0 p s) s
noncomputable def ps30 : PS := (.seq (.pc (.ops [(o 2 (.box (.t 0))), (o 4 (.mv (.c (.v (.slice none 0 0))))), (o 5 (.mv (cb false)))])) (.seq (.pc (.seq (.ops [(o 11 (.load (ki 13) 13 true (.t 2))), (o 12 (.call 56 [(.t 11)])), (o 13 (.not (.t 12)))]) (.cond (.t 13) (.seq (.ops [(o 4 (.mv (.c (.v (.slice none 0 0))))), (o 5 (.mv (cb false)))]) .ret) .skip))) (.seq (.pc (.ops [(o 14 (.mv (.t 1))), (o 15 (.len (.t 14))), (o 16 (.mksl 56 4 32 (rep 4 (vi 0)) (.t 15) (.t 15))), (o 6 (.mv (.t 16)))])) (.seq (.seq (.pc (.ops [(o 17 (.mv (.t 1))), (o 18 (.len (.t 17))), (o 19 (.mv (ci 0)))])) (.block 0 (.sum (loopL 0 [2, 6, 17, 18, 19] as30_0 st30_0 xs30_0)))) (.pc (.seq (.ops [(o 37 (.mv (.t 6))), (o 4 (.mv (.t 37))), (o 5 (.mv (cb true)))]) .ret))))))
theorem sd30 : Stands (En tb30u) 0 ps30 pf30.body := (.seq (.pc _) (.seq (.pc _) (.seq (.pc _) (.seq (.seq (.pc _) (.block _ (.sum lo30_0))) (.pc _)))))
structure Rg30 where
  alt : Nat
  ns0 : Nat
  eh0 : List (List AVal)
noncomputable def p30u (x : Frm) (y : List Pln) : Rg30 := let t1 := (p56 x); let t2 := (lp (st30_0 (⟨(↑(List.length y) : Int).toNat, (List.length y), (fun k => rP (gP y k)), (↑(List.length y) : Int), x.t.m.r0.x, x.t.m.r0.y, x.t.m.r0.z, x.t.m.r1.x, x.t.m.r1.y, x.t.m.r1.z, x.t.m.r2.x, x.t.m.r2.y, x.t.m.r2.z, x.t.d, x.s.x, x.s.y, x.s.z⟩ : Pg30_0)) (⟨0, (List.replicate (↑(List.length y) : Int).toNat [(i 0), (i 0), (i 0), (i 0)])⟩ : Sg30_0)); (sel (g56 x)
 (sel (!t1)
  (⟨1, 0, []⟩ : Rg30)
  (sel (inB (↑(List.length y) : Int) (room + 1) && inB (↑(List.length y) : Int) (room + 1) && Nat.ble (↑(List.length y) : Int).toNat (↑(List.length y) : Int).toNat && Nat.ble ((↑(List.length y) : Int).toNat * 32) room)
   (sel (Nat.beq t2.1 1)
    (⟨1, 0, []⟩ : Rg30)
    (sel (Nat.beq t2.1 2)
     (⟨2, (↑(List.length y) : Int).toNat, t2.2.eh1⟩ : Rg30)
     (⟨0, 0, []⟩ : Rg30)))
   (⟨0, 0, []⟩ : Rg30)))
 (⟨0, 0, []⟩ : Rg30))
noncomputable def ko30 (r : Rg30) : DT (AVal × List ABlk) := (.ite (Nat.beq r.alt 1) (.ret ((.tup [(.v (.slice none 0 0)), (b false)]), [])) (.ite (Nat.beq r.alt 2) (.ret ((.tup [(.sl 0 0 r.ns0 0), (b true)]), [⟨56, 4, r.eh0, true, false, 0⟩])) .fail))
noncomputable def S30u : Sum := sum2 cF cPL (fun x y => ko30 (p30u x y))
theorem r30 (x : Frm) (y : List Pln) (t1 : Bool) (ht1 : t1 = (p56 x)) (t2 : Nat × Sg30_0) (ht2 : t2 = (lp (st30_0 (⟨(↑(List.length y) : Int).toNat, (List.length y), (fun k => rP (gP y k)), (↑(List.length y) : Int), x.t.m.r0.x, x.t.m.r0.y, x.t.m.r0.z, x.t.m.r1.x, x.t.m.r1.y, x.t.m.r1.z, x.t.m.r2.x, x.t.m.r2.y, x.t.m.r2.z, x.t.d, x.s.x, x.s.y, x.s.z⟩ : Pg30_0)) (⟨0, (List.replicate (↑(List.length y) : Int).toNat [(i 0), (i 0), (i 0), (i 0)])⟩ : Sg30_0))) : (runS (En tb30u) pf30 ps30 [cF.enc x, cPL.enc y] []).run = (sel (g56 x)
 (sel (!t1)
  (some ((.tup [(.v (.slice none 0 0)), (b false)]), []))
  (sel (inB (↑(List.length y) : Int) (room + 1) && inB (↑(List.length y) : Int) (room + 1) && Nat.ble (↑(List.length y) : Int).toNat (↑(List.length y) : Int).toNat && Nat.ble ((↑(List.length y) : Int).toNat * 32) room)
   (sel (Nat.beq t2.1 1)
    (some ((.tup [(.v (.slice none 0 0)), (b false)]), []))
    (sel (Nat.beq t2.1 2)
     (some ((.tup [(.sl 0 0 (↑(List.length y) : Int).toNat 0), (b true)]), [⟨56, 4, t2.2.eh1, true, false, 0⟩]))
     none))
   none))
 none) := by subst ht1; subst ht2; kernel_rfl
noncomputable def fo30 : Rg30 → Option (AVal × List ABlk) := fun r => (ko30 r).run
theorem m30 (x : Frm) (y : List Pln) (c1 c2 c3 c4 c5 : Bool) (t2 : Nat × Sg30_0) : fo30 (sel c1
 (sel c2
  (⟨1, 0, []⟩ : Rg30)
  (sel c3
   (sel c4
    (⟨1, 0, []⟩ : Rg30)
    (sel c5
     (⟨2, (↑(List.length y) : Int).toNat, t2.2.eh1⟩ : Rg30)
     (⟨0, 0, []⟩ : Rg30)))
   (⟨0, 0, []⟩ : Rg30)))
 (⟨0, 0, []⟩ : Rg30)) = (sel c1
 (sel c2
  (some ((.tup [(.v (.slice none 0 0)), (b false)]), []))
  (sel c3
   (sel c4
    (some ((.tup [(.v (.slice none 0 0)), (b false)]), []))
    (sel c5
     (some ((.tup [(.sl 0 0 (↑(List.length y) : Int).toNat 0), (b true)]), [⟨56, 4, t2.2.eh1, true, false, 0⟩]))
     none))
   none))
 none) := (stpSel (f := fo30) (stpSel (f := fo30) rfl (stpSel (f := fo30) (stpSel (f := fo30) rfl (stpSel (f := fo30) rfl rfl)) rfl)) rfl)
theorem ok30u : FnOk Tryd.prog G 30 S30u := sum2_ok (b30 (E := En tb30u) rfl (tdeps tbo30u)) fun x y r h => runS_below sd30 _ (((r30 x y _ rfl _ rfl).trans (m30 x y _ _ _ _ _ _).symm).trans h)
noncomputable def tb31u : List (Nat × Sum) := [(60, S60), (29, S29)]
theorem tbo31u : TblOk Tryd.prog G tb31u := ⟨ok60, ok29, trivial⟩
structure Pg31_0 where
  ns1 : Nat
  gs1 : Nat → List AVal
  ih0_0_0 : Int
  ih0_0_1 : Int
  ih0_0_2 : Int
  ih0_0_3 : Int
  ih0_0_4 : Int
  ih0_0_5 : Int
  ih0_0_6 : Int
  ih0_0_7 : Int
  ih0_0_8 : Int
  ih0_0_9 : Int
  ih0_0_10 : Int
  ih0_0_11 : Int
  ih0_0_12 : Int
structure Sg31_0 where
  ph : Nat
  ns6 : Nat
  is7 : Int
  eh1 : List (List AVal)
noncomputable def h31_0_0 (p : Pg31_0) (s : Sg31_0) : St := ⟨[.unk, (.tree 4 p.ns1 p.gs1), (.ptr 0 0 0 0), .unk, .unk, .unk, (.v (.slice none 0 0)), (i 0), .unk, .unk, .unk, .unk, .unk, .unk, .unk, .unk, .unk, .unk, .unk, .unk, .unk, .unk, .unk, .unk, .unk, .unk, .unk, .unk, .unk, .unk, .unk, .unk, .unk, .unk, .unk], [⟨0, 13, [[(i p.ih0_0_0), (i p.ih0_0_1), (i p.ih0_0_2), (i p.ih0_0_3), (i p.ih0_0_4), (i p.ih0_0_5), (i p.ih0_0_6), (i p.ih0_0_7), (i p.ih0_0_8), (i p.ih0_0_9), (i p.ih0_0_10), (i p.ih0_0_11), (i p.ih0_0_12)]], true, false, 0⟩]⟩
noncomputable def h31_0_1 (p : Pg31_0) (s : Sg31_0) : St := ⟨[.unk, (.tree 4 p.ns1 p.gs1), (.ptr 0 0 0 0), .unk, .unk, .unk, (.sl 1 0 s.ns6 0), (i s.is7), .unk, .unk, .unk, .unk, .unk, .unk, .unk, .unk, .unk, .unk, .unk, .unk, .unk, .unk, .unk, .unk, .unk, .unk, .unk, .unk, .unk, .unk, .unk, .unk, .unk, .unk, .unk], [⟨0, 13, [[(i p.ih0_0_0), (i p.ih0_0_1), (i p.ih0_0_2), (i p.ih0_0_3), (i p.ih0_0_4), (i p.ih0_0_5), (i p.ih0_0_6), (i p.ih0_0_7), (i p.ih0_0_8), (i p.ih0_0_9), (i p.ih0_0_10), (i p.ih0_0_11), (i p.ih0_0_12)]], true, false, 0⟩, ⟨56, 4, s.eh1, true, false, 0⟩]⟩
noncomputable def en31_0 (p : Pg31_0) (s : Sg31_0) : St := (sel (Nat.beq s.ph 1) (h31_0_1 p s) (h31_0_0 p s))
noncomputable def x31_0_1 (p : Pg31_0) (s : Sg31_0) : XExit × St := let t1 := (p29 (⟨(⟨(⟨(⟨p.ih0_0_0, p.ih0_0_1, p.ih0_0_2⟩ : V3), (⟨p.ih0_0_3, p.ih0_0_4, p.ih0_0_5⟩ : V3), (⟨p.ih0_0_6, p.ih0_0_7, p.ih0_0_8⟩ : V3)⟩ : M3), p.ih0_0_9⟩ : Trn), (⟨p.ih0_0_10, p.ih0_0_11, p.ih0_0_12⟩ : V3)⟩ : Frm) (⟨(⟨(toI (hdA (p.gs1 0))), (toI (hdA (tlA (p.gs1 0)))), (toI (hdA (tlA (tlA (p.gs1 0)))))⟩ : V3), (toI (hdA (tlA (tlA (tlA (p.gs1 0))))))⟩ : Pln)); (.ret, ⟨[.unk, (.tree 4 p.ns1 p.gs1), (.ptr 0 0 0 0), .unk, (.v (.slice none 0 0)), (b false), (.v (.slice none 0 0)), (i 0), (.ptr 1 0 0 0), (b t1.2), .unk, .unk, .unk, (i 0), (.tree 4 p.ns1 p.gs1), (i (↑p.ns1 : Int)), (b (decide (0 < (↑p.ns1 : Int)))), .unk, .unk, (.tup [(.agg [(i t1.1.n.x), (i t1.1.n.y), (i t1.1.n.z), (i t1.1.b)]), (b t1.2)]), (.agg [(i p.ih0_0_0), (i p.ih0_0_1), (i p.ih0_0_2), (i p.ih0_0_3), (i p.ih0_0_4), (i p.ih0_0_5), (i p.ih0_0_6), (i p.ih0_0_7), (i p.ih0_0_8), (i p.ih0_0_9), (i p.ih0_0_10), (i p.ih0_0_11), (i p.ih0_0_12)]), (.tree 4 p.ns1 p.gs1), (i 0), (.tptr (p.gs1 0)), (.agg [(i (toI (hdA (p.gs1 0)))), (i (toI (hdA (tlA (p.gs1 0))))), (i (toI (hdA (tlA (tlA (p.gs1 0)))))), (i (toI (hdA (tlA (tlA (tlA (p.gs1 0)))))))]), (.tup [(.agg [(i t1.1.n.x), (i t1.1.n.y), (i t1.1.n.z), (i t1.1.b)]), (b t1.2)]), (.agg [(i t1.1.n.x), (i t1.1.n.y), (i t1.1.n.z), (i t1.1.b)]), (b t1.2), (b t1.2), (b (!t1.2)), .unk, .unk, .unk, .unk, .unk], [⟨0, 13, [[(i p.ih0_0_0), (i p.ih0_0_1), (i p.ih0_0_2), (i p.ih0_0_3), (i p.ih0_0_4), (i p.ih0_0_5), (i p.ih0_0_6), (i p.ih0_0_7), (i p.ih0_0_8), (i p.ih0_0_9), (i p.ih0_0_10), (i p.ih0_0_11), (i p.ih0_0_12)]], true, false, 0⟩, ⟨0, 4, [[(i t1.1.n.x), (i t1.1.n.y), (i t1.1.n.z), (i t1.1.b)]], true, false, 0⟩]⟩)
theorem nx31_0_1 (p : Pg31_0) (s : Sg31_0) : (x31_0_1 p s).1 ≠ .normal := fun h => by
  have h : XExit.ret = XExit.normal := h
  cases h
noncomputable def x31_0_2 (p : Pg31_0) (s : Sg31_0) : XExit × St := (.exit 0, ⟨[.unk, (.tree 4 p.ns1 p.gs1), (.ptr 0 0 0 0), .unk, .unk, .unk, (.v (.slice none 0 0)), (i 0), .unk, .unk, .unk, .unk, .unk, (i 0), (.tree 4 p.ns1 p.gs1), (i (↑p.ns1 : Int)), (b (decide (0 < (↑p.ns1 : Int)))), .unk, .unk, .unk, .unk, .unk, .unk, .unk, .unk, .unk, .unk, .unk, .unk, .unk, .unk, .unk, .unk, .unk, .unk], [⟨0, 13, [[(i p.ih0_0_0), (i p.ih0_0_1), (i p.ih0_0_2), (i p.ih0_0_3), (i p.ih0_0_4), (i p.ih0_0_5), (i p.ih0_0_6), (i p.ih0_0_7), (i p.ih0_0_8), (i p.ih0_0_9), (i p.ih0_0_10), (i p.ih0_0_11), (i p.ih0_0_12)]], true, false, 0⟩]⟩)
theorem nx31_0_2 (p : Pg31_0) (s : Sg31_0) : (x31_0_2 p s).1 ≠ .normal := fun h => by
  have h : XExit.exit 0 = XExit.normal := h
  cases h
noncomputable def x31_0_3 (p : Pg31_0) (s : Sg31_0) : XExit × St := let t1 := (p29 (⟨(⟨(⟨(⟨p.ih0_0_0, p.ih0_0_1, p.ih0_0_2⟩ : V3), (⟨p.ih0_0_3, p.ih0_0_4, p.ih0_0_5⟩ : V3), (⟨p.ih0_0_6, p.ih0_0_7, p.ih0_0_8⟩ : V3)⟩ : M3), p.ih0_0_9⟩ : Trn), (⟨p.ih0_0_10, p.ih0_0_11, p.ih0_0_12⟩ : V3)⟩ : Frm) (⟨(⟨(toI (hdA (p.gs1 s.is7.toNat))), (toI (hdA (tlA (p.gs1 s.is7.toNat)))), (toI (hdA (tlA (tlA (p.gs1 s.is7.toNat)))))⟩ : V3), (toI (hdA (tlA (tlA (tlA (p.gs1 s.is7.toNat))))))⟩ : Pln)); (.ret, ⟨[.unk, (.tree 4 p.ns1 p.gs1), (.ptr 0 0 0 0), .unk, (.v (.slice none 0 0)), (b false), (.sl 1 0 s.ns6 0), (i s.is7), (.ptr 2 0 0 0), (b t1.2), .unk, .unk, .unk, (i s.is7), (.tree 4 p.ns1 p.gs1), (i (↑p.ns1 : Int)), (b (decide (s.is7 < (↑p.ns1 : Int)))), .unk, .unk, (.tup [(.agg [(i t1.1.n.x), (i t1.1.n.y), (i t1.1.n.z), (i t1.1.b)]), (b t1.2)]), (.agg [(i p.ih0_0_0), (i p.ih0_0_1), (i p.ih0_0_2), (i p.ih0_0_3), (i p.ih0_0_4), (i p.ih0_0_5), (i p.ih0_0_6), (i p.ih0_0_7), (i p.ih0_0_8), (i p.ih0_0_9), (i p.ih0_0_10), (i p.ih0_0_11), (i p.ih0_0_12)]), (.tree 4 p.ns1 p.gs1), (i s.is7), (.tptr (p.gs1 s.is7.toNat)), (.agg [(i (toI (hdA (p.gs1 s.is7.toNat)))), (i (toI (hdA (tlA (p.gs1 s.is7.toNat))))), (i (toI (hdA (tlA (tlA (p.gs1 s.is7.toNat)))))), (i (toI (hdA (tlA (tlA (tlA (p.gs1 s.is7.toNat)))))))]), (.tup [(.agg [(i t1.1.n.x), (i t1.1.n.y), (i t1.1.n.z), (i t1.1.b)]), (b t1.2)]), (.agg [(i t1.1.n.x), (i t1.1.n.y), (i t1.1.n.z), (i t1.1.b)]), (b t1.2), (b t1.2), (b (!t1.2)), .unk, .unk, .unk, .unk, .unk], [⟨0, 13, [[(i p.ih0_0_0), (i p.ih0_0_1), (i p.ih0_0_2), (i p.ih0_0_3), (i p.ih0_0_4), (i p.ih0_0_5), (i p.ih0_0_6), (i p.ih0_0_7), (i p.ih0_0_8), (i p.ih0_0_9), (i p.ih0_0_10), (i p.ih0_0_11), (i p.ih0_0_12)]], true, false, 0⟩, ⟨56, 4, s.eh1, true, false, 0⟩, ⟨0, 4, [[(i t1.1.n.x), (i t1.1.n.y), (i t1.1.n.z), (i t1.1.b)]], true, false, 0⟩]⟩)
theorem nx31_0_3 (p : Pg31_0) (s : Sg31_0) : (x31_0_3 p s).1 ≠ .normal := fun h => by
  have h : XExit.ret = XExit.normal := h
  cases h
noncomputable def x31_0_4 (p : Pg31_0) (s : Sg31_0) : XExit × St := (.exit 0, ⟨[.unk, (.tree 4 p.ns1 p.gs1), (.ptr 0 0 0 0), .unk, .unk, .unk, (.sl 1 0 s.ns6 0), (i s.is7), .unk, .unk, .unk, .unk, .unk, (i s.is7), (.tree 4 p.ns1 p.gs1), (i (↑p.ns1 : Int)), (b (decide (s.is7 < (↑p.ns1 : Int)))), .unk, .unk, .unk, .unk, .unk, .unk, .unk, .unk, .unk, .unk, .unk, .unk, .unk, .unk, .unk, .unk, .unk, .unk], [⟨0, 13, [[(i p.ih0_0_0), (i p.ih0_0_1), (i p.ih0_0_2), (i p.ih0_0_3), (i p.ih0_0_4), (i p.ih0_0_5), (i p.ih0_0_6), (i p.ih0_0_7), (i p.ih0_0_8), (i p.ih0_0_9), (i p.ih0_0_10), (i p.ih0_0_11), (i p.ih0_0_12)]], true, false, 0⟩, ⟨56, 4, s.eh1, true, false, 0⟩]⟩)
theorem nx31_0_4 (p : Pg31_0) (s : Sg31_0) : (x31_0_4 p s).1 ≠ .normal := fun h => by
  have h : XExit.exit 0 = XExit.normal := h
  cases h
noncomputable def xs31_0 : List (Pg31_0 → Sg31_0 → XExit × St) := [x31_0_1, x31_0_2, x31_0_3, x31_0_4]
@[reducible] def l31_0 : PC := (.seq (.seq (.ops [(o 13 (.mv (.t 7))), (o 14 (.mv (.t 1))), (o 15 (.len (.t 14))), (o 16 (.bin .lss (.t 13) (.t 15)))]) (.cond (.t 16) .skip (.exit 0))) (.seq (.block 1 (.seq (.draw [20, 21, 22, 23, 24, 25, 19, 26, 27, 8, 9] [(o 8 (.alloc (rep 4 (vi 0))))] [(o 20 (.load (ki 13) 13 true (.t 2))), (o 21 (.mv (.t 1))), (o 22 (.mv (.t 7))), (o 23 (.idxS 4 (.t 21) (.t 22))), (o 24 (.load (ki 4) 4 true (.t 23))), ⟨(.some 25), none, [8], (.call 29 [(.t 20), (.t 24)])⟩, (o 19 (.mv (.t 25))), (o 26 (.ext (.t 19) 0)), (o 27 (.ext (.t 19) 1)), (s (.store 4 (.t 8) (.t 26))), (o 9 (.mv (.t 27)))] [((.ext (.t 19) 1), (.store 4 (.t 8) (.t 26)))]) (.seq (.seq (.ops [(o 28 (.mv (.t 9))), (o 29 (.not (.t 28)))]) (.cond (.t 29) (.seq (.ops [(o 4 (.mv (.c (.v (.slice none 0 0))))), (o 5 (.mv (cb false)))]) .ret) .skip)) (.ops [(o 30 (.mv (.t 6))), (o 31 (.load (ki 4) 4 true (.t 8))), (o 32 (.bslice 56 4 1 (rep 4 (vi 0)) [(0, (4, (.t 31)))])), (o 33 (.append 56 4 32 (.t 30) (.t 32))), (o 6 (.mv (.t 33)))])))) (.ops [(o 17 (.mv (.t 7))), (o 18 (.bin .add (.t 17) (ci 1))), (o 7 (.mv (.t 18)))])))
noncomputable def fo31_0 (p : Pg31_0) (s : Sg31_0) : Stp Sg31_0 → Option (XExit × St) := onStp (fun s' => some (.normal, en31_0 p s')) (fun t => xAt xs31_0 p s t 1) none
theorem rd31_0_0 (p : Pg31_0) (s : Sg31_0) (t1 : Pln × Bool) (ht1 : t1 = (p29 (⟨(⟨(⟨(⟨p.ih0_0_0, p.ih0_0_1, p.ih0_0_2⟩ : V3), (⟨p.ih0_0_3, p.ih0_0_4, p.ih0_0_5⟩ : V3), (⟨p.ih0_0_6, p.ih0_0_7, p.ih0_0_8⟩ : V3)⟩ : M3), p.ih0_0_9⟩ : Trn), (⟨p.ih0_0_10, p.ih0_0_11, p.ih0_0_12⟩ : V3)⟩ : Frm) (⟨(⟨(toI (hdA (p.gs1 0))), (toI (hdA (tlA (p.gs1 0)))), (toI (hdA (tlA (tlA (p.gs1 0)))))⟩ : V3), (toI (hdA (tlA (tlA (tlA (p.gs1 0))))))⟩ : Pln))) : (roundE (En tb31u) 0 [1, 2, 6, 7] (.pc l31_0) (h31_0_0 p s)).run = (sel (decide (0 < (↑p.ns1 : Int)))
 (sel (inB 0 p.ns1)
  (sel ((Nat.ble 4 (len (p.gs1 0))) && (okCKs [(CK.int .i64), (CK.int .i64), (CK.int .i64), (CK.int .i64)] (p.gs1 0)))
   (sel (g29 (⟨(⟨(⟨(⟨p.ih0_0_0, p.ih0_0_1, p.ih0_0_2⟩ : V3), (⟨p.ih0_0_3, p.ih0_0_4, p.ih0_0_5⟩ : V3), (⟨p.ih0_0_6, p.ih0_0_7, p.ih0_0_8⟩ : V3)⟩ : M3), p.ih0_0_9⟩ : Trn), (⟨p.ih0_0_10, p.ih0_0_11, p.ih0_0_12⟩ : V3)⟩ : Frm) (⟨(⟨(toI (hdA (p.gs1 0))), (toI (hdA (tlA (p.gs1 0)))), (toI (hdA (tlA (tlA (p.gs1 0)))))⟩ : V3), (toI (hdA (tlA (tlA (tlA (p.gs1 0))))))⟩ : Pln))
    (sel (!t1.2)
     (some (x31_0_1 p s))
     (some (.normal, h31_0_1 p ⟨1, 1, 1, [[(i t1.1.n.x), (i t1.1.n.y), (i t1.1.n.z), (i t1.1.b)]]⟩)))
    none)
   none)
  none)
 (some (x31_0_2 p s))) := by subst ht1; kernel_rfl
noncomputable def su31_0_0 (p : Pg31_0) (s : Sg31_0) : Stp Sg31_0 := let t1 := (p29 (⟨(⟨(⟨(⟨p.ih0_0_0, p.ih0_0_1, p.ih0_0_2⟩ : V3), (⟨p.ih0_0_3, p.ih0_0_4, p.ih0_0_5⟩ : V3), (⟨p.ih0_0_6, p.ih0_0_7, p.ih0_0_8⟩ : V3)⟩ : M3), p.ih0_0_9⟩ : Trn), (⟨p.ih0_0_10, p.ih0_0_11, p.ih0_0_12⟩ : V3)⟩ : Frm) (⟨(⟨(toI (hdA (p.gs1 0))), (toI (hdA (tlA (p.gs1 0)))), (toI (hdA (tlA (tlA (p.gs1 0)))))⟩ : V3), (toI (hdA (tlA (tlA (tlA (p.gs1 0))))))⟩ : Pln)); (sel (decide (0 < (↑p.ns1 : Int)))
 (sel (inB 0 p.ns1)
  (sel ((Nat.ble 4 (len (p.gs1 0))) && (okCKs [(CK.int .i64), (CK.int .i64), (CK.int .i64), (CK.int .i64)] (p.gs1 0)))
   (sel (g29 (⟨(⟨(⟨(⟨p.ih0_0_0, p.ih0_0_1, p.ih0_0_2⟩ : V3), (⟨p.ih0_0_3, p.ih0_0_4, p.ih0_0_5⟩ : V3), (⟨p.ih0_0_6, p.ih0_0_7, p.ih0_0_8⟩ : V3)⟩ : M3), p.ih0_0_9⟩ : Trn), (⟨p.ih0_0_10, p.ih0_0_11, p.ih0_0_12⟩ : V3)⟩ : Frm) (⟨(⟨(toI (hdA (p.gs1 0))), (toI (hdA (tlA (p.gs1 0)))), (toI (hdA (tlA (tlA (p.gs1 0)))))⟩ : V3), (toI (hdA (tlA (tlA (tlA (p.gs1 0))))))⟩ : Pln))
    (sel (!t1.2)
     (.exit 1)
     (.next ⟨1, 1, 1, [[(i t1.1.n.x), (i t1.1.n.y), (i t1.1.n.z), (i t1.1.b)]]⟩))
    .fail)
   .fail)
  .fail)
 (.exit 2))
theorem q31_0_0 (p : Pg31_0) (s : Sg31_0) (c1 c2 c3 c4 c5 : Bool) (t1 : Pln × Bool) : (fo31_0 p s) (sel c1
 (sel c2
  (sel c3
   (sel c4
    (sel c5
     (.exit 1)
     (.next ⟨1, 1, 1, [[(i t1.1.n.x), (i t1.1.n.y), (i t1.1.n.z), (i t1.1.b)]]⟩))
    .fail)
   .fail)
  .fail)
 (.exit 2)) = (sel c1
 (sel c2
  (sel c3
   (sel c4
    (sel c5
     (some (x31_0_1 p s))
     (some (.normal, h31_0_1 p ⟨1, 1, 1, [[(i t1.1.n.x), (i t1.1.n.y), (i t1.1.n.z), (i t1.1.b)]]⟩)))
    none)
   none)
  none)
 (some (x31_0_2 p s))) := (stpSel (f := (fo31_0 p s)) (stpSel (f := (fo31_0 p s)) (stpSel (f := (fo31_0 p s)) (stpSel (f := (fo31_0 p s)) (stpSel (f := (fo31_0 p s)) rfl rfl) rfl) rfl) rfl) rfl)
theorem sp31_0_0 (p : Pg31_0) (s : Sg31_0) : (roundE (En tb31u) 0 [1, 2, 6, 7] (.pc l31_0) (h31_0_0 p s)).run = fo31_0 p s (su31_0_0 p s) := (rd31_0_0 p s _ rfl).trans (q31_0_0 p s _ _ _ _ _ _).symm
theorem rd31_0_1 (p : Pg31_0) (s : Sg31_0) (t1 : Pln × Bool) (ht1 : t1 = (p29 (⟨(⟨(⟨(⟨p.ih0_0_0, p.ih0_0_1, p.ih0_0_2⟩ : V3), (⟨p.ih0_0_3, p.ih0_0_4, p.ih0_0_5⟩ : V3), (⟨p.ih0_0_6, p.ih0_0_7, p.ih0_0_8⟩ : V3)⟩ : M3), p.ih0_0_9⟩ : Trn), (⟨p.ih0_0_10, p.ih0_0_11, p.ih0_0_12⟩ : V3)⟩ : Frm) (⟨(⟨(toI (hdA (p.gs1 s.is7.toNat))), (toI (hdA (tlA (p.gs1 s.is7.toNat)))), (toI (hdA (tlA (tlA (p.gs1 s.is7.toNat)))))⟩ : V3), (toI (hdA (tlA (tlA (tlA (p.gs1 s.is7.toNat))))))⟩ : Pln))) : (roundE (En tb31u) 0 [1, 2, 6, 7] (.pc l31_0) (h31_0_1 p s)).run = (sel (decide (s.is7 < (↑p.ns1 : Int)))
 (sel (inB s.is7 p.ns1)
  (sel ((Nat.ble 4 (len (p.gs1 s.is7.toNat))) && (okCKs [(CK.int .i64), (CK.int .i64), (CK.int .i64), (CK.int .i64)] (p.gs1 s.is7.toNat)))
   (sel (g29 (⟨(⟨(⟨(⟨p.ih0_0_0, p.ih0_0_1, p.ih0_0_2⟩ : V3), (⟨p.ih0_0_3, p.ih0_0_4, p.ih0_0_5⟩ : V3), (⟨p.ih0_0_6, p.ih0_0_7, p.ih0_0_8⟩ : V3)⟩ : M3), p.ih0_0_9⟩ : Trn), (⟨p.ih0_0_10, p.ih0_0_11, p.ih0_0_12⟩ : V3)⟩ : Frm) (⟨(⟨(toI (hdA (p.gs1 s.is7.toNat))), (toI (hdA (tlA (p.gs1 s.is7.toNat)))), (toI (hdA (tlA (tlA (p.gs1 s.is7.toNat)))))⟩ : V3), (toI (hdA (tlA (tlA (tlA (p.gs1 s.is7.toNat))))))⟩ : Pln))
    (sel (!t1.2)
     (some (x31_0_3 p s))
     (sel (Nat.beq s.ns6 (len s.eh1) && Nat.ble ((s.ns6 + 1) * 32) room)
      (some (.normal, h31_0_1 p ⟨1, (s.ns6 + 1), (W (s.is7 + 1)), (app s.eh1 [[(i t1.1.n.x), (i t1.1.n.y), (i t1.1.n.z), (i t1.1.b)]])⟩))
      none))
    none)
   none)
  none)
 (some (x31_0_4 p s))) := by subst ht1; kernel_rfl
noncomputable def su31_0_1 (p : Pg31_0) (s : Sg31_0) : Stp Sg31_0 := let t1 := (p29 (⟨(⟨(⟨(⟨p.ih0_0_0, p.ih0_0_1, p.ih0_0_2⟩ : V3), (⟨p.ih0_0_3, p.ih0_0_4, p.ih0_0_5⟩ : V3), (⟨p.ih0_0_6, p.ih0_0_7, p.ih0_0_8⟩ : V3)⟩ : M3), p.ih0_0_9⟩ : Trn), (⟨p.ih0_0_10, p.ih0_0_11, p.ih0_0_12⟩ : V3)⟩ : Frm) (⟨(⟨(toI (hdA (p.gs1 s.is7.toNat))), (toI (hdA (tlA (p.gs1 s.is7.toNat)))), (toI (hdA (tlA (tlA (p.gs1 s.is7.toNat)))))⟩ : V3), (toI (hdA (tlA (tlA (tlA (p.gs1 s.is7.toNat))))))⟩ : Pln)); (sel (decide (s.is7 < (↑p.ns1 : Int)))
 (sel (inB s.is7 p.ns1)
  (sel ((Nat.ble 4 (len (p.gs1 s.is7.toNat))) && (okCKs [(CK.int .i64), (CK.int .i64), (CK.int .i64), (CK.int .i64)] (p.gs1 s.is7.toNat)))
   (sel (g29 (⟨(⟨(⟨(⟨p.ih0_0_0, p.ih0_0_1, p.ih0_0_2⟩ : V3), (⟨p.ih0_0_3, p.ih0_0_4, p.ih0_0_5⟩ : V3), (⟨p.ih0_0_6, p.ih0_0_7, p.ih0_0_8⟩ : V3)⟩ : M3), p.ih0_0_9⟩ : Trn), (⟨p.ih0_0_10, p.ih0_0_11, p.ih0_0_12⟩ : V3)⟩ : Frm) (⟨(⟨(toI (hdA (p.gs1 s.is7.toNat))), (toI (hdA (tlA (p.gs1 s.is7.toNat)))), (toI (hdA (tlA (tlA (p.gs1 s.is7.toNat)))))⟩ : V3), (toI (hdA (tlA (tlA (tlA (p.gs1 s.is7.toNat))))))⟩ : Pln))
    (sel (!t1.2)
     (.exit 3)
     (sel (Nat.beq s.ns6 (len s.eh1) && Nat.ble ((s.ns6 + 1) * 32) room)
      (.next ⟨1, (s.ns6 + 1), (W (s.is7 + 1)), (app s.eh1 [[(i t1.1.n.x), (i t1.1.n.y), (i t1.1.n.z), (i t1.1.b)]])⟩)
      .fail))
    .fail)
   .fail)
  .fail)
 (.exit 4))
theorem q31_0_1 (p : Pg31_0) (s : Sg31_0) (c1 c2 c3 c4 c5 c6 : Bool) (t1 : Pln × Bool) : (fo31_0 p s) (sel c1
 (sel c2
  (sel c3
   (sel c4
    (sel c5
     (.exit 3)
     (sel c6
      (.next ⟨1, (s.ns6 + 1), (W (s.is7 + 1)), (app s.eh1 [[(i t1.1.n.x), (i t1.1.n.y), (i t1.1.n.z), (i t1.1.b)]])⟩)
      .fail))
    .fail)
   .fail)
  .fail)
 (.exit 4)) = (sel c1
 (sel c2
  (sel c3
   (sel c4
    (sel c5
     (some (x31_0_3 p s))
     (sel c6
      (some (.normal, h31_0_1 p ⟨1, (s.ns6 + 1), (W (s.is7 + 1)), (app s.eh1 [[(i t1.1.n.x), (i t1.1.n.y), (i t1.1.n.z), (i t1.1.b)]])⟩))
      none))
    none)
   none)
  none)
 (some (x31_0_4 p s))) := (stpSel (f := (fo31_0 p s)) (stpSel (f := (fo31_0 p s)) (stpSel (f := (fo31_0 p s)) (stpSel (f := (fo31_0 p s)) (stpSel (f := (fo31_0 p s)) rfl (stpSel (f := (fo31_0 p s)) rfl rfl)) rfl) rfl) rfl) rfl)
theorem sp31_0_1 (p : Pg31_0) (s : Sg31_0) : (roundE (En tb31u) 0 [1, 2, 6, 7] (.pc l31_0) (h31_0_1 p s)).run = fo31_0 p s (su31_0_1 p s) := (rd31_0_1 p s _ rfl).trans (q31_0_1 p s _ _ _ _ _ _ _).symm
noncomputable def st31_0 (p : Pg31_0) (s : Sg31_0) : Stp Sg31_0 := (sel (Nat.beq s.ph 1) (su31_0_1 p s) (su31_0_0 p s))
theorem sp31_0 (p : Pg31_0) (s : Sg31_0) : (roundE (En tb31u) 0 [1, 2, 6, 7] (.pc l31_0) (en31_0 p s)).run = fo31_0 p s (st31_0 p s) := by
  show (roundE (En tb31u) 0 [1, 2, 6, 7] (.pc l31_0) (sel (Nat.beq s.ph 1) (h31_0_1 p s) (h31_0_0 p s))).run = fo31_0 p s (sel (Nat.beq s.ph 1) (su31_0_1 p s) (su31_0_0 p s))
  cases Nat.beq s.ph 1 with
  | true => exact sp31_0_1 p s
  | false =>
  exact sp31_0_0 p s
noncomputable def al31_0_0 : Alt Pg31_0 Sg31_0 := ⟨[(.s .unk), (.s (.tree 4)), (.s (.ptr 0 0 0 0)), (.s .unk), (.s .unk), (.s .unk), (.s .nil), (.s (.lit .i64 0)), (.s .unk), (.s .unk), (.s .unk), (.s .unk), (.s .unk), (.s .unk), (.s .unk), (.s .unk), (.s .unk), (.s .unk), (.s .unk), (.s .unk), (.s .unk), (.s .unk), (.s .unk), (.s .unk), (.s .unk), (.s .unk), (.s .unk), (.s .unk), (.s .unk), (.s .unk), (.s .unk), (.s .unk), (.s .unk), (.s .unk), (.s .unk)], [⟨0, 13, true, (some [[(.int .i64), (.int .i64), (.int .i64), (.int .i64), (.int .i64), (.int .i64), (.int .i64), (.int .i64), (.int .i64), (.int .i64), (.int .i64), (.int .i64), (.int .i64)]])⟩], fun a H => (⟨(toN (slotA a 1)), (toG (slotA a 1)), (toI (hdA (dropN (getRow (elsA H 0) 0) 0))), (toI (hdA (dropN (getRow (elsA H 0) 0) 1))), (toI (hdA (dropN (getRow (elsA H 0) 0) 2))), (toI (hdA (dropN (getRow (elsA H 0) 0) 3))), (toI (hdA (dropN (getRow (elsA H 0) 0) 4))), (toI (hdA (dropN (getRow (elsA H 0) 0) 5))), (toI (hdA (dropN (getRow (elsA H 0) 0) 6))), (toI (hdA (dropN (getRow (elsA H 0) 0) 7))), (toI (hdA (dropN (getRow (elsA H 0) 0) 8))), (toI (hdA (dropN (getRow (elsA H 0) 0) 9))), (toI (hdA (dropN (getRow (elsA H 0) 0) 10))), (toI (hdA (dropN (getRow (elsA H 0) 0) 11))), (toI (hdA (dropN (getRow (elsA H 0) 0) 12)))⟩, ⟨0, 0, 0, []⟩)⟩
theorem la31_0_0 (a : List AVal) (H : List ABlk) : (⟨asSls al31_0_0.sh a, asBks al31_0_0.bl H⟩ : St) = en31_0 (al31_0_0.rd (asSls al31_0_0.sh a) (asBks al31_0_0.bl H)).1 (al31_0_0.rd (asSls al31_0_0.sh a) (asBks al31_0_0.bl H)).2 := by kernel_rfl
noncomputable def al31_0_1 : Alt Pg31_0 Sg31_0 := ⟨[(.s .unk), (.s (.tree 4)), (.s (.ptr 0 0 0 0)), (.s .unk), (.s .unk), (.s .unk), (.s (.sl 1 0 (some 0) none)), (.s (.int .i64)), (.s .unk), (.s .unk), (.s .unk), (.s .unk), (.s .unk), (.s .unk), (.s .unk), (.s .unk), (.s .unk), (.s .unk), (.s .unk), (.s .unk), (.s .unk), (.s .unk), (.s .unk), (.s .unk), (.s .unk), (.s .unk), (.s .unk), (.s .unk), (.s .unk), (.s .unk), (.s .unk), (.s .unk), (.s .unk), (.s .unk), (.s .unk)], [⟨0, 13, true, (some [[(.int .i64), (.int .i64), (.int .i64), (.int .i64), (.int .i64), (.int .i64), (.int .i64), (.int .i64), (.int .i64), (.int .i64), (.int .i64), (.int .i64), (.int .i64)]])⟩, ⟨56, 4, true, none⟩], fun a H => (⟨(toN (slotA a 1)), (toG (slotA a 1)), (toI (hdA (dropN (getRow (elsA H 0) 0) 0))), (toI (hdA (dropN (getRow (elsA H 0) 0) 1))), (toI (hdA (dropN (getRow (elsA H 0) 0) 2))), (toI (hdA (dropN (getRow (elsA H 0) 0) 3))), (toI (hdA (dropN (getRow (elsA H 0) 0) 4))), (toI (hdA (dropN (getRow (elsA H 0) 0) 5))), (toI (hdA (dropN (getRow (elsA H 0) 0) 6))), (toI (hdA (dropN (getRow (elsA H 0) 0) 7))), (toI (hdA (dropN (getRow (elsA H 0) 0) 8))), (toI (hdA (dropN (getRow (elsA H 0) 0) 9))), (toI (hdA (dropN (getRow (elsA H 0) 0) 10))), (toI (hdA (dropN (getRow (elsA H 0) 0) 11))), (toI (hdA (dropN (getRow (elsA H 0) 0) 12)))⟩, ⟨1, (slN (slotA a 6)), (toI (slotA a 7)), (elsA H 1)⟩)⟩
theorem la31_0_1 (a : List AVal) (H : List ABlk) : (⟨asSls al31_0_1.sh a, asBks al31_0_1.bl H⟩ : St) = en31_0 (al31_0_1.rd (asSls al31_0_1.sh a) (asBks al31_0_1.bl H)).1 (al31_0_1.rd (asSls al31_0_1.sh a) (asBks al31_0_1.bl H)).2 := by kernel_rfl
noncomputable def as31_0 : List (Alt Pg31_0 Sg31_0) := [al31_0_0, al31_0_1]
theorem lo31_0 (s : St) : Below ((loopL 0 [1, 2, 6, 7] as31_0 st31_0 xs31_0) s) (exec (En tb31u) 0 (.loop [1, 2, 6, 7] l31_0) s) :=
  loopL_below (E := En tb31u) (enc := en31_0) (body := (.pc l31_0)) (alts := as31_0) (xs := xs31_0) (.pc _) rfl (.cons la31_0_0 (.cons la31_0_1 .nil)) (.cons nx31_0_1 (.cons nx31_0_2 (.cons nx31_0_3 (.cons nx31_0_4 .nil)))) (fun p s => sp31_0 p s) s
noncomputable def ps31 : PS := (.seq (.pc (.ops [(o 2 (.box (.t 0))), (o 4 (.mv (.c (.v (.slice none 0 0))))), (o 5 (.mv (cb false)))])) (.seq (.pc (.seq (.ops [(o 10 (.load (ki 13) 13 true (.t 2))), (o 11 (.call 60 [(.t 10)])), (o 12 (.not (.t 11)))]) (.cond (.t 12) (.seq (.ops [(o 4 (.mv (.c (.v (.slice none 0 0))))), (o 5 (.mv (cb false)))]) .ret) .skip))) (.seq (.pc (.ops [(o 6 (.mv (.c (.v (.slice none 0 0)))))])) (.seq (.seq (.pc (.ops [(o 7 (.mv (ci 0)))])) (.block 0 (.sum (loopL 0 [1, 2, 6, 7] as31_0 st31_0 xs31_0)))) (.pc (.seq (.ops [(o 34 (.mv (.t 6))), (o 4 (.mv (.t 34))), (o 5 (.mv (cb true)))]) .ret))))))
theorem sd31 : Stands (En tb31u) 0 ps31 pf31.body := (.seq (.pc _) (.seq (.pc _) (.seq (.pc _) (.seq (.seq (.pc _) (.block _ (.sum lo31_0))) (.pc _)))))
structure Rg31 where
  alt : Nat
  bs1 : Bool
  ns0 : Nat
  eh0 : List (List AVal)
noncomputable def p31u (x : Frm) (y : List Pln) : Rg31 := let t1 := (p60 x); let t2 := (lp (st31_0 (⟨(List.length y), (fun k => rP (gP y k)), x.t.m.r0.x, x.t.m.r0.y, x.t.m.r0.z, x.t.m.r1.x, x.t.m.r1.y, x.t.m.r1.z, x.t.m.r2.x, x.t.m.r2.y, x.t.m.r2.z, x.t.d, x.s.x, x.s.y, x.s.z⟩ : Pg31_0)) (⟨0, 0, 0, []⟩ : Sg31_0)); (sel (g60 x)
 (sel (!t1)
  (⟨1, false, 0, []⟩ : Rg31)
  (sel (Nat.beq t2.1 1)
   (⟨1, false, 0, []⟩ : Rg31)
   (sel (Nat.beq t2.1 2)
    (⟨1, true, 0, []⟩ : Rg31)
    (sel (Nat.beq t2.1 3)
     (⟨1, false, 0, []⟩ : Rg31)
     (sel (Nat.beq t2.1 4)
      (⟨2, false, t2.2.ns6, t2.2.eh1⟩ : Rg31)
      (⟨0, false, 0, []⟩ : Rg31))))))
 (⟨0, false, 0, []⟩ : Rg31))
noncomputable def ko31 (r : Rg31) : DT (AVal × List ABlk) := (.ite (Nat.beq r.alt 1) (.ret ((.tup [(.v (.slice none 0 0)), (b r.bs1)]), [])) (.ite (Nat.beq r.alt 2) (.ret ((.tup [(.sl 0 0 r.ns0 0), (b true)]), [⟨56, 4, r.eh0, true, false, 0⟩])) .fail))
noncomputable def S31u : Sum := sum2 cF cPL (fun x y => ko31 (p31u x y))
theorem r31 (x : Frm) (y : List Pln) (t1 : Bool) (ht1 : t1 = (p60 x)) (t2 : Nat × Sg31_0) (ht2 : t2 = (lp (st31_0 (⟨(List.length y), (fun k => rP (gP y k)), x.t.m.r0.x, x.t.m.r0.y, x.t.m.r0.z, x.t.m.r1.x, x.t.m.r1.y, x.t.m.r1.z, x.t.m.r2.x, x.t.m.r2.y, x.t.m.r2.z, x.t.d, x.s.x, x.s.y, x.s.z⟩ : Pg31_0)) (⟨0, 0, 0, []⟩ : Sg31_0))) : (runS (En tb31u) pf31 ps31 [cF.enc x, cPL.enc y] []).run = (sel (g60 x)
 (sel (!t1)
  (some ((.tup [(.v (.slice none 0 0)), (b false)]), []))
  (sel (Nat.beq t2.1 1)
   (some ((.tup [(.v (.slice none 0 0)), (b false)]), []))
   (sel (Nat.beq t2.1 2)
    (some ((.tup [(.v (.slice none 0 0)), (b true)]), []))
    (sel (Nat.beq t2.1 3)
     (some ((.tup [(.v (.slice none 0 0)), (b false)]), []))
     (sel (Nat.beq t2.1 4)
      (some ((.tup [(.sl 0 0 t2.2.ns6 0), (b true)]), [⟨56, 4, t2.2.eh1, true, false, 0⟩]))
      none)))))
 none) := by subst ht1; subst ht2; kernel_rfl
noncomputable def fo31 : Rg31 → Option (AVal × List ABlk) := fun r => (ko31 r).run
theorem m31 (x : Frm) (y : List Pln) (c1 c2 c3 c4 c5 c6 : Bool) (t2 : Nat × Sg31_0) : fo31 (sel c1
 (sel c2
  (⟨1, false, 0, []⟩ : Rg31)
  (sel c3
   (⟨1, false, 0, []⟩ : Rg31)
   (sel c4
    (⟨1, true, 0, []⟩ : Rg31)
    (sel c5
     (⟨1, false, 0, []⟩ : Rg31)
     (sel c6
      (⟨2, false, t2.2.ns6, t2.2.eh1⟩ : Rg31)
      (⟨0, false, 0, []⟩ : Rg31))))))
 (⟨0, false, 0, []⟩ : Rg31)) = (sel c1
 (sel c2
  (some ((.tup [(.v (.slice none 0 0)), (b false)]), []))
  (sel c3
   (some ((.tup [(.v (.slice none 0 0)), (b false)]), []))
   (sel c4
    (some ((.tup [(.v (.slice none 0 0)), (b true)]), []))
    (sel c5
     (some ((.tup [(.v (.slice none 0 0)), (b false)]), []))
     (sel c6
      (some ((.tup [(.sl 0 0 t2.2.ns6 0), (b true)]), [⟨56, 4, t2.2.eh1, true, false, 0⟩]))
      none)))))
 none) := (stpSel (f := fo31) (stpSel (f := fo31) rfl (stpSel (f := fo31) rfl (stpSel (f := fo31) rfl (stpSel (f := fo31) rfl (stpSel (f := fo31) rfl rfl))))) rfl)
theorem ok31u : FnOk Tryd.prog G 31 S31u := sum2_ok (b31 (E := En tb31u) rfl (tdeps tbo31u)) fun x y r h => runS_below sd31 _ (((r31 x y _ rfl _ rfl).trans (m31 x y _ _ _ _ _ _ _).symm).trans h)

end Go.Ev.T
