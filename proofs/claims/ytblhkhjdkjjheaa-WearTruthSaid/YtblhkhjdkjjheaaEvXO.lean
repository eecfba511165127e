/- Printed: functions of the wear chapter, as plain ones (own work). -/
import Derived.Test.YtblhkhjdkjjheaaEvXC
set_option linter.unusedVariables false
set_option linter.unusedSimpArgs false
set_option linter.unnecessarySimpa false
set_option linter.unusedSectionVars false
namespace Go.Ev.W.X
open Go Go.Ev Go.Ev.Ab Go.Proofs
set_option maxRecDepth 100000
noncomputable def tb25 : List (Nat × Sum) := [(19, S19)]
theorem tbo25 : TblOk Try.prog G tb25 := ⟨ok19, trivial⟩
noncomputable def ps25 : PS := (.pc (.seq (.ops [(o 6 (.mv (ci 0)))]) (.seq (.ops [(o 8 (.mv (.t 1))), (o 9 (.bin .mul (ci 4) (.t 8))), (o 10 (.mv (.t 2))), (o 11 (.bin .add (.t 9) (.t 10))), (o 7 (.mv (.t 11)))]) (.seq (.seq (.ops [(o 12 (.mv (.t 7))), (o 13 (.mv (.t 0))), (o 14 (.len (.t 13))), (o 15 (.bin .geq (.t 12) (.t 14)))]) (.cond (.t 15) (.seq (.ops [(o 6 (.mv (ci 7)))]) .ret) .skip)) (.seq (.ops [(o 16 (.mv (.t 0))), (o 17 (.mv (.t 7))), (o 18 (.idxS 1 (.t 16) (.t 17))), (o 19 (.load (ki 1) 1 false (.t 18))), (o 20 (.call 19 [(.t 19), (ci 31)])), (o 6 (.mv (.t 20)))]) .ret)))))
theorem sd25 : Stands (En tb25) 0 ps25 pf25.body := (.pc _)
noncomputable def p25 (x : IL) (y : Int) (z : Int) : Int := let t1 := (p19 (x.g (W ((W (4 * y)) + z)).toNat) 31); (sel (decide ((W ((W (4 * y)) + z)) ≥ (↑x.n : Int))) 7 t1)
noncomputable def g25 (x : IL) (y : Int) (z : Int) : Bool := let t1 := (p19 (x.g (W ((W (4 * y)) + z)).toNat) 31); ((decide ((W ((W (4 * y)) + z)) ≥ (↑x.n : Int))) || ((inB (W ((W (4 * y)) + z)) x.n) && (g19 (x.g (W ((W (4 * y)) + z)).toNat) 31)))
noncomputable def S25 : Sum := sum3 cL cI cI (fun x y z => DT.guard (g25 x y z) (.ret (i (p25 x y z), [])))
theorem r25 (x : IL) (y : Int) (z : Int) (t1 : Int) (ht1 : t1 = (p19 (x.g (W ((W (4 * y)) + z)).toNat) 31)) : (runS (En tb25) pf25 ps25 [cL.enc x, cI.enc y, cI.enc z] []).run = (sel (decide ((W ((W (4 * y)) + z)) ≥ (↑x.n : Int)))
 (some ((i 7), []))
 (sel (inB (W ((W (4 * y)) + z)) x.n)
  (sel (g19 (x.g (W ((W (4 * y)) + z)).toNat) 31)
   (some ((i t1), []))
   none)
  none)) := by subst ht1; kernel_rfl
theorem m25 (c1 c2 c3 : Bool) (x : IL) (y : Int) (z : Int) (t1 : Int) : ((sel c1
 (some ((i 7), []))
 (sel c2
  (sel c3
   (some ((i t1), []))
   none)
  none)) : Option (AVal × List ABlk)) = (sel (c1 || (c2 && c3)) (some ((i (sel c1 7 t1)), [])) none) := by
 cases c1
 ·
  cases c2
  ·
   rfl
  ·
   cases c3
   ·
    rfl
   ·
    rfl
 ·
  rfl
theorem k25 (x : IL) (y : Int) (z : Int) (t1 : Int) (ht1 : t1 = (p19 (x.g (W ((W (4 * y)) + z)).toNat) 31)) : (DT.guard (g25 x y z) (.ret (i (p25 x y z), [])) : DT (AVal × List ABlk)).run = (sel ((decide ((W ((W (4 * y)) + z)) ≥ (↑x.n : Int))) || ((inB (W ((W (4 * y)) + z)) x.n) && (g19 (x.g (W ((W (4 * y)) + z)).toNat) 31))) (some ((i (sel (decide ((W ((W (4 * y)) + z)) ≥ (↑x.n : Int))) 7 t1)), [])) none) := by subst ht1; rw [run_grd]; kernel_rfl
theorem ok25 : FnOk Try.prog G 25 S25 := sum3_ok (b25 (E := En tb25) rfl (tdeps tbo25)) fun x y z r h => runS_below sd25 _ (((r25 x y z _ rfl).trans (m25 _ _ _ x y z _)).trans ((k25 x y z _ rfl).symm.trans h))
noncomputable def tb26 : List (Nat × Sum) := []
theorem tbo26 : TblOk Try.prog G tb26 := trivial
structure Pg26_0 where
  ns7 : Nat
  gs7 : Nat → List AVal
  is8 : Int
  ih0_0_0 : Int
  ih0_0_1 : Int
  ih0_0_2 : Int
  ih0_0_3 : Int
structure Sg26_0 where
  is9 : Int
noncomputable def h26_0_0 (p : Pg26_0) (s : Sg26_0) : St := ⟨[.unk, .unk, .unk, (.ptr 0 0 0 0), .unk, .unk, .unk, (.tree 4 p.ns7 p.gs7), (i p.is8), (i s.is9), .unk, .unk, .unk, .unk, .unk, .unk, .unk, .unk, .unk, .unk, .unk, .unk, .unk, .unk, .unk, .unk, .unk, .unk], [⟨0, 4, [[(i p.ih0_0_0), (i p.ih0_0_1), (i p.ih0_0_2), (i p.ih0_0_3)]], true, false, 0⟩]⟩
noncomputable def en26_0 (p : Pg26_0) (s : Sg26_0) : St := (h26_0_0 p s)
noncomputable def x26_0_1 (p : Pg26_0) (s : Sg26_0) : XExit × St := (.ret, ⟨[.unk, .unk, .unk, (.ptr 0 0 0 0), (i s.is9), (i s.is9), (.ptr 1 0 0 0), (.tree 4 p.ns7 p.gs7), (i p.is8), (i s.is9), (b (decide (s.is9 < p.is8))), (i s.is9), (.tptr (p.gs7 s.is9.toNat)), (.agg [(i (toI (hdA (p.gs7 s.is9.toNat)))), (i (toI (hdA (tlA (p.gs7 s.is9.toNat))))), (i (toI (hdA (tlA (tlA (p.gs7 s.is9.toNat)))))), (i (toI (hdA (tlA (tlA (tlA (p.gs7 s.is9.toNat)))))))]), (.ptr 1 0 0 0), (i (toI (hdA (p.gs7 s.is9.toNat)))), (.ptr 0 0 0 0), (i p.ih0_0_0), (b ((toI (hdA (p.gs7 s.is9.toNat))) == p.ih0_0_0)), (b true), (.ptr 1 0 1 0), (i (toI (hdA (tlA (p.gs7 s.is9.toNat))))), (.ptr 0 0 1 0), (i p.ih0_0_1), (b ((toI (hdA (tlA (p.gs7 s.is9.toNat)))) == p.ih0_0_1)), (b ((toI (hdA (tlA (p.gs7 s.is9.toNat)))) == p.ih0_0_1)), (i s.is9), .unk], [⟨0, 4, [[(i p.ih0_0_0), (i p.ih0_0_1), (i p.ih0_0_2), (i p.ih0_0_3)]], true, false, 0⟩, ⟨0, 4, [[(i (toI (hdA (p.gs7 s.is9.toNat)))), (i (toI (hdA (tlA (p.gs7 s.is9.toNat))))), (i (toI (hdA (tlA (tlA (p.gs7 s.is9.toNat)))))), (i (toI (hdA (tlA (tlA (tlA (p.gs7 s.is9.toNat)))))))]], true, false, 0⟩]⟩)
theorem nx26_0_1 (p : Pg26_0) (s : Sg26_0) : (x26_0_1 p s).1 ≠ .normal := fun h => by
  have h : XExit.ret = XExit.normal := h
  cases h
noncomputable def x26_0_2 (p : Pg26_0) (s : Sg26_0) : XExit × St := (.exit 0, ⟨[.unk, .unk, .unk, (.ptr 0 0 0 0), .unk, .unk, .unk, (.tree 4 p.ns7 p.gs7), (i p.is8), (i s.is9), (b (decide (s.is9 < p.is8))), .unk, .unk, .unk, .unk, .unk, .unk, .unk, .unk, .unk, .unk, .unk, .unk, .unk, .unk, .unk, .unk, .unk], [⟨0, 4, [[(i p.ih0_0_0), (i p.ih0_0_1), (i p.ih0_0_2), (i p.ih0_0_3)]], true, false, 0⟩]⟩)
theorem nx26_0_2 (p : Pg26_0) (s : Sg26_0) : (x26_0_2 p s).1 ≠ .normal := fun h => by
  have h : XExit.exit 0 = XExit.normal := h
  cases h
noncomputable def xs26_0 : List (Pg26_0 → Sg26_0 → XExit × St) := [x26_0_1, x26_0_2]
@[reducible] def l26_0 : PC := (.seq (.ops [(o 10 (.bin .lss (.t 9) (.t 8)))]) (.seq (.cond (.t 10) .skip (.exit 0)) (.seq (.block 1 (.seq (.ops [(o 11 (.mv (.t 9))), (o 12 (.idxS 4 (.t 7) (.t 9))), (o 13 (.load (ki 4) 4 true (.t 12))), (o 6 (.alloc (rep 4 (vi 0)))), (o 5 (.mv (.t 11))), (s (.store 4 (.t 6) (.t 13)))]) (.seq (.ops [(o 14 (.fld 0 (.t 6))), (o 15 (.load (ki 1) 1 false (.t 14))), (o 16 (.fld 0 (.t 3))), (o 17 (.load (ki 1) 1 false (.t 16))), (o 18 (.bin .eql (.t 15) (.t 17))), (o 19 (.mv (.t 18))), ⟨(.some 20), (.some (19, true)), [], (.fld 1 (.t 6))⟩, ⟨(.some 21), (.some (19, true)), [], (.load (ki 1) 1 false (.t 20))⟩, ⟨(.some 22), (.some (19, true)), [], (.fld 1 (.t 3))⟩, ⟨(.some 23), (.some (19, true)), [], (.load (ki 1) 1 false (.t 22))⟩, ⟨(.some 24), (.some (19, true)), [], (.bin .eql (.t 21) (.t 23))⟩, (o 25 (.pick (.t 19) (.t 24) (cb false)))]) (.cond (.t 25) (.seq (.ops [(o 26 (.mv (.t 5))), (o 4 (.mv (.t 26)))]) .ret) .skip)))) (.ops [(o 27 (.bin .add (.t 9) (ci 1))), (o 9 (.mv (.t 27)))]))))
noncomputable def fo26_0 (p : Pg26_0) (s : Sg26_0) : Stp Sg26_0 → Option (XExit × St) := onStp (fun s' => some (.normal, en26_0 p s')) (fun t => xAt xs26_0 p s t 1) none
theorem rd26_0_0 (p : Pg26_0) (s : Sg26_0)  : (roundE (En tb26) 0 [3, 7, 8, 9] (.pc l26_0) (h26_0_0 p s)).run = (sel (decide (s.is9 < p.is8))
 (sel (inB s.is9 p.ns7)
  (sel ((Nat.ble 4 (len (p.gs7 s.is9.toNat))) && (okCKs [(CK.int .i64), (CK.int .i64), (CK.int .i64), (CK.int .i64)] (p.gs7 s.is9.toNat)))
  (sel ((toI (hdA (p.gs7 s.is9.toNat))) == p.ih0_0_0)
  (sel ((toI (hdA (tlA (p.gs7 s.is9.toNat)))) == p.ih0_0_1)
  (some (x26_0_1 p s))
  (some (.normal, h26_0_0 p ⟨(W (s.is9 + 1))⟩)))
  (some (.normal, h26_0_0 p ⟨(W (s.is9 + 1))⟩)))
  none)
  none)
 (some (x26_0_2 p s))) := by kernel_rfl
noncomputable def su26_0_0 (p : Pg26_0) (s : Sg26_0) : Stp Sg26_0 := (sel (decide (s.is9 < p.is8))
 (sel (inB s.is9 p.ns7)
  (sel ((Nat.ble 4 (len (p.gs7 s.is9.toNat))) && (okCKs [(CK.int .i64), (CK.int .i64), (CK.int .i64), (CK.int .i64)] (p.gs7 s.is9.toNat)))
  (sel ((toI (hdA (p.gs7 s.is9.toNat))) == p.ih0_0_0)
  (sel ((toI (hdA (tlA (p.gs7 s.is9.toNat)))) == p.ih0_0_1)
  (.exit 1)
  (.next ⟨(W (s.is9 + 1))⟩))
  (.next ⟨(W (s.is9 + 1))⟩))
  .fail)
  .fail)
 (.exit 2))
theorem q26_0_0 (p : Pg26_0) (s : Sg26_0) (c1 c2 c3 c4 c5 : Bool)  : (fo26_0 p s) (sel c1
 (sel c2
  (sel c3
  (sel c4
  (sel c5
  (.exit 1)
  (.next ⟨(W (s.is9 + 1))⟩))
  (.next ⟨(W (s.is9 + 1))⟩))
  .fail)
  .fail)
 (.exit 2)) = (sel c1
 (sel c2
  (sel c3
  (sel c4
  (sel c5
  (some (x26_0_1 p s))
  (some (.normal, h26_0_0 p ⟨(W (s.is9 + 1))⟩)))
  (some (.normal, h26_0_0 p ⟨(W (s.is9 + 1))⟩)))
  none)
  none)
 (some (x26_0_2 p s))) := (stpSel (f := (fo26_0 p s)) (stpSel (f := (fo26_0 p s)) (stpSel (f := (fo26_0 p s)) (stpSel (f := (fo26_0 p s)) (stpSel (f := (fo26_0 p s)) rfl rfl) rfl) rfl) rfl) rfl)
theorem sp26_0_0 (p : Pg26_0) (s : Sg26_0) : (roundE (En tb26) 0 [3, 7, 8, 9] (.pc l26_0) (h26_0_0 p s)).run = fo26_0 p s (su26_0_0 p s) := (rd26_0_0 p s ).trans (q26_0_0 p s _ _ _ _ _).symm
noncomputable def st26_0 (p : Pg26_0) (s : Sg26_0) : Stp Sg26_0 := (su26_0_0 p s)
theorem sp26_0 (p : Pg26_0) (s : Sg26_0) : (roundE (En tb26) 0 [3, 7, 8, 9] (.pc l26_0) (en26_0 p s)).run = fo26_0 p s (st26_0 p s) := by
  show (roundE (En tb26) 0 [3, 7, 8, 9] (.pc l26_0) (h26_0_0 p s)).run = fo26_0 p s (su26_0_0 p s)
  exact sp26_0_0 p s
noncomputable def al26_0_0 : Alt Pg26_0 Sg26_0 := ⟨[(.s .unk), (.s .unk), (.s .unk), (.s (.ptr 0 0 0 0)), (.s .unk), (.s .unk), (.s .unk), (.s (.tree 4)), (.s (.int .i64)), (.s (.int .i64)), (.s .unk), (.s .unk), (.s .unk), (.s .unk), (.s .unk), (.s .unk), (.s .unk), (.s .unk), (.s .unk), (.s .unk), (.s .unk), (.s .unk), (.s .unk), (.s .unk), (.s .unk), (.s .unk), (.s .unk), (.s .unk)], [⟨0, 4, true, (some [[(.int .i64), (.int .i64), (.int .i64), (.int .i64)]])⟩], fun a H => (⟨(toN (slotA a 7)), (toG (slotA a 7)), (toI (slotA a 8)), (toI (hdA (dropN (getRow (elsA H 0) 0) 0))), (toI (hdA (dropN (getRow (elsA H 0) 0) 1))), (toI (hdA (dropN (getRow (elsA H 0) 0) 2))), (toI (hdA (dropN (getRow (elsA H 0) 0) 3)))⟩, ⟨(toI (slotA a 9))⟩)⟩
theorem la26_0_0 (a : List AVal) (H : List ABlk) : (⟨asSls al26_0_0.sh a, asBks al26_0_0.bl H⟩ : St) = en26_0 (al26_0_0.rd (asSls al26_0_0.sh a) (asBks al26_0_0.bl H)).1 (al26_0_0.rd (asSls al26_0_0.sh a) (asBks al26_0_0.bl H)).2 := by kernel_rfl
noncomputable def as26_0 : List (Alt Pg26_0 Sg26_0) := [al26_0_0]
theorem lo26_0 (s : St) : Below ((loopL 0 [3, 7, 8, 9] as26_0 st26_0 xs26_0) s) (exec (En tb26) 0 (.loop [3, 7, 8, 9] l26_0) s) :=
  loopL_below (E := En tb26) (enc := en26_0) (body := (.pc l26_0)) (alts := as26_0) (xs := xs26_0) (.pc _) rfl (.cons la26_0_0 .nil) (.cons nx26_0_1 (.cons nx26_0_2 .nil)) (fun p s => sp26_0 p s) s
noncomputable def ps26 : PS := (.seq (.pc (.ops [(o 3 (.box (.t 1))), (o 4 (.mv (ci 0)))])) (.seq (.seq (.pc (.ops [(o 7 (.mv (.t 0))), (o 8 (.len (.t 7))), (o 9 (.mv (ci 0)))])) (.block 0 (.sum (loopL 0 [3, 7, 8, 9] as26_0 st26_0 xs26_0)))) (.pc (.seq (.ops [(o 4 (.mv (ci (-1))))]) .ret))))
theorem sd26 : Stands (En tb26) 0 ps26 pf26.body := (.seq (.pc _) (.seq (.seq (.pc _) (.block _ (.sum lo26_0))) (.pc _)))
noncomputable def p26 (x : List Ent) (y : Ent) : Int := let t1 := (lp (st26_0 (⟨(List.length x), (fun k => rE (gE x k)), (↑(List.length x) : Int), y.t, y.o, y.l, y.h⟩ : Pg26_0)) (⟨0⟩ : Sg26_0)); (sel (Nat.beq t1.1 1) t1.2.is9 (-1))
noncomputable def g26 (x : List Ent) (y : Ent) : Bool := let t1 := (lp (st26_0 (⟨(List.length x), (fun k => rE (gE x k)), (↑(List.length x) : Int), y.t, y.o, y.l, y.h⟩ : Pg26_0)) (⟨0⟩ : Sg26_0)); ((Nat.beq t1.1 1) || (Nat.beq t1.1 2))
noncomputable def S26 : Sum := sum2 cEL cN (fun x y => DT.guard (g26 x y) (.ret (i (p26 x y), [])))
theorem r26 (x : List Ent) (y : Ent) (t1 : Nat × Sg26_0) (ht1 : t1 = (lp (st26_0 (⟨(List.length x), (fun k => rE (gE x k)), (↑(List.length x) : Int), y.t, y.o, y.l, y.h⟩ : Pg26_0)) (⟨0⟩ : Sg26_0))) : (runS (En tb26) pf26 ps26 [cEL.enc x, cN.enc y] []).run = (sel (Nat.beq t1.1 1)
 (some ((i t1.2.is9), []))
 (sel (Nat.beq t1.1 2)
  (some ((i (-1)), []))
  none)) := by subst ht1; kernel_rfl
theorem m26 (c1 c2 : Bool) (x : List Ent) (y : Ent) (t1 : Nat × Sg26_0) : ((sel c1
 (some ((i t1.2.is9), []))
 (sel c2
  (some ((i (-1)), []))
  none)) : Option (AVal × List ABlk)) = (sel (c1 || c2) (some ((i (sel c1 t1.2.is9 (-1))), [])) none) := by
 cases c1
 ·
  cases c2
  ·
   rfl
  ·
   rfl
 ·
  rfl
theorem k26 (x : List Ent) (y : Ent) (t1 : Nat × Sg26_0) (ht1 : t1 = (lp (st26_0 (⟨(List.length x), (fun k => rE (gE x k)), (↑(List.length x) : Int), y.t, y.o, y.l, y.h⟩ : Pg26_0)) (⟨0⟩ : Sg26_0))) : (DT.guard (g26 x y) (.ret (i (p26 x y), [])) : DT (AVal × List ABlk)).run = (sel ((Nat.beq t1.1 1) || (Nat.beq t1.1 2)) (some ((i (sel (Nat.beq t1.1 1) t1.2.is9 (-1))), [])) none) := by subst ht1; rw [run_grd]; kernel_rfl
theorem ok26 : FnOk Try.prog G 26 S26 := sum2_ok (b26 (E := En tb26) rfl (tdeps tbo26)) fun x y r h => runS_below sd26 _ (((r26 x y _ rfl).trans (m26 _ _ x y _)).trans ((k26 x y _ rfl).symm.trans h))
noncomputable def tb24u : List (Nat × Sum) := [(25, S25)]
theorem tbo24u : TblOk Try.prog G tb24u := ⟨ok25, trivial⟩
structure Pg24_0 where
  ns1 : Nat
  gs1 : Nat → List AVal
  ns9 : Nat
  gs9 : Nat → List AVal
  is10 : Int
structure Sg24_0 where
  ph : Nat
  is11 : Int
  ns5 : Nat
  eh0 : List (List AVal)
noncomputable def h24_0_0 (p : Pg24_0) (s : Sg24_0) : St := ⟨[.unk, (.tree 1 p.ns1 p.gs1), .unk, .unk, .unk, (.v (.slice none 0 0)), .unk, .unk, .unk, (.tree 4 p.ns9 p.gs9), (i p.is10), (i s.is11), .unk, .unk, .unk, .unk, .unk, .unk, .unk, .unk, .unk, .unk, .unk, .unk, .unk, .unk, .unk, .unk, .unk, .unk, .unk, .unk, .unk, .unk, .unk, .unk, .unk], []⟩
noncomputable def h24_0_1 (p : Pg24_0) (s : Sg24_0) : St := ⟨[.unk, (.tree 1 p.ns1 p.gs1), .unk, .unk, .unk, (.sl 0 0 s.ns5 0), .unk, .unk, .unk, (.tree 4 p.ns9 p.gs9), (i p.is10), (i s.is11), .unk, .unk, .unk, .unk, .unk, .unk, .unk, .unk, .unk, .unk, .unk, .unk, .unk, .unk, .unk, .unk, .unk, .unk, .unk, .unk, .unk, .unk, .unk, .unk, .unk], [⟨27, 4, s.eh0, true, false, 0⟩]⟩
noncomputable def en24_0 (p : Pg24_0) (s : Sg24_0) : St := (sel (Nat.beq s.ph 1) (h24_0_1 p s) (h24_0_0 p s))
noncomputable def x24_0_1 (p : Pg24_0) (s : Sg24_0) : XExit × St := (.exit 0, ⟨[.unk, (.tree 1 p.ns1 p.gs1), .unk, .unk, .unk, (.v (.slice none 0 0)), .unk, .unk, .unk, (.tree 4 p.ns9 p.gs9), (i p.is10), (i s.is11), (b (decide (s.is11 < p.is10))), .unk, .unk, .unk, .unk, .unk, .unk, .unk, .unk, .unk, .unk, .unk, .unk, .unk, .unk, .unk, .unk, .unk, .unk, .unk, .unk, .unk, .unk, .unk, .unk], []⟩)
theorem nx24_0_1 (p : Pg24_0) (s : Sg24_0) : (x24_0_1 p s).1 ≠ .normal := fun h => by
  have h : XExit.exit 0 = XExit.normal := h
  cases h
noncomputable def x24_0_2 (p : Pg24_0) (s : Sg24_0) : XExit × St := (.exit 0, ⟨[.unk, (.tree 1 p.ns1 p.gs1), .unk, .unk, .unk, (.sl 0 0 s.ns5 0), .unk, .unk, .unk, (.tree 4 p.ns9 p.gs9), (i p.is10), (i s.is11), (b (decide (s.is11 < p.is10))), .unk, .unk, .unk, .unk, .unk, .unk, .unk, .unk, .unk, .unk, .unk, .unk, .unk, .unk, .unk, .unk, .unk, .unk, .unk, .unk, .unk, .unk, .unk, .unk], [⟨27, 4, s.eh0, true, false, 0⟩]⟩)
theorem nx24_0_2 (p : Pg24_0) (s : Sg24_0) : (x24_0_2 p s).1 ≠ .normal := fun h => by
  have h : XExit.exit 0 = XExit.normal := h
  cases h
noncomputable def xs24_0 : List (Pg24_0 → Sg24_0 → XExit × St) := [x24_0_1, x24_0_2]
@[reducible] def l24_0 : PC := (.seq (.ops [(o 12 (.bin .lss (.t 11) (.t 10)))]) (.seq (.cond (.t 12) .skip (.exit 0)) (.seq (.block 1 (.seq (.ops [(o 13 (.idxS 4 (.t 9) (.t 11))), (o 14 (.load (ki 4) 4 true (.t 13))), (o 7 (.alloc (rep 4 (vi 0)))), (s (.store 4 (.t 7) (.t 14)))]) (.seq (.ops [(o 15 (.mv (.t 1))), (o 16 (.fld 0 (.t 7))), (o 17 (.load (ki 1) 1 false (.t 16))), (o 18 (.fld 1 (.t 7))), (o 19 (.load (ki 1) 1 false (.t 18))), (o 20 (.call 25 [(.t 15), (.t 17), (.t 19)])), (o 8 (.mv (.t 20)))]) (.seq (.ops [(o 21 (.fld 2 (.t 7))), (o 22 (.load (ki 1) 1 false (.t 21))), (o 23 (.mv (.t 8))), (o 24 (.gen ⟨none, (.call ⟨(.builtin .min), #[(.tmp 22), (.tmp 23)], #[3, 3]⟩), 3, "", #[], none⟩ [22, 23])), (o 25 (.fld 3 (.t 7))), (o 26 (.load (ki 1) 1 false (.t 25))), (o 27 (.mv (.t 8))), (o 28 (.gen ⟨none, (.call ⟨(.builtin .max), #[(.tmp 26), (.tmp 27)], #[3, 3]⟩), 3, "", #[], none⟩ [26, 27])), (o 29 (.fld 2 (.t 7))), (s (.store 1 (.t 29) (.t 24))), (o 30 (.fld 3 (.t 7))), (s (.store 1 (.t 30) (.t 28)))]) (.ops [(o 31 (.mv (.t 5))), (o 32 (.load (ki 4) 4 true (.t 7))), (o 33 (.bslice 27 4 1 (rep 4 (vi 0)) [(0, (4, (.t 32)))])), (o 34 (.append 27 4 32 (.t 31) (.t 33))), (o 5 (.mv (.t 34)))]))))) (.ops [(o 35 (.bin .add (.t 11) (ci 1))), (o 11 (.mv (.t 35)))]))))
noncomputable def fo24_0 (p : Pg24_0) (s : Sg24_0) : Stp Sg24_0 → Option (XExit × St) := onStp (fun s' => some (.normal, en24_0 p s')) (fun t => xAt xs24_0 p s t 1) none
theorem rd24_0_0 (p : Pg24_0) (s : Sg24_0) (t1 : Int) (ht1 : t1 = (p25 (⟨p.ns1, fun k => toI (hdA (p.gs1 k))⟩ : IL) (toI (hdA (p.gs9 s.is11.toNat))) (toI (hdA (tlA (p.gs9 s.is11.toNat)))))) : (roundE (En tb24u) 0 [1, 5, 9, 10, 11] (.pc l24_0) (h24_0_0 p s)).run = (sel (decide (s.is11 < p.is10))
 (sel (inB s.is11 p.ns9)
  (sel ((Nat.ble 4 (len (p.gs9 s.is11.toNat))) && (okCKs [(CK.int .i64), (CK.int .i64), (CK.int .i64), (CK.int .i64)] (p.gs9 s.is11.toNat)))
  (sel (okInts p.ns1 p.gs1)
  (sel (g25 (⟨p.ns1, fun k => toI (hdA (p.gs1 k))⟩ : IL) (toI (hdA (p.gs9 s.is11.toNat))) (toI (hdA (tlA (p.gs9 s.is11.toNat)))))
  (some (.normal, h24_0_1 p ⟨1, (W (s.is11 + 1)), 1, [[(i (toI (hdA (p.gs9 s.is11.toNat)))), (i (toI (hdA (tlA (p.gs9 s.is11.toNat))))), (i (if t1 < (toI (hdA (tlA (tlA (p.gs9 s.is11.toNat))))) then t1 else (toI (hdA (tlA (tlA (p.gs9 s.is11.toNat))))))), (i (if t1 > (toI (hdA (tlA (tlA (tlA (p.gs9 s.is11.toNat)))))) then t1 else (toI (hdA (tlA (tlA (tlA (p.gs9 s.is11.toNat))))))))]]⟩))
  none)
  none)
  none)
  none)
 (some (x24_0_1 p s))) := by subst ht1; kernel_rfl
noncomputable def su24_0_0 (p : Pg24_0) (s : Sg24_0) : Stp Sg24_0 := let t1 := (p25 (⟨p.ns1, fun k => toI (hdA (p.gs1 k))⟩ : IL) (toI (hdA (p.gs9 s.is11.toNat))) (toI (hdA (tlA (p.gs9 s.is11.toNat))))); (sel (decide (s.is11 < p.is10))
 (sel (inB s.is11 p.ns9)
  (sel ((Nat.ble 4 (len (p.gs9 s.is11.toNat))) && (okCKs [(CK.int .i64), (CK.int .i64), (CK.int .i64), (CK.int .i64)] (p.gs9 s.is11.toNat)))
  (sel (okInts p.ns1 p.gs1)
  (sel (g25 (⟨p.ns1, fun k => toI (hdA (p.gs1 k))⟩ : IL) (toI (hdA (p.gs9 s.is11.toNat))) (toI (hdA (tlA (p.gs9 s.is11.toNat)))))
  (.next ⟨1, (W (s.is11 + 1)), 1, [[(i (toI (hdA (p.gs9 s.is11.toNat)))), (i (toI (hdA (tlA (p.gs9 s.is11.toNat))))), (i (if t1 < (toI (hdA (tlA (tlA (p.gs9 s.is11.toNat))))) then t1 else (toI (hdA (tlA (tlA (p.gs9 s.is11.toNat))))))), (i (if t1 > (toI (hdA (tlA (tlA (tlA (p.gs9 s.is11.toNat)))))) then t1 else (toI (hdA (tlA (tlA (tlA (p.gs9 s.is11.toNat))))))))]]⟩)
  .fail)
  .fail)
  .fail)
  .fail)
 (.exit 1))
theorem q24_0_0 (p : Pg24_0) (s : Sg24_0) (c1 c2 c3 c4 c5 : Bool) (t1 : Int) : (fo24_0 p s) (sel c1
 (sel c2
  (sel c3
  (sel c4
  (sel c5
  (.next ⟨1, (W (s.is11 + 1)), 1, [[(i (toI (hdA (p.gs9 s.is11.toNat)))), (i (toI (hdA (tlA (p.gs9 s.is11.toNat))))), (i (if t1 < (toI (hdA (tlA (tlA (p.gs9 s.is11.toNat))))) then t1 else (toI (hdA (tlA (tlA (p.gs9 s.is11.toNat))))))), (i (if t1 > (toI (hdA (tlA (tlA (tlA (p.gs9 s.is11.toNat)))))) then t1 else (toI (hdA (tlA (tlA (tlA (p.gs9 s.is11.toNat))))))))]]⟩)
  .fail)
  .fail)
  .fail)
  .fail)
 (.exit 1)) = (sel c1
 (sel c2
  (sel c3
  (sel c4
  (sel c5
  (some (.normal, h24_0_1 p ⟨1, (W (s.is11 + 1)), 1, [[(i (toI (hdA (p.gs9 s.is11.toNat)))), (i (toI (hdA (tlA (p.gs9 s.is11.toNat))))), (i (if t1 < (toI (hdA (tlA (tlA (p.gs9 s.is11.toNat))))) then t1 else (toI (hdA (tlA (tlA (p.gs9 s.is11.toNat))))))), (i (if t1 > (toI (hdA (tlA (tlA (tlA (p.gs9 s.is11.toNat)))))) then t1 else (toI (hdA (tlA (tlA (tlA (p.gs9 s.is11.toNat))))))))]]⟩))
  none)
  none)
  none)
  none)
 (some (x24_0_1 p s))) := (stpSel (f := (fo24_0 p s)) (stpSel (f := (fo24_0 p s)) (stpSel (f := (fo24_0 p s)) (stpSel (f := (fo24_0 p s)) (stpSel (f := (fo24_0 p s)) rfl rfl) rfl) rfl) rfl) rfl)
theorem sp24_0_0 (p : Pg24_0) (s : Sg24_0) : (roundE (En tb24u) 0 [1, 5, 9, 10, 11] (.pc l24_0) (h24_0_0 p s)).run = fo24_0 p s (su24_0_0 p s) := (rd24_0_0 p s _ rfl).trans (q24_0_0 p s _ _ _ _ _ _).symm
theorem rd24_0_1 (p : Pg24_0) (s : Sg24_0) (t1 : Int) (ht1 : t1 = (p25 (⟨p.ns1, fun k => toI (hdA (p.gs1 k))⟩ : IL) (toI (hdA (p.gs9 s.is11.toNat))) (toI (hdA (tlA (p.gs9 s.is11.toNat)))))) : (roundE (En tb24u) 0 [1, 5, 9, 10, 11] (.pc l24_0) (h24_0_1 p s)).run = (sel (decide (s.is11 < p.is10))
 (sel (inB s.is11 p.ns9)
  (sel ((Nat.ble 4 (len (p.gs9 s.is11.toNat))) && (okCKs [(CK.int .i64), (CK.int .i64), (CK.int .i64), (CK.int .i64)] (p.gs9 s.is11.toNat)))
  (sel (okInts p.ns1 p.gs1)
  (sel (g25 (⟨p.ns1, fun k => toI (hdA (p.gs1 k))⟩ : IL) (toI (hdA (p.gs9 s.is11.toNat))) (toI (hdA (tlA (p.gs9 s.is11.toNat)))))
  (sel (Nat.beq s.ns5 (len s.eh0) && Nat.ble ((s.ns5 + 1) * 32) room)
  (some (.normal, h24_0_1 p ⟨1, (W (s.is11 + 1)), (s.ns5 + 1), (app s.eh0 [[(i (toI (hdA (p.gs9 s.is11.toNat)))), (i (toI (hdA (tlA (p.gs9 s.is11.toNat))))), (i (if t1 < (toI (hdA (tlA (tlA (p.gs9 s.is11.toNat))))) then t1 else (toI (hdA (tlA (tlA (p.gs9 s.is11.toNat))))))), (i (if t1 > (toI (hdA (tlA (tlA (tlA (p.gs9 s.is11.toNat)))))) then t1 else (toI (hdA (tlA (tlA (tlA (p.gs9 s.is11.toNat))))))))]])⟩))
  none)
  none)
  none)
  none)
  none)
 (some (x24_0_2 p s))) := by subst ht1; kernel_rfl
noncomputable def su24_0_1 (p : Pg24_0) (s : Sg24_0) : Stp Sg24_0 := let t1 := (p25 (⟨p.ns1, fun k => toI (hdA (p.gs1 k))⟩ : IL) (toI (hdA (p.gs9 s.is11.toNat))) (toI (hdA (tlA (p.gs9 s.is11.toNat))))); (sel (decide (s.is11 < p.is10))
 (sel (inB s.is11 p.ns9)
  (sel ((Nat.ble 4 (len (p.gs9 s.is11.toNat))) && (okCKs [(CK.int .i64), (CK.int .i64), (CK.int .i64), (CK.int .i64)] (p.gs9 s.is11.toNat)))
  (sel (okInts p.ns1 p.gs1)
  (sel (g25 (⟨p.ns1, fun k => toI (hdA (p.gs1 k))⟩ : IL) (toI (hdA (p.gs9 s.is11.toNat))) (toI (hdA (tlA (p.gs9 s.is11.toNat)))))
  (sel (Nat.beq s.ns5 (len s.eh0) && Nat.ble ((s.ns5 + 1) * 32) room)
  (.next ⟨1, (W (s.is11 + 1)), (s.ns5 + 1), (app s.eh0 [[(i (toI (hdA (p.gs9 s.is11.toNat)))), (i (toI (hdA (tlA (p.gs9 s.is11.toNat))))), (i (if t1 < (toI (hdA (tlA (tlA (p.gs9 s.is11.toNat))))) then t1 else (toI (hdA (tlA (tlA (p.gs9 s.is11.toNat))))))), (i (if t1 > (toI (hdA (tlA (tlA (tlA (p.gs9 s.is11.toNat)))))) then t1 else (toI (hdA (tlA (tlA (tlA (p.gs9 s.is11.toNat))))))))]])⟩)
  .fail)
  .fail)
  .fail)
  .fail)
  .fail)
 (.exit 2))
theorem q24_0_1 (p : Pg24_0) (s : Sg24_0) (c1 c2 c3 c4 c5 c6 : Bool) (t1 : Int) : (fo24_0 p s) (sel c1
 (sel c2
  (sel c3
  (sel c4
  (sel c5
  (sel c6
  (.next ⟨1, (W (s.is11 + 1)), (s.ns5 + 1), (app s.eh0 [[(i (toI (hdA (p.gs9 s.is11.toNat)))), (i (toI (hdA (tlA (p.gs9 s.is11.toNat))))), (i (if t1 < (toI (hdA (tlA (tlA (p.gs9 s.is11.toNat))))) then t1 else (toI (hdA (tlA (tlA (p.gs9 s.is11.toNat))))))), (i (if t1 > (toI (hdA (tlA (tlA (tlA (p.gs9 s.is11.toNat)))))) then t1 else (toI (hdA (tlA (tlA (tlA (p.gs9 s.is11.toNat))))))))]])⟩)
  .fail)
  .fail)
  .fail)
  .fail)
  .fail)
 (.exit 2)) = (sel c1
 (sel c2
  (sel c3
  (sel c4
  (sel c5
  (sel c6
  (some (.normal, h24_0_1 p ⟨1, (W (s.is11 + 1)), (s.ns5 + 1), (app s.eh0 [[(i (toI (hdA (p.gs9 s.is11.toNat)))), (i (toI (hdA (tlA (p.gs9 s.is11.toNat))))), (i (if t1 < (toI (hdA (tlA (tlA (p.gs9 s.is11.toNat))))) then t1 else (toI (hdA (tlA (tlA (p.gs9 s.is11.toNat))))))), (i (if t1 > (toI (hdA (tlA (tlA (tlA (p.gs9 s.is11.toNat)))))) then t1 else (toI (hdA (tlA (tlA (tlA (p.gs9 s.is11.toNat))))))))]])⟩))
  none)
  none)
  none)
  none)
  none)
 (some (x24_0_2 p s))) := (stpSel (f := (fo24_0 p s)) (stpSel (f := (fo24_0 p s)) (stpSel (f := (fo24_0 p s)) (stpSel (f := (fo24_0 p s)) (stpSel (f := (fo24_0 p s)) (stpSel (f := (fo24_0 p s)) rfl rfl) rfl) rfl) rfl) rfl) rfl)
theorem sp24_0_1 (p : Pg24_0) (s : Sg24_0) : (roundE (En tb24u) 0 [1, 5, 9, 10, 11] (.pc l24_0) (h24_0_1 p s)).run = fo24_0 p s (su24_0_1 p s) := (rd24_0_1 p s _ rfl).trans (q24_0_1 p s _ _ _ _ _ _ _).symm
noncomputable def st24_0 (p : Pg24_0) (s : Sg24_0) : Stp Sg24_0 := (sel (Nat.beq s.ph 1) (su24_0_1 p s) (su24_0_0 p s))
theorem sp24_0 (p : Pg24_0) (s : Sg24_0) : (roundE (En tb24u) 0 [1, 5, 9, 10, 11] (.pc l24_0) (en24_0 p s)).run = fo24_0 p s (st24_0 p s) := by
  show (roundE (En tb24u) 0 [1, 5, 9, 10, 11] (.pc l24_0) (sel (Nat.beq s.ph 1) (h24_0_1 p s) (h24_0_0 p s))).run = fo24_0 p s (sel (Nat.beq s.ph 1) (su24_0_1 p s) (su24_0_0 p s))
  cases Nat.beq s.ph 1 with
  | true => exact sp24_0_1 p s
  | false =>
  exact sp24_0_0 p s
noncomputable def al24_0_0 : Alt Pg24_0 Sg24_0 := ⟨[(.s .unk), (.s (.tree 1)), (.s .unk), (.s .unk), (.s .unk), (.s .nil), (.s .unk), (.s .unk), (.s .unk), (.s (.tree 4)), (.s (.int .i64)), (.s (.int .i64)), (.s .unk), (.s .unk), (.s .unk), (.s .unk), (.s .unk), (.s .unk), (.s .unk), (.s .unk), (.s .unk), (.s .unk), (.s .unk), (.s .unk), (.s .unk), (.s .unk), (.s .unk), (.s .unk), (.s .unk), (.s .unk), (.s .unk), (.s .unk), (.s .unk), (.s .unk), (.s .unk), (.s .unk), (.s .unk)], [], fun a H => (⟨(toN (slotA a 1)), (toG (slotA a 1)), (toN (slotA a 9)), (toG (slotA a 9)), (toI (slotA a 10))⟩, ⟨0, (toI (slotA a 11)), 0, []⟩)⟩
theorem la24_0_0 (a : List AVal) (H : List ABlk) : (⟨asSls al24_0_0.sh a, asBks al24_0_0.bl H⟩ : St) = en24_0 (al24_0_0.rd (asSls al24_0_0.sh a) (asBks al24_0_0.bl H)).1 (al24_0_0.rd (asSls al24_0_0.sh a) (asBks al24_0_0.bl H)).2 := by kernel_rfl
noncomputable def al24_0_1 : Alt Pg24_0 Sg24_0 := ⟨[(.s .unk), (.s (.tree 1)), (.s .unk), (.s .unk), (.s .unk), (.s (.sl 0 0 (some 0) none)), (.s .unk), (.s .unk), (.s .unk), (.s (.tree 4)), (.s (.int .i64)), (.s (.int .i64)), (.s .unk), (.s .unk), (.s .unk), (.s .unk), (.s .unk), (.s .unk), (.s .unk), (.s .unk), (.s .unk), (.s .unk), (.s .unk), (.s .unk), (.s .unk), (.s .unk), (.s .unk), (.s .unk), (.s .unk), (.s .unk), (.s .unk), (.s .unk), (.s .unk), (.s .unk), (.s .unk), (.s .unk), (.s .unk)], [⟨27, 4, true, none⟩], fun a H => (⟨(toN (slotA a 1)), (toG (slotA a 1)), (toN (slotA a 9)), (toG (slotA a 9)), (toI (slotA a 10))⟩, ⟨1, (toI (slotA a 11)), (slN (slotA a 5)), (elsA H 0)⟩)⟩
theorem la24_0_1 (a : List AVal) (H : List ABlk) : (⟨asSls al24_0_1.sh a, asBks al24_0_1.bl H⟩ : St) = en24_0 (al24_0_1.rd (asSls al24_0_1.sh a) (asBks al24_0_1.bl H)).1 (al24_0_1.rd (asSls al24_0_1.sh a) (asBks al24_0_1.bl H)).2 := by kernel_rfl
noncomputable def as24_0 : List (Alt Pg24_0 Sg24_0) := [al24_0_0, al24_0_1]
theorem lo24_0 (s : St) : Below ((loopL 0 [1, 5, 9, 10, 11] as24_0 st24_0 xs24_0) s) (exec (En tb24u) 0 (.loop [1, 5, 9, 10, 11] l24_0) s) :=
  loopL_below (E := En tb24u) (enc := en24_0) (body := (.pc l24_0)) (alts := as24_0) (xs := xs24_0) (.pc _) rfl (.cons la24_0_0 (.cons la24_0_1 .nil)) (.cons nx24_0_1 (.cons nx24_0_2 .nil)) (fun p s => sp24_0 p s) s
noncomputable def ps24 : PS := (.seq (.pc (.ops [(o 4 (.mv (.c (.v (.slice none 0 0)))))])) (.seq (.pc (.ops [(o 5 (.mv (.c (.v (.slice none 0 0)))))])) (.seq (.seq (.pc (.ops [(o 9 (.mv (.t 0))), (o 10 (.len (.t 9))), (o 11 (.mv (ci 0)))])) (.block 0 (.sum (loopL 0 [1, 5, 9, 10, 11] as24_0 st24_0 xs24_0)))) (.pc (.seq (.ops [(o 36 (.mv (.t 5))), (o 4 (.mv (.t 36)))]) .ret)))))
theorem sd24 : Stands (En tb24u) 0 ps24 pf24.body := (.seq (.pc _) (.seq (.pc _) (.seq (.seq (.pc _) (.block _ (.sum lo24_0))) (.pc _))))
structure Rg24 where
  alt : Nat
  ns0 : Nat
  eh0 : List (List AVal)
noncomputable def p24u (x : List Ent) (y : IL) : Rg24 := let t1 := (lp (st24_0 (⟨y.n, (fun k => [i (y.g k)]), (List.length x), (fun k => rE (gE x k)), (↑(List.length x) : Int)⟩ : Pg24_0)) (⟨0, 0, 0, []⟩ : Sg24_0)); (sel (Nat.beq t1.1 1)
 (⟨1, 0, []⟩ : Rg24)
 (sel (Nat.beq t1.1 2)
  (⟨2, t1.2.ns5, t1.2.eh0⟩ : Rg24)
  (⟨0, 0, []⟩ : Rg24)))
noncomputable def ko24 (r : Rg24) : DT (AVal × List ABlk) := (.ite (Nat.beq r.alt 1) (.ret ((.v (.slice none 0 0)), [])) (.ite (Nat.beq r.alt 2) (.ret ((.sl 0 0 r.ns0 0), [⟨27, 4, r.eh0, true, false, 0⟩])) .fail))
noncomputable def S24u : Sum := sum2 cEL cL (fun x y => ko24 (p24u x y))
theorem r24 (x : List Ent) (y : IL) (t1 : Nat × Sg24_0) (ht1 : t1 = (lp (st24_0 (⟨y.n, (fun k => [i (y.g k)]), (List.length x), (fun k => rE (gE x k)), (↑(List.length x) : Int)⟩ : Pg24_0)) (⟨0, 0, 0, []⟩ : Sg24_0))) : (runS (En tb24u) pf24 ps24 [cEL.enc x, cL.enc y] []).run = (sel (Nat.beq t1.1 1)
 (some ((.v (.slice none 0 0)), []))
 (sel (Nat.beq t1.1 2)
  (some ((.sl 0 0 t1.2.ns5 0), [⟨27, 4, t1.2.eh0, true, false, 0⟩]))
  none)) := by subst ht1; kernel_rfl
noncomputable def fo24 : Rg24 → Option (AVal × List ABlk) := fun r => (ko24 r).run
theorem m24 (x : List Ent) (y : IL) (c1 c2 : Bool) (t1 : Nat × Sg24_0) : fo24 (sel c1
 (⟨1, 0, []⟩ : Rg24)
 (sel c2
  (⟨2, t1.2.ns5, t1.2.eh0⟩ : Rg24)
  (⟨0, 0, []⟩ : Rg24))) = (sel c1
 (some ((.v (.slice none 0 0)), []))
 (sel c2
  (some ((.sl 0 0 t1.2.ns5 0), [⟨27, 4, t1.2.eh0, true, false, 0⟩]))
  none)) := (stpSel (f := fo24) rfl (stpSel (f := fo24) rfl rfl))
theorem ok24u : FnOk Try.prog G 24 S24u := sum2_ok (b24 (E := En tb24u) rfl (tdeps tbo24u)) fun x y r h => runS_below sd24 _ (((r24 x y _ rfl).trans (m24 x y _ _ _).symm).trans h)
end Go.Ev.W.X

