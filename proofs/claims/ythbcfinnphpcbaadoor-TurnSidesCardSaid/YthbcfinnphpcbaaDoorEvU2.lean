/- Printed: functions of the geometry chapters, as plain ones (own work). -/
import Derived.Test.YthbcfinnphpcbaaDoorEvU1
set_option linter.unusedVariables false
set_option linter.unusedSimpArgs false
set_option linter.unnecessarySimpa false
set_option linter.unusedSectionVars false
namespace Go.Ev.T
open Go Go.Ev Go.Ev.Ab Go.Proofs
set_option maxRecDepth 100000
noncomputable def tb32 : List (Nat × Sum) := []
theorem tbo32 : TblOk Tryd.prog G tb32 := trivial
structure Pg32_0 where
  ns0 : Nat
  gs0 : Nat → List AVal
  ns1 : Nat
  gs1 : Nat → List AVal
structure Sg32_0 where
  is5 : Int
noncomputable def h32_0_0 (p : Pg32_0) (s : Sg32_0) : St := ⟨[(.tree 4 p.ns0 p.gs0), (.tree 4 p.ns1 p.gs1), .unk, .unk, .unk, (i s.is5), .unk, .unk, .unk, .unk, .unk, .unk, .unk, .unk, .unk, .unk, .unk, .unk, .unk, .unk, .unk, .unk, .unk, .unk, .unk, .unk], []⟩
noncomputable def en32_0 (p : Pg32_0) (s : Sg32_0) : St := (h32_0_0 p s)
noncomputable def x32_0_1 (p : Pg32_0) (s : Sg32_0) : XExit × St := (.ret, ⟨[(.tree 4 p.ns0 p.gs0), (.tree 4 p.ns1 p.gs1), .unk, .unk, (b false), (i s.is5), .unk, .unk, .unk, .unk, .unk, (i s.is5), (.tree 4 p.ns0 p.gs0), (i (↑p.ns0 : Int)), (b (decide (s.is5 < (↑p.ns0 : Int)))), .unk, .unk, (.tree 4 p.ns0 p.gs0), (i s.is5), (.tptr (p.gs0 s.is5.toNat)), (.agg [(i (toI (hdA (p.gs0 s.is5.toNat)))), (i (toI (hdA (tlA (p.gs0 s.is5.toNat))))), (i (toI (hdA (tlA (tlA (p.gs0 s.is5.toNat)))))), (i (toI (hdA (tlA (tlA (tlA (p.gs0 s.is5.toNat)))))))]), (.tree 4 p.ns1 p.gs1), (i s.is5), (.tptr (p.gs1 s.is5.toNat)), (.agg [(i (toI (hdA (p.gs1 s.is5.toNat)))), (i (toI (hdA (tlA (p.gs1 s.is5.toNat))))), (i (toI (hdA (tlA (tlA (p.gs1 s.is5.toNat)))))), (i (toI (hdA (tlA (tlA (tlA (p.gs1 s.is5.toNat)))))))]), (b (!(((toI (hdA (p.gs0 s.is5.toNat))) == (toI (hdA (p.gs1 s.is5.toNat)))) && (((toI (hdA (tlA (p.gs0 s.is5.toNat)))) == (toI (hdA (tlA (p.gs1 s.is5.toNat))))) && (((toI (hdA (tlA (tlA (p.gs0 s.is5.toNat))))) == (toI (hdA (tlA (tlA (p.gs1 s.is5.toNat)))))) && (((toI (hdA (tlA (tlA (tlA (p.gs0 s.is5.toNat)))))) == (toI (hdA (tlA (tlA (tlA (p.gs1 s.is5.toNat))))))) && true))))))], []⟩)
theorem nx32_0_1 (p : Pg32_0) (s : Sg32_0) : (x32_0_1 p s).1 ≠ .normal := fun h => by
  have h : XExit.ret = XExit.normal := h
  cases h
noncomputable def x32_0_2 (p : Pg32_0) (s : Sg32_0) : XExit × St := (.exit 0, ⟨[(.tree 4 p.ns0 p.gs0), (.tree 4 p.ns1 p.gs1), .unk, .unk, .unk, (i s.is5), .unk, .unk, .unk, .unk, .unk, (i s.is5), (.tree 4 p.ns0 p.gs0), (i (↑p.ns0 : Int)), (b (decide (s.is5 < (↑p.ns0 : Int)))), .unk, .unk, .unk, .unk, .unk, .unk, .unk, .unk, .unk, .unk, .unk], []⟩)
theorem nx32_0_2 (p : Pg32_0) (s : Sg32_0) : (x32_0_2 p s).1 ≠ .normal := fun h => by
  have h : XExit.exit 0 = XExit.normal := h
  cases h
noncomputable def xs32_0 : List (Pg32_0 → Sg32_0 → XExit × St) := [x32_0_1, x32_0_2]
@[reducible] def l32_0 : PC := (.seq (.seq (.ops [(o 11 (.mv (.t 5))), (o 12 (.mv (.t 0))), (o 13 (.len (.t 12))), (o 14 (.bin .lss (.t 11) (.t 13)))]) (.cond (.t 14) .skip (.exit 0))) (.seq (.block 1 (.seq (.draw [17, 18, 19, 20, 21, 22, 23, 24, 25] [] [(o 17 (.mv (.t 0))), (o 18 (.mv (.t 5))), (o 19 (.idxS 4 (.t 17) (.t 18))), (o 20 (.load (ki 4) 4 true (.t 19))), (o 21 (.mv (.t 1))), (o 22 (.mv (.t 5))), (o 23 (.idxS 4 (.t 21) (.t 22))), (o 24 (.load (ki 4) 4 true (.t 23))), (o 25 (.eqc true [(0, (.int .i64)), (1, (.int .i64)), (2, (.int .i64)), (3, (.int .i64))] (.t 20) (.t 24)))] []) (.cond (.t 25) (.seq (.ops [(o 4 (.mv (cb false)))]) .ret) .skip))) (.ops [(o 15 (.mv (.t 5))), (o 16 (.bin .add (.t 15) (ci 1))), (o 5 (.mv (.t 16)))])))
noncomputable def fo32_0 (p : Pg32_0) (s : Sg32_0) : Stp Sg32_0 → Option (XExit × St) := onStp (fun s' => some (.normal, en32_0 p s')) (fun t => xAt xs32_0 p s t 1) none
theorem rd32_0_0 (p : Pg32_0) (s : Sg32_0)  : (roundE (En tb32) 0 [0, 1, 5] (.pc l32_0) (h32_0_0 p s)).run = (sel (decide (s.is5 < (↑p.ns0 : Int)))
 (sel (inB s.is5 p.ns0)
  (sel ((Nat.ble 4 (len (p.gs0 s.is5.toNat))) && (okCKs [(CK.int .i64), (CK.int .i64), (CK.int .i64), (CK.int .i64)] (p.gs0 s.is5.toNat)))
   (sel (inB s.is5 p.ns1)
    (sel ((Nat.ble 4 (len (p.gs1 s.is5.toNat))) && (okCKs [(CK.int .i64), (CK.int .i64), (CK.int .i64), (CK.int .i64)] (p.gs1 s.is5.toNat)))
     (sel (!(((toI (hdA (p.gs0 s.is5.toNat))) == (toI (hdA (p.gs1 s.is5.toNat)))) && (((toI (hdA (tlA (p.gs0 s.is5.toNat)))) == (toI (hdA (tlA (p.gs1 s.is5.toNat))))) && (((toI (hdA (tlA (tlA (p.gs0 s.is5.toNat))))) == (toI (hdA (tlA (tlA (p.gs1 s.is5.toNat)))))) && (((toI (hdA (tlA (tlA (tlA (p.gs0 s.is5.toNat)))))) == (toI (hdA (tlA (tlA (tlA (p.gs1 s.is5.toNat))))))) && true)))))
      (some (x32_0_1 p s))
      (some (.normal, h32_0_0 p ⟨(W (s.is5 + 1))⟩)))
     none)
    none)
   none)
  none)
 (some (x32_0_2 p s))) := by kernel_rfl
noncomputable def su32_0_0 (p : Pg32_0) (s : Sg32_0) : Stp Sg32_0 := (sel (decide (s.is5 < (↑p.ns0 : Int)))
 (sel (inB s.is5 p.ns0)
  (sel ((Nat.ble 4 (len (p.gs0 s.is5.toNat))) && (okCKs [(CK.int .i64), (CK.int .i64), (CK.int .i64), (CK.int .i64)] (p.gs0 s.is5.toNat)))
   (sel (inB s.is5 p.ns1)
    (sel ((Nat.ble 4 (len (p.gs1 s.is5.toNat))) && (okCKs [(CK.int .i64), (CK.int .i64), (CK.int .i64), (CK.int .i64)] (p.gs1 s.is5.toNat)))
     (sel (!(((toI (hdA (p.gs0 s.is5.toNat))) == (toI (hdA (p.gs1 s.is5.toNat)))) && (((toI (hdA (tlA (p.gs0 s.is5.toNat)))) == (toI (hdA (tlA (p.gs1 s.is5.toNat))))) && (((toI (hdA (tlA (tlA (p.gs0 s.is5.toNat))))) == (toI (hdA (tlA (tlA (p.gs1 s.is5.toNat)))))) && (((toI (hdA (tlA (tlA (tlA (p.gs0 s.is5.toNat)))))) == (toI (hdA (tlA (tlA (tlA (p.gs1 s.is5.toNat))))))) && true)))))
      (.exit 1)
      (.next ⟨(W (s.is5 + 1))⟩))
     .fail)
    .fail)
   .fail)
  .fail)
 (.exit 2))
theorem q32_0_0 (p : Pg32_0) (s : Sg32_0) (c1 c2 c3 c4 c5 c6 : Bool)  : (fo32_0 p s) (sel c1
 (sel c2
  (sel c3
   (sel c4
    (sel c5
     (sel c6
      (.exit 1)
      (.next ⟨(W (s.is5 + 1))⟩))
     .fail)
    .fail)
   .fail)
  .fail)
 (.exit 2)) = (sel c1
 (sel c2
  (sel c3
   (sel c4
    (sel c5
     (sel c6
      (some (x32_0_1 p s))
      (some (.normal, h32_0_0 p ⟨(W (s.is5 + 1))⟩)))
     none)
    none)
   none)
  none)
 (some (x32_0_2 p s))) := (stpSel (f := (fo32_0 p s)) (stpSel (f := (fo32_0 p s)) (stpSel (f := (fo32_0 p s)) (stpSel (f := (fo32_0 p s)) (stpSel (f := (fo32_0 p s)) (stpSel (f := (fo32_0 p s)) rfl rfl) rfl) rfl) rfl) rfl) rfl)
theorem sp32_0_0 (p : Pg32_0) (s : Sg32_0) : (roundE (En tb32) 0 [0, 1, 5] (.pc l32_0) (h32_0_0 p s)).run = fo32_0 p s (su32_0_0 p s) := (rd32_0_0 p s ).trans (q32_0_0 p s _ _ _ _ _ _).symm
noncomputable def st32_0 (p : Pg32_0) (s : Sg32_0) : Stp Sg32_0 := (su32_0_0 p s)
theorem sp32_0 (p : Pg32_0) (s : Sg32_0) : (roundE (En tb32) 0 [0, 1, 5] (.pc l32_0) (en32_0 p s)).run = fo32_0 p s (st32_0 p s) := by
  show (roundE (En tb32) 0 [0, 1, 5] (.pc l32_0) (h32_0_0 p s)).run = fo32_0 p s (su32_0_0 p s)
  exact sp32_0_0 p s
noncomputable def al32_0_0 : Alt Pg32_0 Sg32_0 := ⟨[(.s (.tree 4)), (.s (.tree 4)), (.s .unk), (.s .unk), (.s .unk), (.s (.int .i64)), (.s .unk), (.s .unk), (.s .unk), (.s .unk), (.s .unk), (.s .unk), (.s .unk), (.s .unk), (.s .unk), (.s .unk), (.s .unk), (.s .unk), (.s .unk), (.s .unk), (.s .unk), (.s .unk), (.s .unk), (.s .unk), (.s .unk), (.s .unk)], [], fun a H => (⟨(toN (slotA a 0)), (toG (slotA a 0)), (toN (slotA a 1)), (toG (slotA a 1))⟩, ⟨(toI (slotA a 5))⟩)⟩
theorem la32_0_0 (a : List AVal) (H : List ABlk) : (⟨asSls al32_0_0.sh a, asBks al32_0_0.bl H⟩ : St) = en32_0 (al32_0_0.rd (asSls al32_0_0.sh a) (asBks al32_0_0.bl H)).1 (al32_0_0.rd (asSls al32_0_0.sh a) (asBks al32_0_0.bl H)).2 := by kernel_rfl
noncomputable def as32_0 : List (Alt Pg32_0 Sg32_0) := [al32_0_0]
theorem lo32_0 (s : St) : Below ((loopL 0 [0, 1, 5] as32_0 st32_0 xs32_0) s) (exec (En tb32) 0 (.loop [0, 1, 5] l32_0) s) :=
  loopL_below (E := En tb32) (enc := en32_0) (body := (.pc l32_0)) (alts := as32_0) (xs := xs32_0) (.pc _) rfl (.cons la32_0_0 .nil) (.cons nx32_0_1 (.cons nx32_0_2 .nil)) (fun p s => sp32_0 p s) s
noncomputable def ps32 : PS := (.seq (.pc (.ops [(o 4 (.mv (cb false)))])) (.seq (.pc (.seq (.ops [(o 6 (.mv (.t 0))), (o 7 (.len (.t 6))), (o 8 (.mv (.t 1))), (o 9 (.len (.t 8))), (o 10 (.bin .neq (.t 7) (.t 9)))]) (.cond (.t 10) (.seq (.ops [(o 4 (.mv (cb false)))]) .ret) .skip))) (.seq (.seq (.pc (.ops [(o 5 (.mv (ci 0)))])) (.block 0 (.sum (loopL 0 [0, 1, 5] as32_0 st32_0 xs32_0)))) (.pc (.seq (.ops [(o 4 (.mv (cb true)))]) .ret)))))
theorem sd32 : Stands (En tb32) 0 ps32 pf32.body := (.seq (.pc _) (.seq (.pc _) (.seq (.seq (.pc _) (.block _ (.sum lo32_0))) (.pc _))))
noncomputable def p32 (x : List Pln) (y : List Pln) : Bool := let t1 := (lp (st32_0 (⟨(List.length x), (fun k => rP (gP x k)), (List.length y), (fun k => rP (gP y k))⟩ : Pg32_0)) (⟨0⟩ : Sg32_0)); ((!((↑(List.length x) : Int) != (↑(List.length y) : Int))) && (!(Nat.beq t1.1 1)))
noncomputable def g32 (x : List Pln) (y : List Pln) : Bool := let t1 := (lp (st32_0 (⟨(List.length x), (fun k => rP (gP x k)), (List.length y), (fun k => rP (gP y k))⟩ : Pg32_0)) (⟨0⟩ : Sg32_0)); (((↑(List.length x) : Int) != (↑(List.length y) : Int)) || ((Nat.beq t1.1 1) || (Nat.beq t1.1 2)))
noncomputable def S32 : Sum := sum2 cPL cPL (fun x y => DT.guard (g32 x y) (.ret (b (p32 x y), [])))
theorem r32 (x : List Pln) (y : List Pln) (t1 : Nat × Sg32_0) (ht1 : t1 = (lp (st32_0 (⟨(List.length x), (fun k => rP (gP x k)), (List.length y), (fun k => rP (gP y k))⟩ : Pg32_0)) (⟨0⟩ : Sg32_0))) : (runS (En tb32) pf32 ps32 [cPL.enc x, cPL.enc y] []).run = (sel ((↑(List.length x) : Int) != (↑(List.length y) : Int))
 (some ((b false), []))
 (sel (Nat.beq t1.1 1)
  (some ((b false), []))
  (sel (Nat.beq t1.1 2)
   (some ((b true), []))
   none))) := by subst ht1; kernel_rfl
theorem m32 (c1 c2 c3 : Bool) (x : List Pln) (y : List Pln)  : ((sel c1
 (some ((b false), []))
 (sel c2
  (some ((b false), []))
  (sel c3
   (some ((b true), []))
   none))) : Option (AVal × List ABlk)) = (sel (c1 || (c2 || c3)) (some ((b ((!c1) && (!c2))), [])) none) := by
 cases c1
 ·
  cases c2
  ·
   cases c3
   ·
    rfl
   ·
    rfl
  ·
   rfl
 ·
  rfl
theorem k32 (x : List Pln) (y : List Pln) (t1 : Nat × Sg32_0) (ht1 : t1 = (lp (st32_0 (⟨(List.length x), (fun k => rP (gP x k)), (List.length y), (fun k => rP (gP y k))⟩ : Pg32_0)) (⟨0⟩ : Sg32_0))) : (DT.guard (g32 x y) (.ret (b (p32 x y), [])) : DT (AVal × List ABlk)).run = (sel (((↑(List.length x) : Int) != (↑(List.length y) : Int)) || ((Nat.beq t1.1 1) || (Nat.beq t1.1 2))) (some ((b ((!((↑(List.length x) : Int) != (↑(List.length y) : Int))) && (!(Nat.beq t1.1 1)))), [])) none) := by subst ht1; rw [run_grd]; kernel_rfl
theorem ok32 : FnOk Tryd.prog G 32 S32 := sum2_ok (b32 (E := En tb32) rfl (tdeps tbo32)) fun x y r h => runS_below sd32 _ (((r32 x y _ rfl).trans (m32 _ _ _ x y )).trans ((k32 x y _ rfl).symm.trans h))

end Go.Ev.T
