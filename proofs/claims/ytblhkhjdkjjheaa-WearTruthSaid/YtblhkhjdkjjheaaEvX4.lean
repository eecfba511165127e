/- Printed: functions of the wear chapter, as plain ones (own work). -/
import Derived.Test.YtblhkhjdkjjheaaEvX3
set_option linter.unusedVariables false
set_option linter.unusedSimpArgs false
set_option linter.unnecessarySimpa false
set_option linter.unusedSectionVars false
namespace Go.Ev.W.X
open Go Go.Ev Go.Ev.Ab Go.Proofs
set_option maxRecDepth 100000
noncomputable def tb40 : List (Nat × Sum) := []
theorem tbo40 : TblOk Try.prog G tb40 := trivial
noncomputable def p40 (x : Ent) : Bool := (decide (x.l > x.h))
noncomputable def S40 : Sum := sum1 cN (fun x => .ret (b (p40 x), []))
theorem r40 (x : Ent)  : (runFn (En tb40) pf40 [cN.enc x] []).run = some (b (p40 x), []) := by kernel_rfl
theorem ok40 : FnOk Try.prog G 40 S40 := sum1_ok (b40 (E := En tb40) rfl (tdeps tbo40)) fun x r h => (r40 x).trans h
structure Ag46b where
  ns0 : Nat
  gs0 : Nat → List AVal
noncomputable def tb46bu : List (Nat × Sum) := [(40, S40)]
theorem tbo46bu : TblOk Try.prog G tb46bu := ⟨ok40, trivial⟩
structure Pg46b_0 where
  ns0 : Nat
  gs0 : Nat → List AVal
  is7 : Int
structure Sg46b_0 where
  is8 : Int
noncomputable def h46b_0_0 (p : Pg46b_0) (s : Sg46b_0) : St := ⟨[(.tree 4 p.ns0 p.gs0), (.fn 40 []), .unk, .unk, .unk, .unk, .unk, (i p.is7), (i s.is8), .unk, .unk, .unk, .unk, .unk, .unk, .unk, .unk, .unk, .unk], []⟩
noncomputable def en46b_0 (p : Pg46b_0) (s : Sg46b_0) : St := (h46b_0_0 p s)
noncomputable def x46b_0_1 (p : Pg46b_0) (s : Sg46b_0) : XExit × St := let t1 := (p40 (⟨(toI (hdA (p.gs0 s.is8.toNat))), (toI (hdA (tlA (p.gs0 s.is8.toNat)))), (toI (hdA (tlA (tlA (p.gs0 s.is8.toNat))))), (toI (hdA (tlA (tlA (tlA (p.gs0 s.is8.toNat))))))⟩ : Ent)); (.ret, ⟨[(.tree 4 p.ns0 p.gs0), (.fn 40 []), .unk, .unk, (i s.is8), (i s.is8), .unk, (i p.is7), (i s.is8), (b (decide (s.is8 < p.is7))), (i s.is8), (.fn 40 []), (.tree 4 p.ns0 p.gs0), (i s.is8), (.tptr (p.gs0 s.is8.toNat)), (.agg [(i (toI (hdA (p.gs0 s.is8.toNat)))), (i (toI (hdA (tlA (p.gs0 s.is8.toNat))))), (i (toI (hdA (tlA (tlA (p.gs0 s.is8.toNat)))))), (i (toI (hdA (tlA (tlA (tlA (p.gs0 s.is8.toNat)))))))]), (b t1), (i s.is8), .unk], []⟩)
theorem nx46b_0_1 (p : Pg46b_0) (s : Sg46b_0) : (x46b_0_1 p s).1 ≠ .normal := fun h => by
  have h : XExit.ret = XExit.normal := h
  cases h
noncomputable def x46b_0_2 (p : Pg46b_0) (s : Sg46b_0) : XExit × St := (.exit 0, ⟨[(.tree 4 p.ns0 p.gs0), (.fn 40 []), .unk, .unk, .unk, .unk, .unk, (i p.is7), (i s.is8), (b (decide (s.is8 < p.is7))), .unk, .unk, .unk, .unk, .unk, .unk, .unk, .unk, .unk], []⟩)
theorem nx46b_0_2 (p : Pg46b_0) (s : Sg46b_0) : (x46b_0_2 p s).1 ≠ .normal := fun h => by
  have h : XExit.exit 0 = XExit.normal := h
  cases h
noncomputable def xs46b_0 : List (Pg46b_0 → Sg46b_0 → XExit × St) := [x46b_0_1, x46b_0_2]
@[reducible] def l46b_0 : PC := (.seq (.ops [(o 9 (.bin .lss (.t 8) (.t 7)))]) (.seq (.cond (.t 9) .skip (.exit 0)) (.seq (.block 1 (.seq (.ops [(o 10 (.mv (.t 8))), (o 5 (.mv (.t 10)))]) (.seq (.ops [(o 11 (.mv (.t 1))), (o 12 (.mv (.t 0))), (o 13 (.mv (.t 5))), (o 14 (.idxS 4 (.t 12) (.t 13))), (o 15 (.load (ki 4) 4 true (.t 14))), (o 16 (.calld (.t 11) [(.t 15)]))]) (.cond (.t 16) (.seq (.ops [(o 17 (.mv (.t 5))), (o 4 (.mv (.t 17)))]) .ret) .skip)))) (.ops [(o 18 (.bin .add (.t 8) (ci 1))), (o 8 (.mv (.t 18)))]))))
noncomputable def fo46b_0 (p : Pg46b_0) (s : Sg46b_0) : Stp Sg46b_0 → Option (XExit × St) := onStp (fun s' => some (.normal, en46b_0 p s')) (fun t => xAt xs46b_0 p s t 1) none
theorem rd46b_0_0 (p : Pg46b_0) (s : Sg46b_0) (t1 : Bool) (ht1 : t1 = (p40 (⟨(toI (hdA (p.gs0 s.is8.toNat))), (toI (hdA (tlA (p.gs0 s.is8.toNat)))), (toI (hdA (tlA (tlA (p.gs0 s.is8.toNat))))), (toI (hdA (tlA (tlA (tlA (p.gs0 s.is8.toNat))))))⟩ : Ent))) : (roundE (En tb46bu) 0 [0, 1, 7, 8] (.pc l46b_0) (h46b_0_0 p s)).run = (sel (decide (s.is8 < p.is7))
 (sel (inB s.is8 p.ns0)
  (sel ((Nat.ble 4 (len (p.gs0 s.is8.toNat))) && (okCKs [(CK.int .i64), (CK.int .i64), (CK.int .i64), (CK.int .i64)] (p.gs0 s.is8.toNat)))
  (sel t1
  (some (x46b_0_1 p s))
  (some (.normal, h46b_0_0 p ⟨(W (s.is8 + 1))⟩)))
  none)
  none)
 (some (x46b_0_2 p s))) := by subst ht1; kernel_rfl
noncomputable def su46b_0_0 (p : Pg46b_0) (s : Sg46b_0) : Stp Sg46b_0 := let t1 := (p40 (⟨(toI (hdA (p.gs0 s.is8.toNat))), (toI (hdA (tlA (p.gs0 s.is8.toNat)))), (toI (hdA (tlA (tlA (p.gs0 s.is8.toNat))))), (toI (hdA (tlA (tlA (tlA (p.gs0 s.is8.toNat))))))⟩ : Ent)); (sel (decide (s.is8 < p.is7))
 (sel (inB s.is8 p.ns0)
  (sel ((Nat.ble 4 (len (p.gs0 s.is8.toNat))) && (okCKs [(CK.int .i64), (CK.int .i64), (CK.int .i64), (CK.int .i64)] (p.gs0 s.is8.toNat)))
  (sel t1
  (.exit 1)
  (.next ⟨(W (s.is8 + 1))⟩))
  .fail)
  .fail)
 (.exit 2))
theorem q46b_0_0 (p : Pg46b_0) (s : Sg46b_0) (c1 c2 c3 c4 : Bool)  : (fo46b_0 p s) (sel c1
 (sel c2
  (sel c3
  (sel c4
  (.exit 1)
  (.next ⟨(W (s.is8 + 1))⟩))
  .fail)
  .fail)
 (.exit 2)) = (sel c1
 (sel c2
  (sel c3
  (sel c4
  (some (x46b_0_1 p s))
  (some (.normal, h46b_0_0 p ⟨(W (s.is8 + 1))⟩)))
  none)
  none)
 (some (x46b_0_2 p s))) := (stpSel (f := (fo46b_0 p s)) (stpSel (f := (fo46b_0 p s)) (stpSel (f := (fo46b_0 p s)) (stpSel (f := (fo46b_0 p s)) rfl rfl) rfl) rfl) rfl)
theorem sp46b_0_0 (p : Pg46b_0) (s : Sg46b_0) : (roundE (En tb46bu) 0 [0, 1, 7, 8] (.pc l46b_0) (h46b_0_0 p s)).run = fo46b_0 p s (su46b_0_0 p s) := (rd46b_0_0 p s _ rfl).trans (q46b_0_0 p s _ _ _ _).symm
noncomputable def st46b_0 (p : Pg46b_0) (s : Sg46b_0) : Stp Sg46b_0 := (su46b_0_0 p s)
theorem sp46b_0 (p : Pg46b_0) (s : Sg46b_0) : (roundE (En tb46bu) 0 [0, 1, 7, 8] (.pc l46b_0) (en46b_0 p s)).run = fo46b_0 p s (st46b_0 p s) := by
  show (roundE (En tb46bu) 0 [0, 1, 7, 8] (.pc l46b_0) (h46b_0_0 p s)).run = fo46b_0 p s (su46b_0_0 p s)
  exact sp46b_0_0 p s
noncomputable def al46b_0_0 : Alt Pg46b_0 Sg46b_0 := ⟨[(.s (.tree 4)), (.s (.fn 40)), (.s .unk), (.s .unk), (.s .unk), (.s .unk), (.s .unk), (.s (.int .i64)), (.s (.int .i64)), (.s .unk), (.s .unk), (.s .unk), (.s .unk), (.s .unk), (.s .unk), (.s .unk), (.s .unk), (.s .unk), (.s .unk)], [], fun a H => (⟨(toN (slotA a 0)), (toG (slotA a 0)), (toI (slotA a 7))⟩, ⟨(toI (slotA a 8))⟩)⟩
theorem la46b_0_0 (a : List AVal) (H : List ABlk) : (⟨asSls al46b_0_0.sh a, asBks al46b_0_0.bl H⟩ : St) = en46b_0 (al46b_0_0.rd (asSls al46b_0_0.sh a) (asBks al46b_0_0.bl H)).1 (al46b_0_0.rd (asSls al46b_0_0.sh a) (asBks al46b_0_0.bl H)).2 := by kernel_rfl
noncomputable def as46b_0 : List (Alt Pg46b_0 Sg46b_0) := [al46b_0_0]
theorem lo46b_0 (s : St) : Below ((loopL 0 [0, 1, 7, 8] as46b_0 st46b_0 xs46b_0) s) (exec (En tb46bu) 0 (.loop [0, 1, 7, 8] l46b_0) s) :=
  loopL_below (E := En tb46bu) (enc := en46b_0) (body := (.pc l46b_0)) (alts := as46b_0) (xs := xs46b_0) (.pc _) rfl (.cons la46b_0_0 .nil) (.cons nx46b_0_1 (.cons nx46b_0_2 .nil)) (fun p s => sp46b_0 p s) s
noncomputable def ps46b : PS := (.seq (.pc (.ops [(o 4 (.mv (ci 0)))])) (.seq (.seq (.pc (.ops [(o 6 (.mv (.t 0))), (o 7 (.len (.t 6))), (o 8 (.mv (ci 0)))])) (.block 0 (.sum (loopL 0 [0, 1, 7, 8] as46b_0 st46b_0 xs46b_0)))) (.pc (.seq (.ops [(o 4 (.mv (ci (-1))))]) .ret))))
theorem sd46b : Stands (En tb46bu) 0 ps46b pf46.body := (.seq (.pc _) (.seq (.seq (.pc _) (.block _ (.sum lo46b_0))) (.pc _)))
structure Rg46b where
  alt : Nat
  is0 : Int
noncomputable def p46bu (x : Ag46b) : Rg46b := let t1 := (lp (st46b_0 (⟨x.ns0, x.gs0, (↑x.ns0 : Int)⟩ : Pg46b_0)) (⟨0⟩ : Sg46b_0)); (sel (Nat.beq t1.1 1)
 (⟨1, t1.2.is8⟩ : Rg46b)
 (sel (Nat.beq t1.1 2)
  (⟨1, (-1)⟩ : Rg46b)
  (⟨0, 0⟩ : Rg46b)))
noncomputable def ko46b (x : Ag46b) (r : Rg46b) : DT (AVal × List ABlk) := (.ite (Nat.beq r.alt 1) (.ret ((i r.is0), [])) .fail)
noncomputable def ea46b (x : Ag46b) : St := ⟨[(.tree 4 x.ns0 x.gs0), (.fn 40 [])], []⟩
noncomputable def aa46b : Alt Ag46b Unit := ⟨[(.s (.tree 4)), (.s (.fn 40))], [], fun a H => (⟨(toN (slotA a 0)), (toG (slotA a 0))⟩, ())⟩
theorem ala46b (a : List AVal) (H : List ABlk) : (⟨asSls aa46b.sh a, asBks aa46b.bl H⟩ : St) = ea46b (aa46b.rd (asSls aa46b.sh a) (asBks aa46b.bl H)).1 := by kernel_rfl
noncomputable def S46bu : Sum := sumA aa46b (fun x => ko46b x (p46bu x))
theorem r46b (x : Ag46b) (t1 : Nat × Sg46b_0) (ht1 : t1 = (lp (st46b_0 (⟨x.ns0, x.gs0, (↑x.ns0 : Int)⟩ : Pg46b_0)) (⟨0⟩ : Sg46b_0))) : (runS (En tb46bu) pf46 ps46b [(.tree 4 x.ns0 x.gs0), (.fn 40 [])] []).run = (sel (Nat.beq t1.1 1)
 (some ((i t1.2.is8), []))
 (sel (Nat.beq t1.1 2)
  (some ((i (-1)), []))
  none)) := by subst ht1; kernel_rfl
noncomputable def fo46b (x : Ag46b) : Rg46b → Option (AVal × List ABlk) := fun r => (ko46b x r).run
theorem m46b (x : Ag46b) (c1 c2 : Bool) (t1 : Nat × Sg46b_0) : (fo46b x) (sel c1
 (⟨1, t1.2.is8⟩ : Rg46b)
 (sel c2
  (⟨1, (-1)⟩ : Rg46b)
  (⟨0, 0⟩ : Rg46b))) = (sel c1
 (some ((i t1.2.is8), []))
 (sel c2
  (some ((i (-1)), []))
  none)) := (stpSel (f := (fo46b x)) rfl (stpSel (f := (fo46b x)) rfl rfl))
theorem ok46bu : FnOk Try.prog G 46 S46bu := sumA_ok (enc := ea46b) ala46b (b46 (E := En tb46bu) rfl (tdeps tbo46bu)) fun x r h => runS_below sd46b _ (((r46b x _ rfl).trans (m46b x _ _ _).symm).trans h)
@[reducible] noncomputable def S46b : Sum := S46bu
theorem ok46b : FnOk Try.prog G 46 S46b := ok46bu
structure Ag29b where
  ns0 : Nat
  gs0 : Nat → List AVal
noncomputable def tb29bu : List (Nat × Sum) := [(46, S46b)]
theorem tbo29bu : TblOk Try.prog G tb29bu := ⟨ok46b, trivial⟩
structure Rg29b where
  alt : Nat
  bs0 : Bool
noncomputable def p29bu (x : Ag29b) : Rg29b := let t1 := (p46bu ⟨x.ns0, x.gs0⟩); (sel (Nat.beq t1.alt 1)
 (⟨1, (decide (t1.is0 ≥ 0))⟩ : Rg29b)
 (⟨0, false⟩ : Rg29b))
noncomputable def ko29b (x : Ag29b) (r : Rg29b) : DT (AVal × List ABlk) := (.ite (Nat.beq r.alt 1) (.ret ((b r.bs0), [])) .fail)
noncomputable def ea29b (x : Ag29b) : St := ⟨[(.tree 4 x.ns0 x.gs0), (.fn 40 [])], []⟩
noncomputable def aa29b : Alt Ag29b Unit := ⟨[(.s (.tree 4)), (.s (.fn 40))], [], fun a H => (⟨(toN (slotA a 0)), (toG (slotA a 0))⟩, ())⟩
theorem ala29b (a : List AVal) (H : List ABlk) : (⟨asSls aa29b.sh a, asBks aa29b.bl H⟩ : St) = ea29b (aa29b.rd (asSls aa29b.sh a) (asBks aa29b.bl H)).1 := by kernel_rfl
noncomputable def S29bu : Sum := sumA aa29b (fun x => ko29b x (p29bu x))
theorem r29b (x : Ag29b) (t1 : Rg46b) (ht1 : t1 = (p46bu ⟨x.ns0, x.gs0⟩)) : (runFn (En tb29bu) pf29 [(.tree 4 x.ns0 x.gs0), (.fn 40 [])] []).run = (sel (Nat.beq t1.alt 1)
 (some ((b (decide (t1.is0 ≥ 0))), []))
 none) := by subst ht1; kernel_rfl
noncomputable def fo29b (x : Ag29b) : Rg29b → Option (AVal × List ABlk) := fun r => (ko29b x r).run
theorem m29b (x : Ag29b) (c1 : Bool) (t1 : Rg46b) : (fo29b x) (sel c1
 (⟨1, (decide (t1.is0 ≥ 0))⟩ : Rg29b)
 (⟨0, false⟩ : Rg29b)) = (sel c1
 (some ((b (decide (t1.is0 ≥ 0))), []))
 none) := (stpSel (f := (fo29b x)) rfl rfl)
theorem ok29bu : FnOk Try.prog G 29 S29bu := sumA_ok (enc := ea29b) ala29b (b29 (E := En tb29bu) rfl (tdeps tbo29bu)) fun x r h => ((r29b x _ rfl).trans (m29b x _ _).symm).trans h
noncomputable def tb39 : List (Nat × Sum) := []
theorem tbo39 : TblOk Try.prog G tb39 := trivial
@[reducible] noncomputable def S39 : Sum := runFn (En tb39) pf39
theorem ok39 : FnOk Try.prog G 39 S39 := b39 (E := En tb39) rfl (tdeps tbo39)
noncomputable def tb35 : List (Nat × Sum) := []
theorem tbo35 : TblOk Try.prog G tb35 := trivial
@[reducible] noncomputable def S35 : Sum := runFn (En tb35) pf35
theorem ok35 : FnOk Try.prog G 35 S35 := b35 (E := En tb35) rfl (tdeps tbo35)
noncomputable def tb15u : List (Nat × Sum) := [(13, SC13), (32, S32), (37, S37), (38, S38), (39, S39)]
theorem tbo15u : TblOk Try.prog G tb15u := ⟨okC13, ok32, ok37, ok38, ok39, trivial⟩
structure Rg15 where
  alt : Nat
  is1 : Int
  ns0 : Nat
  eh0 : List (List AVal)
noncomputable def p15u (x : List Ent) (y : Ent) : Rg15 := let t1 := (pC (lsE (List.length x) (fun k => rE (gE x k)))); let t2 := (p32 y); let t3 := (p37 (lsE (List.length x) (fun k => rE (gE x k))) y); let t4 := (p38 (lsE (List.length x) (fun k => rE (gE x k))) t3 y); (sel (okEs (List.length x) (fun k => rE (gE x k)))
 (sel (gC (lsE (List.length x) (fun k => rE (gE x k))))
  (sel (t1 != 0)
  (⟨1, t1, 0, []⟩ : Rg15)
  (sel (!t2)
  (⟨1, 3, 0, []⟩ : Rg15)
  (sel (okEs (List.length x) (fun k => rE (gE x k)))
  (sel (g37 (lsE (List.length x) (fun k => rE (gE x k))) y)
  (sel (okEs (List.length x) (fun k => rE (gE x k)))
  (sel (g38 (lsE (List.length x) (fun k => rE (gE x k))) t3 y)
  (sel t4
  (sel (inB t3 (List.length x))
  (sel (!(((gE x t3.toNat).t == y.t) && (((gE x t3.toNat).o == y.o) && (((gE x t3.toNat).l == y.l) && (((gE x t3.toNat).h == y.h) && true)))))
  (⟨1, 6, 0, []⟩ : Rg15)
  (sel (Nat.beq (len (mapL (fun k => rE (gE x k)) (List.range (List.length x)))) 0)
  (⟨2, 0, 0, []⟩ : Rg15)
  (sel (Nat.beq 0 0 && Nat.ble ((0 + (len (mapL (fun k => rE (gE x k)) (List.range (List.length x))))) * 32) room)
  (⟨2, 0, (0 + (len (mapL (fun k => rE (gE x k)) (List.range (List.length x))))), (app [] (mapL (fun k => rE (gE x k)) (List.range (List.length x))))⟩ : Rg15)
  (⟨0, 0, 0, []⟩ : Rg15))))
  (⟨0, 0, 0, []⟩ : Rg15))
  (sel ((↑(List.length x) : Int) == 100)
  (⟨1, 2, 0, []⟩ : Rg15)
  (sel (inB t3 ((List.length x) + 1))
  (sel (Nat.beq (len (mapL (fun k => (fun k => rE (gE x k)) (0 + k)) (List.range (t3.toNat - 0)))) 0)
  (sel (inB t3 ((List.length x) + 1))
  (sel (Nat.beq (len (mapL (fun k => (fun k => rE (gE x k)) (t3.toNat + k)) (List.range ((List.length x) - t3.toNat)))) 0)
  (⟨2, 0, 1, [[(i y.t), (i y.o), (i y.l), (i y.h)]]⟩ : Rg15)
  (sel (Nat.beq 1 1 && Nat.ble ((1 + (len (mapL (fun k => (fun k => rE (gE x k)) (t3.toNat + k)) (List.range ((List.length x) - t3.toNat))))) * 32) room)
  (⟨2, 0, (1 + (len (mapL (fun k => (fun k => rE (gE x k)) (t3.toNat + k)) (List.range ((List.length x) - t3.toNat))))), (app [[(i y.t), (i y.o), (i y.l), (i y.h)]] (mapL (fun k => (fun k => rE (gE x k)) (t3.toNat + k)) (List.range ((List.length x) - t3.toNat))))⟩ : Rg15)
  (⟨0, 0, 0, []⟩ : Rg15)))
  (⟨0, 0, 0, []⟩ : Rg15))
  (sel (Nat.beq 0 0 && Nat.ble ((0 + (len (mapL (fun k => (fun k => rE (gE x k)) (0 + k)) (List.range (t3.toNat - 0))))) * 32) room)
  (sel (Nat.beq (0 + (len (mapL (fun k => (fun k => rE (gE x k)) (0 + k)) (List.range (t3.toNat - 0))))) (len (app [] (mapL (fun k => (fun k => rE (gE x k)) (0 + k)) (List.range (t3.toNat - 0))))) && Nat.ble (((0 + (len (mapL (fun k => (fun k => rE (gE x k)) (0 + k)) (List.range (t3.toNat - 0))))) + 1) * 32) room)
  (sel (inB t3 ((List.length x) + 1))
  (sel (Nat.beq (len (mapL (fun k => (fun k => rE (gE x k)) (t3.toNat + k)) (List.range ((List.length x) - t3.toNat)))) 0)
  (⟨2, 0, ((0 + (len (mapL (fun k => (fun k => rE (gE x k)) (0 + k)) (List.range (t3.toNat - 0))))) + 1), (app (app [] (mapL (fun k => (fun k => rE (gE x k)) (0 + k)) (List.range (t3.toNat - 0)))) [[(i y.t), (i y.o), (i y.l), (i y.h)]])⟩ : Rg15)
  (sel (Nat.beq ((0 + (len (mapL (fun k => (fun k => rE (gE x k)) (0 + k)) (List.range (t3.toNat - 0))))) + 1) (len (app (app [] (mapL (fun k => (fun k => rE (gE x k)) (0 + k)) (List.range (t3.toNat - 0)))) [[(i y.t), (i y.o), (i y.l), (i y.h)]])) && Nat.ble ((((0 + (len (mapL (fun k => (fun k => rE (gE x k)) (0 + k)) (List.range (t3.toNat - 0))))) + 1) + (len (mapL (fun k => (fun k => rE (gE x k)) (t3.toNat + k)) (List.range ((List.length x) - t3.toNat))))) * 32) room)
  (⟨2, 0, (((0 + (len (mapL (fun k => (fun k => rE (gE x k)) (0 + k)) (List.range (t3.toNat - 0))))) + 1) + (len (mapL (fun k => (fun k => rE (gE x k)) (t3.toNat + k)) (List.range ((List.length x) - t3.toNat))))), (app (app (app [] (mapL (fun k => (fun k => rE (gE x k)) (0 + k)) (List.range (t3.toNat - 0)))) [[(i y.t), (i y.o), (i y.l), (i y.h)]]) (mapL (fun k => (fun k => rE (gE x k)) (t3.toNat + k)) (List.range ((List.length x) - t3.toNat))))⟩ : Rg15)
  (⟨0, 0, 0, []⟩ : Rg15)))
  (⟨0, 0, 0, []⟩ : Rg15))
  (⟨0, 0, 0, []⟩ : Rg15))
  (⟨0, 0, 0, []⟩ : Rg15)))
  (⟨0, 0, 0, []⟩ : Rg15))))
  (⟨0, 0, 0, []⟩ : Rg15))
  (⟨0, 0, 0, []⟩ : Rg15))
  (⟨0, 0, 0, []⟩ : Rg15))
  (⟨0, 0, 0, []⟩ : Rg15))))
  (⟨0, 0, 0, []⟩ : Rg15))
 (⟨0, 0, 0, []⟩ : Rg15))
noncomputable def ko15 (r : Rg15) : DT (AVal × List ABlk) := (.ite (Nat.beq r.alt 1) (.ret ((.tup [(.v (.slice none 0 0)), (i r.is1)]), [])) (.ite (Nat.beq r.alt 2) (.ret ((.tup [(.sl 0 0 r.ns0 0), (i 0)]), [⟨27, 4, r.eh0, true, false, 0⟩])) .fail))
noncomputable def S15u : Sum := sum2 cEL cN (fun x y => ko15 (p15u x y))
theorem r15 (x : List Ent) (y : Ent) (t1 : Int) (ht1 : t1 = (pC (lsE (List.length x) (fun k => rE (gE x k))))) (t2 : Bool) (ht2 : t2 = (p32 y)) (t3 : Int) (ht3 : t3 = (p37 (lsE (List.length x) (fun k => rE (gE x k))) y)) (t4 : Bool) (ht4 : t4 = (p38 (lsE (List.length x) (fun k => rE (gE x k))) t3 y)) : (runFn (En tb15u) pf15 [cEL.enc x, cN.enc y] []).run = (sel (okEs (List.length x) (fun k => rE (gE x k)))
 (sel (gC (lsE (List.length x) (fun k => rE (gE x k))))
  (sel (t1 != 0)
  (some ((.tup [(.v (.slice none 0 0)), (i t1)]), []))
  (sel (!t2)
  (some ((.tup [(.v (.slice none 0 0)), (i 3)]), []))
  (sel (okEs (List.length x) (fun k => rE (gE x k)))
  (sel (g37 (lsE (List.length x) (fun k => rE (gE x k))) y)
  (sel (okEs (List.length x) (fun k => rE (gE x k)))
  (sel (g38 (lsE (List.length x) (fun k => rE (gE x k))) t3 y)
  (sel t4
  (sel (inB t3 (List.length x))
  (sel (!(((gE x t3.toNat).t == y.t) && (((gE x t3.toNat).o == y.o) && (((gE x t3.toNat).l == y.l) && (((gE x t3.toNat).h == y.h) && true)))))
  (some ((.tup [(.v (.slice none 0 0)), (i 6)]), []))
  (sel (Nat.beq (len (mapL (fun k => rE (gE x k)) (List.range (List.length x)))) 0)
  (some ((.tup [(.sl 0 0 0 0), (i 0)]), [⟨27, 4, [], true, false, 0⟩]))
  (sel (Nat.beq 0 0 && Nat.ble ((0 + (len (mapL (fun k => rE (gE x k)) (List.range (List.length x))))) * 32) room)
  (some ((.tup [(.sl 0 0 (0 + (len (mapL (fun k => rE (gE x k)) (List.range (List.length x))))) 0), (i 0)]), [⟨27, 4, (app [] (mapL (fun k => rE (gE x k)) (List.range (List.length x)))), true, false, 0⟩]))
  none)))
  none)
  (sel ((↑(List.length x) : Int) == 100)
  (some ((.tup [(.v (.slice none 0 0)), (i 2)]), []))
  (sel (inB t3 ((List.length x) + 1))
  (sel (Nat.beq (len (mapL (fun k => (fun k => rE (gE x k)) (0 + k)) (List.range (t3.toNat - 0)))) 0)
  (sel (inB t3 ((List.length x) + 1))
  (sel (Nat.beq (len (mapL (fun k => (fun k => rE (gE x k)) (t3.toNat + k)) (List.range ((List.length x) - t3.toNat)))) 0)
  (some ((.tup [(.sl 0 0 1 0), (i 0)]), [⟨27, 4, [[(i y.t), (i y.o), (i y.l), (i y.h)]], true, false, 0⟩]))
  (sel (Nat.beq 1 1 && Nat.ble ((1 + (len (mapL (fun k => (fun k => rE (gE x k)) (t3.toNat + k)) (List.range ((List.length x) - t3.toNat))))) * 32) room)
  (some ((.tup [(.sl 0 0 (1 + (len (mapL (fun k => (fun k => rE (gE x k)) (t3.toNat + k)) (List.range ((List.length x) - t3.toNat))))) 0), (i 0)]), [⟨27, 4, (app [[(i y.t), (i y.o), (i y.l), (i y.h)]] (mapL (fun k => (fun k => rE (gE x k)) (t3.toNat + k)) (List.range ((List.length x) - t3.toNat)))), true, false, 0⟩]))
  none))
  none)
  (sel (Nat.beq 0 0 && Nat.ble ((0 + (len (mapL (fun k => (fun k => rE (gE x k)) (0 + k)) (List.range (t3.toNat - 0))))) * 32) room)
  (sel (Nat.beq (0 + (len (mapL (fun k => (fun k => rE (gE x k)) (0 + k)) (List.range (t3.toNat - 0))))) (len (app [] (mapL (fun k => (fun k => rE (gE x k)) (0 + k)) (List.range (t3.toNat - 0))))) && Nat.ble (((0 + (len (mapL (fun k => (fun k => rE (gE x k)) (0 + k)) (List.range (t3.toNat - 0))))) + 1) * 32) room)
  (sel (inB t3 ((List.length x) + 1))
  (sel (Nat.beq (len (mapL (fun k => (fun k => rE (gE x k)) (t3.toNat + k)) (List.range ((List.length x) - t3.toNat)))) 0)
  (some ((.tup [(.sl 0 0 ((0 + (len (mapL (fun k => (fun k => rE (gE x k)) (0 + k)) (List.range (t3.toNat - 0))))) + 1) 0), (i 0)]), [⟨27, 4, (app (app [] (mapL (fun k => (fun k => rE (gE x k)) (0 + k)) (List.range (t3.toNat - 0)))) [[(i y.t), (i y.o), (i y.l), (i y.h)]]), true, false, 0⟩]))
  (sel (Nat.beq ((0 + (len (mapL (fun k => (fun k => rE (gE x k)) (0 + k)) (List.range (t3.toNat - 0))))) + 1) (len (app (app [] (mapL (fun k => (fun k => rE (gE x k)) (0 + k)) (List.range (t3.toNat - 0)))) [[(i y.t), (i y.o), (i y.l), (i y.h)]])) && Nat.ble ((((0 + (len (mapL (fun k => (fun k => rE (gE x k)) (0 + k)) (List.range (t3.toNat - 0))))) + 1) + (len (mapL (fun k => (fun k => rE (gE x k)) (t3.toNat + k)) (List.range ((List.length x) - t3.toNat))))) * 32) room)
  (some ((.tup [(.sl 0 0 (((0 + (len (mapL (fun k => (fun k => rE (gE x k)) (0 + k)) (List.range (t3.toNat - 0))))) + 1) + (len (mapL (fun k => (fun k => rE (gE x k)) (t3.toNat + k)) (List.range ((List.length x) - t3.toNat))))) 0), (i 0)]), [⟨27, 4, (app (app (app [] (mapL (fun k => (fun k => rE (gE x k)) (0 + k)) (List.range (t3.toNat - 0)))) [[(i y.t), (i y.o), (i y.l), (i y.h)]]) (mapL (fun k => (fun k => rE (gE x k)) (t3.toNat + k)) (List.range ((List.length x) - t3.toNat)))), true, false, 0⟩]))
  none))
  none)
  none)
  none))
  none)))
  none)
  none)
  none)
  none)))
  none)
 none) := by subst ht1; subst ht2; subst ht3; subst ht4; kernel_rfl
noncomputable def fo15 : Rg15 → Option (AVal × List ABlk) := fun r => (ko15 r).run
theorem m15 (x : List Ent) (y : Ent) (c1 c2 c3 c4 c5 c6 c7 c8 c9 c10 c11 c12 c13 c14 c15 c16 c17 c18 c19 : Bool) (t1 : Int) (t3 : Int) : fo15 (sel c1
 (sel c2
  (sel c3
  (⟨1, t1, 0, []⟩ : Rg15)
  (sel c4
  (⟨1, 3, 0, []⟩ : Rg15)
  (sel c1
  (sel c5
  (sel c1
  (sel c6
  (sel c7
  (sel c8
  (sel c9
  (⟨1, 6, 0, []⟩ : Rg15)
  (sel c10
  (⟨2, 0, 0, []⟩ : Rg15)
  (sel c11
  (⟨2, 0, (0 + (len (mapL (fun k => rE (gE x k)) (List.range (List.length x))))), (app [] (mapL (fun k => rE (gE x k)) (List.range (List.length x))))⟩ : Rg15)
  (⟨0, 0, 0, []⟩ : Rg15))))
  (⟨0, 0, 0, []⟩ : Rg15))
  (sel c12
  (⟨1, 2, 0, []⟩ : Rg15)
  (sel c13
  (sel c14
  (sel c13
  (sel c15
  (⟨2, 0, 1, [[(i y.t), (i y.o), (i y.l), (i y.h)]]⟩ : Rg15)
  (sel c16
  (⟨2, 0, (1 + (len (mapL (fun k => (fun k => rE (gE x k)) (t3.toNat + k)) (List.range ((List.length x) - t3.toNat))))), (app [[(i y.t), (i y.o), (i y.l), (i y.h)]] (mapL (fun k => (fun k => rE (gE x k)) (t3.toNat + k)) (List.range ((List.length x) - t3.toNat))))⟩ : Rg15)
  (⟨0, 0, 0, []⟩ : Rg15)))
  (⟨0, 0, 0, []⟩ : Rg15))
  (sel c17
  (sel c18
  (sel c13
  (sel c15
  (⟨2, 0, ((0 + (len (mapL (fun k => (fun k => rE (gE x k)) (0 + k)) (List.range (t3.toNat - 0))))) + 1), (app (app [] (mapL (fun k => (fun k => rE (gE x k)) (0 + k)) (List.range (t3.toNat - 0)))) [[(i y.t), (i y.o), (i y.l), (i y.h)]])⟩ : Rg15)
  (sel c19
  (⟨2, 0, (((0 + (len (mapL (fun k => (fun k => rE (gE x k)) (0 + k)) (List.range (t3.toNat - 0))))) + 1) + (len (mapL (fun k => (fun k => rE (gE x k)) (t3.toNat + k)) (List.range ((List.length x) - t3.toNat))))), (app (app (app [] (mapL (fun k => (fun k => rE (gE x k)) (0 + k)) (List.range (t3.toNat - 0)))) [[(i y.t), (i y.o), (i y.l), (i y.h)]]) (mapL (fun k => (fun k => rE (gE x k)) (t3.toNat + k)) (List.range ((List.length x) - t3.toNat))))⟩ : Rg15)
  (⟨0, 0, 0, []⟩ : Rg15)))
  (⟨0, 0, 0, []⟩ : Rg15))
  (⟨0, 0, 0, []⟩ : Rg15))
  (⟨0, 0, 0, []⟩ : Rg15)))
  (⟨0, 0, 0, []⟩ : Rg15))))
  (⟨0, 0, 0, []⟩ : Rg15))
  (⟨0, 0, 0, []⟩ : Rg15))
  (⟨0, 0, 0, []⟩ : Rg15))
  (⟨0, 0, 0, []⟩ : Rg15))))
  (⟨0, 0, 0, []⟩ : Rg15))
 (⟨0, 0, 0, []⟩ : Rg15)) = (sel c1
 (sel c2
  (sel c3
  (some ((.tup [(.v (.slice none 0 0)), (i t1)]), []))
  (sel c4
  (some ((.tup [(.v (.slice none 0 0)), (i 3)]), []))
  (sel c1
  (sel c5
  (sel c1
  (sel c6
  (sel c7
  (sel c8
  (sel c9
  (some ((.tup [(.v (.slice none 0 0)), (i 6)]), []))
  (sel c10
  (some ((.tup [(.sl 0 0 0 0), (i 0)]), [⟨27, 4, [], true, false, 0⟩]))
  (sel c11
  (some ((.tup [(.sl 0 0 (0 + (len (mapL (fun k => rE (gE x k)) (List.range (List.length x))))) 0), (i 0)]), [⟨27, 4, (app [] (mapL (fun k => rE (gE x k)) (List.range (List.length x)))), true, false, 0⟩]))
  none)))
  none)
  (sel c12
  (some ((.tup [(.v (.slice none 0 0)), (i 2)]), []))
  (sel c13
  (sel c14
  (sel c13
  (sel c15
  (some ((.tup [(.sl 0 0 1 0), (i 0)]), [⟨27, 4, [[(i y.t), (i y.o), (i y.l), (i y.h)]], true, false, 0⟩]))
  (sel c16
  (some ((.tup [(.sl 0 0 (1 + (len (mapL (fun k => (fun k => rE (gE x k)) (t3.toNat + k)) (List.range ((List.length x) - t3.toNat))))) 0), (i 0)]), [⟨27, 4, (app [[(i y.t), (i y.o), (i y.l), (i y.h)]] (mapL (fun k => (fun k => rE (gE x k)) (t3.toNat + k)) (List.range ((List.length x) - t3.toNat)))), true, false, 0⟩]))
  none))
  none)
  (sel c17
  (sel c18
  (sel c13
  (sel c15
  (some ((.tup [(.sl 0 0 ((0 + (len (mapL (fun k => (fun k => rE (gE x k)) (0 + k)) (List.range (t3.toNat - 0))))) + 1) 0), (i 0)]), [⟨27, 4, (app (app [] (mapL (fun k => (fun k => rE (gE x k)) (0 + k)) (List.range (t3.toNat - 0)))) [[(i y.t), (i y.o), (i y.l), (i y.h)]]), true, false, 0⟩]))
  (sel c19
  (some ((.tup [(.sl 0 0 (((0 + (len (mapL (fun k => (fun k => rE (gE x k)) (0 + k)) (List.range (t3.toNat - 0))))) + 1) + (len (mapL (fun k => (fun k => rE (gE x k)) (t3.toNat + k)) (List.range ((List.length x) - t3.toNat))))) 0), (i 0)]), [⟨27, 4, (app (app (app [] (mapL (fun k => (fun k => rE (gE x k)) (0 + k)) (List.range (t3.toNat - 0)))) [[(i y.t), (i y.o), (i y.l), (i y.h)]]) (mapL (fun k => (fun k => rE (gE x k)) (t3.toNat + k)) (List.range ((List.length x) - t3.toNat)))), true, false, 0⟩]))
  none))
  none)
  none)
  none))
  none)))
  none)
  none)
  none)
  none)))
  none)
 none) := (stpSel (f := fo15) (stpSel (f := fo15) (stpSel (f := fo15) rfl (stpSel (f := fo15) rfl (stpSel (f := fo15) (stpSel (f := fo15) (stpSel (f := fo15) (stpSel (f := fo15) (stpSel (f := fo15) (stpSel (f := fo15) (stpSel (f := fo15) rfl (stpSel (f := fo15) rfl (stpSel (f := fo15) rfl rfl))) rfl) (stpSel (f := fo15) rfl (stpSel (f := fo15) (stpSel (f := fo15) (stpSel (f := fo15) (stpSel (f := fo15) rfl (stpSel (f := fo15) rfl rfl)) rfl) (stpSel (f := fo15) (stpSel (f := fo15) (stpSel (f := fo15) (stpSel (f := fo15) rfl (stpSel (f := fo15) rfl rfl)) rfl) rfl) rfl)) rfl))) rfl) rfl) rfl) rfl))) rfl) rfl)
theorem ok15u : FnOk Try.prog G 15 S15u := sum2_ok (b15 (E := En tb15u) rfl (tdeps tbo15u)) fun x y r h => ((r15 x y _ rfl _ rfl _ rfl _ rfl).trans (m15 x y _ _ _ _ _ _ _ _ _ _ _ _ _ _ _ _ _ _ _ _ _).symm).trans h
end Go.Ev.W.X

