/- Printed: functions of the wear chapter, as plain ones (own work). -/
import Derived.Test.YtblhkhjdkjjheaaEvXA
set_option linter.unusedVariables false
set_option linter.unusedSimpArgs false
set_option linter.unnecessarySimpa false
set_option linter.unusedSectionVars false
namespace Go.Ev.W.X
open Go Go.Ev Go.Ev.Ab Go.Proofs
set_option maxRecDepth 100000
noncomputable def tb19 : List (Nat × Sum) := []
theorem tbo19 : TblOk Try.prog G tb19 := trivial
noncomputable def p19 (x : Int) (y : Int) : Int := (sel (decide (y < 1)) 0 (Int.tmod (W ((Int.tmod x y) + y)) y))
noncomputable def g19 (x : Int) (y : Int) : Bool := ((decide (y < 1)) || (!(y == 0)))
noncomputable def S19 : Sum := sum2 cI cI (fun x y => DT.guard (g19 x y) (.ret (i (p19 x y), [])))
theorem r19 (x : Int) (y : Int)  : (runFn (En tb19) pf19 [cI.enc x, cI.enc y] []).run = (sel (decide (y < 1))
 (some ((i 0), []))
 (sel (y == 0)
  none
  (sel (y == 0)
   none
   (some ((i (Int.tmod (W ((Int.tmod x y) + y)) y)), []))))) := by kernel_rfl
theorem m19 (c1 c2 : Bool) (x : Int) (y : Int)  : ((sel c1
 (some ((i 0), []))
 (sel c2
  none
  (sel c2
   none
   (some ((i (Int.tmod (W ((Int.tmod x y) + y)) y)), []))))) : Option (AVal × List ABlk)) = (sel (c1 || (!c2)) (some ((i (sel c1 0 (Int.tmod (W ((Int.tmod x y) + y)) y))), [])) none) := by
 cases c1
 ·
  cases c2
  ·
   rfl
  ·
   rfl
 ·
  rfl
theorem k19 (x : Int) (y : Int)  : (DT.guard (g19 x y) (.ret (i (p19 x y), [])) : DT (AVal × List ABlk)).run = (sel ((decide (y < 1)) || (!(y == 0))) (some ((i (sel (decide (y < 1)) 0 (Int.tmod (W ((Int.tmod x y) + y)) y))), [])) none) := by rw [run_grd]; kernel_rfl
theorem ok19 : FnOk Try.prog G 19 S19 := sum2_ok (b19 (E := En tb19) rfl (tdeps tbo19)) fun x y r h => ((r19 x y ).trans (m19 _ _ x y )).trans ((k19 x y ).symm.trans h)
structure Ag28 where
  is1 : Int
  nh0_0_0 : Nat
  gh0_0_0 : Nat → List AVal
  ih0_0_1 : Int
noncomputable def tb28u : List (Nat × Sum) := [(19, S19)]
theorem tbo28u : TblOk Try.prog G tb28u := ⟨ok19, trivial⟩
structure Rg28 where
  alt : Nat
  is0 : Int
  ih0_0_1 : Int
noncomputable def p28u (x : Ag28) : Rg28 := let t1 := (p19 (toI (hdA (x.gh0_0_0 (W ((W (x.ih0_0_1 + 1)) - 1)).toNat))) x.is1); (sel (decide (x.ih0_0_1 ≥ (↑x.nh0_0_0 : Int)))
 (⟨1, 0, x.ih0_0_1⟩ : Rg28)
 (sel (inB (W ((W (x.ih0_0_1 + 1)) - 1)) x.nh0_0_0)
  (sel ((Nat.ble 1 (len (x.gh0_0_0 (W ((W (x.ih0_0_1 + 1)) - 1)).toNat))) && (okCKs [(CK.int .i64)] (x.gh0_0_0 (W ((W (x.ih0_0_1 + 1)) - 1)).toNat)))
  (sel (g19 (toI (hdA (x.gh0_0_0 (W ((W (x.ih0_0_1 + 1)) - 1)).toNat))) x.is1)
  (⟨1, t1, (W (x.ih0_0_1 + 1))⟩ : Rg28)
  (⟨0, 0, 0⟩ : Rg28))
  (⟨0, 0, 0⟩ : Rg28))
  (⟨0, 0, 0⟩ : Rg28)))
noncomputable def ko28 (x : Ag28) (r : Rg28) : DT (AVal × List ABlk) := (.ite (Nat.beq r.alt 1) (.ret ((i r.is0), [⟨0, 2, [[(.tree 1 x.nh0_0_0 x.gh0_0_0), (i r.ih0_0_1)]], true, false, 0⟩])) .fail)
noncomputable def ea28 (x : Ag28) : St := ⟨[(.ptr 0 0 0 0), (i x.is1)], [⟨0, 2, [[(.tree 1 x.nh0_0_0 x.gh0_0_0), (i x.ih0_0_1)]], true, false, 0⟩]⟩
noncomputable def aa28 : Alt Ag28 Unit := ⟨[(.s (.ptr 0 0 0 0)), (.s (.int .i64))], [⟨0, 2, true, (some [[(.tree 1), (.int .i64)]])⟩], fun a H => (⟨(toI (slotA a 1)), (toN (hdA (dropN (getRow (elsA H 0) 0) 0))), (toG (hdA (dropN (getRow (elsA H 0) 0) 0))), (toI (hdA (dropN (getRow (elsA H 0) 0) 1)))⟩, ())⟩
theorem ala28 (a : List AVal) (H : List ABlk) : (⟨asSls aa28.sh a, asBks aa28.bl H⟩ : St) = ea28 (aa28.rd (asSls aa28.sh a) (asBks aa28.bl H)).1 := by kernel_rfl
noncomputable def S28u : Sum := sumA aa28 (fun x => ko28 x (p28u x))
theorem r28 (x : Ag28) (t1 : Int) (ht1 : t1 = (p19 (toI (hdA (x.gh0_0_0 (W ((W (x.ih0_0_1 + 1)) - 1)).toNat))) x.is1)) : (runFn (En tb28u) pf28 [(.ptr 0 0 0 0), (i x.is1)] [⟨0, 2, [[(.tree 1 x.nh0_0_0 x.gh0_0_0), (i x.ih0_0_1)]], true, false, 0⟩]).run = (sel (decide (x.ih0_0_1 ≥ (↑x.nh0_0_0 : Int)))
 (some ((i 0), [⟨0, 2, [[(.tree 1 x.nh0_0_0 x.gh0_0_0), (i x.ih0_0_1)]], true, false, 0⟩]))
 (sel (inB (W ((W (x.ih0_0_1 + 1)) - 1)) x.nh0_0_0)
  (sel ((Nat.ble 1 (len (x.gh0_0_0 (W ((W (x.ih0_0_1 + 1)) - 1)).toNat))) && (okCKs [(CK.int .i64)] (x.gh0_0_0 (W ((W (x.ih0_0_1 + 1)) - 1)).toNat)))
  (sel (g19 (toI (hdA (x.gh0_0_0 (W ((W (x.ih0_0_1 + 1)) - 1)).toNat))) x.is1)
  (some ((i t1), [⟨0, 2, [[(.tree 1 x.nh0_0_0 x.gh0_0_0), (i (W (x.ih0_0_1 + 1)))]], true, false, 0⟩]))
  none)
  none)
  none)) := by subst ht1; kernel_rfl
noncomputable def fo28 (x : Ag28) : Rg28 → Option (AVal × List ABlk) := fun r => (ko28 x r).run
theorem m28 (x : Ag28) (c1 c2 c3 c4 : Bool) (t1 : Int) : (fo28 x) (sel c1
 (⟨1, 0, x.ih0_0_1⟩ : Rg28)
 (sel c2
  (sel c3
  (sel c4
  (⟨1, t1, (W (x.ih0_0_1 + 1))⟩ : Rg28)
  (⟨0, 0, 0⟩ : Rg28))
  (⟨0, 0, 0⟩ : Rg28))
  (⟨0, 0, 0⟩ : Rg28))) = (sel c1
 (some ((i 0), [⟨0, 2, [[(.tree 1 x.nh0_0_0 x.gh0_0_0), (i x.ih0_0_1)]], true, false, 0⟩]))
 (sel c2
  (sel c3
  (sel c4
  (some ((i t1), [⟨0, 2, [[(.tree 1 x.nh0_0_0 x.gh0_0_0), (i (W (x.ih0_0_1 + 1)))]], true, false, 0⟩]))
  none)
  none)
  none)) := (stpSel (f := (fo28 x)) rfl (stpSel (f := (fo28 x)) (stpSel (f := (fo28 x)) (stpSel (f := (fo28 x)) rfl rfl) rfl) rfl))
theorem ok28u : FnOk Try.prog G 28 S28u := sumA_ok (enc := ea28) ala28 (b28 (E := En tb28u) rfl (tdeps tbo28u)) fun x r h => ((r28 x _ rfl).trans (m28 x _ _ _ _ _).symm).trans h
@[reducible] noncomputable def S28 : Sum := S28u
theorem ok28 : FnOk Try.prog G 28 S28 := ok28u
structure Ag10 where
  ns0 : Nat
  gs0 : Nat → List AVal
noncomputable def tb10u : List (Nat × Sum) := [(28, S28), (15, SA15)]
theorem tbo10u : TblOk Try.prog G tb10u := ⟨ok28, okA15, trivial⟩
structure Pg10_0 where
  ns0 : Nat
  gs0 : Nat → List AVal
structure Sg10_0 where
  ph : Nat
  is4 : Int
  ns3 : Nat
  gs3 : Nat → List AVal
noncomputable def h10_0_0 (p : Pg10_0) (s : Sg10_0) : St := ⟨[(.tree 1 p.ns0 p.gs0), .unk, .unk, (.v (.slice none 0 0)), (i s.is4), .unk, .unk, .unk, .unk, .unk, .unk, .unk, .unk, .unk, .unk, .unk, .unk, .unk, .unk, .unk, .unk, .unk, .unk, .unk, .unk, .unk, .unk, .unk, .unk, .unk, .unk, .unk, .unk, .unk, .unk, .unk, .unk, .unk, .unk, .unk, .unk, .unk, .unk, .unk, .unk, .unk, .unk, .unk], []⟩
noncomputable def h10_0_1 (p : Pg10_0) (s : Sg10_0) : St := ⟨[(.tree 1 p.ns0 p.gs0), .unk, .unk, (.tree 4 s.ns3 s.gs3), (i s.is4), .unk, .unk, .unk, .unk, .unk, .unk, .unk, .unk, .unk, .unk, .unk, .unk, .unk, .unk, .unk, .unk, .unk, .unk, .unk, .unk, .unk, .unk, .unk, .unk, .unk, .unk, .unk, .unk, .unk, .unk, .unk, .unk, .unk, .unk, .unk, .unk, .unk, .unk, .unk, .unk, .unk, .unk, .unk], []⟩
noncomputable def en10_0 (p : Pg10_0) (s : Sg10_0) : St := (sel (Nat.beq s.ph 1) (h10_0_1 p s) (h10_0_0 p s))
noncomputable def x10_0_1 (p : Pg10_0) (s : Sg10_0) : XExit × St := (.exit 0, ⟨[(.tree 1 p.ns0 p.gs0), .unk, .unk, (.v (.slice none 0 0)), (i s.is4), .unk, .unk, .unk, .unk, (i s.is4), (.tree 1 p.ns0 p.gs0), (i (↑p.ns0 : Int)), (b (decide (s.is4 < (↑p.ns0 : Int)))), (b true), (i s.is4), (b (decide (s.is4 < 8))), (b (decide (s.is4 < 8))), .unk, .unk, .unk, .unk, .unk, .unk, .unk, .unk, .unk, .unk, .unk, .unk, .unk, .unk, .unk, .unk, .unk, .unk, .unk, .unk, .unk, .unk, .unk, .unk, .unk, .unk, .unk, .unk, .unk, .unk, .unk], []⟩)
theorem nx10_0_1 (p : Pg10_0) (s : Sg10_0) : (x10_0_1 p s).1 ≠ .normal := fun h => by
  have h : XExit.exit 0 = XExit.normal := h
  cases h
noncomputable def x10_0_2 (p : Pg10_0) (s : Sg10_0) : XExit × St := (.exit 0, ⟨[(.tree 1 p.ns0 p.gs0), .unk, .unk, (.v (.slice none 0 0)), (i s.is4), .unk, .unk, .unk, .unk, (i s.is4), (.tree 1 p.ns0 p.gs0), (i (↑p.ns0 : Int)), (b (decide (s.is4 < (↑p.ns0 : Int)))), (b false), u, u, (b false), .unk, .unk, .unk, .unk, .unk, .unk, .unk, .unk, .unk, .unk, .unk, .unk, .unk, .unk, .unk, .unk, .unk, .unk, .unk, .unk, .unk, .unk, .unk, .unk, .unk, .unk, .unk, .unk, .unk, .unk, .unk], []⟩)
theorem nx10_0_2 (p : Pg10_0) (s : Sg10_0) : (x10_0_2 p s).1 ≠ .normal := fun h => by
  have h : XExit.exit 0 = XExit.normal := h
  cases h
noncomputable def x10_0_3 (p : Pg10_0) (s : Sg10_0) : XExit × St := (.exit 0, ⟨[(.tree 1 p.ns0 p.gs0), .unk, .unk, (.tree 4 s.ns3 s.gs3), (i s.is4), .unk, .unk, .unk, .unk, (i s.is4), (.tree 1 p.ns0 p.gs0), (i (↑p.ns0 : Int)), (b (decide (s.is4 < (↑p.ns0 : Int)))), (b true), (i s.is4), (b (decide (s.is4 < 8))), (b (decide (s.is4 < 8))), .unk, .unk, .unk, .unk, .unk, .unk, .unk, .unk, .unk, .unk, .unk, .unk, .unk, .unk, .unk, .unk, .unk, .unk, .unk, .unk, .unk, .unk, .unk, .unk, .unk, .unk, .unk, .unk, .unk, .unk, .unk], []⟩)
theorem nx10_0_3 (p : Pg10_0) (s : Sg10_0) : (x10_0_3 p s).1 ≠ .normal := fun h => by
  have h : XExit.exit 0 = XExit.normal := h
  cases h
noncomputable def x10_0_4 (p : Pg10_0) (s : Sg10_0) : XExit × St := (.exit 0, ⟨[(.tree 1 p.ns0 p.gs0), .unk, .unk, (.tree 4 s.ns3 s.gs3), (i s.is4), .unk, .unk, .unk, .unk, (i s.is4), (.tree 1 p.ns0 p.gs0), (i (↑p.ns0 : Int)), (b (decide (s.is4 < (↑p.ns0 : Int)))), (b false), u, u, (b false), .unk, .unk, .unk, .unk, .unk, .unk, .unk, .unk, .unk, .unk, .unk, .unk, .unk, .unk, .unk, .unk, .unk, .unk, .unk, .unk, .unk, .unk, .unk, .unk, .unk, .unk, .unk, .unk, .unk, .unk, .unk], []⟩)
theorem nx10_0_4 (p : Pg10_0) (s : Sg10_0) : (x10_0_4 p s).1 ≠ .normal := fun h => by
  have h : XExit.exit 0 = XExit.normal := h
  cases h
noncomputable def xs10_0 : List (Pg10_0 → Sg10_0 → XExit × St) := [x10_0_1, x10_0_2, x10_0_3, x10_0_4]
@[reducible] def l10_0 : PC := (.seq (.seq (.ops [(o 9 (.mv (.t 4))), (o 10 (.mv (.t 0))), (o 11 (.len (.t 10))), (o 12 (.bin .lss (.t 9) (.t 11))), (o 13 (.mv (.t 12))), ⟨(.some 14), (.some (13, true)), [], (.mv (.t 4))⟩, ⟨(.some 15), (.some (13, true)), [], (.bin .lss (.t 14) (ci 8))⟩, (o 16 (.pick (.t 13) (.t 15) (cb false)))]) (.cond (.t 16) .skip (.exit 0))) (.seq (.block 1 (.seq (.ops [(o 19 (.mv (.t 0))), (o 20 (.mv (.t 4))), (o 21 (.idxS 1 (.t 19) (.t 20))), (o 22 (.load [(.sl 1)] 1 false (.t 21))), (o 23 (.build [(.v (.slice none 0 0)), (vi 0)] [(0, (1, (.t 22)))])), (o 24 (.box (.t 23))), (o 5 (.mv (.t 24)))]) (.seq (.ops [(o 25 (.mv (.t 5))), (o 26 (.call 28 [(.t 25), (ci 3)])), (o 27 (.mv (.t 5))), (o 28 (.call 28 [(.t 27), (ci 4)])), (o 29 (.mv (.t 5))), (o 30 (.call 28 [(.t 29), (ci 20)])), (o 31 (.build (rep 4 (vi 0)) [(0, (1, (.t 26))), (1, (1, (.t 28))), (2, (1, (.t 30)))])), (o 6 (.alloc (rep 4 (vi 0)))), (s (.store 4 (.t 6) (.t 31)))]) (.seq (.draw [32, 33, 34, 35, 36, 37] [] [(o 32 (.fld 2 (.t 6))), (o 33 (.load (ki 1) 1 false (.t 32))), (o 34 (.mv (.t 5))), (o 35 (.call 28 [(.t 34), (ci 12)])), (o 36 (.bin .add (.t 33) (.t 35))), (o 37 (.fld 3 (.t 6))), (s (.store 1 (.t 37) (.t 36)))] [((.fld 2 (.t 6)), (.call 28 [(.t 34), (ci 12)])), ((.load (ki 1) 1 false (.t 32)), (.call 28 [(.t 34), (ci 12)]))]) (.seq (.ops [(o 39 (.mv (.t 3))), (o 40 (.load (ki 4) 4 true (.t 6))), (o 41 (.call 15 [(.t 39), (.t 40)])), (o 38 (.mv (.t 41))), (o 42 (.ext (.t 38) 0)), (o 43 (.ext (.t 38) 1)), (o 7 (.mv (.t 42))), (o 8 (.mv (.t 43)))]) (.seq (.ops [(o 44 (.mv (.t 8))), (o 45 (.bin .eql (.t 44) (ci 0)))]) (.cond (.t 45) (.ops [(o 46 (.mv (.t 7))), (o 3 (.mv (.t 46)))]) .skip))))))) (.ops [(o 17 (.mv (.t 4))), (o 18 (.bin .add (.t 17) (ci 1))), (o 4 (.mv (.t 18)))])))
noncomputable def fo10_0 (p : Pg10_0) (s : Sg10_0) : Stp Sg10_0 → Option (XExit × St) := onStp (fun s' => some (.normal, en10_0 p s')) (fun t => xAt xs10_0 p s t 1) none
theorem rd10_0_0 (p : Pg10_0) (s : Sg10_0) (t1 : Rg28) (ht1 : t1 = (p28u ⟨3, (toN (hdA (p.gs0 s.is4.toNat))), (toG (hdA (p.gs0 s.is4.toNat))), 0⟩)) (t2 : Rg28) (ht2 : t2 = (p28u ⟨4, (toN (hdA (p.gs0 s.is4.toNat))), (toG (hdA (p.gs0 s.is4.toNat))), t1.ih0_0_1⟩)) (t3 : Rg28) (ht3 : t3 = (p28u ⟨20, (toN (hdA (p.gs0 s.is4.toNat))), (toG (hdA (p.gs0 s.is4.toNat))), t2.ih0_0_1⟩)) (t4 : Rg28) (ht4 : t4 = (p28u ⟨12, (toN (hdA (p.gs0 s.is4.toNat))), (toG (hdA (p.gs0 s.is4.toNat))), t3.ih0_0_1⟩)) (t5 : List Ent × Int) (ht5 : t5 = (pA [] (⟨t1.is0, t2.is0, t3.is0, (W (t3.is0 + t4.is0))⟩ : Ent))) : (roundE (En tb10u) 0 [0, 3, 4] (.pc l10_0) (h10_0_0 p s)).run = (sel (decide (s.is4 < (↑p.ns0 : Int)))
 (sel (decide (s.is4 < 8))
  (sel (inB s.is4 p.ns0)
  (sel ((Nat.ble 1 (len (p.gs0 s.is4.toNat))) && (okCKs [(CK.sl 1)] (p.gs0 s.is4.toNat)))
  (sel (Nat.beq t1.alt 1)
  (sel (Nat.beq t2.alt 1)
  (sel (Nat.beq t3.alt 1)
  (sel (Nat.beq t4.alt 1)
  (sel (gA [] (⟨t1.is0, t2.is0, t3.is0, (W (t3.is0 + t4.is0))⟩ : Ent))
  (sel (t5.2 == 0)
  (some (.normal, h10_0_1 p ⟨1, (W (s.is4 + 1)), (List.length t5.1), (fun k => rE (gE t5.1 k))⟩))
  (some (.normal, h10_0_0 p ⟨0, (W (s.is4 + 1)), 0, (fun _ => [])⟩)))
  none)
  none)
  none)
  none)
  none)
  none)
  none)
  (some (x10_0_1 p s)))
 (some (x10_0_2 p s))) := by subst ht1; subst ht2; subst ht3; subst ht4; subst ht5; kernel_rfl
noncomputable def su10_0_0 (p : Pg10_0) (s : Sg10_0) : Stp Sg10_0 := let t1 := (p28u ⟨3, (toN (hdA (p.gs0 s.is4.toNat))), (toG (hdA (p.gs0 s.is4.toNat))), 0⟩); let t2 := (p28u ⟨4, (toN (hdA (p.gs0 s.is4.toNat))), (toG (hdA (p.gs0 s.is4.toNat))), t1.ih0_0_1⟩); let t3 := (p28u ⟨20, (toN (hdA (p.gs0 s.is4.toNat))), (toG (hdA (p.gs0 s.is4.toNat))), t2.ih0_0_1⟩); let t4 := (p28u ⟨12, (toN (hdA (p.gs0 s.is4.toNat))), (toG (hdA (p.gs0 s.is4.toNat))), t3.ih0_0_1⟩); let t5 := (pA [] (⟨t1.is0, t2.is0, t3.is0, (W (t3.is0 + t4.is0))⟩ : Ent)); (sel (decide (s.is4 < (↑p.ns0 : Int)))
 (sel (decide (s.is4 < 8))
  (sel (inB s.is4 p.ns0)
  (sel ((Nat.ble 1 (len (p.gs0 s.is4.toNat))) && (okCKs [(CK.sl 1)] (p.gs0 s.is4.toNat)))
  (sel (Nat.beq t1.alt 1)
  (sel (Nat.beq t2.alt 1)
  (sel (Nat.beq t3.alt 1)
  (sel (Nat.beq t4.alt 1)
  (sel (gA [] (⟨t1.is0, t2.is0, t3.is0, (W (t3.is0 + t4.is0))⟩ : Ent))
  (sel (t5.2 == 0)
  (.next ⟨1, (W (s.is4 + 1)), (List.length t5.1), (fun k => rE (gE t5.1 k))⟩)
  (.next ⟨0, (W (s.is4 + 1)), 0, (fun _ => [])⟩))
  .fail)
  .fail)
  .fail)
  .fail)
  .fail)
  .fail)
  .fail)
  (.exit 1))
 (.exit 2))
theorem q10_0_0 (p : Pg10_0) (s : Sg10_0) (c1 c2 c3 c4 c5 c6 c7 c8 c9 c10 : Bool) (t5 : List Ent × Int) : (fo10_0 p s) (sel c1
 (sel c2
  (sel c3
  (sel c4
  (sel c5
  (sel c6
  (sel c7
  (sel c8
  (sel c9
  (sel c10
  (.next ⟨1, (W (s.is4 + 1)), (List.length t5.1), (fun k => rE (gE t5.1 k))⟩)
  (.next ⟨0, (W (s.is4 + 1)), 0, (fun _ => [])⟩))
  .fail)
  .fail)
  .fail)
  .fail)
  .fail)
  .fail)
  .fail)
  (.exit 1))
 (.exit 2)) = (sel c1
 (sel c2
  (sel c3
  (sel c4
  (sel c5
  (sel c6
  (sel c7
  (sel c8
  (sel c9
  (sel c10
  (some (.normal, h10_0_1 p ⟨1, (W (s.is4 + 1)), (List.length t5.1), (fun k => rE (gE t5.1 k))⟩))
  (some (.normal, h10_0_0 p ⟨0, (W (s.is4 + 1)), 0, (fun _ => [])⟩)))
  none)
  none)
  none)
  none)
  none)
  none)
  none)
  (some (x10_0_1 p s)))
 (some (x10_0_2 p s))) := (stpSel (f := (fo10_0 p s)) (stpSel (f := (fo10_0 p s)) (stpSel (f := (fo10_0 p s)) (stpSel (f := (fo10_0 p s)) (stpSel (f := (fo10_0 p s)) (stpSel (f := (fo10_0 p s)) (stpSel (f := (fo10_0 p s)) (stpSel (f := (fo10_0 p s)) (stpSel (f := (fo10_0 p s)) (stpSel (f := (fo10_0 p s)) rfl rfl) rfl) rfl) rfl) rfl) rfl) rfl) rfl) rfl) rfl)
theorem sp10_0_0 (p : Pg10_0) (s : Sg10_0) : (roundE (En tb10u) 0 [0, 3, 4] (.pc l10_0) (h10_0_0 p s)).run = fo10_0 p s (su10_0_0 p s) := (rd10_0_0 p s _ rfl _ rfl _ rfl _ rfl _ rfl).trans (q10_0_0 p s _ _ _ _ _ _ _ _ _ _ _).symm
theorem rd10_0_1 (p : Pg10_0) (s : Sg10_0) (t1 : Rg28) (ht1 : t1 = (p28u ⟨3, (toN (hdA (p.gs0 s.is4.toNat))), (toG (hdA (p.gs0 s.is4.toNat))), 0⟩)) (t2 : Rg28) (ht2 : t2 = (p28u ⟨4, (toN (hdA (p.gs0 s.is4.toNat))), (toG (hdA (p.gs0 s.is4.toNat))), t1.ih0_0_1⟩)) (t3 : Rg28) (ht3 : t3 = (p28u ⟨20, (toN (hdA (p.gs0 s.is4.toNat))), (toG (hdA (p.gs0 s.is4.toNat))), t2.ih0_0_1⟩)) (t4 : Rg28) (ht4 : t4 = (p28u ⟨12, (toN (hdA (p.gs0 s.is4.toNat))), (toG (hdA (p.gs0 s.is4.toNat))), t3.ih0_0_1⟩)) (t5 : List Ent × Int) (ht5 : t5 = (pA (lsE s.ns3 s.gs3) (⟨t1.is0, t2.is0, t3.is0, (W (t3.is0 + t4.is0))⟩ : Ent))) : (roundE (En tb10u) 0 [0, 3, 4] (.pc l10_0) (h10_0_1 p s)).run = (sel (decide (s.is4 < (↑p.ns0 : Int)))
 (sel (decide (s.is4 < 8))
  (sel (inB s.is4 p.ns0)
  (sel ((Nat.ble 1 (len (p.gs0 s.is4.toNat))) && (okCKs [(CK.sl 1)] (p.gs0 s.is4.toNat)))
  (sel (Nat.beq t1.alt 1)
  (sel (Nat.beq t2.alt 1)
  (sel (Nat.beq t3.alt 1)
  (sel (Nat.beq t4.alt 1)
  (sel (okEs s.ns3 s.gs3)
  (sel (gA (lsE s.ns3 s.gs3) (⟨t1.is0, t2.is0, t3.is0, (W (t3.is0 + t4.is0))⟩ : Ent))
  (sel (t5.2 == 0)
  (some (.normal, h10_0_1 p ⟨1, (W (s.is4 + 1)), (List.length t5.1), (fun k => rE (gE t5.1 k))⟩))
  (some (.normal, h10_0_1 p ⟨1, (W (s.is4 + 1)), s.ns3, s.gs3⟩)))
  none)
  none)
  none)
  none)
  none)
  none)
  none)
  none)
  (some (x10_0_3 p s)))
 (some (x10_0_4 p s))) := by subst ht1; subst ht2; subst ht3; subst ht4; subst ht5; kernel_rfl
noncomputable def su10_0_1 (p : Pg10_0) (s : Sg10_0) : Stp Sg10_0 := let t1 := (p28u ⟨3, (toN (hdA (p.gs0 s.is4.toNat))), (toG (hdA (p.gs0 s.is4.toNat))), 0⟩); let t2 := (p28u ⟨4, (toN (hdA (p.gs0 s.is4.toNat))), (toG (hdA (p.gs0 s.is4.toNat))), t1.ih0_0_1⟩); let t3 := (p28u ⟨20, (toN (hdA (p.gs0 s.is4.toNat))), (toG (hdA (p.gs0 s.is4.toNat))), t2.ih0_0_1⟩); let t4 := (p28u ⟨12, (toN (hdA (p.gs0 s.is4.toNat))), (toG (hdA (p.gs0 s.is4.toNat))), t3.ih0_0_1⟩); let t5 := (pA (lsE s.ns3 s.gs3) (⟨t1.is0, t2.is0, t3.is0, (W (t3.is0 + t4.is0))⟩ : Ent)); (sel (decide (s.is4 < (↑p.ns0 : Int)))
 (sel (decide (s.is4 < 8))
  (sel (inB s.is4 p.ns0)
  (sel ((Nat.ble 1 (len (p.gs0 s.is4.toNat))) && (okCKs [(CK.sl 1)] (p.gs0 s.is4.toNat)))
  (sel (Nat.beq t1.alt 1)
  (sel (Nat.beq t2.alt 1)
  (sel (Nat.beq t3.alt 1)
  (sel (Nat.beq t4.alt 1)
  (sel (okEs s.ns3 s.gs3)
  (sel (gA (lsE s.ns3 s.gs3) (⟨t1.is0, t2.is0, t3.is0, (W (t3.is0 + t4.is0))⟩ : Ent))
  (sel (t5.2 == 0)
  (.next ⟨1, (W (s.is4 + 1)), (List.length t5.1), (fun k => rE (gE t5.1 k))⟩)
  (.next ⟨1, (W (s.is4 + 1)), s.ns3, s.gs3⟩))
  .fail)
  .fail)
  .fail)
  .fail)
  .fail)
  .fail)
  .fail)
  .fail)
  (.exit 3))
 (.exit 4))
theorem q10_0_1 (p : Pg10_0) (s : Sg10_0) (c1 c2 c3 c4 c5 c6 c7 c8 c9 c10 c11 : Bool) (t5 : List Ent × Int) : (fo10_0 p s) (sel c1
 (sel c2
  (sel c3
  (sel c4
  (sel c5
  (sel c6
  (sel c7
  (sel c8
  (sel c9
  (sel c10
  (sel c11
  (.next ⟨1, (W (s.is4 + 1)), (List.length t5.1), (fun k => rE (gE t5.1 k))⟩)
  (.next ⟨1, (W (s.is4 + 1)), s.ns3, s.gs3⟩))
  .fail)
  .fail)
  .fail)
  .fail)
  .fail)
  .fail)
  .fail)
  .fail)
  (.exit 3))
 (.exit 4)) = (sel c1
 (sel c2
  (sel c3
  (sel c4
  (sel c5
  (sel c6
  (sel c7
  (sel c8
  (sel c9
  (sel c10
  (sel c11
  (some (.normal, h10_0_1 p ⟨1, (W (s.is4 + 1)), (List.length t5.1), (fun k => rE (gE t5.1 k))⟩))
  (some (.normal, h10_0_1 p ⟨1, (W (s.is4 + 1)), s.ns3, s.gs3⟩)))
  none)
  none)
  none)
  none)
  none)
  none)
  none)
  none)
  (some (x10_0_3 p s)))
 (some (x10_0_4 p s))) := (stpSel (f := (fo10_0 p s)) (stpSel (f := (fo10_0 p s)) (stpSel (f := (fo10_0 p s)) (stpSel (f := (fo10_0 p s)) (stpSel (f := (fo10_0 p s)) (stpSel (f := (fo10_0 p s)) (stpSel (f := (fo10_0 p s)) (stpSel (f := (fo10_0 p s)) (stpSel (f := (fo10_0 p s)) (stpSel (f := (fo10_0 p s)) (stpSel (f := (fo10_0 p s)) rfl rfl) rfl) rfl) rfl) rfl) rfl) rfl) rfl) rfl) rfl) rfl)
theorem sp10_0_1 (p : Pg10_0) (s : Sg10_0) : (roundE (En tb10u) 0 [0, 3, 4] (.pc l10_0) (h10_0_1 p s)).run = fo10_0 p s (su10_0_1 p s) := (rd10_0_1 p s _ rfl _ rfl _ rfl _ rfl _ rfl).trans (q10_0_1 p s _ _ _ _ _ _ _ _ _ _ _ _).symm
noncomputable def st10_0 (p : Pg10_0) (s : Sg10_0) : Stp Sg10_0 := (sel (Nat.beq s.ph 1) (su10_0_1 p s) (su10_0_0 p s))
theorem sp10_0 (p : Pg10_0) (s : Sg10_0) : (roundE (En tb10u) 0 [0, 3, 4] (.pc l10_0) (en10_0 p s)).run = fo10_0 p s (st10_0 p s) := by
  show (roundE (En tb10u) 0 [0, 3, 4] (.pc l10_0) (sel (Nat.beq s.ph 1) (h10_0_1 p s) (h10_0_0 p s))).run = fo10_0 p s (sel (Nat.beq s.ph 1) (su10_0_1 p s) (su10_0_0 p s))
  cases Nat.beq s.ph 1 with
  | true => exact sp10_0_1 p s
  | false =>
  exact sp10_0_0 p s
noncomputable def al10_0_0 : Alt Pg10_0 Sg10_0 := ⟨[(.s (.tree 1)), (.s .unk), (.s .unk), (.s .nil), (.s (.int .i64)), (.s .unk), (.s .unk), (.s .unk), (.s .unk), (.s .unk), (.s .unk), (.s .unk), (.s .unk), (.s .unk), (.s .unk), (.s .unk), (.s .unk), (.s .unk), (.s .unk), (.s .unk), (.s .unk), (.s .unk), (.s .unk), (.s .unk), (.s .unk), (.s .unk), (.s .unk), (.s .unk), (.s .unk), (.s .unk), (.s .unk), (.s .unk), (.s .unk), (.s .unk), (.s .unk), (.s .unk), (.s .unk), (.s .unk), (.s .unk), (.s .unk), (.s .unk), (.s .unk), (.s .unk), (.s .unk), (.s .unk), (.s .unk), (.s .unk), (.s .unk)], [], fun a H => (⟨(toN (slotA a 0)), (toG (slotA a 0))⟩, ⟨0, (toI (slotA a 4)), 0, (fun _ => [])⟩)⟩
theorem la10_0_0 (a : List AVal) (H : List ABlk) : (⟨asSls al10_0_0.sh a, asBks al10_0_0.bl H⟩ : St) = en10_0 (al10_0_0.rd (asSls al10_0_0.sh a) (asBks al10_0_0.bl H)).1 (al10_0_0.rd (asSls al10_0_0.sh a) (asBks al10_0_0.bl H)).2 := by kernel_rfl
noncomputable def al10_0_1 : Alt Pg10_0 Sg10_0 := ⟨[(.s (.tree 1)), (.s .unk), (.s .unk), (.s (.tree 4)), (.s (.int .i64)), (.s .unk), (.s .unk), (.s .unk), (.s .unk), (.s .unk), (.s .unk), (.s .unk), (.s .unk), (.s .unk), (.s .unk), (.s .unk), (.s .unk), (.s .unk), (.s .unk), (.s .unk), (.s .unk), (.s .unk), (.s .unk), (.s .unk), (.s .unk), (.s .unk), (.s .unk), (.s .unk), (.s .unk), (.s .unk), (.s .unk), (.s .unk), (.s .unk), (.s .unk), (.s .unk), (.s .unk), (.s .unk), (.s .unk), (.s .unk), (.s .unk), (.s .unk), (.s .unk), (.s .unk), (.s .unk), (.s .unk), (.s .unk), (.s .unk), (.s .unk)], [], fun a H => (⟨(toN (slotA a 0)), (toG (slotA a 0))⟩, ⟨1, (toI (slotA a 4)), (toN (slotA a 3)), (toG (slotA a 3))⟩)⟩
theorem la10_0_1 (a : List AVal) (H : List ABlk) : (⟨asSls al10_0_1.sh a, asBks al10_0_1.bl H⟩ : St) = en10_0 (al10_0_1.rd (asSls al10_0_1.sh a) (asBks al10_0_1.bl H)).1 (al10_0_1.rd (asSls al10_0_1.sh a) (asBks al10_0_1.bl H)).2 := by kernel_rfl
noncomputable def as10_0 : List (Alt Pg10_0 Sg10_0) := [al10_0_0, al10_0_1]
theorem lo10_0 (s : St) : Below ((loopL 0 [0, 3, 4] as10_0 st10_0 xs10_0) s) (exec (En tb10u) 0 (.loop [0, 3, 4] l10_0) s) :=
  loopL_below (E := En tb10u) (enc := en10_0) (body := (.pc l10_0)) (alts := as10_0) (xs := xs10_0) (.pc _) rfl (.cons la10_0_0 (.cons la10_0_1 .nil)) (.cons nx10_0_1 (.cons nx10_0_2 (.cons nx10_0_3 (.cons nx10_0_4 .nil)))) (fun p s => sp10_0 p s) s
noncomputable def ps10 : PS := (.seq (.pc (.ops [(o 2 (.mv (.c (.v (.slice none 0 0)))))])) (.seq (.pc (.ops [(o 3 (.mv (.c (.v (.slice none 0 0)))))])) (.seq (.seq (.pc (.ops [(o 4 (.mv (ci 0)))])) (.block 0 (.sum (loopL 0 [0, 3, 4] as10_0 st10_0 xs10_0)))) (.pc (.seq (.ops [(o 47 (.mv (.t 3))), (o 2 (.mv (.t 47)))]) .ret)))))
theorem sd10 : Stands (En tb10u) 0 ps10 pf10.body := (.seq (.pc _) (.seq (.pc _) (.seq (.seq (.pc _) (.block _ (.sum lo10_0))) (.pc _))))
structure Rg10 where
  alt : Nat
  ns0 : Nat
  gs0 : Nat → List AVal
noncomputable def p10u (x : Ag10) : Rg10 := let t1 := (lp (st10_0 (⟨x.ns0, x.gs0⟩ : Pg10_0)) (⟨0, 0, 0, (fun _ => [])⟩ : Sg10_0)); (sel (Nat.beq t1.1 1)
 (⟨1, 0, (fun _ => [])⟩ : Rg10)
 (sel (Nat.beq t1.1 2)
  (⟨1, 0, (fun _ => [])⟩ : Rg10)
  (sel (Nat.beq t1.1 3)
  (⟨2, t1.2.ns3, t1.2.gs3⟩ : Rg10)
  (sel (Nat.beq t1.1 4)
  (⟨2, t1.2.ns3, t1.2.gs3⟩ : Rg10)
  (⟨0, 0, (fun _ => [])⟩ : Rg10)))))
noncomputable def ko10 (x : Ag10) (r : Rg10) : DT (AVal × List ABlk) := (.ite (Nat.beq r.alt 1) (.ret ((.v (.slice none 0 0)), [])) (.ite (Nat.beq r.alt 2) (.ret ((.tree 4 r.ns0 r.gs0), [])) .fail))
noncomputable def ea10 (x : Ag10) : St := ⟨[(.tree 1 x.ns0 x.gs0)], []⟩
noncomputable def aa10 : Alt Ag10 Unit := ⟨[(.s (.tree 1))], [], fun a H => (⟨(toN (slotA a 0)), (toG (slotA a 0))⟩, ())⟩
theorem ala10 (a : List AVal) (H : List ABlk) : (⟨asSls aa10.sh a, asBks aa10.bl H⟩ : St) = ea10 (aa10.rd (asSls aa10.sh a) (asBks aa10.bl H)).1 := by kernel_rfl
noncomputable def S10u : Sum := sumA aa10 (fun x => ko10 x (p10u x))
theorem r10 (x : Ag10) (t1 : Nat × Sg10_0) (ht1 : t1 = (lp (st10_0 (⟨x.ns0, x.gs0⟩ : Pg10_0)) (⟨0, 0, 0, (fun _ => [])⟩ : Sg10_0))) : (runS (En tb10u) pf10 ps10 [(.tree 1 x.ns0 x.gs0)] []).run = (sel (Nat.beq t1.1 1)
 (some ((.v (.slice none 0 0)), []))
 (sel (Nat.beq t1.1 2)
  (some ((.v (.slice none 0 0)), []))
  (sel (Nat.beq t1.1 3)
  (some ((.tree 4 t1.2.ns3 t1.2.gs3), []))
  (sel (Nat.beq t1.1 4)
  (some ((.tree 4 t1.2.ns3 t1.2.gs3), []))
  none)))) := by subst ht1; kernel_rfl
noncomputable def fo10 (x : Ag10) : Rg10 → Option (AVal × List ABlk) := fun r => (ko10 x r).run
theorem m10 (x : Ag10) (c1 c2 c3 c4 : Bool) (t1 : Nat × Sg10_0) : (fo10 x) (sel c1
 (⟨1, 0, (fun _ => [])⟩ : Rg10)
 (sel c2
  (⟨1, 0, (fun _ => [])⟩ : Rg10)
  (sel c3
  (⟨2, t1.2.ns3, t1.2.gs3⟩ : Rg10)
  (sel c4
  (⟨2, t1.2.ns3, t1.2.gs3⟩ : Rg10)
  (⟨0, 0, (fun _ => [])⟩ : Rg10))))) = (sel c1
 (some ((.v (.slice none 0 0)), []))
 (sel c2
  (some ((.v (.slice none 0 0)), []))
  (sel c3
  (some ((.tree 4 t1.2.ns3 t1.2.gs3), []))
  (sel c4
  (some ((.tree 4 t1.2.ns3 t1.2.gs3), []))
  none)))) := (stpSel (f := (fo10 x)) rfl (stpSel (f := (fo10 x)) rfl (stpSel (f := (fo10 x)) rfl (stpSel (f := (fo10 x)) rfl rfl))))
theorem ok10u : FnOk Try.prog G 10 S10u := sumA_ok (enc := ea10) ala10 (b10 (E := En tb10u) rfl (tdeps tbo10u)) fun x r h => runS_below sd10 _ (((r10 x _ rfl).trans (m10 x _ _ _ _ _).symm).trans h)
end Go.Ev.W.X

