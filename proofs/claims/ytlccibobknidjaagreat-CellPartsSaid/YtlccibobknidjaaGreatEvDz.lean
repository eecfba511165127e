/- Own work: a part of the proof. -/
import Derived.Test.YtlccibobknidjaaGreatEvD6
import Derived.Test.YtlccibobknidjaaGreatEvD5
import Derived.Test.YtlccibobknidjaaGreatEvD2
import Derived.Shelf.SlSortCmp.WholeK
import Derived.Test.YtlccibobknidjaaGreatEvSpB
import Derived.KernelRfl
set_option linter.unusedVariables false
set_option linter.unusedSimpArgs false
set_option linter.unnecessarySimpa false
set_option linter.unusedSectionVars false
section
namespace Go.Ev.Ce
open Go Go.Ev Go.Ev.L Go.Proofs
set_option maxRecDepth 100000
noncomputable def Ed0 : List (Nat × Sum) := [(98, ka9), (97, Wb5), (111, uc4), (35, Qc7), (21, ec4), (46, oc7), (112, Ac1)]
theorem rd6 : i6 prog G Ed0 := ⟨ra3, fc5, Nc3, Dd5, zc2, bd2, rd5, trivial⟩
noncomputable def ob8 (x : List Int) : Option (b7 × List b8) := let t1 := (l4 ⟨4, (rt tI x), 0⟩); let t2 := (Ea6 ⟨6, (rt tI (rt tI x)), t1.b9⟩); let t3 := (l4 ⟨6, (rt tI t2.e8), t2.b9⟩); let t4 := (l4 ⟨6, (rt tI (rt tI t2.e8)), t3.b9⟩); let t5 := (l4 ⟨6, (rt tI (rt tI (rt tI t2.e8))), t4.b9⟩); let t6 := (Ab5 (⟨t2.na5, t2.na6, t2.na7⟩ : V3) (⟨(W ((W (t2.na5 + 1)) + t3.is0)), (W ((W (t2.na6 + 1)) + t4.is0)), (W ((W (t2.na7 + 1)) + t5.is0))⟩ : V3)); let a0 := (if 7 < (↑(List.length x) : Int) then 7 else (↑(List.length x) : Int)); let a1 := (o7 (fun k => (tP).row (gL tP t6 k)) (List.range (List.length t6))); let a2 := (fun k => (fun k => (tI).row (gL tI x k)) (a0.toNat + k)); let a3 := ((List.length x) - a0.toNat); let t7 := (Qc6 (lsL tI a3 a2)); let t8 := (Va4 [t7]); let t9 := (ta9 (lsL tI a3 a2)); let t10 := (vb1 (rt tV t9)); let t11 := (Va4 (slR tP (app (app [] a1) [[(i t7.n.x), (i t7.n.y), (i t7.n.z), (i t7.b)]]) 0 ((0 + (len a1)) + 1))); (sl ((cnE tI x) && true) (sl (Nat.beq t1.alt 1) (sl ((cnE tI (rt tI x)) && true) (sl (Nat.beq t2.alt 1) (sl ((cnE tI t2.e8) && true) (sl (Nat.beq t3.alt 1) (sl ((cnE tI (rt tI t2.e8)) && true) (sl (Nat.beq t4.alt 1) (sl ((cnE tI (rt tI (rt tI t2.e8))) && true) (sl (Nat.beq t5.alt 1) (sl (kb0 (⟨t2.na5, t2.na6, t2.na7⟩ : V3) (⟨(W ((W (t2.na5 + 1)) + t3.is0)), (W ((W (t2.na6 + 1)) + t4.is0)), (W ((W (t2.na7 + 1)) + t5.is0))⟩ : V3)) (sl (inB a0 ((List.length x) + 1)) (sl (t1.is0 == 2) (sl (Nat.beq (len a1) 0) (sl (okL tI a3 a2) (sl (Hb0 (lsL tI a3 a2)) (sl (Ma0 [t7]) (sl t8 (some ((.sl 0 0 1 0), [⟨50, 4, [[(i t7.n.x), (i t7.n.y), (i t7.n.z), (i t7.b)]], true, false, 0⟩])) (sl (t1.is0 == 3) (sl (okL tI a3 a2) (sl (Sa6 (lsL tI a3 a2)) (sl (okE tV t9) (sl (Na8 (rt tV t9)) (sl (t10.2 == 0) (some ((eL tP t10.1), [])) (some ((eL tP t6), []))) none) none) none) none) (some ((eL tP t6), [])))) none) none) none) (sl (Nat.beq 0 0 && Nat.ble ((0 + (len a1)) * 32) room) (sl (okL tI a3 a2) (sl (Hb0 (lsL tI a3 a2)) (sl (Nat.beq (0 + (len a1)) (len (app [] a1)) && Nat.ble (((0 + (len a1)) + 1) * 32) room) (sl (okS tP (app (app [] a1) [[(i t7.n.x), (i t7.n.y), (i t7.n.z), (i t7.b)]]) 0 ((0 + (len a1)) + 1)) (sl (Ma0 (slR tP (app (app [] a1) [[(i t7.n.x), (i t7.n.y), (i t7.n.z), (i t7.b)]]) 0 ((0 + (len a1)) + 1))) (sl t11 (some ((.sl 0 0 ((0 + (len a1)) + 1) 0), [⟨50, 4, (app (app [] a1) [[(i t7.n.x), (i t7.n.y), (i t7.n.z), (i t7.b)]]), true, false, 0⟩])) (sl (t1.is0 == 3) (sl (okL tI a3 a2) (sl (Sa6 (lsL tI a3 a2)) (sl (okE tV t9) (sl (Na8 (rt tV t9)) (sl (t10.2 == 0) (some ((eL tP t10.1), [])) (some ((eL tP t6), []))) none) none) none) none) (some ((eL tP t6), [])))) none) none) none) none) none) none)) (sl (t1.is0 == 3) (sl (okL tI a3 a2) (sl (Sa6 (lsL tI a3 a2)) (sl (okE tV t9) (sl (Na8 (rt tV t9)) (sl (t10.2 == 0) (some ((eL tP t10.1), [])) (some ((eL tP t6), []))) none) none) none) none) (some ((eL tP t6), [])))) none) none) none) none) none) none) none) none) none) none) none) none)
noncomputable def ha9 (x : List Int) : List Pln := K5 (one (r1L tP)) (ob8 x)
noncomputable def fc9 (x : List Int) : Bool := okO (one (r1L tP)) (ob8 x)
noncomputable def Sc0 : Sum := R3 (W7 tI) (fun x => .guard (fc9 x) (.ret ((one (r1L tP)).enc (ha9 x), [])))
theorem Ed1 : g9 prog G 30 Sc0 := za1 (bd b30 rd6) (one (r1L tP)) (o := ob8) fun x => r9 (by kernel_rfl)
noncomputable def rd7 : List (Nat × Sum) := []
theorem bd3 : i6 prog G rd7 := trivial
noncomputable def bb5 (x : List Pln) : Option (b7 × List b8) := (sl (inB (if 8 < (↑(List.length x) : Int) then 8 else (↑(List.length x) : Int)) ((List.length x) + 1)) (some ((.tree 4 ((if 8 < (↑(List.length x) : Int) then 8 else (↑(List.length x) : Int)).toNat - 0) (fun k => (fun k => (tP).row (gL tP x k)) (0 + k))), [])) none)
noncomputable def vb2 (x : List Pln) : List Pln := K5 (one (r1L tP)) (bb5 x)
noncomputable def Sb5 (x : List Pln) : Bool := okO (one (r1L tP)) (bb5 x)
noncomputable def Ac2 : Sum := R3 (W7 tP) (fun x => .guard (Sb5 x) (.ret ((one (r1L tP)).enc (vb2 x), [])))
theorem rd8 : g9 prog G 82 Ac2 := za1 (bd b82 bd3) (one (r1L tP)) (o := bb5) fun x => r9 (by kernel_rfl)
noncomputable def vb3 : List (Nat × Sum) := []
theorem gc0 : i6 prog G vb3 := trivial
structure ia0 where
 B3 : List Pt
 Vc8 : List Pt
structure E1 where
 is5 : Int
noncomputable def Zb0 (p : ia0) (s : E1) : St := ⟨((eL tX p.B3) :: ((eL tX p.Vc8) :: (ra 3 ((i s.is5) :: (ra 20 []))))), []⟩
noncomputable def aa6 {α : Type} (k : E1 → α) (e : Nat → α) (z : α) (p : ia0) (s : E1) : α := (sl (decide (s.is5 < (↑(List.length p.B3) : Int))) (sl (inB s.is5 (List.length p.B3)) (sl (inB s.is5 (List.length p.Vc8)) (sl (!(((gL tX p.B3 s.is5.toNat).px == (gL tX p.Vc8 s.is5.toNat).px) && (((gL tX p.B3 s.is5.toNat).py == (gL tX p.Vc8 s.is5.toNat).py) && (((gL tX p.B3 s.is5.toNat).pz == (gL tX p.Vc8 s.is5.toNat).pz) && (((gL tX p.B3 s.is5.toNat).pw == (gL tX p.Vc8 s.is5.toNat).pw) && true))))) (e 1) (k ⟨(W (s.is5 + 1))⟩)) z) z) (e 2))
noncomputable def da3 (p : ia0) (s : E1) : Stp E1 := aa6 .next .exit .fail p s
noncomputable def Ma2 : Lo ia0 E1 := ⟨En vb3, 0, Se5, [1, 1, 0, 1, 4, 4], [0, 1, 5], .p, [⟨((.s (.c 4 (nL tX))) :: ((.s (.c 4 (nL tX))) :: (ru2 3 ((.s (.o (.int .i64))) :: (ru2 20 []))))), [], fun a H => (⟨(rL tX (slT a 0)), (rL tX (slT a 1))⟩, ⟨(toI (slT a 5))⟩)⟩], da3, [(none, fun p s => ⟨[(b false)], []⟩), (some 0, fun p s => ⟨((eL tX p.B3) :: ((eL tX p.Vc8) :: (ra 3 ((i s.is5) :: (ra 5 ((i s.is5) :: ((eL tX p.B3) :: ((i (↑(List.length p.B3) : Int)) :: ((b (decide (s.is5 < (↑(List.length p.B3) : Int)))) :: (ra 11 [])))))))))), []⟩)], Zb0⟩
theorem Zb1 : Ma2.Ok := Lo.ok [] (by kernel_rfl) .nil rfl (.cons (fun a H => by kernel_rfl) .nil) fun p s => (.of @aa6 (fun F _ _ _ _ _ => by unfold aa6; (repeat' apply k9 (f := F)) <;> rfl) (by kernel_rfl))
noncomputable def ra5 (x : List Pt) (y : List Pt) : Option (b7 × List b8) := let t1 := (lp (da3 (⟨(rt tX x), (rt tX y)⟩ : ia0)) (⟨0⟩ : E1)); (sl ((↑(List.length x) : Int) != (↑(List.length y) : Int)) (some ((b false), [])) (sl ((cnE tX x) && ((cnE tX y) && true)) (sl (Nat.beq t1.1 1) (some ((b false), [])) (sl (Nat.beq t1.1 2) (some ((b true), [])) none)) none))
noncomputable def ra6 (x : List Pt) (y : List Pt) : Bool := K5 (one r1B) (ra5 x y)
noncomputable def ra7 (x : List Pt) (y : List Pt) : Bool := okO (one r1B) (ra5 x y)
noncomputable def Cb0 : Sum := oa1 (W7 tX) (W7 tX) (fun x y => .guard (ra7 x y) (.ret ((one r1B).enc (ra6 x y), [])))
theorem oc8 : g9 prog G 17 Cb0 := gb5 (bd b17 gc0) (one r1B) (o := ra5) fun x y => sa6 (.s .p (.s .p (.s (.s .p (.b (.u Ma2.ls))) .p))) [Ma2.pr] (by kernel_rfl) (.cons Zb1 .nil) (by kernel_rfl)
noncomputable def Ac3 : List (Nat × Sum) := []
theorem rd9 : i6 prog G Ac3 := trivial
structure Sa7 where
 c7 : List Pln
 Bc1 : List Pln
structure fa1 where
 is5 : Int
noncomputable def bd4 (p : Sa7) (s : fa1) : St := ⟨((eL tP p.c7) :: ((eL tP p.Bc1) :: (ra 3 ((i s.is5) :: (ra 20 []))))), []⟩
noncomputable def Ca7 {α : Type} (k : fa1 → α) (e : Nat → α) (z : α) (p : Sa7) (s : fa1) : α := (sl (decide (s.is5 < (↑(List.length p.c7) : Int))) (sl (inB s.is5 (List.length p.c7)) (sl (inB s.is5 (List.length p.Bc1)) (sl (!(((gL tP p.c7 s.is5.toNat).n.x == (gL tP p.Bc1 s.is5.toNat).n.x) && (((gL tP p.c7 s.is5.toNat).n.y == (gL tP p.Bc1 s.is5.toNat).n.y) && (((gL tP p.c7 s.is5.toNat).n.z == (gL tP p.Bc1 s.is5.toNat).n.z) && (((gL tP p.c7 s.is5.toNat).b == (gL tP p.Bc1 s.is5.toNat).b) && true))))) (e 1) (k ⟨(W (s.is5 + 1))⟩)) z) z) (e 2))
noncomputable def Ia7 (p : Sa7) (s : fa1) : Stp fa1 := Ca7 .next .exit .fail p s
noncomputable def Hb8 : Lo Sa7 fa1 := ⟨En Ac3, 0, Se8, [1, 1, 0, 1, 4, 4], [0, 1, 5], .p, [⟨((.s (.c 4 (nL tP))) :: ((.s (.c 4 (nL tP))) :: (ru2 3 ((.s (.o (.int .i64))) :: (ru2 20 []))))), [], fun a H => (⟨(rL tP (slT a 0)), (rL tP (slT a 1))⟩, ⟨(toI (slT a 5))⟩)⟩], Ia7, [(none, fun p s => ⟨[(b false)], []⟩), (some 0, fun p s => ⟨((eL tP p.c7) :: ((eL tP p.Bc1) :: (ra 3 ((i s.is5) :: (ra 5 ((i s.is5) :: ((eL tP p.c7) :: ((i (↑(List.length p.c7) : Int)) :: ((b (decide (s.is5 < (↑(List.length p.c7) : Int)))) :: (ra 11 [])))))))))), []⟩)], bd4⟩
theorem bd5 : Hb8.Ok := Lo.ok [] (by kernel_rfl) .nil rfl (.cons (fun a H => by kernel_rfl) .nil) fun p s => (.of @Ca7 (fun F _ _ _ _ _ => by unfold Ca7; (repeat' apply k9 (f := F)) <;> rfl) (by kernel_rfl))
noncomputable def ob9 (x : List Pln) (y : List Pln) : Option (b7 × List b8) := let t1 := (lp (Ia7 (⟨(rt tP x), (rt tP y)⟩ : Sa7)) (⟨0⟩ : fa1)); (sl ((↑(List.length x) : Int) != (↑(List.length y) : Int)) (some ((b false), [])) (sl ((cnE tP x) && ((cnE tP y) && true)) (sl (Nat.beq t1.1 1) (some ((b false), [])) (sl (Nat.beq t1.1 2) (some ((b true), [])) none)) none))
noncomputable def pb0 (x : List Pln) (y : List Pln) : Bool := K5 (one r1B) (ob9 x y)
noncomputable def pb1 (x : List Pln) (y : List Pln) : Bool := okO (one r1B) (ob9 x y)
noncomputable def gc1 : Sum := oa1 (W7 tP) (W7 tP) (fun x y => .guard (pb1 x y) (.ret ((one r1B).enc (pb0 x y), [])))
theorem Ac4 : g9 prog G 26 gc1 := gb5 (bd b26 rd9) (one r1B) (o := ob9) fun x y => sa6 (.s .p (.s .p (.s (.s .p (.b (.u Hb8.ls))) .p))) [Hb8.pr] (by kernel_rfl) (.cons bd5 .nil) (by kernel_rfl)
noncomputable def Sc1 : List (Nat × Sum) := [(47, Bb0), (118, id7), (119, fc6)]
theorem Ed2 : i6 prog G Sc1 := ⟨Fb8, Od5, zc6, trivial⟩
structure bb6 where
 is6 : Int
structure ta0 where
 ns5 : Nat
 eh0 : List (List b7)
noncomputable def sd0 (p : bb6) (s : ta0) : St := ⟨(ra 5 ((.sl 0 0 s.ns5 0) :: ((i p.is6) :: (ra 91 [])))), [⟨50, 4, s.eh0, true, false, 0⟩]⟩
noncomputable def Xa9 {α : Type} (k : ta0 → α) (e : Nat → α) (z : α) (p : bb6) (s : ta0) : α := (sl (decide ((↑s.ns5 : Int) ≤ 48)) (sl (inB p.is6 s.ns5) (sl (ldR tP s.eh0 (0 + p.is6.toNat)) (sl (Nat.beq s.ns5 (len s.eh0) && Nat.ble ((s.ns5 + 1) * 32) room) (k ⟨(s.ns5 + 1), (app s.eh0 [[(i (rdR tP s.eh0 (0 + p.is6.toNat)).n.x), (i (rdR tP s.eh0 (0 + p.is6.toNat)).n.y), (i (rdR tP s.eh0 (0 + p.is6.toNat)).n.z), (i (rdR tP s.eh0 (0 + p.is6.toNat)).b)]])⟩) z) z) z) (e 1))
noncomputable def Sa8 (p : bb6) (s : ta0) : Stp ta0 := Xa9 .next .exit .fail p s
noncomputable def Sb6 : Lo bb6 ta0 := ⟨En Sc1, 0, Se9, [1, 1, 1, 1, 0, 1, 4, 1, 3, 1, 3, 1, 3, 1, 3, 1, 3, 1, 2, 4, 4], [5, 6], .p, [⟨(ru2 5 ((.s (.o (.sl 0 0 (some 0) none))) :: ((.s (.o (.int .i64))) :: (ru2 91 [])))), [⟨50, 4, true, none⟩], fun a H => (⟨(toI (slT a 6))⟩, ⟨(slN (slT a 5)), (elT H 0)⟩)⟩], Sa8, [(some 1, fun p s => ⟨(ra 5 ((.sl 0 0 s.ns5 0) :: ((i p.is6) :: (ra 80 ((.sl 0 0 s.ns5 0) :: ((i (↑s.ns5 : Int)) :: ((b (decide ((↑s.ns5 : Int) ≤ 48))) :: (ra 8 [])))))))), [⟨50, 4, s.eh0, true, false, 0⟩]⟩)], sd0⟩
theorem sd1 : Sb6.Ok := Lo.ok [] (by kernel_rfl) .nil rfl (.cons (fun a H => by kernel_rfl) .nil) fun p s => (.of @Xa9 (fun F _ _ _ _ _ => by unfold Xa9; (repeat' apply k9 (f := F)) <;> rfl) (by kernel_rfl))
noncomputable def Cb1 (x : List Pln) (y : V3) : Option (b7 × List b8) := let t2 := (wa7 y.x 6); let t5 := (wa7 y.z 9); let a0 := (o7 (fun k => (tP).row (gL tP x k)) (List.range (List.length x))); let t1 := (wa7 y.y (↑(0 + (len a0)) : Int)); let t6 := (lp (Sa8 (⟨t1⟩ : bb6)) (⟨(0 + (len a0)), (app [] a0)⟩ : ta0)); let a1 := (G6 (e7 (app [] a0) (0 + (W (t1 + 1)).toNat)) ((0 + (len a0)) - (W (t1 + 1)).toNat)); let a2 := (f7 (app [] a0) (0 + t1.toNat)); let a3 := (rdR tP (app [] a0) (0 + t1.toNat)); let t3 := (id6 a3 (⟨y.z, y.y, y.x⟩ : V3)); let t4 := (Hb1 a3); let a4 := (Nat.blt (0 + t1.toNat) (len (app [] a0))); (sl (Nat.beq (len a0) 0) (some ((.sl 0 0 1 0), [⟨50, 4, [[(i 0), (i 0), (i 0), (i 0)]], true, false, 0⟩])) (sl (Nat.beq 0 0 && Nat.ble ((0 + (len a0)) * 32) room) (sl ((↑(0 + (len a0)) : Int) == 0) (some ((.sl 0 0 1 0), [⟨50, 4, [[(i 0), (i 0), (i 0), (i 0)]], true, false, 0⟩])) (sl (qa1 y.y (↑(0 + (len a0)) : Int)) (sl (qa1 y.x 6) (sl (t2 == 0) (sl (inB t1 (0 + (len a0))) (sl (ldR tP (app [] a0) (0 + t1.toNat)) (sl (wc0 a3 (⟨y.z, y.y, y.x⟩ : V3)) (sl (inB t1 (0 + (len a0))) (sl (a4 && (Nat.ble (0 + 4) (len a2))) (some ((.sl 0 0 (0 + (len a0)) 0), [⟨50, 4, (setAt (app [] a0) (0 + t1.toNat) (M4 a2 0 [(i t3.n.x), (i t3.n.y), (i t3.n.z), (i t3.b)])), true, false, 0⟩])) none) none) none) none) none) (sl (t2 == 1) (sl (inB t1 ((0 + (len a0)) + 1)) (sl (inB (W (t1 + 1)) ((0 + (len a0)) + 1)) (sl (Nat.ble ((t1.toNat - 0) + (len a1)) (len (app [] a0))) (some ((.sl 0 0 ((t1.toNat - 0) + (len a1)) 0), [⟨50, 4, (app (G6 (app [] a0) (t1.toNat - 0)) (app a1 (e7 (app [] a0) ((t1.toNat - 0) + (len a1))))), true, false, 0⟩])) none) none) none) (sl (t2 == 2) (sl (inB t1 (0 + (len a0))) (sl (ldR tP (app [] a0) (0 + t1.toNat)) (sl (inB t1 (0 + (len a0))) (sl (a4 && (Nat.ble (0 + 4) (len a2))) (some ((.sl 0 0 (0 + (len a0)) 0), [⟨50, 4, (setAt (app [] a0) (0 + t1.toNat) (M4 a2 0 [(i t4.n.x), (i t4.n.y), (i t4.n.z), (i t4.b)])), true, false, 0⟩])) none) none) none) none) (sl (t2 == 3) (sl (inB t1 (0 + (len a0))) (sl (ldR tP (app [] a0) (0 + t1.toNat)) (sl (Nat.beq (0 + (len a0)) (len (app [] a0)) && Nat.ble (((0 + (len a0)) + 1) * 32) room) (some ((.sl 0 0 ((0 + (len a0)) + 1) 0), [⟨50, 4, (app (app [] a0) [[(i a3.n.x), (i a3.n.y), (i a3.n.z), (i a3.b)]]), true, false, 0⟩])) none) none) none) (sl (t2 == 4) (sl (inB t1 (0 + (len a0))) (sl ((a4 && (Nat.ble (3 + 1) (len a2))) && (J8 [(CK.int .i64)] (e7 a2 3))) (sl (qa1 y.z 9) (sl (inB t1 (0 + (len a0))) (sl (a4 && (Nat.ble (3 + 1) (len a2))) (some ((.sl 0 0 (0 + (len a0)) 0), [⟨50, 4, (setAt (app [] a0) (0 + t1.toNat) (M4 a2 3 [(i (W ((W ((toI (hdA (e7 a2 3))) + t5)) - 4)))])), true, false, 0⟩])) none) none) none) none) none) (sl (t2 == 5) (sl (Nat.beq t6.1 1) (some ((.sl 0 0 t6.2.ns5 0), [⟨50, 4, t6.2.eh0, true, false, 0⟩])) none) (some ((.sl 0 0 (0 + (len a0)) 0), [⟨50, 4, (app [] a0), true, false, 0⟩])))))))) none) none)) none))
noncomputable def Ea8 (x : List Pln) (y : V3) : List Pln := K5 (one (r1L tP)) (Cb1 x y)
noncomputable def Cb2 (x : List Pln) (y : V3) : Bool := okO (one (r1L tP)) (Cb1 x y)
noncomputable def id9 : Sum := oa1 (W7 tP) (R4 tV) (fun x y => .guard (Cb2 x y) (.ret ((one (r1L tP)).enc (Ea8 x y), [])))
theorem Od7 : g9 prog G 39 id9 := gb5 (bd b39 Ed2) (one (r1L tP)) (o := Cb1) fun x y => sa6 (.s .p (.s .p (.s .p (.s .p (.s (.s .p (.b (.s .p (.c .p (.s .p (.c .p (.s .p (.c .p (.s .p (.c .p (.s .p (.c .p (.s .p (.c (.b (.u Sb6.ls)) .p)))))))))))))) .p))))) [Sb6.pr] (by kernel_rfl) (.cons sd1 .nil) (by kernel_rfl)
noncomputable def Sc2 : List (Nat × Sum) := [(30, Sc0), (39, id9), (82, Ac2)]
theorem Ec5 : i6 prog G Sc2 := ⟨Ed1, Od7, rd8, trivial⟩
noncomputable def Ia8 (x : List Int) (y : Q2) (z : List Pln) : Option (b7 × List b8) := let t1 := (ha9 (rt tI x)); let t2 := (Ea8 (rt tP t1) y.a); let t3 := (Ea8 (rt tP t2) y.b); let t4 := (vb2 (rt tP z)); (sl (okE tI x) (sl (fc9 (rt tI x)) (sl (okE tP t1) (sl (Cb2 (rt tP t1) y.a) (sl (okE tP t1) (sl (Cb2 (rt tP t1) y.a) (sl (okE tP t2) (sl (Cb2 (rt tP t2) y.b) (sl (okE tP z) (sl (Sb5 (rt tP z)) (some ((.sl 0 0 4 0), [⟨25, 1, [[(eL tP t1)], [(eL tP t2)], [(eL tP t3)], [(eL tP t4)]], true, false, 0⟩])) none) none) none) none) none) none) none) none) none) none)
noncomputable def yb7 (x : List Int) (y : Q2) (z : List Pln) : List (List Pln) := K5 (one (r1L (tLs tP))) (Ia8 x y z)
noncomputable def yb8 (x : List Int) (y : Q2) (z : List Pln) : Bool := okO (one (r1L (tLs tP))) (Ia8 x y z)
noncomputable def bc5 : Sum := Wc4 (W7 tI) (R4 tQ) (W7 tP) (fun x y z => .guard (yb8 x y z) (.ret ((one (r1L (tLs tP))).enc (yb7 x y z), [])))
theorem Sc3 : g9 prog G 14 bc5 := Je8 (bd b14 Ec5) (one (r1L (tLs tP))) (o := Ia8) fun x y z => r9 (by kernel_rfl)
end Go.Ev.Ce
end
namespace Go.Ev.Ce
open Go Go.Ev Go.Ev.L Go.Proofs
theorem Ed3 {Q : Pt → Prop} (r : List Pln) (p q : Pln) : ∀ (l : List Pln) (out : List Pt), (∀ s ∈ l, (mpt p q s).2 = true → inn r (mpt p q s).1 = true → Q (mpt p q s).1) → (∀ x ∈ out, Q x) → ∀ x ∈ nb8 r p q l out, Q x
 | [], out, _, h => h
 | s :: l, out, hs, h => Ed3 r p q l (Ba8 r p q out s) (fun t ht => hs t (List.mem_cons_of_mem _ ht)) fun x hx => by
  unfold Ba8 at hx
  split at hx
  ·rename_i hc
   rw [Bool.and_eq_true, Bool.and_eq_true] at hc
   rcases List.mem_append.1 hx with hx | hx
   ·exact h x hx
   ·rw [List.mem_singleton] at hx
    subst hx
    exact hs s List.mem_cons_self hc.1 hc.2.2
  ·exact h x hx
theorem Ed4 {Q : Pt → Prop} (r : List Pln) (p : Pln) : ∀ (l : List Pln) (out : List Pt), (∀ q ∈ l, ∀ s ∈ l, (mpt p q s).2 = true → inn r (mpt p q s).1 = true → Q (mpt p q s).1) → (∀ x ∈ out, Q x) → ∀ x ∈ nb9 r p l out, Q x
 | [], out, _, h => h
 | q :: l, out, hs, h => Ed4 r p l _ (fun a ha t ht => hs a (List.mem_cons_of_mem _ ha) t (List.mem_cons_of_mem _ ht)) (Ed3 r p q l out (fun t ht => hs q List.mem_cons_self t (List.mem_cons_of_mem _ ht)) h)
theorem Ed5 {Q : Pt → Prop} (r : List Pln) : ∀ (l : List Pln) (out : List Pt), (∀ p ∈ l, ∀ q ∈ l, ∀ s ∈ l, (mpt p q s).2 = true → inn r (mpt p q s).1 = true → Q (mpt p q s).1) → (∀ x ∈ out, Q x) → ∀ x ∈ Zc7 r l out, Q x
 | [], out, _, h => h
 | p :: l, out, hs, h => Ed5 r l _ (fun a ha c hc t ht => hs a (List.mem_cons_of_mem _ ha) c (List.mem_cons_of_mem _ hc) t (List.mem_cons_of_mem _ ht)) (Ed4 r p l out (fun c hc t ht => hs p List.mem_cons_self c (List.mem_cons_of_mem _ hc) t (List.mem_cons_of_mem _ ht)) h)
theorem Td5 {Q : Pt → Prop} {r : List Pln} (hs : ∀ p ∈ r, ∀ q ∈ r, ∀ s ∈ r, (mpt p q s).2 = true → inn r (mpt p q s).1 = true → Q (mpt p q s).1) : ∀ x ∈ cor r, Q x :=
 Ed5 r r [] hs fun x hx => by cases hx
structure Okx (x : Pt) : Prop where
 w1 : 0 < x.pw
 w2 : x.pw ≤ 600000000000
 c1 : Sm 300000000000000 x.px
 c2 : Sm 300000000000000 x.py
 c3 : Sm 300000000000000 x.pz
theorem Wb7 {r : List Pln} (hb : Bds r) : ∀ x ∈ cor r, Okx x := Td5 fun p hp q hq s hs h _ => by
 obtain ⟨h1, h2, h3, h4, h5⟩ := Nd8 (hb p hp) (hb q hq) (hb s hs) h
 exact ⟨h1, h5, h2, h3, h4⟩
theorem ze6 {c : List Pln} : ∀ x ∈ pts c, Okx x := by
 unfold pts
 cases h : chk c == 0 with
 | false => intro x hx; cases hx
 | true => exact Wb7 (vb0 h).1
theorem oc9 (c : List Pln) : (pts c).length ≤ 8000000 := by
 unfold pts
 cases h : chk c == 0 with
 | false => exact Nat.zero_le _
 | true => exact qd3 _ (vb0 h).1 (vb0 h).2
theorem Ed6 {x y : Int} (hy : 0 < y) : Int.tmod x y + y * Int.tdiv x y = x ∧ -y < Int.tmod x y ∧ Int.tmod x y < y := by
 refine ⟨Int.tmod_add_mul_tdiv x y, ?_, Int.tmod_lt_of_pos x hy⟩
 have := Int.lt_tmod_of_pos x hy
 omega
theorem Td6 {x y q r : Int} (hy : 0 < y) (h : r + y * q = x) (h1 : 0 ≤ r) (h2 : r < y) : x / y = q := ((Int.ediv_emod_unique hy).2 ⟨h, h1, h2⟩).1
theorem ze7 {x y : Int} (hx : Sm 300000000000000 x) (hy : 0 < y) : Sm 300000000000000 (Int.tdiv x y) := J6 hx hy
theorem Ed7 {x y : Int} (hx : Sm 300000000000000 x) (hy : 0 < y) : Ra6 x y = some (i (x / y), []) := by
 have hz : (y == 0) = false := by rw [beq_eq_false_iff_ne]; omega
 obtain ⟨h1, h2, h3⟩ := Ed6 (x := x) hy
 have hb := ze7 hx hy
 unfold Ra6
 rw [bf hz, bf hz, Ba7 (hb.mono (by omega))]
 by_cases h : Int.tmod x y < 0
 ·rw [btD h, Td6 hy (q := Int.tdiv x y - 1) (r := Int.tmod x y + y) (by rw [Int.mul_sub]; omega) (by omega) (by omega), Ga0 (by have := hb.1; omega) (by have := hb.2; omega)]
 ·rw [bfD h, Td6 hy h1 (by omega) h3]
theorem Wb8 {x y : Int} (hx : Sm 300000000000000 x) (hy : 0 < y) : ea9 x y = x / y := by unfold ea9; rw [Ed7 hx hy]; rfl
theorem Wb9 {x y : Int} (hx : Sm 300000000000000 x) (hy : 0 < y) : fa0 x y = true := by unfold fa0; rw [Ed7 hx hy]; rfl
theorem me2 (x : Int) {y : Int} (hy : 0 < y) (hy2 : y ≤ 4000000000000000000) : Ab9 x y = some (i (x % y), []) := by
 have hz : (y == 0) = false := by rw [beq_eq_false_iff_ne]; omega
 obtain ⟨h1, h2, h3⟩ := Ed6 (x := x) hy
 unfold Ab9
 rw [bfD (by omega), bf hz, bf hz, Ga0 (by omega) (by omega), Int.tmod_eq_emod_of_nonneg (by omega)]
 congr 3
 rw [Int.add_emod_right]
 conv => rhs; rw [← h1]
 rw [Int.add_mul_emod_self_left]
theorem Td7 (x : Int) {y : Int} (hy : 0 < y) (hy2 : y ≤ 4000000000000000000) : wa7 x y = x % y := by unfold wa7; rw [me2 x hy hy2]; rfl
theorem Sc4 (x : Int) {y : Int} (hy : 0 < y) (hy2 : y ≤ 4000000000000000000) : qa1 x y = true := by unfold qa1; rw [me2 x hy hy2]; rfl
noncomputable def pc0 (s : V3 × V3) (x : Pt) : V3 × V3 :=
 (⟨if x.px / x.pw < s.1.x then x.px / x.pw else s.1.x, if x.py / x.pw < s.1.y then x.py / x.pw else s.1.y, if x.pz / x.pw < s.1.z then x.pz / x.pw else s.1.z⟩,
  ⟨if W (0 - -x.px / x.pw) > s.2.x then W (0 - -x.px / x.pw) else s.2.x, if W (0 - -x.py / x.pw) > s.2.y then W (0 - -x.py / x.pw) else s.2.y, if W (0 - -x.pz / x.pw) > s.2.z then W (0 - -x.pz / x.pw) else s.2.z⟩)
noncomputable def bnd (c : List Pln) : V3 × V3 × Bool :=
 if ful c then (((pts c).foldl pc0 (⟨24, 24, 24⟩, ⟨-24, -24, -24⟩)).1, ((pts c).foldl pc0 (⟨24, 24, 24⟩, ⟨-24, -24, -24⟩)).2, true) else (⟨0, 0, 0⟩, ⟨0, 0, 0⟩, false)
theorem me3 {x : Int} (h : Sm 300000000000000 x) : W (0 - x) = -x := by obtain ⟨h1, h2⟩ := h; rw [Ga0 (by omega) (by omega)]; omega
theorem Sm.neg {n x : Int} (h : Sm n x) : Sm n (-x) := ⟨by have := h.2; omega, by have := h.1; omega⟩
noncomputable def Xe4 (r : V3 × V3 × Bool) : b7 := .tup [.agg (tV.row r.1), .agg (tV.row r.2.1), b r.2.2]
theorem Od8 (X : List Pt) (hX : X.length ≤ 8000000) (hok : ∀ x ∈ X, Okx x) (s : V3 × V3) : ∃ m, lp (ka7 ⟨X, (X.length : Int)⟩) ⟨0, s.1.x, s.1.y, s.1.z, s.2.x, s.2.y, s.2.z⟩ = (1, ⟨m, (X.foldl pc0 s).1.x, (X.foldl pc0 s).1.y, (X.foldl pc0 s).1.z, (X.foldl pc0 s).2.x, (X.foldl pc0 s).2.y, (X.foldl pc0 s).2.z⟩) := by
 have h := Vb5 (step := ka7 ⟨X, (X.length : Int)⟩) (mk := fun j (s : V3 × V3) => (⟨(j : Int), s.1.x, s.1.y, s.1.z, s.2.x, s.2.y, s.2.z⟩ : aa4)) (f := pc0) (fin := 1) tX X (fun _ _ => True) (by omega)
  (fun j s hj _ => ⟨by
   have hx := hok _ (Lc5 tX hj)
   simp only [ka7, ra2, Int.toNat_natCast, me3 hx.c1, me3 hx.c2, me3 hx.c3, Wb8 hx.c1 hx.w1, Wb8 hx.c2 hx.w1, Wb8 hx.c3 hx.w1, Wb9 hx.c1 hx.w1, Wb9 hx.c2 hx.w1, Wb9 hx.c3 hx.w1,
    Wb8 hx.c1.neg hx.w1, Wb8 hx.c2.neg hx.w1, Wb8 hx.c3.neg hx.w1, Wb9 hx.c1.neg hx.w1, Wb9 hx.c2.neg hx.w1, Wb9 hx.c3.neg hx.w1, o9 hj (by omega)]
   rw [btD (n9 hj), bt (f0 hj)]
   rfl, trivial⟩)
  (fun s _ => by simp only [ka7, ra2]; rw [bfD (P1 (Nat.lt_irrefl _))]) 0 (Nat.zero_le _) s trivial
 have h := h.1
 rw [List.drop_zero] at h
 exact ⟨_, h⟩
theorem Ed8 {c : List Pln} (hc : c.length ≤ 1000000000) : Ra7 c = some (Xe4 (bnd c), []) := by
 have ht : S7 ⟨24, 24, 24⟩ (-1) = ⟨-24, -24, -24⟩ := by
  unfold S7
  rw [show W (24 * -1) = -24 from by rw [Zd7]; rfl]
 obtain ⟨m, hm⟩ := Od8 (pts c) (oc9 c) ze6 (⟨24, 24, 24⟩, ⟨-24, -24, -24⟩)
 unfold Ra7 bnd
 simp only [m0, J9, m8, Rb6 hc, Rb7 hc, ob0 hc, ob1 hc, ht, hm]
 cases ful c <;> rfl
theorem Td8 (r : V3 × V3 × Bool) : (ub5 r1V r1V r1B).rd (Xe4 r, []) = some r := rfl
theorem ze8 {c : List Pln} (hc : c.length ≤ 1000000000) : ib1 c = bnd c := by unfold ib1; rw [Ed8 hc]; exact wa9 _ (Td8 _)
theorem ze9 {c : List Pln} (hc : c.length ≤ 1000000000) : ib2 c = true := by unfold ib2; rw [Ed8 hc]; exact Ia2 _ (Td8 _)
theorem me4 (x : Pt) : (x.px == x.px && (x.py == x.py && (x.pz == x.pz && (x.pw == x.pw && true)))) = true := (pd9 x x).2 rfl
theorem me5 (x : Pln) : (x.n.x == x.n.x && (x.n.y == x.n.y && (x.n.z == x.n.z && (x.b == x.b && true)))) = true := by simp
theorem bc6 (l : List Pt) (hl : l.length ≤ 1000000000) : ra5 l l = some (b true, []) := by
 have h := lb4 (step := da3 ⟨l, l⟩) (mk := fun j => (⟨(j : Int)⟩ : E1)) (c := fun _ => false) (u := 1) (fin := 2) tX l hl
  (fun j hj => by
   simp only [da3, aa6, Int.toNat_natCast, o9 hj (by omega), me4]
   rw [btD (n9 hj), bt (f0 hj), bt (f0 hj)]
   rfl)
  (by simp only [da3, aa6]; rw [bfD (P1 (Nat.lt_irrefl _))]) 0 (Nat.zero_le _)
 rw [List.drop_zero, show (l.any fun _ => false) = false by simp] at h
 unfold ra5
 simp only [m0, m8]
 rw [show (⟨0⟩ : E1) = ⟨((0 : Nat) : Int)⟩ from rfl, h, bf (by simp)]
 rfl
theorem pc1 (l : List Pt) (hl : l.length ≤ 1000000000) : ra6 l l = true := by unfold ra6; rw [bc6 l hl]; rfl
theorem pc2 (l : List Pt) (hl : l.length ≤ 1000000000) : ra7 l l = true := by unfold ra7; rw [bc6 l hl]; rfl
theorem Td9 (l : List Pln) (hl : l.length ≤ 1000000000) : ob9 l l = some (b true, []) := by
 have h := lb4 (step := Ia7 ⟨l, l⟩) (mk := fun j => (⟨(j : Int)⟩ : fa1)) (c := fun _ => false) (u := 1) (fin := 2) tP l hl
  (fun j hj => by
   simp only [Ia7, Ca7, Int.toNat_natCast, o9 hj (by omega), me5]
   rw [btD (n9 hj), bt (f0 hj), bt (f0 hj)]
   rfl)
  (by simp only [Ia7, Ca7]; rw [bfD (P1 (Nat.lt_irrefl _))]) 0 (Nat.zero_le _)
 rw [List.drop_zero, show (l.any fun _ => false) = false by simp] at h
 unfold ob9
 simp only [m0, m8]
 rw [show (⟨0⟩ : fa1) = ⟨((0 : Nat) : Int)⟩ from rfl, h, bf (by simp)]
 rfl
theorem me6 (l : List Pln) (hl : l.length ≤ 1000000000) : pb0 l l = true := by unfold pb0; rw [Td9 l hl]; rfl
theorem me7 (l : List Pln) (hl : l.length ≤ 1000000000) : pb1 l l = true := by unfold pb1; rw [Td9 l hl]; rfl
end Go.Ev.Ce
namespace Go.Ev.Ce
open Go Go.Ev Go.Ev.L Go.Proofs
def Nx {σ : Type} (x : Stp σ) (E : Nat → Prop) (N : σ → Prop) : Prop := (∃ t, x = .exit t ∧ E t) ∨ ∃ s, x = .next s ∧ N s
theorem Nx.sl {σ : Type} {c : Bool} {t e : Stp σ} {E : Nat → Prop} {N : σ → Prop} (h1 : c = true → Nx t E N) (h2 : c = false → Nx e E N) : Nx (sl c t e) E N := by cases c; exact h2 rfl; exact h1 rfl
theorem Nx.ex {σ : Type} {t : Nat} {E : Nat → Prop} {N : σ → Prop} (h : E t) : Nx (.exit t) E N := .inl ⟨t, rfl, h⟩
theorem Nx.nx {σ : Type} {s : σ} {E : Nat → Prop} {N : σ → Prop} (h : N s) : Nx (.next s) E N := .inr ⟨s, rfl, h⟩
theorem ua0 {σ τ : Type} {step : σ → Stp σ} {mk : Nat → τ → σ} (n : Nat) (I : Nat → τ → Prop) (E : Nat → σ → Prop) (hn : n ≤ 1000000000)
  (h : ∀ j a, j < n → I j a → Nx (step (mk j a)) (fun t => E t (mk j a)) (fun s => ∃ a', s = mk (j + 1) a' ∧ I (j + 1) a'))
  (hf : ∀ j a, n ≤ j → I j a → ∃ t, step (mk j a) = .exit t ∧ E t (mk j a)) (j0 : Nat) (a : τ) (hi : I j0 a) : ∃ t s, lp step (mk j0 a) = (t, s) ∧ E t s := by
 have key := Pb0 (step := step) (I := fun m s => ∃ j a, m = n - j ∧ s = mk j a ∧ I j a) (Q := E) (fun m s ⟨j, a, hm, hs, ha⟩ => by
  subst hs
  by_cases hlt : j < n
  ·rcases h j a hlt ha with h1 | ⟨s', h1, a', h2, h3⟩
   ·exact .inl h1
   ·subst h2
    exact .inr ⟨_, n - (j + 1), by omega, h1, j + 1, a', rfl, rfl, h3⟩
  ·exact .inl (hf j a (by omega) ha)) (n - j0) (mk j0 a) (by omega) ⟨j0, a, rfl, rfl, hi⟩
 exact ⟨_, _, rfl, key⟩
def Rd {ρ : Type} (R : RR ρ) (o : Option (b7 × List b8)) (P : ρ → Prop) : Prop := ∃ x r, o = some x ∧ R.rd x = some r ∧ P r
theorem Rd.p {ρ : Type} {R : RR ρ} {o : Option (b7 × List b8)} {P : ρ → Prop} (h : Rd R o P) : P (K5 R o) := by
 obtain ⟨x, r, h1, h2, h3⟩ := h
 rw [h1, wa9 R h2]
 exact h3
theorem Rd.g {ρ : Type} {R : RR ρ} {o : Option (b7 × List b8)} {P : ρ → Prop} (h : Rd R o P) : okO R o = true := by
 obtain ⟨x, r, h1, h2, h3⟩ := h
 rw [h1]
 exact Ia2 R h2
theorem Rd.sl {ρ : Type} {R : RR ρ} {c : Bool} {t e : Option (b7 × List b8)} {P : ρ → Prop} (h1 : c = true → Rd R t P) (h2 : c = false → Rd R e P) : Rd R (sl c t e) P := by cases c; exact h2 rfl; exact h1 rfl
theorem ua1 (n : Int) (l : List Int) (j : Int) (h1 : 0 ≤ j) (h2 : j ≤ 1000000) (hn : 0 < n) (hn2 : n ≤ 1000000) :
  ∃ v j', l4 ⟨n, l, j⟩ = ⟨1, v, j'⟩ ∧ 0 ≤ v ∧ v < n ∧ j ≤ j' ∧ j' ≤ j + 1 := by
 unfold l4 ka8
 simp only
 by_cases h : j ≥ (l.length : Int)
 ·rw [btD h]
  exact ⟨0, j, rfl, by omega, hn, by omega, by omega⟩
 ·rw [bfD h]
  have hW : W (W (j + 1) - 1) = j := by rw [Lc4, Ga0 (by omega) (by omega)]; omega
  have hW2 : W (j + 1) = j + 1 := Ga0 (by omega) (by omega)
  have hin : inB j l.length = true := by rw [Gc3]; exact decide_eq_true (by omega)
  rw [hW, hW2, hin, Sc4 _ hn (by omega), Td7 _ hn (by omega)]
  exact ⟨_, _, rfl, Int.emod_nonneg _ (by omega), Int.emod_lt_of_pos _ hn, by omega, by omega⟩
theorem Sc5 (m : Int) (l : List Int) (j : Int) (h1 : 0 ≤ j) (h2 : j ≤ 900000) (hm : 0 ≤ m) (hm2 : m ≤ 100000) :
  ∃ a b c j', Ea6 ⟨m, l, j⟩ = ⟨1, a, b, c, l, j'⟩ ∧ Sm m a ∧ Sm m b ∧ Sm m c ∧ j ≤ j' ∧ j' ≤ j + 3 := by
 unfold Ea6 kb1
 simp only [m0, m8]
 have hW : W (W (2 * m) + 1) = 2 * m + 1 := by rw [wb3, Ga0 (by omega) (by omega)]
 rw [hW]
 obtain ⟨v1, j1, e1, a1, b1, c1, d1⟩ := ua1 (2 * m + 1) l j h1 (by omega) (by omega) (by omega)
 rw [e1]
 obtain ⟨v2, j2, e2, a2, b2, c2, d2⟩ := ua1 (2 * m + 1) l j1 (by omega) (by omega) (by omega) (by omega)
 simp only
 rw [e2]
 obtain ⟨v3, j3, e3, a3, b3, c3, d3⟩ := ua1 (2 * m + 1) l j2 (by omega) (by omega) (by omega) (by omega)
 simp only
 rw [e3]
 refine ⟨v1 - m, v2 - m, v3 - m, j3, ?_, ⟨by omega, by omega⟩, ⟨by omega, by omega⟩, ⟨by omega, by omega⟩, by omega, by omega⟩
 simp only
 rw [Ga0 (n := v1 - m) (by omega) (by omega), Ga0 (n := v2 - m) (by omega) (by omega), Ga0 (n := v3 - m) (by omega) (by omega)]
 rfl
def inV (v : V3) : Bool := smb 24 v.x && (smb 24 v.y && smb 24 v.z)
theorem Gc8 (v : V3) : inV v = true ↔ Sm 24 v.x ∧ Sm 24 v.y ∧ Sm 24 v.z := by unfold inV; rw [Bool.and_eq_true, Bool.and_eq_true, nc9, nc9, nc9]
theorem me8 (v : V3) : Rb8 v = some (b (inV v), []) := by
 unfold Rb8 inV smb
 cases h1 : decide (v.x < -24) <;> cases h2 : decide (v.x > 24) <;> cases h3 : decide (v.y < -24) <;> cases h4 : decide (v.y > 24) <;> cases h5 : decide (v.z < -24) <;> cases h6 : decide (v.z > 24) <;> rfl
theorem me9 (v : V3) : Ra9 v = inV v := by unfold Ra9; rw [me8]; rfl
theorem Ud0 (v : V3) : Sa0 v = true := by unfold Sa0; rw [me8]; rfl
def sub (a b : V3) : V3 := ⟨a.x - b.x, a.y - b.y, a.z - b.z⟩
theorem Ud1 {a b : V3} (ha : inV a = true) (hb : inV b = true) : Na7 a b = sub a b ∧ Sm 48 (sub a b).x ∧ Sm 48 (sub a b).y ∧ Sm 48 (sub a b).z := by
 rw [Gc8] at ha hb
 obtain ⟨⟨a1, a2⟩, ⟨a3, a4⟩, a5, a6⟩ := ha
 obtain ⟨⟨b1, b2⟩, ⟨b3, b4⟩, b5, b6⟩ := hb
 unfold Na7 sub
 rw [Ga0 (by omega) (by omega), Ga0 (by omega) (by omega), Ga0 (by omega) (by omega)]
 exact ⟨rfl, ⟨by show _ ≤ a.x - b.x; omega, by show a.x - b.x ≤ _; omega⟩, ⟨by show _ ≤ a.y - b.y; omega, by show a.y - b.y ≤ _; omega⟩, ⟨by show _ ≤ a.z - b.z; omega, by show a.z - b.z ≤ _; omega⟩⟩
theorem bd6 {a b c : V3} (ha : inV a = true) (hb : inV b = true) (hc : inV c = true) :
  T9 (Na7 b a) (Na7 c a) = p7 (sub b a) (sub c a) ∧ Sm 4608 (p7 (sub b a) (sub c a)).x ∧ Sm 4608 (p7 (sub b a) (sub c a)).y ∧ Sm 4608 (p7 (sub b a) (sub c a)).z := by
 obtain ⟨e1, ⟨u1, u2⟩, ⟨u3, u4⟩, u5, u6⟩ := Ud1 hb ha
 obtain ⟨e2, ⟨v1, v2⟩, ⟨v3, v4⟩, v5, v6⟩ := Ud1 hc ha
 rw [e1, e2, nc8]
 generalize sub b a = p at *
 generalize sub c a = q at *
 have h1 := mb u3 u4 v5 v6; have h2 := mb u5 u6 v3 v4; have h3 := mb u5 u6 v1 v2; have h4 := mb u1 u2 v5 v6; have h5 := mb u1 u2 v3 v4; have h6 := mb u3 u4 v1 v2
 have k : Sm 4608 (p7 p q).x ∧ Sm 4608 (p7 p q).y ∧ Sm 4608 (p7 p q).z := by unfold Sm p7; simp only; omega
 obtain ⟨k1, k2, k3⟩ := k
 rw [Ba7 (k1.mono (by omega)), Ba7 (k2.mono (by omega)), Ba7 (k3.mono (by omega))]
 exact ⟨rfl, k1, k2, k3⟩
def Ae0 (a b c : V3) : Pln × Bool :=
 if inV a && (inV b && inV c) then
  if g3 (p7 (sub b a) (sub c a)) = 0 then (⟨⟨0, 0, 0⟩, 0⟩, false)
  else (⟨⟨Int.tdiv (p7 (sub b a) (sub c a)).x (g3 (p7 (sub b a) (sub c a))), Int.tdiv (p7 (sub b a) (sub c a)).y (g3 (p7 (sub b a) (sub c a))), Int.tdiv (p7 (sub b a) (sub c a)).z (g3 (p7 (sub b a) (sub c a)))⟩,
   dot ⟨Int.tdiv (p7 (sub b a) (sub c a)).x (g3 (p7 (sub b a) (sub c a))), Int.tdiv (p7 (sub b a) (sub c a)).y (g3 (p7 (sub b a) (sub c a))), Int.tdiv (p7 (sub b a) (sub c a)).z (g3 (p7 (sub b a) (sub c a)))⟩ a⟩, true)
 else (⟨⟨0, 0, 0⟩, 0⟩, false)
theorem ce1 (v : V3) : 0 ≤ g3 v := by unfold g3; omega
theorem Sc6 (a c d : V3) : Ia3 a c d = some (.tup [.agg (tP.row (Ae0 a c d).1), b (Ae0 a c d).2], []) := by
 unfold Ia3 Ae0
 simp only [me9, Ud0]
 cases ha : inV a with
 | false => rfl
 | true =>
  cases hc : inV c with
  | false => rfl
  | true =>
   cases hd : inV d with
   | false => rfl
   | true =>
    obtain ⟨e, k1, k2, k3⟩ := bd6 ha hc hd
    rw [e]
    generalize p7 (sub c a) (sub d a) = n at *
    have m1 := k1.mono (m := 1000000000000000000) (by omega)
    have m2 := k2.mono (m := 1000000000000000000) (by omega)
    have m3 := k3.mono (m := 1000000000000000000) (by omega)
    rw [ke8 m1 m2 m3, Pc5 m1 m2 m3]
    by_cases h0 : g3 n = 0
    ·rw [show (g3 n == 0) = true from by rw [h0]; rfl]
     simp only [Bool.and_self, if_true, h0]
     rfl
    ·have hp := ce1 n
     have q1 := J6 (g := g3 n) k1 (by omega)
     have q2 := J6 (g := g3 n) k2 (by omega)
     have q3 := J6 (g := g3 n) k3 (by omega)
     rw [show (g3 n == 0) = false from by rw [beq_eq_false_iff_ne]; exact h0, Me2 m1 m2 m3 h0]
     simp only [Bool.and_self, if_true, h0, if_false]
     rw [Ba7 (q1.mono (by omega)), Ba7 (q2.mono (by omega)), Ba7 (q3.mono (by omega))]
     have hdot : Na0 ⟨Int.tdiv n.x (g3 n), Int.tdiv n.y (g3 n), Int.tdiv n.z (g3 n)⟩ a = dot ⟨Int.tdiv n.x (g3 n), Int.tdiv n.y (g3 n), Int.tdiv n.z (g3 n)⟩ a := by
      unfold Na0
      simp only [wb3, dc8]
      obtain ⟨⟨a1, a2⟩, ⟨a3, a4⟩, a5, a6⟩ := (Gc8 a).1 ha
      have r1 := mb q1.1 q1.2 a1 a2; have r2 := mb q2.1 q2.2 a3 a4; have r3 := mb q3.1 q3.2 a5 a6
      rw [Ga0 (by omega) (by omega)]
      rfl
     rw [hdot]
     rfl
theorem ce2 (a b c : V3) : oa5 a b c = Ae0 a b c := by unfold oa5; rw [Sc6]; rfl
theorem Xb0 (a b c : V3) : oa6 a b c = true := by unfold oa6; rw [Sc6]; rfl
theorem Ae1 (l : List Int) : Rd (one r1P) (ob3 l) (fun _ => True) := by
 unfold ob3
 simp only [m0, m8]
 obtain ⟨v1, j1, e1, a1, b1, c1, d1⟩ := ua1 8 l 0 (by omega) (by omega) (by omega) (by omega)
 rw [e1]
 simp only
 obtain ⟨v2, j2, e2, a2, b2, c2, d2⟩ := ua1 17 l j1 (by omega) (by omega) (by omega) (by omega)
 rw [e2]
 simp only
 obtain ⟨x1, x2, x3, j3, e3, _, _, _, c3, d3⟩ := Sc5 8 l j2 (by omega) (by omega) (by omega) (by omega)
 rw [e3]
 simp only
 obtain ⟨y1, y2, y3, j4, e4, _, _, _, c4, d4⟩ := Sc5 8 l j3 (by omega) (by omega) (by omega) (by omega)
 rw [e4]
 simp only
 obtain ⟨z1, z2, z3, j5, e5, _, _, _, c5, d5⟩ := Sc5 8 l j4 (by omega) (by omega) (by omega) (by omega)
 rw [e5]
 simp only [ce2, Xb0, Sc4 _ (show (0 : Int) < 3 by omega) (by omega), m8]
 simp only [Nat.beq_refl, Bool.and_true, q7]
 refine Rd.sl (fun _ => Rd.sl (fun _ => ⟨_, _, rfl, rfl, trivial⟩) fun _ => ?_) (fun _ => ?_)
 ·exact Rd.sl (fun _ => ⟨_, _, rfl, rfl, trivial⟩) fun _ => Rd.sl (fun _ => ⟨_, _, rfl, rfl, trivial⟩) fun _ => ⟨_, _, rfl, rfl, trivial⟩
 ·exact Rd.sl (fun _ => ⟨_, _, rfl, rfl, trivial⟩) fun _ => Rd.sl (fun _ => ⟨_, _, rfl, rfl, trivial⟩) fun _ => ⟨_, _, rfl, rfl, trivial⟩
theorem Ae2 (l : List Int) : Hb0 l = true := (Ae1 l).g
theorem Ae3 (p : Pln) (v : V3) : Rd (one r1I) (ob4 p v) (fun _ => True) := by
 unfold ob4
 simp only [Cd3, Ud0, q7]
 exact Rd.sl (fun _ => ⟨_, _, rfl, rfl, trivial⟩) fun _ => Rd.sl (fun _ => ⟨_, _, rfl, rfl, trivial⟩) fun _ => Rd.sl (fun _ => ⟨_, _, rfl, rfl, trivial⟩) fun _ => Rd.sl (fun _ => ⟨_, _, rfl, rfl, trivial⟩) fun _ => ⟨_, _, rfl, rfl, trivial⟩
theorem ne0 (p : Pln) (v : V3) : Hb3 p v = true := (Ae3 p v).g
theorem Xe5 (P : ta8) (hl : P.i5.length ≤ 1000000000) : ∃ t s, lp (xa0 P) ⟨0⟩ = (t, s) ∧ (t = 1 ∨ t = 2 ∨ t = 3) := by
 obtain ⟨l, x1, x2, x3, x4, x5, x6, x7, x8⟩ := P
 refine ua0 (step := xa0 ⟨l, x1, x2, x3, x4, x5, x6, x7, x8⟩) (mk := fun j (_ : Unit) => (⟨(j : Int)⟩ : ma3)) l.length (fun _ _ => True) (fun t _ => t = 1 ∨ t = 2 ∨ t = 3) hl (fun j a hj _ => ?_) (fun j a hj _ => ?_) 0 () trivial
 ·simp only [xa0, Ba9, ne0, Int.toNat_natCast, o9 hj (show l.length ≤ 4611686018427387904 from Nat.le_trans hl (by omega))]
  rw [btD (n9 hj), bt (f0 hj), q7]
  exact Nx.sl (fun _ => Nx.sl (fun _ => .ex (by simp)) fun _ => .nx ⟨(), rfl, trivial⟩) fun _ => .ex (by simp)
 ·simp only [xa0, Ba9]
  rw [bfD (by omega)]
  exact ⟨_, rfl, by simp⟩
theorem Xe6 (l : List V3) (hl : l.length ≤ 1000000000) (a c : Nat) (ha : a < l.length) (hc : c < a) : ∃ t s, lp (xa1 ⟨(a : Int), (c : Int)⟩) ⟨l, 0⟩ = (t, s) ∧ ((t = 1 ∨ t = 2) ∧ s.i5 = l) := by
 refine ua0 (step := xa1 ⟨(a : Int), (c : Int)⟩) (mk := fun j (_ : Unit) => (⟨l, (j : Int)⟩ : ma4)) c (fun _ _ => True) (fun t s => (t = 1 ∨ t = 2) ∧ s.i5 = l) (by omega) (fun j x hj _ => ?_) (fun j x hj _ => ?_) 0 () trivial
 ·simp only [xa1, Ca0, Xb0, Int.toNat_natCast, m0, m8, o9 hj (show c ≤ 4611686018427387904 by omega)]
  rw [btD (n9 hj), bt (f0 ha), bt (f0 (show c < l.length by omega)), bt (f0 (show j < l.length by omega)), q7]
  generalize hP : ta8.mk _ _ _ _ _ _ _ _ _ = P3
  obtain ⟨t, s, h1, h2⟩ := Xe5 P3 (by subst hP; exact hl)
  rw [h1]
  rcases h2 with rfl | rfl | rfl
  ·exact .ex (by simp)
  ·exact .nx ⟨(), rfl, trivial⟩
  ·exact .nx ⟨(), rfl, trivial⟩
 ·simp only [xa1, Ca0]
  rw [bfD (by omega)]
  exact ⟨_, rfl, by simp⟩
theorem Xe7 (l : List V3) (hl : l.length ≤ 1000000000) (a : Nat) (ha : a < l.length) : ∃ t s, lp (xa2 ⟨(a : Int)⟩) ⟨l, 0⟩ = (t, s) ∧ ((t = 1 ∨ t = 2) ∧ s.i5 = l) := by
 refine ua0 (step := xa2 ⟨(a : Int)⟩) (mk := fun j (_ : Unit) => (⟨l, (j : Int)⟩ : ma5)) a (fun _ _ => True) (fun t s => (t = 1 ∨ t = 2) ∧ s.i5 = l) (by omega) (fun j x hj _ => ?_) (fun j x hj _ => ?_) 0 () trivial
 ·simp only [xa2, Ca1, m0, m8, o9 hj (show a ≤ 4611686018427387904 by omega)]
  obtain ⟨t, s, h1, h2, h3⟩ := Xe6 l hl a j ha hj
  rw [btD (n9 hj), h1]
  rcases h2 with rfl | rfl
  ·exact .ex (by simp)
  ·exact .nx ⟨(), by rw [h3], trivial⟩
 ·simp only [xa2, Ca1]
  rw [bfD (by omega)]
  exact ⟨_, rfl, by simp⟩
theorem ub1 (l : List V3) (hl : l.length ≤ 1000000000) : Rd (one r1B) (ob5 l) (fun _ => True) := by
 have key : ∃ t s, lp (xa3 ⟨⟩) ⟨l, 0⟩ = (t, s) ∧ (t = 1 ∨ t = 2) := by
  refine ua0 (step := xa3 ⟨⟩) (mk := fun j (_ : Unit) => (⟨l, (j : Int)⟩ : ma6)) l.length (fun _ _ => True) (fun t s => (t = 1 ∨ t = 2)) hl (fun j x hj _ => ?_) (fun j x hj _ => ?_) 0 () trivial
  ·simp only [xa3, Ca2, m0, m8, o9 hj (show l.length ≤ 4611686018427387904 by omega)]
   obtain ⟨t, s, h1, h2, h3⟩ := Xe7 l hl j hj
   rw [btD (n9 hj), h1]
   rcases h2 with rfl | rfl
   ·exact .ex (by simp)
   ·exact .nx ⟨(), by rw [h3], trivial⟩
  ·simp only [xa3, Ca2]
   rw [bfD (by omega)]
   exact ⟨_, rfl, by simp⟩
 obtain ⟨t, s, h1, h2⟩ := key
 unfold ob5
 simp only [m0, m8]
 rw [h1]
 rcases h2 with rfl | rfl <;> exact ⟨_, _, rfl, rfl, trivial⟩
theorem ne2 (l : List V3) (hl : l.length ≤ 1000000000) : Wa5 l = true := (ub1 l hl).g
theorem Od9 (l : List V3) (hl : l.length ≤ 1000000000) : Rd (one r1I) (bb0 l) (fun _ => True) := by
 have h := lb4 (step := Ca3 ⟨l⟩) (mk := fun j => (⟨(j : Int)⟩ : Y8)) (c := fun v => !inV v) (u := 1) (fin := 2) tV l hl
  (fun j hj => by
   simp only [Ca3, va9, Int.toNat_natCast, me9, Ud0, o9 hj (show l.length ≤ 4611686018427387904 by omega)]
   rw [btD (n9 hj), bt (f0 hj), q7])
  (by simp only [Ca3, va9]; rw [bfD (P1 (Nat.lt_irrefl _))]) 0 (Nat.zero_le _)
 unfold bb0
 simp only [m0, m8, J9, ne2 l hl]
 rw [show (⟨0⟩ : Y8) = ⟨((0 : Nat) : Int)⟩ from rfl, h]
 refine Rd.sl (fun _ => ⟨_, _, rfl, rfl, trivial⟩) fun _ => ?_
 rw [List.drop_zero]
 cases l.any fun v => !inV v with
 | true => exact ⟨_, _, rfl, rfl, trivial⟩
 | false =>
  show Rd (one r1I) (sl (ob6 l) (some (i 11, [])) (some (i 0, []))) (fun _ => True)
  exact Rd.sl (fun _ => ⟨_, _, rfl, rfl, trivial⟩) fun _ => ⟨_, _, rfl, rfl, trivial⟩
theorem ce3 (l : List V3) (hl : l.length ≤ 1000000000) : Sb3 l = true := (Od9 l hl).g
theorem ne3 (p : Pln) (l : List V3) (hl : l.length ≤ 1000000000) : Rd (one r1B) (bb1 p l) (fun _ => True) := by
 have h := lb4 (step := Ca4 ⟨l, p.n.x, p.n.y, p.n.z, p.b⟩) (mk := fun j => (⟨(j : Int)⟩ : Y9)) (c := fun v => decide (Hb2 p v > 0)) (u := 1) (fin := 2) tV l hl
  (fun j hj => by
   simp only [Ca4, wa0, Int.toNat_natCast, ne0, o9 hj (show l.length ≤ 4611686018427387904 by omega)]
   rw [btD (n9 hj), bt (f0 hj), q7])
  (by simp only [Ca4, wa0]; rw [bfD (P1 (Nat.lt_irrefl _))]) 0 (Nat.zero_le _)
 unfold bb1
 simp only [m0, m8]
 rw [show (⟨0⟩ : Y9) = ⟨((0 : Nat) : Int)⟩ from rfl, h]
 split <;> exact ⟨_, _, rfl, rfl, trivial⟩
theorem Ae4 (p : Pln) (l : List V3) (hl : l.length ≤ 1000000000) : ma7 p l = true := (ne3 p l hl).g
theorem Ne3 (p q : Pln) : Rd (one r1I) (oa7 p q) (fun _ => True) := by
 have key : ∃ t s, lp (G2 ⟨p.n.x, p.n.y, p.n.z, p.b, q.n.x, q.n.y, q.n.z, q.b⟩) ⟨0⟩ = (t, s) ∧ (t = 1 ∨ t = 2 ∨ t = 3) := by
  refine ua0 (step := G2 ⟨p.n.x, p.n.y, p.n.z, p.b, q.n.x, q.n.y, q.n.z, q.b⟩) (mk := fun j (_ : Unit) => (⟨(j : Int)⟩ : N8)) 4 (fun _ _ => True) (fun t s => (t = 1 ∨ t = 2 ∨ t = 3)) (by omega) (fun j x hj _ => ?_) (fun j x hj _ => ?_) 0 () trivial
  ·have hn := o9 hj (show 4 ≤ 4611686018427387904 by omega)
   simp only [G2, T0, Int.toNat_natCast, hn]
   have hlt : (j : Int) < 4 := by omega
   have hin := f0 hj
   have g : ∀ x1 x2 x3 x4 : Int, ((Nat.ble ((0 + (j * 1)) + 1) 4) && (J8 [(CK.int .i64)] (e7 [(i x1), (i x2), (i x3), (i x4)] (0 + (j * 1))))) = true := by
    intro x1 x2 x3 x4
    match j, hj with
    | 0, _ => rfl
    | 1, _ => rfl
    | 2, _ => rfl
    | 3, _ => rfl
   rw [btD hlt]
   simp only [hin, g, q7]
   exact Nx.sl (fun _ => .ex (by simp)) fun _ => Nx.sl (fun _ => .ex (by simp)) fun _ => .nx ⟨(), rfl, trivial⟩
  ·simp only [G2, T0]
   rw [bfD (by omega)]
   exact ⟨_, rfl, by simp⟩
 obtain ⟨t, s, h1, h2⟩ := key
 unfold oa7
 simp only
 rw [h1]
 rcases h2 with rfl | rfl | rfl <;> exact ⟨_, _, rfl, rfl, trivial⟩
theorem ne4 (p q : Pln) : Xa8 p q = true := (Ne3 p q).g
theorem Sc7 (l : List Pln) (n : Nat) (h : n ≤ l.length) : o7 (fun k => (fun k => tP.row (gL tP l k)) (0 + k)) (List.range (n - 0)) = bL tP (l.take n) := by
 rw [← lb3, n8, n8, List.length_take, Nat.min_eq_left h, Nat.sub_zero]
 apply List.map_congr_left
 intro k hk
 rw [List.mem_range] at hk
 show tP.row (gL tP l (0 + k)) = tP.row (gL tP (l.take n) k)
 congr 1
 simp [gL, List.getD_eq_getElem?_getD, List.getElem?_take, hk]
theorem Sc8 (l : List Pln) (n : Nat) : o7 (fun k => (fun k => tP.row (gL tP l k)) (n + k)) (List.range (l.length - n)) = bL tP (l.drop n) := by
 rw [← lb3, n8, n8, List.length_drop]
 apply List.map_congr_left
 intro k hk
 show tP.row (gL tP l (n + k)) = tP.row (gL tP (l.drop n) k)
 rw [oc1]
theorem Sb7 (l : List Pln) (x1 x2 x3 x4 : Int) : app (bL tP l) [[i x1, i x2, i x3, i x4]] = bL tP (l ++ [⟨⟨x1, x2, x3⟩, x4⟩]) := La7 tP l [⟨⟨x1, x2, x3⟩, x4⟩]
def Lb0 (x : List Pln) (y : Pln) (n : Nat) : List Pln := x.take n ++ (y :: x.drop n)
theorem yb9 {l : List Pln} {n : Nat} {r : List (List b7)} {P : List Pln → Prop} (hn : n = l.length) (hr : r = bL tP l) (h : P l) : Rd (one (r1L tP)) (some (.sl 0 0 n 0, [⟨50, 4, r, true, false, 0⟩])) P := by
 subst hn hr
 exact ⟨_, l, rfl, fc3 l, h⟩
theorem ne5 (x : List Pln) (y : Pln) (hx : x.length ≤ 1000000) : Rd (one (r1L tP)) (Bb9 x y) (fun r => r ≠ [] ∧ r.length ≤ x.length + 1 ∧ ∀ p ∈ r, p = y ∨ p ∈ x) := by
 have h := gb6 (step := Ea7 ⟨x, y.n.x, y.n.y, y.n.z, y.b⟩) (mk := fun j => (⟨(j : Int)⟩ : ma8)) (c := fun p => !decide (Y7 p y < 0)) (u := 1) (fin := 2) tP x (by omega)
  (fun j hj => by
   simp only [Ea7, Ia6, Int.toNat_natCast, ne4, o9 hj (show x.length ≤ 4611686018427387904 by omega)]
   rw [btD (n9 hj), bt (f0 hj), q7]
   cases decide (Y7 (gL tP x j) y < 0) <;> rfl)
  (by simp only [Ea7, Ia6]; rw [bfD (P1 (Nat.lt_irrefl _))]) 0 (Nat.zero_le _)
 rw [List.drop_zero] at h
 have key : ∃ t n, lp (Ea7 ⟨x, y.n.x, y.n.y, y.n.z, y.b⟩) ⟨0⟩ = (t, ⟨((n : Nat) : Int)⟩) ∧ (t = 1 ∨ t = 2) ∧ n ≤ x.length := by
  rw [show (⟨0⟩ : ma8) = ⟨((0 : Nat) : Int)⟩ from rfl, h]
  split
  ·exact ⟨1, _, rfl, .inl rfl, by rw [Nat.zero_add]; exact List.findIdx_le_length⟩
  ·exact ⟨2, _, rfl, .inr rfl, Nat.le_refl _⟩
 obtain ⟨t, n, h1, h2, h3⟩ := key
 have hlo : inB (n : Int) (x.length + 1) = true := f0 (by omega)
 have hd : (bL tP (x.take n)).length = n := by rw [← l9, O5, List.length_take]; omega
 have hmem : ∀ p ∈ Lb0 x y n, p = y ∨ p ∈ x := fun p hp => by
  unfold Lb0 at hp
  rcases List.mem_append.1 hp with hp | hp
  ·exact .inr (List.mem_of_mem_take hp)
  ·rcases List.mem_cons.1 hp with hp | hp
   ·exact .inl hp
   ·exact .inr (List.mem_of_mem_drop hp)
 have hne : Lb0 x y n ≠ [] := by unfold Lb0; simp
 have hlen : (Lb0 x y n).length = x.length + 1 := by unfold Lb0; simp only [List.length_append, List.length_cons, List.length_take, List.length_drop]; omega
 have lt : len (bL tP (x.take n)) = n := by rw [l9]; exact hd
 have ld : len (bL tP (x.drop n)) = x.length - n := by rw [O5, List.length_drop]
 have b1 : (Nat.beq 1 1 && Nat.ble ((1 + (x.length - n)) * 32) room) = true := by rw [da8 (by omega)]; rfl
 have b2 : (Nat.beq 0 0 && Nat.ble ((0 + n) * 32) room) = true := by rw [da8 (by omega)]; rfl
 have e0 : app [] (bL tP (x.take n)) = bL tP (x.take n) := rfl
 have b3 : (Nat.beq (0 + n) n && Nat.ble (((0 + n) + 1) * 32) room) = true := by rw [da8 (by omega), Nat.zero_add, Nat.beq_refl]; rfl
 have l3 : len (bL tP (x.take n ++ [y])) = n + 1 := by rw [O5, List.length_append, List.length_take]; simp only [List.length_singleton]; omega
 have b4 : (Nat.beq ((0 + n) + 1) (n + 1) && Nat.ble ((((0 + n) + 1) + (x.length - n)) * 32) room) = true := by rw [da8 (by omega), Nat.zero_add, Nat.beq_refl]; rfl
 have z0 : ∀ {k : Nat}, Nat.beq k 0 = true → k = 0 := fun {k} h => Nat.eq_of_beq_eq_true h
 have fin : ∀ m r, m = x.length + 1 → r = bL tP (Lb0 x y n) → Rd (one (r1L tP)) (some (.sl 0 0 m 0, [⟨50, 4, r, true, false, 0⟩])) (fun r => r ≠ [] ∧ r.length ≤ x.length + 1 ∧ ∀ p ∈ r, p = y ∨ p ∈ x) :=
  fun m r hm hr => yb9 (by rw [hlen]; exact hm) hr ⟨hne, by omega, hmem⟩
 have tail : Rd (one (r1L tP)) (sl (Nat.beq n 0) (sl (Nat.beq (x.length - n) 0) (some ((.sl 0 0 1 0), [⟨50, 4, [[(i y.n.x), (i y.n.y), (i y.n.z), (i y.b)]], true, false, 0⟩]))
   (some ((.sl 0 0 (1 + (x.length - n)) 0), [⟨50, 4, (app [[(i y.n.x), (i y.n.y), (i y.n.z), (i y.b)]] (bL tP (x.drop n))), true, false, 0⟩])))
   (sl (Nat.beq (x.length - n) 0) (some ((.sl 0 0 ((0 + n) + 1) 0), [⟨50, 4, bL tP (x.take n ++ [y]), true, false, 0⟩]))
    (some ((.sl 0 0 (((0 + n) + 1) + (x.length - n)) 0), [⟨50, 4, (app (bL tP (x.take n ++ [y])) (bL tP (x.drop n))), true, false, 0⟩])))) (fun r => r ≠ [] ∧ r.length ≤ x.length + 1 ∧ ∀ p ∈ r, p = y ∨ p ∈ x) := by
  refine Rd.sl (fun q1 => Rd.sl (fun q2 => ?_) (fun q2 => ?_)) (fun q1 => Rd.sl (fun q2 => ?_) (fun q2 => ?_))
  ·have := z0 q1; have := z0 q2
   refine fin _ _ (by omega) ?_
   have : x = [] := List.eq_nil_of_length_eq_zero (by omega)
   subst this
   rw [show n = 0 by omega]; rfl
  ·have := z0 q1; subst this
   exact fin _ _ (by omega) rfl
  ·have := z0 q2
   refine fin _ _ (by omega) ?_
   unfold Lb0
   rw [show x.drop n = [] from List.drop_eq_nil_of_le (by omega)]
  ·refine fin _ _ (by omega) ?_
   rw [La7]
   unfold Lb0
   rw [List.append_assoc]; rfl
 have same : ∀ p : Pln, (p.n.x == y.n.x && (p.n.y == y.n.y && (p.n.z == y.n.z && (p.b == y.b && true)))) = true → n < x.length → Rd (one (r1L tP)) (some (eL tP x, [])) (fun r => r ≠ [] ∧ r.length ≤ x.length + 1 ∧ ∀ p ∈ r, p = y ∨ p ∈ x) := fun p _ hn =>
  ⟨_, x, rfl, id3 tP x, List.ne_nil_of_length_pos (by omega), Nat.le_succ _, fun p hp => Or.inr hp⟩
 unfold Bb9
 simp only [m0, m8]
 rw [h1]
 simp only [Int.toNat_natCast, Sc7 x n h3, Sc8, lt, ld, b1, b2, e0, b3, Sb7, l3, b4, hlo, q7]
 have main : Rd (one (r1L tP)) (sl (decide ((n : Int) < (x.length : Int))) (sl (inB (n : Int) x.length) (sl (((gL tP x n).n.x == y.n.x) && (((gL tP x n).n.y == y.n.y) && (((gL tP x n).n.z == y.n.z) && (((gL tP x n).b == y.b) && true)))) (some (eL tP x, []))
   (sl (Nat.beq n 0) (sl (Nat.beq (x.length - n) 0) (some ((.sl 0 0 1 0), [⟨50, 4, [[(i y.n.x), (i y.n.y), (i y.n.z), (i y.b)]], true, false, 0⟩]))
   (some ((.sl 0 0 (1 + (x.length - n)) 0), [⟨50, 4, (app [[(i y.n.x), (i y.n.y), (i y.n.z), (i y.b)]] (bL tP (x.drop n))), true, false, 0⟩])))
   (sl (Nat.beq (x.length - n) 0) (some ((.sl 0 0 ((0 + n) + 1) 0), [⟨50, 4, bL tP (x.take n ++ [y]), true, false, 0⟩]))
    (some ((.sl 0 0 (((0 + n) + 1) + (x.length - n)) 0), [⟨50, 4, (app (bL tP (x.take n ++ [y])) (bL tP (x.drop n))), true, false, 0⟩]))))) none)
   (sl (Nat.beq n 0) (sl (Nat.beq (x.length - n) 0) (some ((.sl 0 0 1 0), [⟨50, 4, [[(i y.n.x), (i y.n.y), (i y.n.z), (i y.b)]], true, false, 0⟩]))
   (some ((.sl 0 0 (1 + (x.length - n)) 0), [⟨50, 4, (app [[(i y.n.x), (i y.n.y), (i y.n.z), (i y.b)]] (bL tP (x.drop n))), true, false, 0⟩])))
   (sl (Nat.beq (x.length - n) 0) (some ((.sl 0 0 ((0 + n) + 1) 0), [⟨50, 4, bL tP (x.take n ++ [y]), true, false, 0⟩]))
    (some ((.sl 0 0 (((0 + n) + 1) + (x.length - n)) 0), [⟨50, 4, (app (bL tP (x.take n ++ [y])) (bL tP (x.drop n))), true, false, 0⟩]))))) (fun r => r ≠ [] ∧ r.length ≤ x.length + 1 ∧ ∀ p ∈ r, p = y ∨ p ∈ x) := by
  by_cases hn : n < x.length
  ·rw [btD (n9 hn), bt (f0 hn)]
   exact Rd.sl (fun q => same _ q hn) fun _ => tail
  ·rw [bfD (P1 hn)]
   exact tail
 rcases h2 with rfl | rfl
 ·exact main
 ·exact main
end Go.Ev.Ce
namespace Go.Ev.Ce
open Go Go.Ev Go.Ev.L Go.Proofs
theorem He4 (x : List Pln) (y : Pln) (hx : x.length ≤ 1000000) : xa4 x y = true := (ne5 x y hx).g
theorem He5 (x : List Pln) (y : Pln) (hx : x.length ≤ 1000000) : K8 x y ≠ [] ∧ (K8 x y).length ≤ x.length + 1 ∧ ∀ p ∈ K8 x y, p = y ∨ p ∈ x := (ne5 x y hx).p
structure Fc (ph : Nat) (out : List Pln) (m : Nat) : Prop where
 h : (ph = 0 ∧ out = []) ∨ ph = 1
 l : out.length ≤ m
theorem Fc.more {ph m m' : Nat} {out : List Pln} (h : Fc ph out m) (hm : m ≤ m') : Fc ph out m' := ⟨h.h, Nat.le_trans h.l hm⟩
theorem Ae5 (l : List V3) (hl : l.length ≤ 48) (a c : Nat) (ha : a < l.length) (hc : c < a) (h0 : Nat) (out : List Pln) (m : Nat) (hm : m ≤ 900000) (hf : Fc h0 out m) :
  ∃ t s, lp (Ca5 ⟨l, (a : Int), (c : Int)⟩) ⟨h0, 0, out⟩ = (t, s) ∧ (t = s.ph + 1 ∧ Fc s.ph s.ja0 (m + 100)) := by
 refine ua0 (step := Ca5 ⟨l, (a : Int), (c : Int)⟩) (mk := fun j (x : Nat × List Pln) => (⟨x.1, (j : Int), x.2⟩ : G3)) c (fun j x => Fc x.1 x.2 (m + 2 * j) ∧ j ≤ 48) (fun t s => t = s.ph + 1 ∧ Fc s.ph s.ja0 (m + 100)) (by omega) (fun j x hj hx => ?_) (fun j x hj hx => ?_) 0 (h0, out) ⟨hf, by omega⟩
 ·obtain ⟨h, o⟩ := x
  obtain ⟨⟨hx, hx2⟩, _⟩ := hx
  have hn := o9 hj (show c ≤ 4611686018427387904 by omega)
  have hh : ∀ p, ma7 p l = true := fun p => Ae4 p l (by omega)
  have hg1 : ∀ y, xa4 o y = true := fun y => He4 o y (by simp only at hx2; omega)
  have hp1 : ∀ y, K8 o y ≠ [] ∧ (K8 o y).length ≤ o.length + 1 := fun y => by have := He5 o y (by simp only at hx2; omega); exact ⟨this.1, this.2.1⟩
  have hg2 : ∀ y z, xa4 (K8 o y) z = true := fun y z => He4 _ z (by have := (hp1 y).2; simp only at hx2; omega)
  have hp2 : ∀ y z, (K8 (K8 o y) z).length ≤ o.length + 2 := fun y z => by
   have := (He5 (K8 o y) z (by have := (hp1 y).2; simp only at hx2; omega)).2.1
   have := (hp1 y).2
   omega
  simp only at hx hx2
  have stay : Fc h o (m + 2 * (j + 1)) ∧ j + 1 ≤ 48 := ⟨⟨hx, by omega⟩, by omega⟩
  have put1 : ∀ y, Fc 1 (K8 o y) (m + 2 * (j + 1)) ∧ j + 1 ≤ 48 := fun y => ⟨⟨.inr rfl, by have := (hp1 y).2; omega⟩, by omega⟩
  have put2 : ∀ y z, Fc 1 (K8 (K8 o y) z) (m + 2 * (j + 1)) ∧ j + 1 ≤ 48 := fun y z => ⟨⟨.inr rfl, by have := hp2 y z; omega⟩, by omega⟩
  rcases hx with ⟨rfl, rfl⟩ | rfl
  ·show Nx (ca2 Stp.next Stp.exit Stp.fail _ _) _ _
   simp only [ca2, Xb0, Int.toNat_natCast, m0, J9, hh, hg1, hg2, hn]
   rw [btD (n9 hj), bt (f0 ha), bt (f0 (show c < l.length by omega)), bt (f0 (show j < l.length by omega))]
   simp only [q7]
   refine Nx.sl (fun _ => .nx ⟨(0, []), rfl, stay⟩) fun _ => Nx.sl (fun _ => Nx.sl (fun _ => .nx ⟨(1, _), rfl, put2 _ _⟩) fun _ => .nx ⟨(1, _), rfl, put1 _⟩) fun _ => Nx.sl (fun _ => .nx ⟨(1, _), rfl, put1 _⟩) fun _ => .nx ⟨(0, []), rfl, stay⟩
  ·show Nx (ca3 Stp.next Stp.exit Stp.fail _ _) _ _
   simp only [ca3, Xb0, Int.toNat_natCast, m0, J9, hh, hg1, hg2, hn]
   rw [btD (n9 hj), bt (f0 ha), bt (f0 (show c < l.length by omega)), bt (f0 (show j < l.length by omega))]
   simp only [q7]
   refine Nx.sl (fun _ => .nx ⟨(1, o), rfl, stay⟩) fun _ => Nx.sl (fun _ => Nx.sl (fun _ => .nx ⟨(1, _), rfl, put2 _ _⟩) fun _ => .nx ⟨(1, _), rfl, put1 _⟩) fun _ => Nx.sl (fun _ => .nx ⟨(1, _), rfl, put1 _⟩) fun _ => .nx ⟨(1, o), rfl, stay⟩
 ·obtain ⟨h, o⟩ := x
  obtain ⟨⟨hx, hx2⟩, h48⟩ := hx
  simp only at hx hx2
  rcases hx with ⟨rfl, rfl⟩ | rfl
  ·refine ⟨1, ?_, rfl, ⟨.inl ⟨rfl, rfl⟩, by show 0 ≤ _; omega⟩⟩
   show ca2 Stp.next Stp.exit Stp.fail _ _ = _
   simp only [ca2]
   rw [bfD (by omega)]
  ·refine ⟨2, ?_, rfl, ⟨.inr rfl, by show o.length ≤ _; omega⟩⟩
   show ca3 Stp.next Stp.exit Stp.fail _ _ = _
   simp only [ca3]
   rw [bfD (by omega)]
theorem Ae6 (l : List V3) (hl : l.length ≤ 48) (a : Nat) (ha : a < l.length) (h0 : Nat) (out : List Pln) (m : Nat) (hm : m ≤ 800000) (hf : Fc h0 out m) :
  ∃ t s, lp (Ca6 ⟨(a : Int)⟩) ⟨h0, l, 0, out⟩ = (t, s) ∧ (t = s.ph + 1 ∧ Fc s.ph s.ja0 (m + 5000) ∧ s.i5 = l) := by
 refine ua0 (step := Ca6 ⟨(a : Int)⟩) (mk := fun j (x : Nat × List Pln) => (⟨x.1, l, (j : Int), x.2⟩ : G4)) a (fun j x => Fc x.1 x.2 (m + 100 * j) ∧ j ≤ 48) (fun t s => t = s.ph + 1 ∧ Fc s.ph s.ja0 (m + 5000) ∧ s.i5 = l) (by omega) (fun j x hj hx => ?_) (fun j x hj hx => ?_) 0 (h0, out) ⟨hf, by omega⟩
 ·obtain ⟨h, o⟩ := x
  obtain ⟨hx, _⟩ := hx
  have hn := o9 hj (show a ≤ 4611686018427387904 by omega)
  simp only at hx
  obtain ⟨t, s, e1, e2, e3⟩ := Ae5 l hl a j ha hj h o (m + 100 * j) (by omega) hx
  obtain ⟨s1, s2, s3⟩ := s
  simp only at e2 e3
  have go : Fc s1 s3 (m + 100 * (j + 1)) ∧ j + 1 ≤ 48 := ⟨e3.more (by omega), by omega⟩
  rcases hx.h with ⟨rfl, rfl⟩ | rfl
  ·show Nx (ca4 Stp.next Stp.exit Stp.fail _ _) _ _
   simp only [ca4, m0, m8, hn]
   rw [btD (n9 hj), e1, e2]
   rcases e3.h with ⟨rfl, rfl⟩ | rfl
   ·exact .nx ⟨(0, []), rfl, go⟩
   ·exact .nx ⟨(1, s3), rfl, go⟩
  ·show Nx (ca5 Stp.next Stp.exit Stp.fail _ _) _ _
   simp only [ca5, m0, m8, hn]
   rw [btD (n9 hj), e1, e2]
   rcases e3.h with ⟨rfl, rfl⟩ | rfl
   ·exact .nx ⟨(0, []), rfl, go⟩
   ·exact .nx ⟨(1, s3), rfl, go⟩
 ·obtain ⟨h, o⟩ := x
  obtain ⟨hx, h48⟩ := hx
  simp only at hx
  have h2 := hx.more (show m + 100 * j ≤ m + 5000 by omega)
  rcases hx.h with ⟨rfl, rfl⟩ | rfl
  ·refine ⟨1, ?_, rfl, h2, rfl⟩
   show ca4 Stp.next Stp.exit Stp.fail _ _ = _
   simp only [ca4]
   rw [bfD (by omega)]
  ·refine ⟨2, ?_, rfl, h2, rfl⟩
   show ca5 Stp.next Stp.exit Stp.fail _ _ = _
   simp only [ca5]
   rw [bfD (by omega)]
theorem Ae7 (l : List V3) (hl : l.length ≤ 48) :
  ∃ t s, lp (Sa4 ⟨⟩) ⟨0, l, 0, []⟩ = (t, s) ∧ (t = s.ph + 1 ∧ Fc s.ph s.ja0 250000) := by
 refine ua0 (step := Sa4 ⟨⟩) (mk := fun j (x : Nat × List Pln) => (⟨x.1, l, (j : Int), x.2⟩ : K4)) l.length (fun j x => Fc x.1 x.2 (5000 * j) ∧ j ≤ 48) (fun t s => t = s.ph + 1 ∧ Fc s.ph s.ja0 250000) (by omega) (fun j x hj hx => ?_) (fun j x hj hx => ?_) 0 (0, []) ⟨⟨.inl ⟨rfl, rfl⟩, Nat.le_refl _⟩, by omega⟩
 ·obtain ⟨h, o⟩ := x
  obtain ⟨hx, _⟩ := hx
  have hn := o9 hj (show l.length ≤ 4611686018427387904 by omega)
  simp only at hx
  obtain ⟨t, s, e1, e2, e3, e4⟩ := Ae6 l hl j hj h o (5000 * j) (by omega) hx
  obtain ⟨s1, s2, s3, s4⟩ := s
  simp only at e2 e3 e4
  subst e4
  have go : Fc s1 s4 (5000 * (j + 1)) ∧ j + 1 ≤ 48 := ⟨e3.more (by omega), by omega⟩
  rcases hx.h with ⟨rfl, rfl⟩ | rfl
  ·show Nx (ca6 Stp.next Stp.exit Stp.fail ⟨⟩ _) _ _
   simp only [ca6, m0, m8, hn]
   rw [btD (n9 hj), e1, e2]
   rcases e3.h with ⟨rfl, rfl⟩ | rfl
   ·exact .nx ⟨(0, []), rfl, go⟩
   ·exact .nx ⟨(1, s4), rfl, go⟩
  ·show Nx (ca7 Stp.next Stp.exit Stp.fail ⟨⟩ _) _ _
   simp only [ca7, m0, m8, hn]
   rw [btD (n9 hj), e1, e2]
   rcases e3.h with ⟨rfl, rfl⟩ | rfl
   ·exact .nx ⟨(0, []), rfl, go⟩
   ·exact .nx ⟨(1, s4), rfl, go⟩
 ·obtain ⟨h, o⟩ := x
  obtain ⟨hx, h48⟩ := hx
  simp only at hx
  have h2 := hx.more (show 5000 * j ≤ 250000 by omega)
  rcases hx.h with ⟨rfl, rfl⟩ | rfl
  ·refine ⟨1, ?_, rfl, h2⟩
   show ca6 Stp.next Stp.exit Stp.fail ⟨⟩ _ = _
   simp only [ca6]
   rw [bfD (by omega)]
  ·refine ⟨2, ?_, rfl, h2⟩
   show ca7 Stp.next Stp.exit Stp.fail ⟨⟩ _ = _
   simp only [ca7]
   rw [bfD (by omega)]
theorem Ne4 (l : List Pln) (n : Int) : (two (r1L tP) r1I).rd (.tup [eL tP l, i n], []) = some (l, n) := by
 have h : (r1L tP).rd [] (eL tP l) = some l := by
  show Bool.rec (motive := fun _ => Option (List Pln)) none (some (rt tP l)) (Bool.and (Nat.beq tP.es tP.es) (okE tP l)) = _
  rw [m0, J9, Nat.beq_refl]
  rfl
 simp only [two, h]
 rfl
theorem Ed9 (l : List V3) (hl : l.length ≤ 48) : Rd (two (r1L tP) r1I) (bb4 l) (fun r => r.1.length ≤ 250000) := by
 obtain ⟨t, s, e1, e2, e3⟩ := Ae7 l hl
 unfold bb4
 simp only [m0, m8, J9, ce3 l (show l.length ≤ 1000000000 by omega), q7]
 refine Rd.sl (fun _ => ⟨_, ([], Sb2 l), rfl, rfl, Nat.zero_le _⟩) fun _ => ?_
 rw [e1, e2]
 obtain ⟨s1, s2, s3, s4⟩ := s
 simp only at e3 ⊢
 rcases e3.h with ⟨rfl, rfl⟩ | rfl
 ·exact ⟨_, ([], 0), rfl, rfl, Nat.zero_le _⟩
 ·exact ⟨_, (s4, 0), rfl, Ne4 s4 0, e3.l⟩
theorem Ae8 (l : List V3) (hl : l.length ≤ 48) : Na8 l = true := (Ed9 l hl).g
theorem Ae9 (l : List V3) (hl : l.length ≤ 48) : (vb1 l).1.length ≤ 250000 := (Ed9 l hl).p
def phV (out : List V3) : Nat := match out with
 | [] => 0
 | _ :: _ => 1
theorem Ud2 (out : List V3) (x : V3) : phV (out ++ [x]) = 1 := by cases out <;> rfl
theorem Sc9 (l : List V3) (x1 x2 x3 : Int) : app (bL tV l) [[i x1, i x2, i x3]] = bL tV (l ++ [⟨x1, x2, x3⟩]) := La7 tV l [⟨x1, x2, x3⟩]
theorem Xe8 {l : List V3} {m : Nat} (h : m < l.length) : (((Nat.blt (0 + m) (len (bL tV l))) && (Nat.ble (0 + 3) (len (f7 (bL tV l) (0 + m))))) && (J8 [(CK.int .i64), (CK.int .i64), (CK.int .i64)] (e7 (f7 (bL tV l) (0 + m)) 0))) = true := by
 rw [Nat.zero_add, X5 tV h, O5, show Nat.blt m l.length = true from by rw [Nat.blt_eq]; exact h]
 rfl
theorem Xe9 {l : List V3} {m : Nat} (h : m < l.length) : (((Nat.blt (0 + m) (len (bL tV l))) && (Nat.ble (2 + 1) (len (f7 (bL tV l) (0 + m))))) && (J8 [(CK.int .i64)] (e7 (f7 (bL tV l) (0 + m)) 2))) = true := by
 rw [Nat.zero_add, X5 tV h, O5, show Nat.blt m l.length = true from by rw [Nat.blt_eq]; exact h]
 rfl
theorem He6 {n : Nat} {l : List V3} (hn : l.length = n) (h : n ≤ 1000000000) : (Nat.beq n (len (bL tV l)) && Nat.ble ((n + 1) * 24) room) = true := by
 subst hn
 rw [O5, Nat.beq_refl, Bool.true_and, Nat.ble_eq]
 unfold room
 omega
theorem Be0 (x : List Int) (N : Nat) (h4 : 4 ≤ N) (h8 : N ≤ 8) (j0 : Int) (hj0 : 0 ≤ j0 ∧ j0 ≤ 10) :
  ∃ idx out, lp (Ka7 ⟨(N : Int)⟩) ⟨0, 0, x, j0, 0, []⟩ = (2, ⟨1, (N : Int), x, idx, N, bL tV out⟩) ∧ out.length = N := by
 have key := ua0 (step := Ka7 ⟨(N : Int)⟩) (mk := fun j (a : Int × List V3) => (⟨phV a.2, (j : Int), x, a.1, a.2.length, bL tV a.2⟩ : A5)) N
  (fun j a => a.2.length = j ∧ 0 ≤ a.1 ∧ a.1 ≤ 10 + 4 * j ∧ j ≤ N) (fun t s => t = 2 ∧ ∃ idx out, s = ⟨1, (N : Int), x, idx, N, bL tV out⟩ ∧ out.length = N) (by omega) (fun j a hj ha => ?_) (fun j a hj ha => ?_) 0 (j0, []) ⟨rfl, hj0.1, by omega, by omega⟩
 ·obtain ⟨t, s, e1, rfl, idx, out, e2, e3⟩ := key
  exact ⟨idx, out, by rw [← e2]; exact e1, e3⟩
 ·obtain ⟨at0, out⟩ := a
  obtain ⟨ho, ha1, ha2, _⟩ := ha
  simp only at ho ha1 ha2
  have hn := o9 hj (show N ≤ 4611686018427387904 by omega)
  obtain ⟨v1, j1, d1, _, _, c1, b1⟩ := ua1 17 x at0 ha1 (by omega) (by omega) (by omega)
  obtain ⟨v2, j2, d2, _, _, c2, b2⟩ := ua1 17 x j1 (by omega) (by omega) (by omega) (by omega)
  obtain ⟨v3, j3, d3, _, _, c3, b3⟩ := ua1 17 x j2 (by omega) (by omega) (by omega) (by omega)
  obtain ⟨v4, j4, d4, _, _, c4, b4⟩ := ua1 6 x j3 (by omega) (by omega) (by omega) (by omega)
  have leaf : ∀ (E : Nat → Prop) (x1 x2 x3 : Int), Nx (.next (⟨1, ((j + 1 : Nat) : Int), x, j4, j + 1, bL tV (out ++ [⟨x1, x2, x3⟩])⟩ : A5)) E
    (fun s => ∃ a' : Int × List V3, s = ⟨phV a'.2, ((j + 1 : Nat) : Int), x, a'.1, a'.2.length, bL tV a'.2⟩ ∧ a'.2.length = j + 1 ∧ 0 ≤ a'.1 ∧ a'.1 ≤ 10 + 4 * ((j + 1 : Nat) : Int) ∧ j + 1 ≤ N) := fun E x1 x2 x3 => by
   have hl : (out ++ [(⟨x1, x2, x3⟩ : V3)]).length = j + 1 := by simp [ho]
   exact .nx ⟨(j4, out ++ [⟨x1, x2, x3⟩]), by simp only [Ud2, hl], hl, by show 0 ≤ j4; omega, by show j4 ≤ _; omega, by omega⟩
  cases out with
  | nil =>
   have hj0' : j = 0 := by simpa using ho.symm
   subst hj0'
   show Nx (ra4 Stp.next Stp.exit Stp.fail _ _) _ _
   simp only [ra4, m0, m8, d1, d2, d3, d4, hn]
   rw [btD (n9 hj)]
   have f1 : decide (((0 : Nat) : Int) > 1) = false := rfl
   have f2 : decide (((0 : Nat) : Int) > 0) = false := rfl
   have f3 : decide (((0 : Nat) : Int) > 2) = false := rfl
   have lf : ∀ (E : Nat → Prop) (x1 x2 x3 : Int), Nx (.next (⟨1, ((0 + 1 : Nat) : Int), x, j4, 1, [[i x1, i x2, i x3]]⟩ : A5)) E _ := leaf
   simp only [f1, f2, f3, Ya7, Nat.beq_refl, Bool.and_true, q7]
   refine Nx.sl (fun _ => ?_) (fun _ => ?_) <;> refine Nx.sl (fun _ => ?_) (fun _ => ?_)
   all_goals first
    | exact lf _ _ _ _
    | (refine Nx.sl (fun _ => ?_) (fun _ => ?_) <;> exact lf _ _ _ _)
  | cons o os =>
   have h1 : 1 ≤ j := by simp only [List.length_cons] at ho; omega
   generalize hO : o :: os = O at *
   have hph : phV O = 1 := by subst hO; rfl
   have w1 : W ((j : Int) - 1) = ((j - 1 : Nat) : Int) := by rw [Ga0 (by omega) (by omega)]; omega
   have i1 : inB ((j - 1 : Nat) : Int) j = true := f0 (by omega)
   have r1 := Xe8 (l := O) (m := j - 1) (by omega)
   have r1' := Xe9 (l := O) (m := j - 1) (by omega)
   have rr := He6 ho (by omega)
   have f2 : ∀ {inst : Decidable ((j : Int) > 0)}, @decide ((j : Int) > 0) inst = true := decide_eq_true (by omega)
   show Nx (sel (Nat.beq (phV O) 1) (K9 Stp.next Stp.exit Stp.fail _ _) _) _ _
   rw [hph]
   show Nx (K9 Stp.next Stp.exit Stp.fail _ _) _ _
   by_cases h2 : 2 ≤ j
   ·have w2 : W ((j : Int) - 2) = ((j - 2 : Nat) : Int) := by rw [Ga0 (by omega) (by omega)]; omega
    have i2 : inB ((j - 2 : Nat) : Int) j = true := f0 (by omega)
    have r2 := Xe8 (l := O) (m := j - 2) (by omega)
    simp only [K9, m0, m8, d1, d2, d3, d4, hn, ho, w1, w2, i1, i2, Int.toNat_natCast, r1, r1', r2, rr, Sc9]
    rw [btD (n9 hj)]
    simp only [Nat.beq_refl, Bool.and_true, q7]
    repeat' (first | exact leaf _ _ _ _ | refine Nx.sl (fun _ => ?_) (fun _ => ?_))
   ·have hj1 : j = 1 := by omega
    subst hj1
    simp only [K9, m0, m8, d1, d2, d3, d4, hn, ho, w1, i1, Int.toNat_natCast, r1, r1', rr, Sc9]
    have f1 : decide (((1 : Nat) : Int) > 1) = false := rfl
    rw [btD (n9 hj)]
    simp only [f1, Ya7, Nat.beq_refl, Bool.and_true, q7]
    repeat' (first | exact leaf _ _ _ _ | refine Nx.sl (fun _ => ?_) (fun _ => ?_))
 ·obtain ⟨at0, out⟩ := a
  obtain ⟨ho, ha1, ha2, hjN⟩ := ha
  simp only at ho ha1 ha2
  have hj' : j = N := by omega
  subst hj'
  cases out with
  | nil => simp only [List.length_nil] at ho; omega
  | cons o os =>
   refine ⟨2, ?_, rfl, at0, o :: os, by rw [ho]; rfl, ho⟩
   show K9 Stp.next Stp.exit Stp.fail _ _ = _
   simp only [K9]
   rw [bfD (by omega)]
theorem ne6 {l : List V3} {n : Nat} {r : List (List b7)} {P : List V3 → Prop} (hn : n = l.length) (hr : r = bL tV l) (h : P l) : Rd (one (r1L tV)) (some (.sl 0 0 n 0, [⟨36, 3, r, true, false, 0⟩])) P := by
 subst hn hr
 refine ⟨_, l, rfl, ?_, h⟩
 show Bool.rec (motive := fun _ => Option (List V3)) none (some (slR tV (bL tV l) 0 l.length)) (Bool.and true (okS tV (bL tV l) 0 l.length)) = _
 rw [dc6, dc7]
 rfl
theorem jd0 (x : List Int) : Rd (one (r1L tV)) (Sa5 x) (fun r => 4 ≤ r.length ∧ r.length ≤ 8) := by
 obtain ⟨v, j, e1, a1, b1, c1, d1⟩ := ua1 5 x 0 (by omega) (by omega) (by omega) (by omega)
 have hN : W (4 + v) = (((4 + v).toNat : Nat) : Int) := by rw [Ga0 (by omega) (by omega)]; omega
 obtain ⟨idx, out, e2, e3⟩ := Be0 x (4 + v).toNat (by omega) (by omega) j (by omega)
 unfold Sa5
 simp only [m0, m8, e1, hN, e2]
 have h4 : 4 ≤ (4 + v).toNat := by omega
 have h8 : (4 + v).toNat ≤ 8 := by omega
 generalize (4 + v).toNat = N at *
 have s1 : lsL tV N (fun k => f7 (bL tV out) (0 + k)) = out := by rw [← e3]; exact dc6 tV out
 have s2 : okL tV N (fun k => f7 (bL tV out) (0 + k)) = true := by rw [← e3]; exact dc7 tV out
 have gf : Wa5 out = true := ne2 out (by omega)
 rw [s1, s2, gf]
 simp only [Nat.beq_refl, Bool.and_true, q7, show Nat.beq 2 1 = false from rfl, Ya7]
 refine Rd.sl (fun _ => ?_) fun _ => ne6 e3.symm rfl ⟨by omega, by omega⟩
 have i0 : inB 0 N = true := f0 (j := 0) (by omega)
 have i1 : inB 1 N = true := f0 (j := 1) (by omega)
 have i2 : inB 2 N = true := f0 (j := 2) (by omega)
 have i3 : inB 3 N = true := f0 (j := 3) (by omega)
 have sp : ∀ (v : V3) (x1 x2 x3 : Int), M4 (tV.row v) 0 [i x1, i x2, i x3] = tV.row ⟨x1, x2, x3⟩ := fun _ _ _ _ => rfl
 have rl : ∀ v : V3, Nat.ble (0 + 3) (len (tV.row v)) = true := fun _ => rfl
 have ck : ∀ v : V3, J8 [(CK.int .i64), (CK.int .i64), (CK.int .i64)] (e7 (tV.row v) 0) = true := fun _ => rfl
 have gr : ∀ (l : List V3) (k : Nat), l.length = N → k < 4 → f7 (bL tV l) k = tV.row (gL tV l k) := fun l k hl hk => X5 tV (by omega)
 have bl : ∀ (l : List V3) (k : Nat), l.length = N → k < 4 → Nat.blt k (len (bL tV l)) = true := fun l k hl hk => by rw [O5, Nat.blt_eq]; omega
 have ls : ∀ (l : List V3) (k : Nat) (v : V3), l.length = N → (l.set k v).length = N := fun l k v hl => by rw [List.length_set]; exact hl
 rw [gr out 0 e3 (by omega), gr out 1 e3 (by omega)]
 simp only [sp, Ab0]
 rw [gr _ 2 (ls out 1 _ e3) (by omega)]
 simp only [sp, Ab0]
 rw [gr _ 3 (ls _ 2 _ (ls out 1 _ e3)) (by omega)]
 simp only [sp, Ab0, rl, ck, i0, i1, i2, i3, bl out 0 e3 (by omega), bl out 1 e3 (by omega), bl _ 2 (ls out 1 _ e3) (by omega), bl _ 3 (ls _ 2 _ (ls out 1 _ e3)) (by omega), Bool.and_true, q7]
 exact ne6 (by simp only [List.length_set]; omega) rfl (by simp only [List.length_set]; omega)
theorem ne7 (x : List Int) : Sa6 x = true := (jd0 x).g
theorem ne8 (x : List Int) : 4 ≤ (ta9 x).length ∧ (ta9 x).length ≤ 8 := (jd0 x).p
end Go.Ev.Ce
namespace Go.Ev.Ce
open Go Go.Ev Go.Ev.L Go.Proofs
theorem ne9 {l : List Pln} {P : List Pln → Prop} (h : P l) : Rd (one (r1L tP)) (some (eL tP l, [])) P := ⟨_, l, rfl, id3 tP l, h⟩
theorem Ud3 (x : List Int) : Rd (one (r1L tP)) (ob8 x) (fun r => r.length ≤ 250000) := by
 obtain ⟨v1, j1, e1, a1, b1, c1, d1⟩ := ua1 4 x 0 (by omega) (by omega) (by omega) (by omega)
 obtain ⟨w1, w2, w3, j2, e2, p1, p2, p3, c2, d2⟩ := Sc5 6 x j1 (by omega) (by omega) (by omega) (by omega)
 obtain ⟨v3, j3, e3, a3, b3, c3, d3⟩ := ua1 6 x j2 (by omega) (by omega) (by omega) (by omega)
 obtain ⟨v4, j4, e4, a4, b4, c4, d4⟩ := ua1 6 x j3 (by omega) (by omega) (by omega) (by omega)
 obtain ⟨v5, j5, e5, a5, b5, c5, d5⟩ := ua1 6 x j4 (by omega) (by omega) (by omega) (by omega)
 have hin : inB (if 7 < (x.length : Int) then 7 else (x.length : Int)) (x.length + 1) = true := by
  rw [Gc3]
  apply decide_eq_true
  split <;> omega
 have hok : ∀ n m, okL tI n (fun k => (fun k => tI.row (gL tI x k)) (m + k)) = true := fun n m => Eb6 tI (f := fun k => gL tI x (m + k)) fun _ _ => rfl
 unfold ob8
 simp only [m0, m8, J9, e1, e2, e3, e4, e5, Ge7, Ge8, hin, hok, lb3, Ae2, ne7, Nat.beq_refl, Bool.and_true, q7]
 generalize hL : lsL tI _ _ = L
 generalize hB : le0 _ _ = B
 have hB6 : B.length = 6 := by rw [← hB]; rfl
 have hl6 : len (bL tP B) = 6 := by rw [O5, hB6]
 have ea : app [] (bL tP B) = bL tP B := rfl
 have es : ∀ q : Pln, slR tP (bL tP (B ++ [q])) 0 (0 + 6 + 1) = B ++ [q] := fun q => by
  have := dc6 tP (B ++ [q])
  rw [List.length_append, hB6] at this
  exact this
 have eo : ∀ q : Pln, okS tP (bL tP (B ++ [q])) 0 (0 + 6 + 1) = true := fun q => by
  have := dc7 tP (B ++ [q])
  rw [List.length_append, hB6] at this
  exact this
 have gF : ∀ q : Pln, Ma0 (B ++ [q]) = true := fun q => Td4 (by rw [List.length_append, hB6]; exact (by decide : 6 + 1 ≤ 1000000000))
 have q1 : Nat.ble ((0 + 6) * 32) room = true := da8 (by omega)
 have q2 : Nat.ble (((0 + 6) + 1) * 32) room = true := da8 (by omega)
 have q3 : Nat.beq (0 + 6) 6 = true := rfl
 have hp := ne8 L
 have gf : Na8 (ta9 L) = true := Ae8 _ (by omega)
 have pf := Ae9 (ta9 L) (by omega)
 simp only [hl6, ea, Sb7, es, eo, gF, q1, q2, q3, Bool.and_self, gf, q7, show Nat.beq 6 0 = false from rfl, Ya7]
 have box : Rd (one (r1L tP)) (some (eL tP B, [])) (fun r => r.length ≤ 250000) := ne9 (by rw [hB6]; omega)
 have fcs : Rd (one (r1L tP)) (some (eL tP (vb1 (ta9 L)).1, [])) (fun r => r.length ≤ 250000) := ne9 pf
 exact Rd.sl (fun _ => Rd.sl (fun _ => yb9 (by rw [List.length_append, hB6]; rfl) rfl (by rw [List.length_append, hB6]; exact (by decide : 6 + 1 ≤ 250000))) fun _ => Rd.sl (fun _ => Rd.sl (fun _ => fcs) fun _ => box) fun _ => box) fun _ => Rd.sl (fun _ => Rd.sl (fun _ => fcs) fun _ => box) fun _ => box
theorem Ne5 (x : List Int) : fc9 x = true := (Ud3 x).g
theorem oe0 (x : List Int) : (ha9 x).length ≤ 250000 := (Ud3 x).p
theorem pc3 {l : List Pln} {k : Nat} (h : k < l.length) : ldR tP (bL tP l) (0 + k) = true := by rw [Nat.zero_add]; exact md9 tP h
theorem Xb1 {l : List Pln} {k : Nat} (h : k < l.length) : rdR tP (bL tP l) (0 + k) = gL tP l k := by rw [Nat.zero_add]; exact md8 tP h
theorem oe1 {α : Type} (t : Ty α) (k : Nat) (l : List α) : (one (r1L t)).rd (.sl 0 0 l.length 0, [⟨k, t.es, bL t l, true, false, 0⟩]) = some l := by
 show Bool.rec (motive := fun _ => Option (List α)) none (some (slR t (bL t l) 0 l.length)) (Bool.and (Nat.beq t.es t.es) (okS t (bL t l) 0 l.length)) = _
 rw [dc6, dc7, Nat.beq_refl]
 rfl
theorem Pd0 {l : List Pln} {n : Nat} {r : List (List b7)} {P : List Pln → Prop} (hn : n ≤ l.length) (hr : r = bL tP l) (h : P (l.take n)) : Rd (one (r1L tP)) (some (.sl 0 0 n 0, [⟨50, 4, r, true, false, 0⟩])) P := by
 subst hr
 have e1 : slR tP (bL tP l) 0 n = l.take n := Lc0 tP (by rw [List.length_take]; omega) fun k hk => by
  rw [Nat.zero_add, X5 tP (by omega)]
  congr 1
  simp [gL, List.getD_eq_getElem?_getD, List.getElem?_take, hk]
 have e2 : okS tP (bL tP l) 0 n = true := Eb6 tP (f := fun k => gL tP l k) fun k hk => by rw [Nat.zero_add, X5 tP (by omega)]
 refine ⟨_, l.take n, rfl, ?_, h⟩
 show Bool.rec (motive := fun _ => Option (List Pln)) none (some (slR tP (bL tP l) 0 n)) (Bool.and true (okS tP (bL tP l) 0 n)) = _
 rw [e1, e2]
 rfl
theorem oe2 (k : Nat) (l : List Pln) (hk : k < l.length) : ∃ s : ta0, lp (Sa8 ⟨(k : Int)⟩) ⟨l.length, bL tP l⟩ = (1, s) ∧ ∃ out : List Pln, s = ⟨out.length, bL tP out⟩ ∧ out.length ≤ l.length + 49 := by
 have key := Pb0 (step := Sa8 ⟨(k : Int)⟩) (I := fun m s => ∃ out : List Pln, s = ⟨out.length, bL tP out⟩ ∧ k < out.length ∧ (out.length ≤ 49 ∨ out = l) ∧ m = 49 - out.length) (Q := fun t s => t = 1 ∧ ∃ out : List Pln, s = ⟨out.length, bL tP out⟩ ∧ out.length ≤ l.length + 49) (fun m s ⟨out, hs, hk, ho, hm⟩ => by
  subst hs
  simp only [Sa8, Xa9, Int.toNat_natCast, pc3 hk, Xb1 hk, f0 hk, q7, Sb7]
  by_cases h : (out.length : Int) ≤ 48
  ·rw [btD h, O5, Nat.beq_refl, da8 (by omega)]
   refine .inr ⟨_, 49 - (out.length + 1), by omega, rfl, out ++ [gL tP out k], by rw [List.length_append]; rfl, by rw [List.length_append]; omega, .inl (by rw [List.length_append]; simp only [List.length_singleton]; omega), by rw [List.length_append]; rfl⟩
  ·rw [bfD h]
   exact .inl ⟨1, rfl, rfl, out, rfl, by rcases ho with ho | rfl <;> omega⟩) (49 - l.length) ⟨l.length, bL tP l⟩ (by omega) ⟨l, rfl, hk, .inr rfl, rfl⟩
 exact ⟨_, Prod.ext key.1 rfl, key.2⟩
theorem Ne6 (p : Pln) (v : V3) : Rd (one r1P) (Bb8 p v) (fun _ => True) := by
 have h1 := Int.emod_nonneg v.z (show (9 : Int) ≠ 0 by omega)
 have h2 := Int.emod_lt_of_pos v.z (show (0 : Int) < 9 by omega)
 unfold Bb8
 simp only [Sc4 _ (show (0 : Int) < 9 by omega) (by omega), Sc4 _ (show (0 : Int) < 5 by omega) (by omega), Td7 _ (show (0 : Int) < 9 by omega) (by omega), Td7 _ (show (0 : Int) < 5 by omega) (by omega)]
 have hin : inB (v.z % 9) 9 = true := by rw [Gc3]; exact decide_eq_true (by omega)
 have hck : ∀ (x1 x2 x3 x4 x5 x6 x7 x8 x9 : Int) (k : Nat), k < 9 → ((Nat.ble 1 (len (f7 [[(i x1)], [(i x2)], [(i x3)], [(i x4)], [(i x5)], [(i x6)], [(i x7)], [(i x8)], [(i x9)]] (0 + k)))) && (J8 [(CK.int .i64)] (f7 [[(i x1)], [(i x2)], [(i x3)], [(i x4)], [(i x5)], [(i x6)], [(i x7)], [(i x8)], [(i x9)]] (0 + k)))) = true := by
  intro x1 x2 x3 x4 x5 x6 x7 x8 x9 k hk
  match k, hk with
  | 0, _ => rfl
  | 1, _ => rfl
  | 2, _ => rfl
  | 3, _ => rfl
  | 4, _ => rfl
  | 5, _ => rfl
  | 6, _ => rfl
  | 7, _ => rfl
  | 8, _ => rfl
 rw [hin, hck _ _ _ _ _ _ _ _ _ _ (by omega)]
 simp only [q7]
 exact Rd.sl (fun _ => ⟨_, _, rfl, rfl, trivial⟩) fun _ => Rd.sl (fun _ => ⟨_, _, rfl, rfl, trivial⟩) fun _ => Rd.sl (fun _ => ⟨_, _, rfl, rfl, trivial⟩) fun _ => Rd.sl (fun _ => ⟨_, _, rfl, rfl, trivial⟩) fun _ => Rd.sl (fun _ => ⟨_, _, rfl, rfl, trivial⟩) fun _ => ⟨_, _, rfl, rfl, trivial⟩
theorem Ne7 (p : Pln) (v : V3) : wc0 p v = true := (Ne6 p v).g
theorem oe3 (x : List Pln) (y : V3) (hx : x.length ≤ 1000000) : Rd (one (r1L tP)) (Cb1 x y) (fun r => r.length ≤ x.length + 50) := by
 have ea : app [] (bL tP x) = bL tP x := rfl
 have one0 : Rd (one (r1L tP)) (some (.sl 0 0 1 0, [⟨50, 4, [[(i 0), (i 0), (i 0), (i 0)]], true, false, 0⟩])) (fun r => r.length ≤ x.length + 50) := yb9 (l := [⟨⟨0, 0, 0⟩, 0⟩]) rfl rfl (by simp only [List.length_singleton]; omega)
 unfold Cb1
 simp only [lb3, ea, O5, Nat.zero_add]
 by_cases h0 : x.length = 0
 ·rw [show Nat.beq x.length 0 = true from by rw [h0]; rfl]
  exact one0
 ·have z0 : Nat.beq x.length 0 = false := by
   cases h : Nat.beq x.length 0 with
   | false => rfl
   | true => exact absurd (Nat.eq_of_beq_eq_true h) h0
  have zi : ((x.length : Int) == 0) = false := by rw [beq_eq_false_iff_ne]; omega
  have hk1 := Int.emod_nonneg y.y (show (x.length : Int) ≠ 0 by omega)
  have hk2 := Int.emod_lt_of_pos y.y (show (0 : Int) < (x.length : Int) by omega)
  rw [z0, zi, Td7 y.y (show (0 : Int) < (x.length : Int) by omega) (by omega), Sc4 y.y (show (0 : Int) < (x.length : Int) by omega) (by omega), Sc4 y.x (show (0 : Int) < 6 by omega) (by omega), Sc4 y.z (show (0 : Int) < 9 by omega) (by omega)]
  obtain ⟨k, hk⟩ := Int.eq_ofNat_of_zero_le hk1
  rw [hk] at hk2 ⊢
  have hkx : k < x.length := by omega
  have i1 : inB (k : Int) x.length = true := f0 hkx
  have i2 : inB (k : Int) (x.length + 1) = true := f0 (by omega)
  have w1 : W ((k : Int) + 1) = ((k + 1 : Nat) : Int) := o9 hkx (by omega)
  have i3 : inB ((k + 1 : Nat) : Int) (x.length + 1) = true := f0 (by omega)
  have hrow : f7 (bL tP x) k = tP.row (gL tP x k) := X5 tP hkx
  have hb : Nat.blt k x.length = true := by rw [Nat.blt_eq]; exact hkx
  have hld : ldR tP (bL tP x) k = true := md9 tP hkx
  have hrd : rdR tP (bL tP x) k = gL tP x k := md8 tP hkx
  have sp : ∀ (v : Pln) (x1 x2 x3 x4 : Int), M4 (tP.row v) 0 [i x1, i x2, i x3, i x4] = tP.row ⟨⟨x1, x2, x3⟩, x4⟩ := fun _ _ _ _ _ => rfl
  have sp3 : ∀ (v : Pln) (x4 : Int), M4 (tP.row v) 3 [i x4] = tP.row ⟨v.n, x4⟩ := fun _ _ => rfl
  have rl : ∀ v : Pln, Nat.ble 4 (len (tP.row v)) = true := fun _ => rfl
  have rl3 : ∀ v : Pln, Nat.ble (3 + 1) (len (tP.row v)) = true := fun _ => rfl
  have ck3 : ∀ v : Pln, J8 [(CK.int .i64)] (e7 (tP.row v) 3) = true := fun _ => rfl
  have b0 : Nat.ble (x.length * 32) room = true := da8 (by omega)
  have b1 : Nat.ble ((x.length + 1) * 32) room = true := da8 (by omega)
  obtain ⟨s, l1, out, l2, l3⟩ := oe2 k x hkx
  have cutL : G6 (e7 (bL tP x) (k + 1)) (x.length - (k + 1)) = bL tP (x.drop (k + 1)) := by
   have hl : (bL tP x).length = x.length := by rw [← l9, O5]
   rw [E4, E5, List.take_of_length_le (by rw [List.length_drop, hl]; omega)]
   unfold bL
   rw [n8, n8, List.map_drop]
  have cutT : G6 (bL tP x) (k - 0) = bL tP (x.take k) := by
   unfold bL
   rw [E4, n8, n8, List.map_take, Nat.sub_zero]
  have cutD : ∀ n, e7 (bL tP x) n = bL tP (x.drop n) := fun n => by
   unfold bL
   rw [E5, n8, n8, List.map_drop]
  simp only [Int.toNat_natCast, i1, i2, w1, i3, hrow, hb, hld, hrd, sp, sp3, rl, rl3, ck3, b0, b1, Nat.beq_refl, Bool.and_self, Bool.and_true, q7, Ya7, Ne7, Ab0, Sb7, l1, l2, cutL]
  refine Rd.sl (fun _ => yb9 (by rw [List.length_set]) rfl (by rw [List.length_set]; omega)) fun _ => Rd.sl (fun _ => ?_) fun _ => Rd.sl (fun _ => yb9 (by rw [List.length_set]) rfl (by rw [List.length_set]; omega)) fun _ =>
   Rd.sl (fun _ => yb9 (by rw [List.length_append]; rfl) rfl (by rw [List.length_append]; simp only [List.length_singleton]; omega)) fun _ => Rd.sl (fun _ => yb9 (by rw [List.length_set]) rfl (by rw [List.length_set]; omega)) fun _ =>
   Rd.sl (fun _ => yb9 rfl rfl (by omega)) fun _ => yb9 rfl rfl (by omega)
  rw [cutT, cutD, O5, La7, La7, List.length_drop, bt (by rw [Nat.ble_eq]; omega)]
  refine Pd0 ?_ rfl ?_
  ·simp only [List.length_append, List.length_take, List.length_drop]; omega
  ·rw [List.length_take]; simp only [List.length_append, List.length_take, List.length_drop]; omega
theorem He7 (x : List Pln) (y : V3) (hx : x.length ≤ 1000000) : Cb2 x y = true := (oe3 x y hx).g
theorem oe4 (x : List Pln) (y : V3) (hx : x.length ≤ 1000000) : (Ea8 x y).length ≤ x.length + 50 := (oe3 x y hx).p
theorem oe5 (x : List Pln) : Rd (one (r1L tP)) (bb5 x) (fun r => r.length ≤ 8) := by
 have hin : inB (if 8 < (x.length : Int) then 8 else (x.length : Int)) (x.length + 1) = true := by
  rw [Gc3]
  apply decide_eq_true
  split <;> omega
 unfold bb5
 rw [hin, q7]
 refine ⟨_, lsL tP ((if 8 < (x.length : Int) then 8 else (x.length : Int)).toNat - 0) (fun k => (fun k => tP.row (gL tP x k)) (0 + k)), rfl, ?_, by show (lsL tP _ _).length ≤ 8; rw [md7]; split <;> omega⟩
 show Bool.rec (motive := fun _ => Option (List Pln)) none (some _) (Bool.and (Nat.beq 4 4) (okL tP _ _)) = _
 rw [Eb6 tP (f := fun k => gL tP x (0 + k)) fun _ _ => rfl]
 rfl
theorem Ye0 (x : List Pln) : Sb5 x = true := (oe5 x).g
theorem Ye1 (x : List Pln) : (vb2 x).length ≤ 8 := (oe5 x).p
noncomputable def Sb8 (x : List Int) (y : Q2) (z : List Pln) : List (List Pln) := [ha9 x, Ea8 (ha9 x) y.a, Ea8 (Ea8 (ha9 x) y.a) y.b, vb2 z]
theorem Fd0 (x : List Int) (y : Q2) (z : List Pln) : Rd (one (r1L (tLs tP))) (Ia8 x y z) (fun r => r = Sb8 x y z) := by
 have h1 := oe0 x
 have h2 := oe4 (ha9 x) y.a (by omega)
 unfold Ia8
 simp only [m0, J9, Ne5, He7 (ha9 x) y.a (by omega), He7 (Ea8 (ha9 x) y.a) y.b (by omega), Ye0, q7]
 exact ⟨_, Sb8 x y z, rfl, oe1 (tLs tP) 25 (Sb8 x y z), rfl⟩
theorem Be1 (x : List Int) (y : Q2) (z : List Pln) : yb8 x y z = true := (Fd0 x y z).g
theorem Be2 (x : List Int) (y : Q2) (z : List Pln) : yb7 x y z = Sb8 x y z := (Fd0 x y z).p
theorem ce4 (x : List Int) (y : Q2) (z : List Pln) : ∀ c ∈ Sb8 x y z, c.length ≤ 1000000 := by
 have h1 := oe0 x
 have h2 := oe4 (ha9 x) y.a (by omega)
 have h3 := oe4 (Ea8 (ha9 x) y.a) y.b (by omega)
 have h4 := Ye1 z
 intro c hc
 simp only [Sb8, List.mem_cons, List.not_mem_nil, or_false] at hc
 rcases hc with rfl | rfl | rfl | rfl <;> omega
end Go.Ev.Ce
section
namespace Go.Ev.Ce
open Go Go.Ev Go.Ev.L Go.Proofs
set_option maxRecDepth 100000
structure Ya0 where
 na5 : Int
 na6 : Int
 na7 : Int
 qb8 : Int
 g8 : List Pt
noncomputable def Sb9 : List (Nat × Sum) := [(102, ub9)]
theorem Ec6 : i6 prog G Sb9 := ⟨Gb0, trivial⟩
structure wa1 where
 Wd3 : List Pt
 is8 : Int
 g8 : List Pt
 l5 : Int
 l6 : Int
 l7 : Int
 J7 : Int
structure N9 where
 is4 : Int
 is9 : Int
noncomputable def wc3 (p : wa1) (s : N9) : St := ⟨(.unk :: (.unk :: ((.ptr 1 0 0 0) :: (.unk :: ((i s.is4) :: (.unk :: (.unk :: ((eL tX p.Wd3) :: ((i p.is8) :: ((i s.is9) :: (ra 12 []))))))))))), [⟨0, 1, [[(eL tX p.g8)]], true, false, 0⟩, ⟨0, 4, [[(i p.l5), (i p.l6), (i p.l7), (i p.J7)]], true, false, 0⟩]⟩
noncomputable def ma9 {α : Type} (k : N9 → α) (e : Nat → α) (z : α) (p : wa1) (s : N9) : α := let t1 := (sa8 (⟨(⟨p.l5, p.l6, p.l7⟩ : V3), p.J7⟩ : Pln) (gL tX p.Wd3 s.is9.toNat)); (sl (decide (s.is9 < p.is8)) (sl (inB s.is9 (List.length p.Wd3)) (sl (t1 == 0) (k ⟨(W (s.is4 + 1)), (W (s.is9 + 1))⟩) (k ⟨s.is4, (W (s.is9 + 1))⟩)) z) (e 1))
noncomputable def ra8 (p : wa1) (s : N9) : Stp N9 := ma9 .next .exit .fail p s
noncomputable def eb6 : Lo wa1 N9 := ⟨En Sb9, 1, Ee3, [1, 1, 0, 1, 4, 4], [2, 4, 7, 8, 9], .p, [⟨((.s (.o .unk)) :: ((.s (.o .unk)) :: ((.s (.o (.ptr 1 0 0 0))) :: ((.s (.o .unk)) :: ((.s (.o (.int .i64))) :: ((.s (.o .unk)) :: ((.s (.o .unk)) :: ((.s (.c 4 (nL tX))) :: ((.s (.o (.int .i64))) :: ((.s (.o (.int .i64))) :: (ru2 12 []))))))))))), [⟨0, 1, true, (some [[(.c 4 (nL tX))]])⟩, ⟨0, 4, true, (some [[(.o (.int .i64)), (.o (.int .i64)), (.o (.int .i64)), (.o (.int .i64))]])⟩], fun a H => (⟨(rL tX (slT a 7)), (toI (slT a 8)), (rL tX (slT (rwT (elT H 0) 0) 0)), (toI (slT (rwT (elT H 1) 0) 0)), (toI (slT (rwT (elT H 1) 0) 1)), (toI (slT (rwT (elT H 1) 0) 2)), (toI (slT (rwT (elT H 1) 0) 3))⟩, ⟨(toI (slT a 4)), (toI (slT a 9))⟩)⟩], ra8, [(some 0, fun p s => ⟨(.unk :: (.unk :: ((.ptr 1 0 0 0) :: (.unk :: ((i s.is4) :: (.unk :: (.unk :: ((eL tX p.Wd3) :: ((i p.is8) :: ((i s.is9) :: ((b (decide (s.is9 < p.is8))) :: (ra 11 [])))))))))))), [⟨0, 1, [[(eL tX p.g8)]], true, false, 0⟩, ⟨0, 4, [[(i p.l5), (i p.l6), (i p.l7), (i p.J7)]], true, false, 0⟩]⟩)], wc3⟩
theorem wc4 : eb6.Ok := Lo.ok [] (by kernel_rfl) .nil rfl (.cons (fun a H => by kernel_rfl) .nil) fun p s => (.of @ma9 (fun F _ _ _ _ _ => by unfold ma9; (repeat' apply k9 (f := F)) <;> rfl) (by kernel_rfl))
structure xa5 where
 alt : Nat
 bs0 : Bool
 g8 : List Pt
noncomputable def xa6 {α : Type} (kk : xa5 → α) (x : Ya0) : α := let t1 := (lp (ra8 (⟨(rt tX x.g8), (↑(List.length x.g8) : Int), (rt tX x.g8), x.na5, x.na6, x.na7, x.qb8⟩ : wa1)) (⟨0, 0⟩ : N9)); (sl ((cnE tX x.g8) && ((cnE tX x.g8) && true)) (sl (Nat.beq t1.1 1) (kk ⟨1, (decide (t1.2.is4 < 3)), (rt tX x.g8)⟩) (kk ⟨0, false, []⟩)) (kk ⟨0, false, []⟩))
noncomputable def oa8 (x : Ya0) : xa5 := xa6 (fun r => r) x
noncomputable def pb2 (x : Ya0) (r : xa5) : DT (b7 × List b8) := (.ite (Nat.beq r.alt 1) (.ret ((b r.bs0), [⟨0, 1, [[(eL tX r.g8)]], true, false, 0⟩])) .fail)
theorem bd7 {α β : Type} (F : α → β) (kk : xa5 → α) (x : Ya0) : F (xa6 kk x) = xa6 (fun r => F (kk r)) x := by unfold xa6; (repeat' apply k9 (f := F)) <;> rfl
noncomputable def zb0 : Sum := Pa4 ⟨[(.agg [(.o (.int .i64)), (.o (.int .i64)), (.o (.int .i64)), (.o (.int .i64))]), (.s (.o (.ptr 0 0 0 0)))], [⟨0, 1, true, (some [[(.c 4 (nL tX))]])⟩], fun a H => (⟨(toI (slT (cellsOf (slT a 0)) 0)), (toI (slT (cellsOf (slT a 0)) 1)), (toI (slT (cellsOf (slT a 0)) 2)), (toI (slT (cellsOf (slT a 0)) 3)), (rL tX (slT (rwT (elT H 0) 0) 0))⟩, ())⟩ (fun x => pb2 x (oa8 x))
theorem Tb0 : g9 prog G 101 zb0 := J5 (enc := fun x => ⟨[(.agg [(i x.na5), (i x.na6), (i x.na7), (i x.qb8)]), (.ptr 0 0 0 0)], [⟨0, 1, [[(eL tX x.g8)]], true, false, 0⟩]⟩) (fun a H => by kernel_rfl) (bd df5 Ec6) fun x => sa6 (.s .p (.s .p (.s (.s .p (.b (.u eb6.ls))) .p))) [eb6.pr] (by kernel_rfl) (.cons wc4 .nil) (Eq.trans (b := xa6 (fun r => (pb2 x r).run) x) (by kernel_rfl) (bd7 (fun r => (pb2 x r).run) (fun r => r) x).symm)
structure V5 where
 ns0 : Nat
 eh0 : List (List b7)
 u9 : List Pt
noncomputable def Ca8 : List (Nat × Sum) := [(101, zb0)]
theorem ib4 : i6 prog G Ca8 := ⟨Tb0, trivial⟩
structure I1 where
 ns0 : Nat
 is7 : Int
 eh0 : List (List b7)
structure o5 where
 is8 : Int
 u9 : List Pt
noncomputable def eb7 (p : I1) (s : o5) : St := ⟨((.sl 0 0 p.ns0 0) :: ((.fn 101 [(.ptr 1 0 0 0)]) :: (ra 5 ((i p.is7) :: ((i s.is8) :: (ra 10 [])))))), [⟨50, 4, p.eh0, true, false, 0⟩, ⟨0, 1, [[(eL tX s.u9)]], true, false, 0⟩]⟩
noncomputable def C9 {α : Type} (k : o5 → α) (e : Nat → α) (z : α) (p : I1) (s : o5) : α := let t1 := (oa8 ⟨(rdR tP p.eh0 (0 + s.is8.toNat)).n.x, (rdR tP p.eh0 (0 + s.is8.toNat)).n.y, (rdR tP p.eh0 (0 + s.is8.toNat)).n.z, (rdR tP p.eh0 (0 + s.is8.toNat)).b, (rt tX s.u9)⟩); (sl (decide (s.is8 < p.is7)) (sl (inB s.is8 p.ns0) (sl (ldR tP p.eh0 (0 + s.is8.toNat)) (sl ((cnE tX s.u9) && true) (sl (Nat.beq t1.alt 1) (sl t1.bs0 (e 1) (k ⟨(W (s.is8 + 1)), t1.g8⟩)) z) z) z) z) (e 2))
noncomputable def F6 (p : I1) (s : o5) : Stp o5 := C9 .next .exit .fail p s
noncomputable def fa2 : Lo I1 o5 := ⟨En Ca8, 2, Ad4, [1, 0, 1, 4, 4], [0, 1, 7, 8], .p, [⟨((.s (.o (.sl 0 0 (some 0) none))) :: ((.fn 101 [(.o (.ptr 1 0 0 0))]) :: (ru2 5 ((.s (.o (.int .i64))) :: ((.s (.o (.int .i64))) :: (ru2 10 [])))))), [⟨50, 4, true, none⟩, ⟨0, 1, true, (some [[(.c 4 (nL tX))]])⟩], fun a H => (⟨(slN (slT a 0)), (toI (slT a 7)), (elT H 0)⟩, ⟨(toI (slT a 8)), (rL tX (slT (rwT (elT H 1) 0) 0))⟩)⟩], F6, [(none, fun p s => let t1 := (oa8 ⟨(rdR tP p.eh0 (0 + s.is8.toNat)).n.x, (rdR tP p.eh0 (0 + s.is8.toNat)).n.y, (rdR tP p.eh0 (0 + s.is8.toNat)).n.z, (rdR tP p.eh0 (0 + s.is8.toNat)).b, (rt tX s.u9)⟩); ⟨[(i s.is8)], [⟨50, 4, p.eh0, true, false, 0⟩, ⟨0, 1, [[(eL tX t1.g8)]], true, false, 0⟩]⟩), (some 0, fun p s => ⟨((.sl 0 0 p.ns0 0) :: ((.fn 101 [(.ptr 1 0 0 0)]) :: (ra 5 ((i p.is7) :: ((i s.is8) :: ((b (decide (s.is8 < p.is7))) :: (ra 9 []))))))), [⟨50, 4, p.eh0, true, false, 0⟩, ⟨0, 1, [[(eL tX s.u9)]], true, false, 0⟩]⟩)], eb7⟩
theorem eb8 : fa2.Ok := Lo.ok [] (by kernel_rfl) .nil rfl (.cons (fun a H => by kernel_rfl) .nil) fun p s => (.of @C9 (fun F _ _ _ _ _ => by unfold C9; (repeat' apply k9 (f := F)) <;> rfl) (by kernel_rfl))
structure V6 where
 alt : Nat
 is0 : Int
 u9 : List Pt
noncomputable def D6 {α : Type} (kk : V6 → α) (x : V5) : α := let t1 := (lp (F6 (⟨x.ns0, (↑x.ns0 : Int), x.eh0⟩ : I1)) (⟨0, (rt tX x.u9)⟩ : o5)); let t2 := (oa8 ⟨(rdR tP x.eh0 (0 + t1.2.is8.toNat)).n.x, (rdR tP x.eh0 (0 + t1.2.is8.toNat)).n.y, (rdR tP x.eh0 (0 + t1.2.is8.toNat)).n.z, (rdR tP x.eh0 (0 + t1.2.is8.toNat)).b, (rt tX t1.2.u9)⟩); (sl ((cnE tX x.u9) && true) (sl (Nat.beq t1.1 1) (kk ⟨1, t1.2.is8, t2.g8⟩) (sl (Nat.beq t1.1 2) (kk ⟨1, (-1), t1.2.u9⟩) (kk ⟨0, 0, []⟩))) (kk ⟨0, 0, []⟩))
noncomputable def V7 (x : V5) : V6 := D6 (fun r => r) x
noncomputable def ia1 (x : V5) (r : V6) : DT (b7 × List b8) := (.ite (Nat.beq r.alt 1) (.ret ((i r.is0), [⟨50, 4, x.eh0, true, false, 0⟩, ⟨0, 1, [[(eL tX r.u9)]], true, false, 0⟩])) .fail)
theorem sb4 {α β : Type} (F : α → β) (kk : V6 → α) (x : V5) : F (D6 kk x) = D6 (fun r => F (kk r)) x := by unfold D6; (repeat' apply k9 (f := F)) <;> rfl
noncomputable def Fa6 : Sum := Pa4 ⟨[(.s (.o (.sl 0 0 (some 0) none))), (.fn 101 [(.o (.ptr 1 0 0 0))])], [⟨50, 4, true, none⟩, ⟨0, 1, true, (some [[(.c 4 (nL tX))]])⟩], fun a H => (⟨(slN (slT a 0)), (elT H 0), (rL tX (slT (rwT (elT H 1) 0) 0))⟩, ())⟩ (fun x => ia1 x (V7 x))
theorem pb3 : g9 prog G 163 Fa6 := J5 (enc := fun x => ⟨[(.sl 0 0 x.ns0 0), (.fn 101 [(.ptr 1 0 0 0)])], [⟨50, 4, x.eh0, true, false, 0⟩, ⟨0, 1, [[(eL tX x.u9)]], true, false, 0⟩]⟩) (fun a H => by kernel_rfl) (bd xe5 ib4) fun x => sa6 (.s .p (.s (.s .p (.b (.u fa2.ls))) .p)) [fa2.pr] (by kernel_rfl) (.cons eb8 .nil) (Eq.trans (b := D6 (fun r => (ia1 x r).run) x) (by kernel_rfl) (sb4 (fun r => (ia1 x r).run) (fun r => r) x).symm)
structure V8 where
 ns0 : Nat
 eh0 : List (List b7)
 u9 : List Pt
noncomputable def Ca9 : List (Nat × Sum) := [(163, Fa6), (101, zb0)]
theorem ib5 : i6 prog G Ca9 := ⟨pb3, Tb0, trivial⟩
structure I4 where
 ns0 : Nat
structure q9 where
 is5 : Int
 is6 : Int
 eh0 : List (List b7)
 u9 : List Pt
noncomputable def eb9 (p : I4) (s : q9) : St := ⟨((.sl 0 0 p.ns0 0) :: ((.fn 101 [(.ptr 1 0 0 0)]) :: (ra 3 ((i s.is5) :: ((i s.is6) :: (ra 35 [])))))), [⟨50, 4, s.eh0, true, false, 0⟩, ⟨0, 1, [[(eL tX s.u9)]], true, false, 0⟩]⟩
noncomputable def D0 {α : Type} (k : q9 → α) (e : Nat → α) (z : α) (p : I4) (s : q9) : α := let t1 := (oa8 ⟨(rdR tP s.eh0 (0 + s.is6.toNat)).n.x, (rdR tP s.eh0 (0 + s.is6.toNat)).n.y, (rdR tP s.eh0 (0 + s.is6.toNat)).n.z, (rdR tP s.eh0 (0 + s.is6.toNat)).b, (rt tX s.u9)⟩); (sl (decide (s.is6 < (↑p.ns0 : Int))) (sl (inB s.is6 p.ns0) (sl (ldR tP s.eh0 (0 + s.is6.toNat)) (sl ((cnE tX s.u9) && true) (sl (Nat.beq t1.alt 1) (sl (!t1.bs0) (sl (inB s.is5 p.ns0) (sl ((Nat.blt (0 + s.is5.toNat) (len s.eh0)) && (Nat.ble (0 + 4) (len (f7 s.eh0 (0 + s.is5.toNat))))) (k ⟨(W (s.is5 + 1)), (W (s.is6 + 1)), (setAt s.eh0 (0 + s.is5.toNat) (M4 (f7 s.eh0 (0 + s.is5.toNat)) 0 [(i (rdR tP s.eh0 (0 + s.is6.toNat)).n.x), (i (rdR tP s.eh0 (0 + s.is6.toNat)).n.y), (i (rdR tP s.eh0 (0 + s.is6.toNat)).n.z), (i (rdR tP s.eh0 (0 + s.is6.toNat)).b)])), t1.g8⟩) z) z) (k ⟨s.is5, (W (s.is6 + 1)), s.eh0, t1.g8⟩)) z) z) z) z) (e 1))
noncomputable def A2 (p : I4) (s : q9) : Stp q9 := D0 .next .exit .fail p s
noncomputable def fa3 : Lo I4 q9 := ⟨En Ca9, 2, Te1, [1, 1, 1, 0, 1, 4, 4], [0, 1, 5, 6], .p, [⟨((.s (.o (.sl 0 0 (some 0) none))) :: ((.fn 101 [(.o (.ptr 1 0 0 0))]) :: (ru2 3 ((.s (.o (.int .i64))) :: ((.s (.o (.int .i64))) :: (ru2 35 [])))))), [⟨50, 4, true, none⟩, ⟨0, 1, true, (some [[(.c 4 (nL tX))]])⟩], fun a H => (⟨(slN (slT a 0))⟩, ⟨(toI (slT a 5)), (toI (slT a 6)), (elT H 0), (rL tX (slT (rwT (elT H 1) 0) 0))⟩)⟩], A2, [(some 0, fun p s => ⟨((.sl 0 0 p.ns0 0) :: ((.fn 101 [(.ptr 1 0 0 0)]) :: (ra 3 ((i s.is5) :: ((i s.is6) :: (ra 9 ((i s.is6) :: ((.sl 0 0 p.ns0 0) :: ((i (↑p.ns0 : Int)) :: ((b (decide (s.is6 < (↑p.ns0 : Int)))) :: (ra 22 []))))))))))), [⟨50, 4, s.eh0, true, false, 0⟩, ⟨0, 1, [[(eL tX s.u9)]], true, false, 0⟩]⟩)], eb9⟩
theorem fb0 : fa3.Ok := Lo.ok [] (by kernel_rfl) .nil rfl (.cons (fun a H => by kernel_rfl) .nil) fun p s => (.of @D0 (fun F _ _ _ _ _ => by unfold D0; (repeat' apply k9 (f := F)) <;> rfl) (by kernel_rfl))
structure V9 where
 alt : Nat
 ns0 : Nat
 eh0 : List (List b7)
 u9 : List Pt
noncomputable def D7 {α : Type} (kk : V9 → α) (x : V8) : α := let t1 := (V7 ⟨x.ns0, x.eh0, (rt tX x.u9)⟩); let t2 := (lp (A2 (⟨x.ns0⟩ : I4)) (⟨t1.is0, (W (t1.is0 + 1)), x.eh0, (rt tX t1.u9)⟩ : q9)); (sl ((cnE tX x.u9) && true) (sl (Nat.beq t1.alt 1) (sl (t1.is0 == (-1)) (kk ⟨1, x.ns0, x.eh0, t1.u9⟩) (sl ((cnE tX t1.u9) && true) (sl (Nat.beq t2.1 1) (sl (inB t2.2.is5 (x.ns0 + 1)) (sl (inB t2.2.is5 (x.ns0 + 1)) (kk ⟨1, (t2.2.is5.toNat - 0), (app (G6 t2.2.eh0 (0 + t2.2.is5.toNat)) (app (List.replicate (x.ns0 - t2.2.is5.toNat) [(i 0), (i 0), (i 0), (i 0)]) (e7 t2.2.eh0 ((0 + t2.2.is5.toNat) + (x.ns0 - t2.2.is5.toNat))))), t2.2.u9⟩) (kk ⟨0, 0, [], []⟩)) (kk ⟨0, 0, [], []⟩)) (kk ⟨0, 0, [], []⟩)) (kk ⟨0, 0, [], []⟩))) (kk ⟨0, 0, [], []⟩)) (kk ⟨0, 0, [], []⟩))
noncomputable def D8 (x : V8) : V9 := D7 (fun r => r) x
noncomputable def ia2 (x : V8) (r : V9) : DT (b7 × List b8) := (.ite (Nat.beq r.alt 1) (.ret ((.sl 0 0 r.ns0 0), [⟨50, 4, r.eh0, true, false, 0⟩, ⟨0, 1, [[(eL tX r.u9)]], true, false, 0⟩])) .fail)
theorem sb5 {α β : Type} (F : α → β) (kk : V9 → α) (x : V8) : F (D7 kk x) = D7 (fun r => F (kk r)) x := by unfold D7; (repeat' apply k9 (f := F)) <;> rfl
noncomputable def ka1 : Sum := Pa4 ⟨[(.s (.o (.sl 0 0 (some 0) none))), (.fn 101 [(.o (.ptr 1 0 0 0))])], [⟨50, 4, true, none⟩, ⟨0, 1, true, (some [[(.c 4 (nL tX))]])⟩], fun a H => (⟨(slN (slT a 0)), (elT H 0), (rL tX (slT (rwT (elT H 1) 0) 0))⟩, ())⟩ (fun x => ia2 x (D8 x))
theorem Da0 : g9 prog G 99 ka1 := J5 (enc := fun x => ⟨[(.sl 0 0 x.ns0 0), (.fn 101 [(.ptr 1 0 0 0)])], [⟨50, 4, x.eh0, true, false, 0⟩, ⟨0, 1, [[(eL tX x.u9)]], true, false, 0⟩]⟩) (fun a H => by kernel_rfl) (bd b99 ib5) fun x => sa6 (.s .p (.s .p (.s .p (.s (.s .p (.b (.u fa3.ls))) .p)))) [fa3.pr] (by kernel_rfl) (.cons fb0 .nil) (Eq.trans (b := D7 (fun r => (ia2 x r).run) x) (by kernel_rfl) (sb5 (fun r => (ia2 x r).run) (fun r => r) x).symm)
structure fa4 where
 ns0 : Nat
 eh0 : List (List b7)
noncomputable def ra9 : List (Nat × Sum) := []
theorem zb1 : i6 prog G ra9 := trivial
structure A9 where
 ns0 : Nat
 os4 : Nat
 ns4 : Nat
structure o8 where
 is3 : Int
 is5 : Int
 eh0 : List (List b7)
noncomputable def sb6 (p : A9) (s : o8) : St := ⟨((.sl 0 0 p.ns0 0) :: (.unk :: (.unk :: ((i s.is3) :: ((.sl 0 p.os4 p.ns4 0) :: ((i s.is5) :: (ra 55 []))))))), [⟨50, 4, s.eh0, true, false, 0⟩]⟩
noncomputable def K1 {α : Type} (k : o8 → α) (e : Nat → α) (z : α) (p : A9) (s : o8) : α := (sl (decide (s.is5 < (↑p.ns4 : Int))) (sl (inB s.is5 p.ns4) (sl (ldR tP s.eh0 (p.os4 + s.is5.toNat)) (sl (inB (W (s.is5 - 1)) p.ns4) (sl (ldR tP s.eh0 (p.os4 + (W (s.is5 - 1)).toNat)) (sl (!(((rdR tP s.eh0 (p.os4 + s.is5.toNat)).n.x == (rdR tP s.eh0 (p.os4 + (W (s.is5 - 1)).toNat)).n.x) && (((rdR tP s.eh0 (p.os4 + s.is5.toNat)).n.y == (rdR tP s.eh0 (p.os4 + (W (s.is5 - 1)).toNat)).n.y) && (((rdR tP s.eh0 (p.os4 + s.is5.toNat)).n.z == (rdR tP s.eh0 (p.os4 + (W (s.is5 - 1)).toNat)).n.z) && (((rdR tP s.eh0 (p.os4 + s.is5.toNat)).b == (rdR tP s.eh0 (p.os4 + (W (s.is5 - 1)).toNat)).b) && true))))) (sl (inB s.is5 p.ns4) (sl (ldR tP s.eh0 (p.os4 + s.is5.toNat)) (sl (inB s.is3 p.ns0) (sl ((Nat.blt (0 + s.is3.toNat) (len s.eh0)) && (Nat.ble (0 + 4) (len (f7 s.eh0 (0 + s.is3.toNat))))) (k ⟨(W (s.is3 + 1)), (W (s.is5 + 1)), (setAt s.eh0 (0 + s.is3.toNat) (M4 (f7 s.eh0 (0 + s.is3.toNat)) 0 [(i (rdR tP s.eh0 (p.os4 + s.is5.toNat)).n.x), (i (rdR tP s.eh0 (p.os4 + s.is5.toNat)).n.y), (i (rdR tP s.eh0 (p.os4 + s.is5.toNat)).n.z), (i (rdR tP s.eh0 (p.os4 + s.is5.toNat)).b)]))⟩) z) z) z) z) (k ⟨s.is3, (W (s.is5 + 1)), s.eh0⟩)) z) z) z) z) (e 1))
noncomputable def q8 (p : A9) (s : o8) : Stp o8 := K1 .next .exit .fail p s
noncomputable def oa9 : Lo A9 o8 := ⟨En ra9, 1, je8, [1, 1, 0, 1, 4, 4, 1, 0, 4, 1, 2, 1, 0, 1, 4, 4], [0, 3, 4, 5], .p, [⟨((.s (.o (.sl 0 0 (some 0) none))) :: ((.s (.o .unk)) :: ((.s (.o .unk)) :: ((.s (.o (.int .i64))) :: ((.s (.o (.sl 0 0 none none))) :: ((.s (.o (.int .i64))) :: (ru2 55 []))))))), [⟨50, 4, true, none⟩], fun a H => (⟨(slN (slT a 0)), (slO (slT a 4)), (slN (slT a 4))⟩, ⟨(toI (slT a 3)), (toI (slT a 5)), (elT H 0)⟩)⟩], q8, [(some 2, fun p s => ⟨((.sl 0 0 p.ns0 0) :: (.unk :: (.unk :: ((i s.is3) :: ((.sl 0 p.os4 p.ns4 0) :: ((i s.is5) :: (ra 23 ((i s.is5) :: ((.sl 0 p.os4 p.ns4 0) :: ((i (↑p.ns4 : Int)) :: ((b (decide (s.is5 < (↑p.ns4 : Int)))) :: (ra 28 [])))))))))))), [⟨50, 4, s.eh0, true, false, 0⟩]⟩)], sb6⟩
theorem sb7 : oa9.Ok := Lo.ok [] (by kernel_rfl) .nil rfl (.cons (fun a H => by kernel_rfl) .nil) fun p s => (.of @K1 (fun F _ _ _ _ _ => by unfold K1; (repeat' apply k9 (f := F)) <;> rfl) (by kernel_rfl))
structure M6 where
 ns0 : Nat
 eh0 : List (List b7)
structure r6 where
 is3 : Int
noncomputable def sb8 (p : M6) (s : r6) : St := ⟨((.sl 0 0 p.ns0 0) :: (.unk :: (.unk :: ((i s.is3) :: (ra 57 []))))), [⟨50, 4, p.eh0, true, false, 0⟩]⟩
noncomputable def K2 {α : Type} (k : r6 → α) (e : Nat → α) (z : α) (p : M6) (s : r6) : α := let t1 := (lp (q8 (⟨p.ns0, (0 + s.is3.toNat), (p.ns0 - s.is3.toNat)⟩ : A9)) (⟨s.is3, 1, p.eh0⟩ : o8)); (sl (decide (s.is3 < (↑p.ns0 : Int))) (sl (inB s.is3 p.ns0) (sl (ldR tP p.eh0 (0 + s.is3.toNat)) (sl (inB (W (s.is3 - 1)) p.ns0) (sl (ldR tP p.eh0 (0 + (W (s.is3 - 1)).toNat)) (sl (((rdR tP p.eh0 (0 + s.is3.toNat)).n.x == (rdR tP p.eh0 (0 + (W (s.is3 - 1)).toNat)).n.x) && (((rdR tP p.eh0 (0 + s.is3.toNat)).n.y == (rdR tP p.eh0 (0 + (W (s.is3 - 1)).toNat)).n.y) && (((rdR tP p.eh0 (0 + s.is3.toNat)).n.z == (rdR tP p.eh0 (0 + (W (s.is3 - 1)).toNat)).n.z) && (((rdR tP p.eh0 (0 + s.is3.toNat)).b == (rdR tP p.eh0 (0 + (W (s.is3 - 1)).toNat)).b) && true)))) (sl (inB s.is3 (p.ns0 + 1)) (sl (Nat.beq t1.1 1) (sl (inB t1.2.is3 (p.ns0 + 1)) (sl (inB t1.2.is3 (p.ns0 + 1)) (e 1) z) z) z) z) (k ⟨(W (s.is3 + 1))⟩)) z) z) z) z) (e 2))
noncomputable def L9 (p : M6) (s : r6) : Stp r6 := K2 .next .exit .fail p s
noncomputable def pa0 : Lo M6 r6 := ⟨En ra9, 1, je8, [1, 1, 0, 1, 4, 4], [0, 3], (.s .p (.s (.b (.s .p (.c (.s .p (.s (.s .p (.b (.u oa9.ls))) .p)) .p))) .p)), [⟨((.s (.o (.sl 0 0 (some 0) none))) :: ((.s (.o .unk)) :: ((.s (.o .unk)) :: ((.s (.o (.int .i64))) :: (ru2 57 []))))), [⟨50, 4, true, none⟩], fun a H => (⟨(slN (slT a 0)), (elT H 0)⟩, ⟨(toI (slT a 3))⟩)⟩], L9, [(none, fun p s => let t1 := (lp (q8 (⟨p.ns0, (0 + s.is3.toNat), (p.ns0 - s.is3.toNat)⟩ : A9)) (⟨s.is3, 1, p.eh0⟩ : o8)); ⟨[(.sl 0 0 (t1.2.is3.toNat - 0) 0)], [⟨50, 4, (app (G6 t1.2.eh0 (0 + t1.2.is3.toNat)) (app (List.replicate (p.ns0 - t1.2.is3.toNat) [(i 0), (i 0), (i 0), (i 0)]) (e7 t1.2.eh0 ((0 + t1.2.is3.toNat) + (p.ns0 - t1.2.is3.toNat))))), true, false, 0⟩]⟩), (some 0, fun p s => ⟨((.sl 0 0 p.ns0 0) :: (.unk :: (.unk :: ((i s.is3) :: (ra 6 ((i s.is3) :: ((.sl 0 0 p.ns0 0) :: ((i (↑p.ns0 : Int)) :: ((b (decide (s.is3 < (↑p.ns0 : Int)))) :: (ra 47 [])))))))))), [⟨50, 4, p.eh0, true, false, 0⟩]⟩)], sb8⟩
theorem sb9 : pa0.Ok := Lo.ok [oa9.pr] (by kernel_rfl) (.cons sb7 .nil) rfl (.cons (fun a H => by kernel_rfl) .nil) fun p s => (.of @K2 (fun F _ _ _ _ _ => by unfold K2; (repeat' apply k9 (f := F)) <;> rfl) (by kernel_rfl))
structure fa5 where
 alt : Nat
 ns0 : Nat
 eh0 : List (List b7)
noncomputable def L0 {α : Type} (kk : fa5 → α) (x : fa4) : α := let t1 := (lp (L9 (⟨x.ns0, x.eh0⟩ : M6)) (⟨1⟩ : r6)); let t2 := (lp (q8 (⟨x.ns0, (0 + t1.2.is3.toNat), (x.ns0 - t1.2.is3.toNat)⟩ : A9)) (⟨t1.2.is3, 1, x.eh0⟩ : o8)); (sl (decide ((↑x.ns0 : Int) < 2)) (kk ⟨1, x.ns0, x.eh0⟩) (sl (Nat.beq t1.1 1) (kk ⟨1, (t2.2.is3.toNat - 0), (app (G6 t2.2.eh0 (0 + t2.2.is3.toNat)) (app (List.replicate (x.ns0 - t2.2.is3.toNat) [(i 0), (i 0), (i 0), (i 0)]) (e7 t2.2.eh0 ((0 + t2.2.is3.toNat) + (x.ns0 - t2.2.is3.toNat)))))⟩) (sl (Nat.beq t1.1 2) (kk ⟨1, x.ns0, x.eh0⟩) (kk ⟨0, 0, []⟩))))
noncomputable def T1 (x : fa4) : fa5 := L0 (fun r => r) x
noncomputable def sa0 (x : fa4) (r : fa5) : DT (b7 × List b8) := (.ite (Nat.beq r.alt 1) (.ret ((.sl 0 0 r.ns0 0), [⟨50, 4, r.eh0, true, false, 0⟩])) .fail)
theorem Hb9 {α β : Type} (F : α → β) (kk : fa5 → α) (x : fa4) : F (L0 kk x) = L0 (fun r => F (kk r)) x := by unfold L0; (repeat' apply k9 (f := F)) <;> rfl
noncomputable def ua2 : Sum := Pa4 ⟨[(.s (.o (.sl 0 0 (some 0) none)))], [⟨50, 4, true, none⟩], fun a H => (⟨(slN (slT a 0)), (elT H 0)⟩, ())⟩ (fun x => sa0 x (T1 x))
theorem Na9 : g9 prog G 105 ua2 := J5 (enc := fun x => ⟨[(.sl 0 0 x.ns0 0)], [⟨50, 4, x.eh0, true, false, 0⟩]⟩) (fun a H => by kernel_rfl) (bd We4 zb1) fun x => sa6 (.s .p (.s .p (.s (.s .p (.b (.u pa0.ls))) .p))) [pa0.pr] (by kernel_rfl) (.cons sb9 .nil) (Eq.trans (b := L0 (fun r => (sa0 x r).run) x) (by kernel_rfl) (Hb9 (fun r => (sa0 x r).run) (fun r => r) x).symm)
noncomputable def Tc0 : List (Nat × Sum) := []
theorem Ec7 : i6 prog G Tc0 := trivial
noncomputable def Ia9 (x : Int) (y : Int) : Option (b7 × List b8) := (sl (decide (x < y)) (some ((i (-1)), [])) (sl (decide (x > y)) (some ((i 1), [])) (some ((i 0), []))))
noncomputable def pa1 (x : Int) (y : Int) : Int := K5 (one r1I) (Ia9 x y)
noncomputable def pa2 (x : Int) (y : Int) : Bool := okO (one r1I) (Ia9 x y)
noncomputable def bc7 : Sum := oa1 cI cI (fun x y => .guard (pa2 x y) (.ret ((one r1I).enc (pa1 x y), [])))
theorem Tc1 : g9 prog G 179 bc7 := gb5 (bd gf9 Ec7) (one r1I) (o := Ia9) fun x y => r9 (by kernel_rfl)
noncomputable def wc5 : List (Nat × Sum) := [(179, bc7)]
theorem pc4 : i6 prog G wc5 := ⟨Tc1, trivial⟩
noncomputable def wa2 (x : Pln) (y : Pln) : Option (b7 × List b8) := let t1 := (pa1 x.n.x y.n.x); let t2 := (pa1 x.n.y y.n.y); let t3 := (pa1 x.n.z y.n.z); let t4 := (pa1 x.b y.b); (sl (pa2 x.n.x y.n.x) (sl (t1 == 0) (sl (pa2 x.n.y y.n.y) (sl (t2 == 0) (sl (pa2 x.n.z y.n.z) (sl (t3 == 0) (sl (pa2 x.b y.b) (sl (t4 == 0) (some ((i t4), [])) (some ((i t4), []))) none) (some ((i t3), []))) none) (some ((i t2), []))) none) (some ((i t1), []))) none)
noncomputable def Ka8 (x : Pln) (y : Pln) : Int := K5 (one r1I) (wa2 x y)
noncomputable def Ka9 (x : Pln) (y : Pln) : Bool := okO (one r1I) (wa2 x y)
noncomputable def fb1 : Sum := oa1 (R4 tP) (R4 tP) (fun x y => .guard (Ka9 x y) (.ret ((one r1I).enc (Ka8 x y), [])))
theorem wc6 : g9 prog G 104 fb1 := gb5 (bd df8 pc4) (one r1I) (o := wa2) fun x y => r9 (by kernel_rfl)
noncomputable def Fd1 : List (Nat × Sum) := [(164, nb2)]
theorem sd2 : i6 prog G Fd1 := ⟨Kb0, trivial⟩
noncomputable def pb4 (x : V3) : Option (b7 × List b8) := let t1 := (qa6 24 [x.x, x.y, x.z]); (sl (qa7 24 [x.x, x.y, x.z]) (some ((b t1), [])) none)
noncomputable def Ib0 (x : V3) : Bool := K5 (one r1B) (pb4 x)
noncomputable def Ib1 (x : V3) : Bool := okO (one r1B) (pb4 x)
noncomputable def Tc2 : Sum := R3 (R4 tV) (fun x => .guard (Ib1 x) (.ret ((one r1B).enc (Ib0 x), [])))
theorem Fd2 : g9 prog G 107 Tc2 := za1 (bd ef0 sd2) (one r1B) (o := pb4) fun x => r9 (by kernel_rfl)
noncomputable def Fd3 : List (Nat × Sum) := [(87, Ea5), (107, Tc2), (108, Xa4)]
theorem sd3 : i6 prog G Fd3 := ⟨Ha9, Fd2, nb1, trivial⟩
noncomputable def pb5 (x : List Pln) (y : V3) : Option (b7 × List b8) := let t1 := (ea4 [(rt tP x)]); let t2 := (Ib0 y); let t3 := (Y3 (rt tP x) (⟨y.x, y.y, y.z, 1⟩ : Pt)); (sl ((okE tP x) && true) (sl (ea5 [(rt tP x)]) (sl t1 (sl (Ib1 y) (sl t2 (sl (okE tP x) (sl (Y4 (rt tP x) (⟨y.x, y.y, y.z, 1⟩ : Pt)) (some ((b t3), [])) none) none) (some ((b false), []))) none) (some ((b false), []))) none) none)
noncomputable def Ma3 (x : List Pln) (y : V3) : Bool := K5 (one r1B) (pb5 x y)
noncomputable def Da1 (x : List Pln) (y : V3) : Bool := okO (one r1B) (pb5 x y)
noncomputable def gc2 : Sum := oa1 (W7 tP) (R4 tV) (fun x y => .guard (Da1 x y) (.ret ((one r1B).enc (Ma3 x y), [])))
theorem Ac5 : g9 prog G 28 gc2 := gb5 (bd b28 sd3) (one r1B) (o := pb5) fun x y => r9 (by kernel_rfl)
noncomputable def bd8 : List (Nat × Sum) := [(87, Ea5), (88, Wb2), (92, Ma1)]
theorem Tc3 : i6 prog G bd8 := ⟨Ha9, fc0, gb0, trivial⟩
noncomputable def Sa9 (x : List Pln) (y : List Pln) : Option (b7 × List b8) := let t1 := (ea4 [(rt tP x), (rt tP y)]); let t2 := (Wa0 [(rt tP x), (rt tP y)]); let t3 := (ha7 (rt tP t2)); (sl ((okE tP x) && ((okE tP y) && true)) (sl (ea5 [(rt tP x), (rt tP y)]) (sl (!t1) (some ((b true), [])) (sl ((okE tP x) && ((okE tP y) && true)) (sl (Wa1 [(rt tP x), (rt tP y)]) (sl (okE tP t2) (sl (ha8 (rt tP t2)) (some ((b (!t3)), [])) none) none) none) none)) none) none)
noncomputable def Ta0 (x : List Pln) (y : List Pln) : Bool := K5 (one r1B) (Sa9 x y)
noncomputable def Ta1 (x : List Pln) (y : List Pln) : Bool := okO (one r1B) (Sa9 x y)
noncomputable def pc5 : Sum := oa1 (W7 tP) (W7 tP) (fun x y => .guard (Ta1 x y) (.ret ((one r1B).enc (Ta0 x y), [])))
theorem bd9 : g9 prog G 31 pc5 := gb5 (bd b31 Tc3) (one r1B) (o := Sa9) fun x y => r9 (by kernel_rfl)
structure La0 where
 na5 : Int
 na6 : Int
 na7 : Int
 qb8 : Int
 d8 : List Pln
noncomputable def wc7 : List (Nat × Sum) := [(108, Xa4)]
theorem pc6 : i6 prog G wc7 := ⟨nb1, trivial⟩
structure wa3 where
 alt : Nat
 bs0 : Bool
noncomputable def la0 {α : Type} (kk : wa3 → α) (x : La0) : α := let t1 := (Y3 (rt tP x.d8) (⟨x.na5, x.na6, x.na7, x.qb8⟩ : Pt)); (sl (okE tP x.d8) (sl (Y4 (rt tP x.d8) (⟨x.na5, x.na6, x.na7, x.qb8⟩ : Pt)) (kk ⟨1, (!t1)⟩) (kk ⟨0, false⟩)) (kk ⟨0, false⟩))
noncomputable def La1 (x : La0) : wa3 := la0 (fun r => r) x
noncomputable def Wa6 (x : La0) (r : wa3) : DT (b7 × List b8) := (.ite (Nat.beq r.alt 1) (.ret ((b r.bs0), [⟨0, 1, [[(eL tP x.d8)]], true, false, 0⟩])) .fail)
theorem Ec8 {α β : Type} (F : α → β) (kk : wa3 → α) (x : La0) : F (la0 kk x) = la0 (fun r => F (kk r)) x := by unfold la0; (repeat' apply k9 (f := F)) <;> rfl
noncomputable def Kb3 : Sum := Pa4 ⟨[(.agg [(.o (.int .i64)), (.o (.int .i64)), (.o (.int .i64)), (.o (.int .i64))]), (.s (.o (.ptr 0 0 0 0)))], [⟨0, 1, true, (some [[(.c 4 (nL tP))]])⟩], fun a H => (⟨(toI (slT (cellsOf (slT a 0)) 0)), (toI (slT (cellsOf (slT a 0)) 1)), (toI (slT (cellsOf (slT a 0)) 2)), (toI (slT (cellsOf (slT a 0)) 3)), (rL tP (slT (rwT (elT H 0) 0) 0))⟩, ())⟩ (fun x => Wa6 x (La1 x))
theorem wc8 : g9 prog G 114 Kb3 := J5 (enc := fun x => ⟨[(.agg [(i x.na5), (i x.na6), (i x.na7), (i x.qb8)]), (.ptr 0 0 0 0)], [⟨0, 1, [[(eL tP x.d8)]], true, false, 0⟩]⟩) (fun a H => by kernel_rfl) (bd ef5 pc6) fun x => r9 (Eq.trans (b := la0 (fun r => (Wa6 x r).run) x) (by kernel_rfl) (Ec8 (fun r => (Wa6 x r).run) (fun r => r) x).symm)
structure W0 where
 B3 : List Pt
 d8 : List Pln
noncomputable def Da2 : List (Nat × Sum) := [(114, Kb3)]
theorem ib6 : i6 prog G Da2 := ⟨wc8, trivial⟩
structure I5 where
 B3 : List Pt
 is7 : Int
structure o6 where
 is8 : Int
 d8 : List Pln
noncomputable def fb2 (p : I5) (s : o6) : St := ⟨((eL tX p.B3) :: ((.fn 114 [(.ptr 0 0 0 0)]) :: (ra 5 ((i p.is7) :: ((i s.is8) :: (ra 10 [])))))), [⟨0, 1, [[(eL tP s.d8)]], true, false, 0⟩]⟩
noncomputable def D1 {α : Type} (k : o6 → α) (e : Nat → α) (z : α) (p : I5) (s : o6) : α := let t1 := (La1 ⟨(gL tX p.B3 s.is8.toNat).px, (gL tX p.B3 s.is8.toNat).py, (gL tX p.B3 s.is8.toNat).pz, (gL tX p.B3 s.is8.toNat).pw, (rt tP s.d8)⟩); (sl (decide (s.is8 < p.is7)) (sl (inB s.is8 (List.length p.B3)) (sl ((cnE tP s.d8) && true) (sl (Nat.beq t1.alt 1) (sl t1.bs0 (e 1) (k ⟨(W (s.is8 + 1)), (rt tP s.d8)⟩)) z) z) z) (e 2))
noncomputable def F7 (p : I5) (s : o6) : Stp o6 := D1 .next .exit .fail p s
noncomputable def fa6 : Lo I5 o6 := ⟨En Da2, 1, ke1, [1, 0, 1, 4, 4], [0, 1, 7, 8], .p, [⟨((.s (.c 4 (nL tX))) :: ((.fn 114 [(.o (.ptr 0 0 0 0))]) :: (ru2 5 ((.s (.o (.int .i64))) :: ((.s (.o (.int .i64))) :: (ru2 10 [])))))), [⟨0, 1, true, (some [[(.c 4 (nL tP))]])⟩], fun a H => (⟨(rL tX (slT a 0)), (toI (slT a 7))⟩, ⟨(toI (slT a 8)), (rL tP (slT (rwT (elT H 0) 0) 0))⟩)⟩], F7, [(none, fun p s => ⟨[(i s.is8)], [⟨0, 1, [[(eL tP (rt tP s.d8))]], true, false, 0⟩]⟩), (some 0, fun p s => ⟨((eL tX p.B3) :: ((.fn 114 [(.ptr 0 0 0 0)]) :: (ra 5 ((i p.is7) :: ((i s.is8) :: ((b (decide (s.is8 < p.is7))) :: (ra 9 []))))))), [⟨0, 1, [[(eL tP s.d8)]], true, false, 0⟩]⟩)], fb2⟩
theorem fb3 : fa6.Ok := Lo.ok [] (by kernel_rfl) .nil rfl (.cons (fun a H => by kernel_rfl) .nil) fun p s => (.of @D1 (fun F _ _ _ _ _ => by unfold D1; (repeat' apply k9 (f := F)) <;> rfl) (by kernel_rfl))
structure W4 where
 alt : Nat
 is0 : Int
 d8 : List Pln
noncomputable def D9 {α : Type} (kk : W4 → α) (x : W0) : α := let t1 := (lp (F7 (⟨(rt tX x.B3), (↑(List.length x.B3) : Int)⟩ : I5)) (⟨0, (rt tP x.d8)⟩ : o6)); (sl ((cnE tX x.B3) && ((cnE tP x.d8) && true)) (sl (Nat.beq t1.1 1) (kk ⟨1, t1.2.is8, (rt tP t1.2.d8)⟩) (sl (Nat.beq t1.1 2) (kk ⟨1, (-1), t1.2.d8⟩) (kk ⟨0, 0, []⟩))) (kk ⟨0, 0, []⟩))
noncomputable def ka2 (x : W0) : W4 := D9 (fun r => r) x
noncomputable def ia3 (x : W0) (r : W4) : DT (b7 × List b8) := (.ite (Nat.beq r.alt 1) (.ret ((i r.is0), [⟨0, 1, [[(eL tP r.d8)]], true, false, 0⟩])) .fail)
theorem tb0 {α β : Type} (F : α → β) (kk : W4 → α) (x : W0) : F (D9 kk x) = D9 (fun r => F (kk r)) x := by unfold D9; (repeat' apply k9 (f := F)) <;> rfl
noncomputable def Fa7 : Sum := Pa4 ⟨[(.s (.c 4 (nL tX))), (.fn 114 [(.o (.ptr 0 0 0 0))])], [⟨0, 1, true, (some [[(.c 4 (nL tP))]])⟩], fun a H => (⟨(rL tX (slT a 0)), (rL tP (slT (rwT (elT H 0) 0) 0))⟩, ())⟩ (fun x => ia3 x (ka2 x))
theorem pb6 : g9 prog G 185 Fa7 := J5 (enc := fun x => ⟨[(eL tX x.B3), (.fn 114 [(.ptr 0 0 0 0)])], [⟨0, 1, [[(eL tP x.d8)]], true, false, 0⟩]⟩) (fun a H => by kernel_rfl) (bd We7 ib6) fun x => sa6 (.s .p (.s (.s .p (.b (.u fa6.ls))) .p)) [fa6.pr] (by kernel_rfl) (.cons fb3 .nil) (Eq.trans (b := D9 (fun r => (ia3 x r).run) x) (by kernel_rfl) (tb0 (fun r => (ia3 x r).run) (fun r => r) x).symm)
structure O0 where
 B3 : List Pt
 d8 : List Pln
noncomputable def bb7 : List (Nat × Sum) := [(185, Fa7)]
theorem Wa7 : i6 prog G bb7 := ⟨pb6, trivial⟩
structure O1 where
 alt : Nat
 bs0 : Bool
 d8 : List Pln
noncomputable def A3 {α : Type} (kk : O1 → α) (x : O0) : α := let t1 := (ka2 ⟨(rt tX x.B3), (rt tP x.d8)⟩); (sl ((cnE tX x.B3) && ((cnE tP x.d8) && true)) (sl (Nat.beq t1.alt 1) (kk ⟨1, (decide (t1.is0 ≥ 0)), t1.d8⟩) (kk ⟨0, false, []⟩)) (kk ⟨0, false, []⟩))
noncomputable def ca8 (x : O0) : O1 := A3 (fun r => r) x
noncomputable def aa7 (x : O0) (r : O1) : DT (b7 × List b8) := (.ite (Nat.beq r.alt 1) (.ret ((b r.bs0), [⟨0, 1, [[(eL tP r.d8)]], true, false, 0⟩])) .fail)
theorem fb4 {α β : Type} (F : α → β) (kk : O1 → α) (x : O0) : F (A3 kk x) = A3 (fun r => F (kk r)) x := by unfold A3; (repeat' apply k9 (f := F)) <;> rfl
noncomputable def wa4 : Sum := Pa4 ⟨[(.s (.c 4 (nL tX))), (.fn 114 [(.o (.ptr 0 0 0 0))])], [⟨0, 1, true, (some [[(.c 4 (nL tP))]])⟩], fun a H => (⟨(rL tX (slT a 0)), (rL tP (slT (rwT (elT H 0) 0) 0))⟩, ())⟩ (fun x => aa7 x (ca8 x))
theorem bb8 : g9 prog G 113 wa4 := J5 (enc := fun x => ⟨[(eL tX x.B3), (.fn 114 [(.ptr 0 0 0 0)])], [⟨0, 1, [[(eL tP x.d8)]], true, false, 0⟩]⟩) (fun a H => by kernel_rfl) (bd We6 Wa7) fun x => r9 (Eq.trans (b := A3 (fun r => (aa7 x r).run) x) (by kernel_rfl) (fb4 (fun r => (aa7 x r).run) (fun r => r) x).symm)
noncomputable def Tc4 : List (Nat × Sum) := [(20, sa9), (87, Ea5), (18, oa4), (113, wa4)]
theorem Ec9 : i6 prog G Tc4 := ⟨ta7, Ha9, ra1, bb8, trivial⟩
noncomputable def Ja0 (x : List Pln) (y : List Pln) : Option (b7 × List b8) := let t1 := (aa2 (rt tP x)); let t2 := (ea4 [(rt tP y)]); let t3 := (Q9 (rt tP x)); let t4 := (ca8 ⟨(rt tX t3), (rt tP y)⟩); (sl (okE tP x) (sl (aa3 (rt tP x)) (sl t1 (sl ((okE tP y) && true) (sl (ea5 [(rt tP y)]) (sl t2 (sl (okE tP x) (sl (R2 (rt tP x)) (sl ((cnE tX t3) && ((cnE tP y) && true)) (sl (Nat.beq t4.alt 1) (some ((b (!t4.bs0)), [])) none) none) none) none) (some ((b false), []))) none) none) (some ((b false), []))) none) none)
noncomputable def Ja1 (x : List Pln) (y : List Pln) : Bool := K5 (one r1B) (Ja0 x y)
noncomputable def Ja2 (x : List Pln) (y : List Pln) : Bool := okO (one r1B) (Ja0 x y)
noncomputable def bc8 : Sum := oa1 (W7 tP) (W7 tP) (fun x y => .guard (Ja2 x y) (.ret ((one r1B).enc (Ja1 x y), [])))
theorem Tc5 : g9 prog G 33 bc8 := gb5 (bd b33 Ec9) (one r1B) (o := Ja0) fun x y => r9 (by kernel_rfl)
noncomputable def Fd4 : List (Nat × Sum) := []
theorem sd4 : i6 prog G Fd4 := trivial
structure Ib2 where
 d9 : Int
 Q1 : Int
 Q3 : Int
 Q4 : Int
 Q5 : Int
 Q6 : Int
noncomputable def pb7 {α : Type} (kk : Ib2 → α) (x : V3) (y : V3) : α := (kk ⟨y.x, (W (0 - x.x)), y.y, (W (0 - x.y)), y.z, (W (0 - x.z))⟩)
noncomputable def Tc6 (x : V3) (y : V3) : Ib2 := pb7 (fun r => r) x y
noncomputable def Tb1 (r : Ib2) : DT (b7 × List b8) := .ret ((.sl 0 0 6 0), [⟨50, 4, [[(i 1), (i 0), (i 0), (i r.d9)], [(i (-1)), (i 0), (i 0), (i r.Q1)], [(i 0), (i 1), (i 0), (i r.Q3)], [(i 0), (i (-1)), (i 0), (i r.Q4)], [(i 0), (i 0), (i 1), (i r.Q5)], [(i 0), (i 0), (i (-1)), (i r.Q6)]], true, false, 0⟩])
theorem Pd1 {α β : Type} (F : α → β) (kk : Ib2 → α) (x : V3) (y : V3) : F (pb7 kk x y) = pb7 (fun r => F (kk r)) x y := by unfold pb7; (repeat' apply k9 (f := F)) <;> rfl
noncomputable def Tc7 : Sum := oa1 (R4 tV) (R4 tV) (fun x y => Tb1 (Tc6 x y))
theorem Fd5 : g9 prog G 111 Tc7 := Ea1 (bd We5 sd4) fun x y => r9 (Eq.trans (b := pb7 (fun r => (Tb1 r).run) x y) (by kernel_rfl) (Pd1 (fun r => (Tb1 r).run) (fun r => r) x y).symm)
noncomputable def cd0 : List (Nat × Sum) := [(111, Tc7)]
theorem Tc8 : i6 prog G cd0 := ⟨Fd5, trivial⟩
structure ib7 where
 d9 : Int
 Q1 : Int
 Q3 : Int
 Q4 : Int
 Q5 : Int
 Q6 : Int
noncomputable def Ta2 {α : Type} (kk : ib7 → α)  : α := let t1 := (Tc6 (⟨0, 0, 0⟩ : V3) (⟨1, 1, 1⟩ : V3)); (kk ⟨t1.d9, t1.Q1, t1.Q3, t1.Q4, t1.Q5, t1.Q6⟩)
noncomputable def Ib3  : ib7 := Ta2 (fun r => r)
noncomputable def zb2 (r : ib7) : DT (b7 × List b8) := .ret ((.sl 0 0 6 0), [⟨50, 4, [[(i 1), (i 0), (i 0), (i r.d9)], [(i (-1)), (i 0), (i 0), (i r.Q1)], [(i 0), (i 1), (i 0), (i r.Q3)], [(i 0), (i (-1)), (i 0), (i r.Q4)], [(i 0), (i 0), (i 1), (i r.Q5)], [(i 0), (i 0), (i (-1)), (i r.Q6)]], true, false, 0⟩])
theorem sd5 {α β : Type} (F : α → β) (kk : ib7 → α)  : F (Ta2 kk ) = Ta2 (fun r => F (kk r))  := by unfold Ta2; (repeat' apply k9 (f := F)) <;> rfl
noncomputable def pc7 : Sum := xd5  (zb2 (Ib3 ))
theorem cd1 : g9 prog G 81 pc7 := Qd9 (bd b81 Tc8) (r9 (Eq.trans (b := Ta2 (fun r => (zb2 r).run) ) (by kernel_rfl) (sd5 (fun r => (zb2 r).run) (fun r => r) ).symm))
end Go.Ev.Ce
end
namespace Go.Ev.Ce
open Go Go.Ev Go.Ev.L Go.Proofs
theorem oe6 (v : V3) : Ib0 v = inV v ∧ Ib1 v = true := by
 have h3 : [v.x, v.y, v.z].length ≤ 1000000000 := by simp
 have : pb4 v = some (b (inV v), []) := by
  unfold pb4 inV
  simp only [vc2 24 _ (by omega) h3, vc3 24 _ (by omega) h3, q7]
  simp only [List.all_cons, List.all_nil, Bool.and_true]
 unfold Ib0 Ib1
 rw [this]
 exact ⟨rfl, rfl⟩
noncomputable def has (c : List Pln) (v : V3) : Bool := (chk c == 0) && (inV v && inn c ⟨v.x, v.y, v.z, 1⟩)
theorem oe7 {c : List Pln} (hc : c.length ≤ 1000000000) (v : V3) : pb5 c v = some (b (has c v), []) := by
 unfold pb5 has
 simp only [m0, J9, oc2 c hc, oc3 c hc, (oe6 v).1, (oe6 v).2, Pc2 c _ hc, Pc3 c _ hc]
 cases chk c == 0 with
 | false => rfl
 | true => cases inV v <;> rfl
theorem oe8 {c : List Pln} (hc : c.length ≤ 1000000000) (v : V3) : Ma3 c v = has c v := by unfold Ma3; rw [oe7 hc]; rfl
theorem oe9 {c : List Pln} (hc : c.length ≤ 1000000000) (v : V3) : Da1 c v = true := by unfold Da1; rw [oe7 hc]; rfl
theorem pe0 {a c : List Pln} (ha : (chk a == 0) = true) (hc : (chk c == 0) = true) : Bds (a ++ c ++ ws) ∧ (a ++ c ++ ws).length ≤ 200 := by
 rw [beq_iff_eq, Pc8] at ha hc
 refine ⟨fun p hp => ?_, by rw [List.length_append, List.length_append, show ws.length = 6 from rfl]; omega⟩
 rcases List.mem_append.1 hp with hp | hp
 ·rcases List.mem_append.1 hp with hp | hp
  ·exact qd0 (ha.2 p hp)
  ·exact qd0 (hc.2 p hp)
 ·exact Ge6 p hp
noncomputable def apart (a c : List Pln) : Bool := !((chk a == 0) && (chk c == 0)) || !Zc9 (a ++ c ++ ws)
theorem Fd6 {a c : List Pln} (ha : a.length ≤ 100000000) (hc : c.length ≤ 100000000) : Sa9 a c = some (b (apart a c), []) := by
 have hn : [a, c].length ≤ 1000000000 := by simp
 have hl : ∀ x ∈ [a, c], x.length ≤ 1000000000 := by
  intro x hx
  simp only [List.mem_cons, List.not_mem_nil, or_false] at hx
  rcases hx with rfl | rfl <;> omega
 have hf : [a, c].flatten = a ++ c := by simp
 have hfl : [a, c].flatten.length ≤ 1000000000 := by rw [hf, List.length_append]; omega
 unfold Sa9 apart
 simp only [m0, J9, Cd8 _ hn hl, Cd9 _ hn hl, Xe2 _ hn hfl, Xe3 _ hn hfl, hf, List.all_cons, List.all_nil, Bool.and_true]
 cases h1 : chk a == 0 with
 | false => rfl
 | true =>
  cases h2 : chk c == 0 with
  | false => rfl
  | true =>
   obtain ⟨q1, q2⟩ := pe0 h1 h2
   rw [me0 _ q1 q2, me1 _ q1 q2]
   rfl
theorem Be3 {a c : List Pln} (ha : a.length ≤ 100000000) (hc : c.length ≤ 100000000) : Ta0 a c = apart a c := by unfold Ta0; rw [Fd6 ha hc]; rfl
theorem Be4 {a c : List Pln} (ha : a.length ≤ 100000000) (hc : c.length ≤ 100000000) : Ta1 a c = true := by unfold Ta1; rw [Fd6 ha hc]; rfl
noncomputable def ce5 (a c : List Pln) : Bool := ful a && ((chk c == 0) && (pts a).all (inn c))
theorem Pd2 (x : Pt) (c : List Pln) (hc : c.length ≤ 1000000000) : La1 ⟨x.px, x.py, x.pz, x.pw, c⟩ = ⟨1, !inn c x⟩ := by
 unfold La1 la0
 simp only [m0, J9, q7]
 show sl (Y4 c x) (wa3.mk 1 (!Y3 c x)) _ = _
 rw [Pc2 c x hc, Pc3 c x hc]
 rfl
theorem jd1 {a c : List Pln} (ha : a.length ≤ 1000000000) (hc : c.length ≤ 1000000000) : Ja0 a c = some (b (ce5 a c), []) := by
 have hX := oc9 a
 have h := gb6 (step := F7 ⟨pts a, ((pts a).length : Int)⟩) (mk := fun j => (⟨(j : Int), c⟩ : o6)) (c := fun x => !inn c x) (u := 1) (fin := 2) tX (pts a) (by omega)
  (fun j hj => by
   simp only [F7, D1, Int.toNat_natCast, m0, m8, Pd2 _ _ hc, o9 hj (show (pts a).length ≤ 4611686018427387904 by omega)]
   rw [btD (n9 hj), bt (f0 hj)]
   rfl)
  (by simp only [F7, D1]; rw [bfD (P1 (Nat.lt_irrefl _))]) 0 (Nat.zero_le _)
 rw [List.drop_zero] at h
 have e : ((pts a).any fun x => !inn c x) = !(pts a).all (inn c) := by rw [List.not_all_eq_any_not]
 unfold Ja0 ca8 A3 ka2 D9 ce5
 simp only [m0, m8, J9, Rb6 ha, Rb7 ha, oc2 c hc, oc3 c hc, ob0 ha, ob1 ha]
 rw [show (⟨0, c⟩ : o6) = ⟨((0 : Nat) : Int), c⟩ from rfl, h, e]
 cases ful a with
 | false => rfl
 | true =>
  cases chk c == 0 with
  | false => rfl
  | true =>
   cases (pts a).all (inn c) with
   | true => rfl
   | false =>
    simp only [Bool.not_false, if_true, Nat.zero_add]
    show some (b (!(decide ((((pts a).findIdx fun x => !inn c x : Nat) : Int) ≥ 0))), []) = _
    rw [show decide ((((pts a).findIdx fun x => !inn c x : Nat) : Int) ≥ 0) = true from decide_eq_true (by omega)]
    rfl
theorem pe1 {a c : List Pln} (ha : a.length ≤ 1000000000) (hc : c.length ≤ 1000000000) : Ja1 a c = ce5 a c := by unfold Ja1; rw [jd1 ha hc]; rfl
theorem pe2 {a c : List Pln} (ha : a.length ≤ 1000000000) (hc : c.length ≤ 1000000000) : Ja2 a c = true := by unfold Ja2; rw [jd1 ha hc]; rfl
end Go.Ev.Ce
namespace Go.Ev.L
open Go Go.Ev Go.Sort Go.Proofs
section
variable {α : Type} [Inhabited α] {P : Program} {G : Nat → List Value} {g : FuncId} {S : Sum} {t : Ty α} {enc : α → List Value} {cf : α → α → Int}
theorem Be5 (hc : g9 P G g S) (hS : ∀ x y, (S [.agg (t.row x), .agg (t.row y)] []).run = some (i (cf x y), [])) (hG : ∀ n, G n = []) (he : ∀ x, t.row x = (enc x).map .v) (k blk off size : Nat) (w : World) :
  CmpLays P g #[] enc k cf blk off size w := by
 intro m os dk _ x y
 generalize sortWorldK enc k w blk off m dk os = w0
 have hrow : ∀ (z : α), da6 (fun _ => ⟨0, 0, 0⟩) [] (fun _ _ => False) w0 (.agg (t.row z)) (.agg (enc z).toArray) := fun z => by
  refine .agg _ _ (by rw [he]; simp) fun i u u' hu hu' => ?_
  rw [he, List.getElem?_map] at hu
  have hu' : (enc z)[i]? = some u' := by simpa using hu'
  rw [hu'] at hu
  injection hu with hu
  subst hu
  exact .v _
 obtain ⟨_, h⟩ := hc _ _ _ _ (hS x y) (fun k => w0.heap.size ≤ k) (fun _ => ⟨0, 0, 0⟩) (fun _ _ => False) w0 [.agg (enc x).toArray, .agg (enc y).toArray]
  ⟨fun id b hb => by simp at hb, fun id id' b b' hb => by simp at hb, fun b o hf => hf.elim, fun k hk => hk⟩ rfl
  (fun i u u' hu hu' => by
   match i, hu, hu' with
   | 0, hu, hu' => cases hu; cases hu'; exact .val (hrow x)
   | 1, hu, hu' => cases hu; cases hu'; exact .val (hrow y))
  (fun n c v hv => by rw [hG] at hv; simp at hv)
 refine h.mono fun e w' ⟨r', h1, ρ', F', h2, h3, h4⟩ => ?_
 have h5 := da0 h4
 subst h5
 refine ⟨h1, w'.drawn - w0.drawn, w'.heap.extract w0.heap.size w'.heap.size, ?_⟩
 have hd := h2.ext.drawn
 have hs := h2.ext.size
 have hheap : w'.heap = w0.heap ++ w'.heap.extract w0.heap.size w'.heap.size := by
  apply Array.ext_getElem?
  intro j
  rcases Nat.lt_or_ge j w0.heap.size with hj | hj
  ·rw [Array.getElem?_append_left hj, h2.ext.block j hj (by omega)]
  ·rw [Array.getElem?_append_right hj, Array.getElem?_extract]
   have e : w0.heap.size + (j - w0.heap.size) = j := by omega
   rw [e]
   split
   ·rfl
   ·rw [Array.getElem?_eq_none (by omega)]
 obtain ⟨hp, tp, dr, os', out⟩ := w'
 have e1 := h2.ext.os; have e2 := h2.ext.tape; have e3 := h2.ext.output
 simp only at e1 e2 e3 hd hheap
 subst e1 e2 e3
 unfold grow World.drewN
 simp only
 congr 1
 omega
noncomputable def pe3 (t : Ty α) (g : Nat) (et : Nat) (srt : List α → List α) : Sum := fun args blks => match args, blks with
 | [.sl 0 0 n 0, .fn g' []], [⟨et', es', el, true, false, 0⟩] =>
  Bool.rec (motive := fun _ => DT (b7 × List b8)) .fail (.guard (Bool.and (Nat.ble n room) (Bool.and (Nat.ble n (len el)) (okS t el 0 n))) (.ret (.v (.tuple #[]), [⟨et', es', app (bL t (srt (slR t el 0 n))) (e7 el n), true, false, 0⟩])))
   (Bool.and (Nat.beq g' g) (Bool.and (Nat.beq et' et) (Nat.beq es' t.es)))
 | _, _ => .fail
theorem pc8 (l : List α) (j : Nat) (h : j < l.length) : l.toArray[j]! = l[j] := by
 rw [getElem!_pos l.toArray j (by simpa using h)]
 simp
theorem Be6 {f : FuncId} {et : Nat} {srt : List α → List α} (hcall : kb8 P f) (hes : 0 < t.es) (he : ∀ x, t.row x = (enc x).map .v) (hx : ∀ r, t.ok r = true → r = t.row (t.rd r)) (h1 : ∀ x, ∀ v ∈ enc x, v.oneCell' = true)
  (hlen : ∀ l, (srt l).length = l.length) (hcl : ∀ blk off size w, CmpLays P g #[] enc t.es cf blk off size w)
  (hcon : ∀ (blk cap : Nat) (d : Array α) (w : World), (∀ off size, CmpLays P g #[] enc t.es cf blk off size w) → HoldsK enc t.es w blk 0 d → blk < w.heap.size → d.size < 4611686018427387904 →
   Calls P f #[.slice (some ⟨blk, 0, none⟩) d.size cap, .func (.func g) #[] #[]] w fun e w' => e = .returned (.tuple #[]) ∧ ∃ n os, w' = sortWorldK enc t.es w blk 0 n (srt d.toList).toArray os) :
  g9 P G f (pe3 t g et srt) := by
 intro args blks r out hr W ρ F w args' hH hl hargs hG
 refine ⟨hcall, ?_⟩
 unfold pe3 at hr
 split at hr
 case h_2 => cases hr
 rename_i n g' et' es' el
 cases hb0 : Bool.and (Nat.beq g' g) (Bool.and (Nat.beq et' et) (Nat.beq es' t.es)) with
 | false => rw [hb0] at hr; cases hr
 | true =>
 rw [hb0] at hr
 rw [Bool.and_eq_true, Bool.and_eq_true] at hb0
 have q1 := Nat.eq_of_beq_eq_true hb0.1; have q2 := Nat.eq_of_beq_eq_true hb0.2.1; have q3 := Nat.eq_of_beq_eq_true hb0.2.2
 subst q1 q2 q3
 obtain ⟨hg0, hr⟩ := DT.run_guard_some hr
 rw [Bool.and_eq_true, Bool.and_eq_true] at hg0
 have hroom : n ≤ room := Nat.le_of_ble_eq_true hg0.1
 have hn := Nat.le_of_ble_eq_true hg0.2.1
 rw [l9] at hn
 have hok := hg0.2.2
 injection hr with hr; injection hr with p1 p2; subst p1 p2
 match args', hl with
 | [v0, v1], _ =>
 obtain ⟨a, cap, b, rfl, hb, hd, _, hncap, hspot, hcap, hq⟩ := La5 (hargs 0 _ _ rfl rfl)
 obtain ⟨vs1, rfl, hvs1, _⟩ := Db5 (hargs 1 _ _ rfl rfl)
 have hvs1 : vs1 = #[] := Array.eq_empty_of_size_eq_zero (by simpa using hvs1.symm)
 subst hvs1
 have hb : b = ⟨et', t.es, el, true, false, 0⟩ := by simpa using hb.symm
 subst hb
 obtain ⟨ha, hsz, hne⟩ := hq rfl
 have ha : a = ⟨(ρ 0).blk, (ρ 0).off + 0 * t.es, none⟩ := ha.resolve_left fun h => by omega
 obtain ⟨cc, tt, fr, hB⟩ := hH.blk 0 _ rfl rfl
 obtain ⟨hfr, hW, hoff, hsize, hnF, het⟩ := hB.own rfl
 subst hfr
 rw [hoff, Nat.zero_mul, Nat.add_zero] at ha
 subst ha
 generalize hbk : (ρ 0).blk = blk at *
 -- the rows as data
 have hrow : ∀ j, j < n → f7 el j = (enc (gL t (slR t el 0 n) j)).map .v := fun j hj => by
  have h2 : t.ok (f7 el (0 + j)) = true := List.all_eq_true.1 hok j (by simpa using hj)
  rw [Nat.zero_add] at h2
  rw [← he, slR, Rd1 t _ hj, Nat.zero_add]
  exact hx _ h2
 have hld : (slR t el 0 n).length = n := md7 ..
 have hk : ∀ x, (enc x).length = t.es := fun x => by have := t.h0 x; rw [l9, he] at this; simpa using this
 have hlt : blk < w.heap.size := by
  have := hB.obj
  rcases Nat.lt_or_ge blk w.heap.size with h | h
  ·exact h
  ·rw [hbk, Array.getElem?_eq_none h] at this; cases this
 have hobj : w.heap[blk]? = some (.cells cc tt (0, 0)) := by rw [← hbk]; exact hB.obj
 have hgd : ∀ (l : List α) (j : Nat) (h : j < l.length), gL t l j = l[j] := fun l j h => by simp [gL, List.getD_eq_getElem?_getD, List.getElem?_eq_getElem h]
 have hdm : ∀ q, q < n * t.es → q / t.es < n ∧ q % t.es < t.es ∧ (q / t.es) * t.es + q % t.es = q := fun q hq => ⟨Nat.div_lt_of_lt_mul (by rw [Nat.mul_comm]; exact hq), Nat.mod_lt _ hes, Nat.div_add_mod' q t.es⟩
 have hrowAt : ∀ j, j < el.length → el[j]? = some (f7 el j) := fun j hj => by
  unfold f7; rw [A4, List.getElem?_eq_getElem hj]
 have hH0 : HoldsK enc t.es w blk 0 (slR t el 0 n).toArray := by
  intro q hq
  have hq : q < n * t.es := by rw [size_flatK] at hq; simpa [hld] using hq
  obtain ⟨e1, e2, e3⟩ := hdm q hq
  rw [get_flatK _ _ _ _ (by simpa [hld] using hq), pc8 _ _ (by rw [hld]; exact e1), ← hgd _ _ (by rw [hld]; exact e1)]
  have hcx : (f7 el (q / t.es))[q % t.es]? = some (.v ((enc (gL t (slR t el 0 n) (q / t.es)))[q % t.es]!)) := by
   rw [hrow _ e1, List.getElem?_map, List.getElem?_eq_getElem (by rw [hk]; exact e2), getElem!_pos _ _ (by rw [hk]; exact e2)]
   rfl
  obtain ⟨x', h5, h6⟩ := hB.cell (q / t.es) _ (q % t.es) _ (hrowAt _ (by omega)) hcx
  have h6 : x' = (enc (gL t (slR t el 0 n) (q / t.es)))[q % t.es]! := by cases h6; rfl
  subst h6
  rw [hoff] at h5
  simp only [e3, Nat.zero_add] at h5
  constructor
  ·simp only [World.cell?, hobj, Nat.zero_add]
   simpa using h5
  ·simp [World.frozen?, hobj]
 have hds : (slR t el 0 n).toArray.size = n := by simpa using hld
 have hmax : n < 4611686018427387904 := by unfold room at hroom; omega
 have hcalls := hcon blk cap (slR t el 0 n).toArray w (fun off size => hcl blk off size w) hH0 hlt (by rw [hds]; exact hmax)
 rw [hds] at hcalls
 refine hcalls.mono fun e w' ⟨h5, m, os, h6⟩ => ⟨_, h5, ρ, F, ?_⟩
 generalize hsd : srt (slR t el 0 n) = sd at *
 have hsl : sd.length = n := by rw [← hsd, hlen, hld]
 have h6 : w' = grow (mapBlock (Sort.ahead w m) blk (putCells id 0 (flatK enc t.es sd.toArray))) os := h6
 have hw'size : w'.heap.size = w.heap.size + os.size := by rw [h6]; simp [mapBlock]
 have hold : ∀ k, k < w.heap.size → k ≠ blk → w'.heap[k]? = w.heap[k]? := fun k h7 h8 => by
  rw [h6]
  simp only [grow, mapBlock]
  rw [Array.getElem?_append_left (by simpa using h7), Array.getElem?_modify]
  simp [Ne.symm h8]
 have hnew : w'.heap[blk]? = some (.cells (putCells id 0 (flatK enc t.es sd.toArray) cc) tt (0, 0)) := by
  rw [h6]
  simp only [grow, mapBlock]
  rw [Array.getElem?_append_left (by simpa using hlt), Array.getElem?_modify]
  simp [hobj, onCells]
 have hcells : ∀ b o, F b o → w'.cell? ⟨b, o, none⟩ = w.cell? ⟨b, o, none⟩ := fun b o hf => by
  have h7 : b ≠ blk := fun h8 => hnF o (h8 ▸ hf)
  have := Db2 (hH.frz b o hf)
  simp only [World.cell?, hold b this h7]
 have hpc : ∀ q, q < cc.size → (putCells id 0 (flatK enc t.es sd.toArray) cc)[q]? = if q < n * t.es then some ((enc sd.toArray[q / t.es]!)[q % t.es]!) else cc[q]? := fun q hq => by
  simp only [putCells, Array.getElem?_mapIdx, Array.getElem?_eq_getElem hq, Option.map_some, size_flatK, Nat.zero_le, true_and, Nat.zero_add, Nat.sub_zero, id]
  have : sd.toArray.size = n := by simpa using hsl
  rw [this]
  split
  ·next h7 => rw [get_flatK _ _ _ _ (by rw [this]; exact h7)]
  ·rfl
 have hel : (app (bL t sd) (e7 el n)).length = el.length := by
  rw [E6, List.length_append, ← l9 (bL t sd), O5, hsl, E5, List.length_drop]
  omega
 have hnrow : ∀ (j : Nat) r, (app (bL t sd) (e7 el n))[j]? = some r → (j < n ∧ r = t.row (gL t sd j)) ∨ (n ≤ j ∧ el[j]? = some r) := fun j r hr => by
  have hlb : (bL t sd).length = n := by rw [← l9, O5, hsl]
  rw [E6] at hr
  rcases Nat.lt_or_ge j n with h7 | h7
  ·rw [List.getElem?_append_left (by omega)] at hr
   left
   refine ⟨h7, ?_⟩
   unfold bL at hr
   rw [n8, List.getElem?_map, List.getElem?_eq_getElem (by omega)] at hr
   injection hr with hr
   rw [← hr, hgd sd j (by omega)]
  ·rw [List.getElem?_append_right (by omega), hlb, E5, List.getElem?_drop] at hr
   right
   exact ⟨h7, by rw [← hr]; congr 1; omega⟩
 have hcs : el.length * t.es ≤ cc.size := by have := hB.len; rw [hsize] at this; exact this
 refine ⟨⟨⟨?_, ?_, ?_, by omega, fun k h7 h8 => hold k h7 fun h9 => h8 (h9 ▸ hW), hcells, ?_⟩, fun id b hb => ?_, fun _ _ h => h, fun _ _ h => .inl h, fun id b' hb' hn' => ?_⟩, ⟨fun id b hb hd' => ?_, fun id id' b b' hb hb' h7 h8 h9 h10 => ?_, fun b o hf => by rw [hcells b o hf]; exact hH.frz b o hf, fun k hk' => hH.new k (by omega)⟩, .ofv _⟩
 ·rw [h6]; rfl
 ·rw [h6]; rfl
 ·rw [h6]; rfl
 ·rw [h6]; exact Nat.le_add_right _ _
 ·match id, hb with
  | 0, hb =>
   cases hb
   exact ⟨_, rfl, rfl, Nat.le_refl _, fun _ => ⟨rfl, rfl, by simp only [hel]; exact Nat.le_refl _⟩⟩
 ·match id, hb' with
  | 0, hb' => cases hb'; exact absurd rfl (hn' ⟨et', t.es, el, true, false, 0⟩ rfl)
 ·match id, hb with
  | 0, hb =>
   cases hb
   refine ⟨_, tt, (0, 0), by rw [hbk]; exact hnew, ?_, ?_, ?_, ?_, fun _ => ⟨rfl, by rw [hbk]; exact hW, hoff, ?_, by rw [hbk]; exact hnF, het⟩, fun h => by cases h⟩
   ·rw [hoff, hsize]; simp [putCells]
   ·simp only [hel]; exact hB.len
   ·intro j r hr
    rcases hnrow j r hr with ⟨_, h8⟩ | ⟨_, h8⟩
    ·rw [h8, ← l9]; exact t.h0 _
    ·exact hB.rows j r h8
   ·intro j r c x hr hc
    rw [hoff, Nat.zero_add]
    rcases hnrow j r hr with ⟨h7, h8⟩ | ⟨h7, h8⟩
    ·subst h8
     have hclt : c < t.es := by
      have := (List.getElem?_eq_some_iff.1 hc).1
      rw [← l9, t.h0] at this
      exact this
     have hq : j * t.es + c < n * t.es := by
      have := Nat.mul_le_mul_right t.es (show j + 1 ≤ n from h7)
      rw [Nat.add_mul, Nat.one_mul] at this
      omega
     have hqn : n * t.es ≤ el.length * t.es := Nat.mul_le_mul_right _ hn
     have e1 : (j * t.es + c) / t.es = j := by rw [Nat.mul_comm, Nat.mul_add_div hes, Nat.div_eq_of_lt hclt, Nat.add_zero]
     have e2 : (j * t.es + c) % t.es = c := by rw [Nat.mul_comm, Nat.mul_add_mod, Nat.mod_eq_of_lt hclt]
     rw [he, List.getElem?_map, List.getElem?_eq_getElem (by rw [hk]; exact hclt)] at hc
     injection hc with hc
     subst hc
     refine ⟨(enc (gL t sd j))[c]'(by rw [hk]; exact hclt), ?_, .v _ (h1 _ _ (List.getElem_mem _))⟩
     rw [hpc _ (Nat.lt_of_lt_of_le hq (Nat.le_trans hqn hcs)), if_pos hq, e1, e2, pc8 _ _ (by omega), hgd sd j (by omega), getElem!_pos _ _ (by rw [hk]; exact hclt)]
    ·obtain ⟨x', h9, h10⟩ := hB.cell j r c x h8 hc
     rw [hoff, Nat.zero_add] at h9
     have hq : ¬ j * t.es + c < n * t.es := by
      have := Nat.mul_le_mul_right t.es h7
      omega
     have hlt' : j * t.es + c < cc.size := (Array.getElem?_eq_some_iff.1 h9).1
     exact ⟨x', by rw [hpc _ hlt', if_neg hq]; exact h9, h10.adv (fun _ _ h => h) hcells⟩
   ·rw [hsize]; simp [putCells]
 ·match id, hb, id', hb' with
  | 0, hb, 0, hb' => exact absurd rfl h10
end
end Go.Ev.L
namespace Go.Proofs
open Go.Shelf
shelf_lay_g SlLaysF0.n6 Slsf 6 at Tryz 103 as Ce.sortLay
end Go.Proofs
namespace Go.Ev.Ce
open Go Go.Ev Go.Ev.L Go.Proofs Go.Sort
def pb8 (x y : Int) : Int := if x < y then -1 else if x > y then 1 else 0
def ja6 (x y : Pln) : Int :=
 if pb8 x.n.x y.n.x = 0 then if pb8 x.n.y y.n.y = 0 then if pb8 x.n.z y.n.z = 0 then pb8 x.b y.b else pb8 x.n.z y.n.z else pb8 x.n.y y.n.y else pb8 x.n.x y.n.x
theorem Gc9 (x y : Int) : pb8 x y < 0 ↔ x < y := by unfold pb8; split <;> (try split) <;> omega
theorem sd6 (x y : Int) : pb8 x y = 0 ↔ x = y := by unfold pb8; split <;> (try split) <;> omega
def LtP (x y : Pln) : Prop := x.n.x < y.n.x ∨ x.n.x = y.n.x ∧ (x.n.y < y.n.y ∨ x.n.y = y.n.y ∧ (x.n.z < y.n.z ∨ x.n.z = y.n.z ∧ x.b < y.b))
instance (x y : Pln) : Decidable (LtP x y) := by unfold LtP; exact inferInstance
theorem sd7 (x y : Pln) : ja6 x y < 0 ↔ LtP x y := by
 have h1 := Gc9 x.n.x y.n.x; have h2 := sd6 x.n.x y.n.x
 have h3 := Gc9 x.n.y y.n.y; have h4 := sd6 x.n.y y.n.y
 have h5 := Gc9 x.n.z y.n.z; have h6 := sd6 x.n.z y.n.z
 have h7 := Gc9 x.b y.b
 unfold ja6 LtP
 split
 ·split
  ·split <;> omega
  ·omega
 ·omega
theorem Wa8 (x y : Pln) : ltOf ja6 x y = decide (LtP x y) := by
 unfold ltOf
 rw [decide_eq_decide]
 exact sd7 x y
theorem Ye2 : SWO (ltOf ja6) where
 irrefl x := by rw [Wa8]; simp [LtP]
 trans x y z h1 h2 := by rw [Wa8, decide_eq_true_eq] at *; unfold LtP at *; omega
 ntrans x y z h1 h2 := by rw [Wa8, decide_eq_false_iff_not] at *; unfold LtP at *; omega
theorem Ye3 (x y : Pln) (h1 : ltOf ja6 x y = false) (h2 : ltOf ja6 y x = false) : x = y := by
 rw [Wa8, decide_eq_false_iff_not] at *
 unfold LtP at *
 obtain ⟨⟨a, b, c⟩, d⟩ := x; obtain ⟨⟨a', b', c'⟩, d'⟩ := y
 simp only at *
 have : a = a' ∧ b = b' ∧ c = c' ∧ d = d' := by omega
 obtain ⟨rfl, rfl, rfl, rfl⟩ := this
 rfl
theorem Fd7 (x y : Int) : Ia9 x y = some (i (pb8 x y), []) := by
 unfold Ia9 pb8
 simp only [lb2, decide_eq_true_eq]
 split <;> (try split) <;> rfl
theorem Be7 (x y : Int) : pa1 x y = pb8 x y := by unfold pa1; rw [Fd7]; rfl
theorem Be8 (x y : Int) : pa2 x y = true := by unfold pa2; rw [Fd7]; rfl
theorem Tc9 (x y : Pln) : wa2 x y = some (i (ja6 x y), []) := by
 unfold wa2 ja6
 simp only [Be7, Be8, lb2, beq_iff_eq, if_true]
 repeat' (first | rfl | split)
theorem Ye4 (x y : Pln) : Ka8 x y = ja6 x y := by unfold Ka8; rw [Tc9]; rfl
theorem Ye5 (x y : Pln) : Ka9 x y = true := by unfold Ka9; rw [Tc9]; rfl
theorem Ye6 (x y : Pln) : (fb1 [.agg (tP.row x), .agg (tP.row y)] []).run = some (i (ja6 x y), []) := by
 have : (fb1 [.agg (tP.row x), .agg (tP.row y)] []).run = sel (Ka9 x y) (some (i (Ka8 x y), [])) none := by kernel_rfl
 rw [this, Ye5, Ye4]
def tc5 (p : Pln) : List Value := [.int .i64 p.n.x, .int .i64 p.n.y, .int .i64 p.n.z, .int .i64 p.b]
instance : Inhabited Pln := ⟨⟨⟨0, 0, 0⟩, 0⟩⟩
def Ja3 (l : List Pln) : List Pln := l.mergeSort fun x y => !ltOf ja6 y x
theorem Xb2 (l : List Pln) : (Ja3 l).length = l.length := List.length_mergeSort l
noncomputable def sa1 : Sum := pe3 tP 104 50 Ja3
theorem pe4 : Ce.sortLay_ren.f 6 = 103 := by kernel_rfl
theorem jd2 : Ce.sortLay_ren.t 24 = 50 := by kernel_rfl
set_option maxRecDepth 100000 in
theorem Ja4 : g9 prog G 103 sa1 := by
 refine Be6 (enc := tc5) (cf := ja6) ⟨_, Tryz.func103, by kernel_rfl, of_decide_eq_true (by kernel_rfl)⟩ (by decide) (fun _ => rfl) (fun r h => Ma8 (n := 4) h) (fun x v hv => ?_) Xb2
  (fun blk off size w => Be5 wc6 Ye6 (fun _ => rfl) (fun _ => rfl) _ _ _ _ _) (fun blk cap d w hcl hH hb hs => ?_)
 ·simp [tc5] at hv
  rcases hv with rfl | rfl | rfl | rfl <;> rfl
 ·have eg : ∀ args w, (callFunc 104 args).run Tryz.prog w = .ok (.enter 104 args) w := enters_of Tryz.func104 (by kernel_rfl) rfl
  have := AnyQ.slices_SortFunc Ce.sortLay 4 (by rw [jd2]; exact Tryz.isAgg50) (by rw [jd2]; exact Tryz.sizeOf50) tc5 (fun _ => rfl) (fun x v hv => by simp [tc5] at hv; rcases hv with rfl | rfl | rfl | rfl <;> rfl) ja6 Ye2 104 #[] blk 0 cap d w eg (hcl 0 d.size) hH hb hs
  rw [pe4] at this
  refine this.mono fun e w' ⟨h1, d', n, os, h2, h3, h4⟩ => ⟨h1, n, os, ?_⟩
  have h5 := sorted_unique_holds Ye2 Ye3 d d' h2 h3
  rw [h4]
  show _ = sortWorldK tc5 4 w blk 0 n (d.toList.mergeSort fun x y => !ltOf ja6 y x).toArray os
  rw [← h5]
end Go.Ev.Ce
section
namespace Go.Ev.Ce
open Go Go.Ev Go.Ev.L Go.Proofs
set_option maxRecDepth 100000
noncomputable def Lb1 : List (Nat × Sum) := []
theorem Ib4 : i6 prog G Lb1 := trivial
structure na0 where
 alt : Nat
 ns0 : Nat
 eh0 : List (List b7)
noncomputable def P4 {α : Type} (kk : na0 → α) (x : Pln × List Pln) : α := (sl (Nat.beq (len (o7 (fun k => (tP).row (gL tP (x.1 :: x.2) k)) (List.range (List.length x.2 + 1)))) 0) (kk ⟨1, 0, []⟩) (sl (Nat.beq 0 0 && Nat.ble ((0 + (len (o7 (fun k => (tP).row (gL tP (x.1 :: x.2) k)) (List.range (List.length x.2 + 1))))) * 32) room) (kk ⟨1, (0 + (len (o7 (fun k => (tP).row (gL tP (x.1 :: x.2) k)) (List.range (List.length x.2 + 1))))), (app [] (o7 (fun k => (tP).row (gL tP (x.1 :: x.2) k)) (List.range (List.length x.2 + 1))))⟩) (kk ⟨0, 0, []⟩)))
noncomputable def na1 (x : Pln × List Pln) : na0 := P4 (fun r => r) x
noncomputable def ya4 (r : na0) : DT (b7 × List b8) := (.ite (Nat.beq r.alt 1) (.ret ((.sl 0 0 r.ns0 0), [⟨50, 4, r.eh0, true, false, 0⟩])) .fail)
theorem Tb2 {α β : Type} (F : α → β) (kk : na0 → α) (x : Pln × List Pln) : F (P4 kk x) = P4 (fun r => F (kk r)) x := by unfold P4; (repeat' apply k9 (f := F)) <;> rfl
noncomputable def bb9 : Sum := R3 (ge2 tP) (fun x => ya4 (na1 x))
theorem Lb2 : g9 prog G 100 bb9 := Eb5 (bd Le6 Ib4) fun x => r9 (Eq.trans (b := P4 (fun r => (ya4 r).run) x) (by kernel_rfl) (Tb2 (fun r => (ya4 r).run) (fun r => r) x).symm)
noncomputable def sd8 : List (Nat × Sum) := [(20, sa9), (18, oa4), (100, bb9), (99, ka1), (103, sa1), (105, ua2)]
theorem cd2 : i6 prog G sd8 := ⟨ta7, ra1, Lb2, Da0, Ja4, Na9, trivial⟩
noncomputable def cb0 (x : Pln × List Pln) : Option (b7 × List b8) := let t1 := (aa2 (rt tP (x.1 :: x.2))); let t2 := (Q9 (rt tP (x.1 :: x.2))); let t3 := (na1 (hC tP (fun k => (tP).row (gL tP (x.1 :: x.2) k)), tC tP (List.length x.2) (fun k => (tP).row (gL tP (x.1 :: x.2) k)))); let t4 := (D8 ⟨t3.ns0, t3.eh0, (rt tX t2)⟩); let t5 := (T1 ⟨t4.ns0, (app (bL tP (Ja3 (slR tP t4.eh0 0 t4.ns0))) (e7 t4.eh0 t4.ns0))⟩); (sl (okE tP (x.1 :: x.2)) (sl (aa3 (rt tP (x.1 :: x.2))) (sl (!t1) (some ((.v (.slice none 0 0)), [])) (sl (okE tP (x.1 :: x.2)) (sl (R2 (rt tP (x.1 :: x.2))) (sl (okL tP (List.length x.2 + 1) (fun k => (tP).row (gL tP (x.1 :: x.2) k))) (sl (Nat.beq t3.alt 1) (sl ((cnE tX t2) && true) (sl (Nat.beq t4.alt 1) (sl (Bool.and (Nat.ble t4.ns0 room) (Bool.and (Nat.ble t4.ns0 (len t4.eh0)) (okS tP t4.eh0 0 t4.ns0))) (sl (Nat.beq t5.alt 1) (some ((.sl 0 0 t5.ns0 0), [⟨50, 4, t5.eh0, true, false, 0⟩])) none) none) none) none) none) none) none) none)) none) none)
noncomputable def Tb3 (x : Pln × List Pln) : List Pln := K5 (one (r1L tP)) (cb0 x)
noncomputable def Tb4 (x : Pln × List Pln) : Bool := okO (one (r1L tP)) (cb0 x)
noncomputable def Ac6 : Sum := R3 (ge2 tP) (fun x => .guard (Tb4 x) (.ret ((one (r1L tP)).enc (Tb3 x), [])))
theorem pc9 : g9 prog G 25 Ac6 := za1 (bd b25 cd2) (one (r1L tP)) (o := cb0) fun x => r9 (by kernel_rfl)
noncomputable def Fc0 : List (Nat × Sum) := [(81, pc7), (18, oa4), (17, Cb0), (25, Ac6), (26, gc1), (20, sa9), (28, gc2), (22, nc5), (31, pc5), (33, bc8), (15, Gb6)]
theorem wc9 : i6 prog G Fc0 := ⟨cd1, ra1, oc8, pc9, Ac4, ta7, Ac5, Zc5, bd9, Tc5, bc2, trivial⟩
noncomputable def Da3  : Option (b7 × List b8) := let t1 := Ib3; let t2 := (Q9 [(⟨(⟨1, 0, 0⟩ : V3), t1.d9⟩ : Pln), (⟨(⟨(-1), 0, 0⟩ : V3), t1.Q1⟩ : Pln), (⟨(⟨0, 1, 0⟩ : V3), t1.Q3⟩ : Pln), (⟨(⟨0, (-1), 0⟩ : V3), t1.Q4⟩ : Pln), (⟨(⟨0, 0, 1⟩ : V3), t1.Q5⟩ : Pln), (⟨(⟨0, 0, (-1)⟩ : V3), t1.Q6⟩ : Pln)]); let t3 := (Q9 [(⟨(⟨(-1), 0, 0⟩ : V3), 0⟩ : Pln), (⟨(⟨0, (-1), 0⟩ : V3), 0⟩ : Pln), (⟨(⟨0, 0, (-1)⟩ : V3), 0⟩ : Pln), (⟨(⟨2, 3, 4⟩ : V3), 1⟩ : Pln)]); let t4 := (ra6 (rt tX t2) [(⟨1, 1, 1, 1⟩ : Pt), (⟨1, 1, 0, 1⟩ : Pt), (⟨1, 0, 1, 1⟩ : Pt), (⟨1, 0, 0, 1⟩ : Pt), (⟨0, 1, 1, 1⟩ : Pt), (⟨0, 1, 0, 1⟩ : Pt), (⟨0, 0, 1, 1⟩ : Pt), (⟨0, 0, 0, 1⟩ : Pt)]); let t5 := (ra6 (rt tX t3) [(⟨0, 0, 0, 1⟩ : Pt), (⟨0, 0, 1, 4⟩ : Pt), (⟨0, 1, 0, 3⟩ : Pt), (⟨1, 0, 0, 2⟩ : Pt)]); let t6 := (Tb3 ((⟨(⟨1, 0, 0⟩ : V3), t1.d9⟩ : Pln), [(⟨(⟨(-1), 0, 0⟩ : V3), t1.Q1⟩ : Pln), (⟨(⟨0, 1, 0⟩ : V3), t1.Q3⟩ : Pln), (⟨(⟨0, (-1), 0⟩ : V3), t1.Q4⟩ : Pln), (⟨(⟨0, 0, 1⟩ : V3), t1.Q5⟩ : Pln), (⟨(⟨0, 0, (-1)⟩ : V3), t1.Q6⟩ : Pln), (⟨(⟨1, 0, 0⟩ : V3), t1.d9⟩ : Pln), (⟨(⟨1, 1, 1⟩ : V3), 3⟩ : Pln), (⟨(⟨1, 0, 0⟩ : V3), 7⟩ : Pln)])); let t7 := (pb0 (rt tP t6) [(⟨(⟨(-1), 0, 0⟩ : V3), t1.Q1⟩ : Pln), (⟨(⟨0, (-1), 0⟩ : V3), t1.Q4⟩ : Pln), (⟨(⟨0, 0, (-1)⟩ : V3), t1.Q6⟩ : Pln), (⟨(⟨0, 0, 1⟩ : V3), t1.Q5⟩ : Pln), (⟨(⟨0, 1, 0⟩ : V3), t1.Q3⟩ : Pln), (⟨(⟨1, 0, 0⟩ : V3), t1.d9⟩ : Pln)]); let t8 := (aa2 []); let t9 := (aa2 [(⟨(⟨1, 0, 0⟩ : V3), t1.d9⟩ : Pln), (⟨(⟨(-1), 0, 0⟩ : V3), t1.Q1⟩ : Pln), (⟨(⟨0, 1, 0⟩ : V3), t1.Q3⟩ : Pln), (⟨(⟨0, (-1), 0⟩ : V3), t1.Q4⟩ : Pln), (⟨(⟨0, 0, 1⟩ : V3), t1.Q5⟩ : Pln), (⟨(⟨0, 0, (-1)⟩ : V3), t1.Q6⟩ : Pln), (⟨(⟨(-1), 0, 0⟩ : V3), (-1)⟩ : Pln)]); let t10 := (Ma3 [(⟨(⟨1, 0, 0⟩ : V3), t1.d9⟩ : Pln), (⟨(⟨(-1), 0, 0⟩ : V3), t1.Q1⟩ : Pln), (⟨(⟨0, 1, 0⟩ : V3), t1.Q3⟩ : Pln), (⟨(⟨0, (-1), 0⟩ : V3), t1.Q4⟩ : Pln), (⟨(⟨0, 0, 1⟩ : V3), t1.Q5⟩ : Pln), (⟨(⟨0, 0, (-1)⟩ : V3), t1.Q6⟩ : Pln)] (⟨1, 0, 0⟩ : V3)); let t11 := (Ma3 [(⟨(⟨1, 0, 0⟩ : V3), t1.d9⟩ : Pln), (⟨(⟨(-1), 0, 0⟩ : V3), t1.Q1⟩ : Pln), (⟨(⟨0, 1, 0⟩ : V3), t1.Q3⟩ : Pln), (⟨(⟨0, (-1), 0⟩ : V3), t1.Q4⟩ : Pln), (⟨(⟨0, 0, 1⟩ : V3), t1.Q5⟩ : Pln), (⟨(⟨0, 0, (-1)⟩ : V3), t1.Q6⟩ : Pln)] (⟨2, 0, 0⟩ : V3)); let t12 := (ib1 [(⟨(⟨(-1), 0, 0⟩ : V3), 0⟩ : Pln), (⟨(⟨0, (-1), 0⟩ : V3), 0⟩ : Pln), (⟨(⟨0, 0, (-1)⟩ : V3), 0⟩ : Pln), (⟨(⟨2, 3, 4⟩ : V3), 1⟩ : Pln)]); let t13 := (Ta0 [(⟨(⟨1, 0, 0⟩ : V3), t1.d9⟩ : Pln), (⟨(⟨(-1), 0, 0⟩ : V3), t1.Q1⟩ : Pln), (⟨(⟨0, 1, 0⟩ : V3), t1.Q3⟩ : Pln), (⟨(⟨0, (-1), 0⟩ : V3), t1.Q4⟩ : Pln), (⟨(⟨0, 0, 1⟩ : V3), t1.Q5⟩ : Pln), (⟨(⟨0, 0, (-1)⟩ : V3), t1.Q6⟩ : Pln)] [(⟨(⟨(-1), 0, 0⟩ : V3), (-1)⟩ : Pln)]); let t14 := (Ta0 [(⟨(⟨1, 0, 0⟩ : V3), t1.d9⟩ : Pln), (⟨(⟨(-1), 0, 0⟩ : V3), t1.Q1⟩ : Pln), (⟨(⟨0, 1, 0⟩ : V3), t1.Q3⟩ : Pln), (⟨(⟨0, (-1), 0⟩ : V3), t1.Q4⟩ : Pln), (⟨(⟨0, 0, 1⟩ : V3), t1.Q5⟩ : Pln), (⟨(⟨0, 0, (-1)⟩ : V3), t1.Q6⟩ : Pln)] [(⟨(⟨(-1), (-1), 0⟩ : V3), (-1)⟩ : Pln)]); let t15 := (Ja1 [(⟨(⟨1, 0, 0⟩ : V3), t1.d9⟩ : Pln), (⟨(⟨(-1), 0, 0⟩ : V3), t1.Q1⟩ : Pln), (⟨(⟨0, 1, 0⟩ : V3), t1.Q3⟩ : Pln), (⟨(⟨0, (-1), 0⟩ : V3), t1.Q4⟩ : Pln), (⟨(⟨0, 0, 1⟩ : V3), t1.Q5⟩ : Pln), (⟨(⟨0, 0, (-1)⟩ : V3), t1.Q6⟩ : Pln)] [(⟨(⟨1, 1, 1⟩ : V3), 3⟩ : Pln)]); let t16 := (Ja1 [(⟨(⟨1, 0, 0⟩ : V3), t1.d9⟩ : Pln), (⟨(⟨(-1), 0, 0⟩ : V3), t1.Q1⟩ : Pln), (⟨(⟨0, 1, 0⟩ : V3), t1.Q3⟩ : Pln), (⟨(⟨0, (-1), 0⟩ : V3), t1.Q4⟩ : Pln), (⟨(⟨0, 0, 1⟩ : V3), t1.Q5⟩ : Pln), (⟨(⟨0, 0, (-1)⟩ : V3), t1.Q6⟩ : Pln)] [(⟨(⟨1, 1, 1⟩ : V3), 2⟩ : Pln)]); let t17 := (Ra0 [(⟨(⟨0, 0, 0⟩ : V3), 0⟩ : Pln)]); (sl (R2 [(⟨(⟨1, 0, 0⟩ : V3), t1.d9⟩ : Pln), (⟨(⟨(-1), 0, 0⟩ : V3), t1.Q1⟩ : Pln), (⟨(⟨0, 1, 0⟩ : V3), t1.Q3⟩ : Pln), (⟨(⟨0, (-1), 0⟩ : V3), t1.Q4⟩ : Pln), (⟨(⟨0, 0, 1⟩ : V3), t1.Q5⟩ : Pln), (⟨(⟨0, 0, (-1)⟩ : V3), t1.Q6⟩ : Pln)]) (sl (R2 [(⟨(⟨(-1), 0, 0⟩ : V3), 0⟩ : Pln), (⟨(⟨0, (-1), 0⟩ : V3), 0⟩ : Pln), (⟨(⟨0, 0, (-1)⟩ : V3), 0⟩ : Pln), (⟨(⟨2, 3, 4⟩ : V3), 1⟩ : Pln)]) (sl (okE tX t2) (sl (ra7 (rt tX t2) [(⟨1, 1, 1, 1⟩ : Pt), (⟨1, 1, 0, 1⟩ : Pt), (⟨1, 0, 1, 1⟩ : Pt), (⟨1, 0, 0, 1⟩ : Pt), (⟨0, 1, 1, 1⟩ : Pt), (⟨0, 1, 0, 1⟩ : Pt), (⟨0, 0, 1, 1⟩ : Pt), (⟨0, 0, 0, 1⟩ : Pt)]) (sl (!t4) (some ((b false), [])) (sl (okE tX t3) (sl (ra7 (rt tX t3) [(⟨0, 0, 0, 1⟩ : Pt), (⟨0, 0, 1, 4⟩ : Pt), (⟨0, 1, 0, 3⟩ : Pt), (⟨1, 0, 0, 2⟩ : Pt)]) (sl (!t5) (some ((b false), [])) (sl (Tb4 ((⟨(⟨1, 0, 0⟩ : V3), t1.d9⟩ : Pln), [(⟨(⟨(-1), 0, 0⟩ : V3), t1.Q1⟩ : Pln), (⟨(⟨0, 1, 0⟩ : V3), t1.Q3⟩ : Pln), (⟨(⟨0, (-1), 0⟩ : V3), t1.Q4⟩ : Pln), (⟨(⟨0, 0, 1⟩ : V3), t1.Q5⟩ : Pln), (⟨(⟨0, 0, (-1)⟩ : V3), t1.Q6⟩ : Pln), (⟨(⟨1, 0, 0⟩ : V3), t1.d9⟩ : Pln), (⟨(⟨1, 1, 1⟩ : V3), 3⟩ : Pln), (⟨(⟨1, 0, 0⟩ : V3), 7⟩ : Pln)])) (sl (okE tP t6) (sl (pb1 (rt tP t6) [(⟨(⟨(-1), 0, 0⟩ : V3), t1.Q1⟩ : Pln), (⟨(⟨0, (-1), 0⟩ : V3), t1.Q4⟩ : Pln), (⟨(⟨0, 0, (-1)⟩ : V3), t1.Q6⟩ : Pln), (⟨(⟨0, 0, 1⟩ : V3), t1.Q5⟩ : Pln), (⟨(⟨0, 1, 0⟩ : V3), t1.Q3⟩ : Pln), (⟨(⟨1, 0, 0⟩ : V3), t1.d9⟩ : Pln)]) (sl (!t7) (some ((b false), [])) (sl (aa3 []) (sl (!t8) (some ((b false), [])) (sl (aa3 [(⟨(⟨1, 0, 0⟩ : V3), t1.d9⟩ : Pln), (⟨(⟨(-1), 0, 0⟩ : V3), t1.Q1⟩ : Pln), (⟨(⟨0, 1, 0⟩ : V3), t1.Q3⟩ : Pln), (⟨(⟨0, (-1), 0⟩ : V3), t1.Q4⟩ : Pln), (⟨(⟨0, 0, 1⟩ : V3), t1.Q5⟩ : Pln), (⟨(⟨0, 0, (-1)⟩ : V3), t1.Q6⟩ : Pln), (⟨(⟨(-1), 0, 0⟩ : V3), (-1)⟩ : Pln)]) (sl t9 (some ((b false), [])) (sl (Da1 [(⟨(⟨1, 0, 0⟩ : V3), t1.d9⟩ : Pln), (⟨(⟨(-1), 0, 0⟩ : V3), t1.Q1⟩ : Pln), (⟨(⟨0, 1, 0⟩ : V3), t1.Q3⟩ : Pln), (⟨(⟨0, (-1), 0⟩ : V3), t1.Q4⟩ : Pln), (⟨(⟨0, 0, 1⟩ : V3), t1.Q5⟩ : Pln), (⟨(⟨0, 0, (-1)⟩ : V3), t1.Q6⟩ : Pln)] (⟨1, 0, 0⟩ : V3)) (sl (!t10) (some ((b false), [])) (sl (Da1 [(⟨(⟨1, 0, 0⟩ : V3), t1.d9⟩ : Pln), (⟨(⟨(-1), 0, 0⟩ : V3), t1.Q1⟩ : Pln), (⟨(⟨0, 1, 0⟩ : V3), t1.Q3⟩ : Pln), (⟨(⟨0, (-1), 0⟩ : V3), t1.Q4⟩ : Pln), (⟨(⟨0, 0, 1⟩ : V3), t1.Q5⟩ : Pln), (⟨(⟨0, 0, (-1)⟩ : V3), t1.Q6⟩ : Pln)] (⟨2, 0, 0⟩ : V3)) (sl t11 (some ((b false), [])) (sl (ib2 [(⟨(⟨(-1), 0, 0⟩ : V3), 0⟩ : Pln), (⟨(⟨0, (-1), 0⟩ : V3), 0⟩ : Pln), (⟨(⟨0, 0, (-1)⟩ : V3), 0⟩ : Pln), (⟨(⟨2, 3, 4⟩ : V3), 1⟩ : Pln)]) (sl (!((t12.1.x == 0) && ((t12.1.y == 0) && ((t12.1.z == 0) && true)))) (some ((b false), [])) (sl (!((t12.2.1.x == 1) && ((t12.2.1.y == 1) && ((t12.2.1.z == 1) && true)))) (some ((b false), [])) (sl (!t12.2.2) (some ((b false), [])) (sl (Ta1 [(⟨(⟨1, 0, 0⟩ : V3), t1.d9⟩ : Pln), (⟨(⟨(-1), 0, 0⟩ : V3), t1.Q1⟩ : Pln), (⟨(⟨0, 1, 0⟩ : V3), t1.Q3⟩ : Pln), (⟨(⟨0, (-1), 0⟩ : V3), t1.Q4⟩ : Pln), (⟨(⟨0, 0, 1⟩ : V3), t1.Q5⟩ : Pln), (⟨(⟨0, 0, (-1)⟩ : V3), t1.Q6⟩ : Pln)] [(⟨(⟨(-1), 0, 0⟩ : V3), (-1)⟩ : Pln)]) (sl t13 (sl (Ta1 [(⟨(⟨1, 0, 0⟩ : V3), t1.d9⟩ : Pln), (⟨(⟨(-1), 0, 0⟩ : V3), t1.Q1⟩ : Pln), (⟨(⟨0, 1, 0⟩ : V3), t1.Q3⟩ : Pln), (⟨(⟨0, (-1), 0⟩ : V3), t1.Q4⟩ : Pln), (⟨(⟨0, 0, 1⟩ : V3), t1.Q5⟩ : Pln), (⟨(⟨0, 0, (-1)⟩ : V3), t1.Q6⟩ : Pln)] [(⟨(⟨(-1), (-1), 0⟩ : V3), (-1)⟩ : Pln)]) (sl (!t14) (sl (Ja2 [(⟨(⟨1, 0, 0⟩ : V3), t1.d9⟩ : Pln), (⟨(⟨(-1), 0, 0⟩ : V3), t1.Q1⟩ : Pln), (⟨(⟨0, 1, 0⟩ : V3), t1.Q3⟩ : Pln), (⟨(⟨0, (-1), 0⟩ : V3), t1.Q4⟩ : Pln), (⟨(⟨0, 0, 1⟩ : V3), t1.Q5⟩ : Pln), (⟨(⟨0, 0, (-1)⟩ : V3), t1.Q6⟩ : Pln)] [(⟨(⟨1, 1, 1⟩ : V3), 3⟩ : Pln)]) (sl t15 (sl (Ja2 [(⟨(⟨1, 0, 0⟩ : V3), t1.d9⟩ : Pln), (⟨(⟨(-1), 0, 0⟩ : V3), t1.Q1⟩ : Pln), (⟨(⟨0, 1, 0⟩ : V3), t1.Q3⟩ : Pln), (⟨(⟨0, (-1), 0⟩ : V3), t1.Q4⟩ : Pln), (⟨(⟨0, 0, 1⟩ : V3), t1.Q5⟩ : Pln), (⟨(⟨0, 0, (-1)⟩ : V3), t1.Q6⟩ : Pln)] [(⟨(⟨1, 1, 1⟩ : V3), 2⟩ : Pln)]) (sl (!t16) (sl (Ra1 [(⟨(⟨0, 0, 0⟩ : V3), 0⟩ : Pln)]) (some ((b (t17 == 12)), [])) none) (some ((b false), []))) none) (some ((b false), []))) none) (some ((b false), []))) none) (some ((b false), []))) none)))) none)) none)) none)) none)) none)) none) none) none)) none) none)) none) none) none) none)
noncomputable def Ta3  : Bool := K5 (one r1B) Da3
noncomputable def Ta4  : Bool := okO (one r1B) Da3
noncomputable def Tb5 : Sum := xd5  (.guard Ta4 (.ret ((one r1B).enc Ta3, [])))
theorem Fc1 : g9 prog G 13 Tb5 := af0 (bd b13 wc9) (one r1B) (o := Da3) (r9 (by kernel_rfl))
end Go.Ev.Ce
end
namespace Go.Ev.Ce
open Go Go.Ev Go.Ev.L Go.Proofs
noncomputable def onc (X : List Pt) (p : Pln) : Nat := X.countP fun x => rm p x == 0
noncomputable def keep (X : List Pt) (p : Pln) : Bool := !decide ((onc X p : Int) < 3)
theorem Uc0 (p : Pln) (X : List Pt) (hX : X.length ≤ 1000000000) : oa8 ⟨p.n.x, p.n.y, p.n.z, p.b, X⟩ = ⟨1, !keep X p, X⟩ := by
 have h := Vb5 (step := ra8 ⟨X, (X.length : Int), X, p.n.x, p.n.y, p.n.z, p.b⟩) (mk := fun j (n : Nat) => (⟨(n : Int), (j : Int)⟩ : N9)) (f := fun n x => if rm p x == 0 then n + 1 else n) (fin := 1) tX X (fun j n => n ≤ j) hX
  (fun j n hj hi => by
   have hW : W ((n : Int) + 1) = ((n + 1 : Nat) : Int) := by rw [Ga0 (by omega) (by omega)]; omega
   refine ⟨?_, by show (if rm p (gL tX X j) == 0 then n + 1 else n) ≤ j + 1; split <;> omega⟩
   simp only [ra8, ma9, Int.toNat_natCast, pd8, hW, o9 hj (show X.length ≤ 4611686018427387904 by omega)]
   rw [btD (n9 hj), bt (f0 hj)]
   cases rm p (gL tX X j) == 0 <;> rfl)
  (fun n _ => by simp only [ra8, ma9]; rw [bfD (P1 (Nat.lt_irrefl _))]) 0 (Nat.zero_le _) 0 (Nat.le_refl _)
 have h := h.1
 have e : ∀ (l : List Pt) (n : Nat), l.foldl (fun n x => if rm p x == 0 then n + 1 else n) n = n + l.countP fun x => rm p x == 0 := by
  intro l
  induction l with
  | nil => intro n; rfl
  | cons x l ih =>
   intro n
   rw [List.foldl_cons, ih, List.countP_cons]
   split <;> omega
 rw [List.drop_zero, e, Nat.zero_add] at h
 unfold oa8 xa6 keep onc
 simp only [m0, m8]
 rw [show (⟨0, 0⟩ : N9) = ⟨((0 : Nat) : Int), ((0 : Nat) : Int)⟩ from rfl, h]
 show xa5.mk 1 (decide _) X = xa5.mk 1 (!(!(decide _))) X
 rw [Bool.not_not]
theorem Be9 (l : List Pln) (X : List Pt) (hl : l.length ≤ 1000000000) (hX : X.length ≤ 1000000000) : V7 ⟨l.length, bL tP l, X⟩ = ⟨1, if l.any (fun p => !keep X p) then ((l.findIdx (fun p => !keep X p) : Nat) : Int) else -1, X⟩ := by
 have h := gb6 (step := F6 ⟨l.length, (l.length : Int), bL tP l⟩) (mk := fun j => (⟨(j : Int), X⟩ : o5)) (c := fun p => !keep X p) (u := 1) (fin := 2) tP l hl
  (fun j hj => by
   simp only [F6, C9, Int.toNat_natCast, m0, m8, pc3 hj, Xb1 hj, Uc0 _ _ hX, o9 hj (show l.length ≤ 4611686018427387904 by omega)]
   rw [btD (n9 hj), bt (f0 hj)]
   rfl)
  (by simp only [F6, C9]; rw [bfD (P1 (Nat.lt_irrefl _))]) 0 (Nat.zero_le _)
 rw [List.drop_zero] at h
 unfold V7 D6
 simp only [m0, m8]
 rw [show (⟨0, X⟩ : o5) = ⟨((0 : Nat) : Int), X⟩ from rfl, h]
 cases ha : l.any fun p => !keep X p with
 | false => rfl
 | true =>
  have hf : l.findIdx (fun p => !keep X p) < l.length := by
   rw [List.any_eq_true] at ha
   obtain ⟨p, hp, hc⟩ := ha
   exact List.findIdx_lt_length_of_exists ⟨p, hp, hc⟩
  simp only [if_true, Nat.zero_add, Int.toNat_natCast, Xb1 hf, Uc0 _ _ hX, m0]
  rfl
theorem qc0 {α : Type} (c : α → Bool) : ∀ l : List α, (l.take (l.findIdx c)).filter (fun x => !c x) = l.take (l.findIdx c)
 | [] => rfl
 | x :: l => by
  rw [List.findIdx_cons]
  cases h : c x with
  | true => rfl
  | false =>
   simp only [cond_false, List.take_succ_cons, List.filter_cons, h, Bool.not_false, if_true]
   rw [qc0 c l]
theorem Pd3 {α : Type} (l : List α) (j : Nat) (h : j < l.length) : l.take (j + 1) = l.take j ++ [l[j]] := by rw [List.take_succ_eq_append_getElem h]
theorem Hc0 {α : Type} (t : Ty α) {l : List α} {j : Nat} (h : j < l.length) : l.take (j + 1) = l.take j ++ [gL t l j] := by rw [Pd3 l j h, Ya8 t h]
theorem xc0 {α : Type} (t : Ty α) {l r : List α} {j : Nat} (h : l.drop j = r.drop j) : gL t l j = gL t r j := by
 have h1 := oc1 t l j 0
 have h2 := oc1 t r j 0
 rw [Nat.add_zero] at h1 h2
 rw [← h1, ← h2, h]
theorem qc1 {α : Type} {l r : List α} {j : Nat} (h : l.drop j = r.drop j) (k : Nat) : l.drop (j + k) = r.drop (j + k) := by rw [← List.drop_drop, ← List.drop_drop, h]
structure Del (l : List Pln) (f : Pln → Bool) (cur : List Pln) (m j : Nat) : Prop where
 len : cur.length = l.length
 t : cur.take m = (l.take j).filter f
 d : cur.drop j = l.drop j
 le : m ≤ j
 lm : m ≤ l.length
theorem Fd8 (l : List Pln) (X : List Pt) (hl : l.length ≤ 1000000000) (hX : X.length ≤ 1000000000) (m j : Nat) (cur : List Pln) (hd : Del l (keep X) cur m j) :
  ∃ t s, lp (A2 ⟨l.length⟩) ⟨(m : Int), (j : Int), bL tP cur, X⟩ = (t, s) ∧ (t = 1 ∧ ∃ m' cur' k, s = ⟨((m' : Nat) : Int), ((k : Nat) : Int), bL tP cur', X⟩ ∧ Del l (keep X) cur' m' k ∧ l.length ≤ k) := by
 refine ua0 (step := A2 ⟨l.length⟩) (mk := fun j (x : Nat × List Pln) => (⟨(x.1 : Int), (j : Int), bL tP x.2, X⟩ : q9)) l.length (fun j x => Del l (keep X) x.2 x.1 j) (fun t s => t = 1 ∧ ∃ m' cur' k, s = ⟨((m' : Nat) : Int), ((k : Nat) : Int), bL tP cur', X⟩ ∧ Del l (keep X) cur' m' k ∧ l.length ≤ k) hl (fun j x hj hx => ?_) (fun j x hj hx => ?_) j (m, cur) hd
 ·obtain ⟨m, cur⟩ := x
  obtain ⟨h1, h2, h3, h4, h5⟩ := hx
  simp only at h1 h2 h3 h4 h5
  have hjc : j < cur.length := by omega
  have hmc : m < cur.length := by omega
  have hg : gL tP cur j = gL tP l j := xc0 tP h3
  have hWm : W ((m : Int) + 1) = ((m + 1 : Nat) : Int) := by rw [Ga0 (by omega) (by omega)]; omega
  have hb : Nat.blt m cur.length = true := by rw [Nat.blt_eq]; exact hmc
  have hrow : f7 (bL tP cur) m = tP.row (gL tP cur m) := X5 tP hmc
  have sp : ∀ (v : Pln) (x1 x2 x3 x4 : Int), M4 (tP.row v) 0 [i x1, i x2, i x3, i x4] = tP.row ⟨⟨x1, x2, x3⟩, x4⟩ := fun _ _ _ _ _ => rfl
  have rl : ∀ v : Pln, Nat.ble (0 + 4) (len (tP.row v)) = true := fun _ => rfl
  simp only [A2, D0, Int.toNat_natCast, m0, m8, pc3 hjc, Xb1 hjc, Uc0 _ _ hX, o9 hj (show l.length ≤ 4611686018427387904 by omega), hWm]
  rw [btD (n9 hj), bt (f0 hj)]
  simp only [Nat.zero_add, hrow, O5, hb, sp, Ab0, f0 (show m < l.length by omega), hg]
  have ht := Hc0 tP hj
  have hd1 : cur.drop (j + 1) = l.drop (j + 1) := qc1 h3 1
  cases hk : keep X (gL tP l j) with
  | true =>
   refine .nx ⟨(m + 1, cur.set m (gL tP l j)), rfl, ⟨by rw [List.length_set]; exact h1, ?_, ?_, by omega, by show m + 1 ≤ l.length; omega⟩⟩
   ·show (cur.set m (gL tP l j)).take (m + 1) = _
    rw [ht, List.filter_append, List.take_succ_eq_append_getElem (by rw [List.length_set]; exact hmc), List.getElem_set_self, List.take_set_of_le (Nat.le_refl _), h2, List.filter_cons, hk, if_pos rfl, List.filter_nil]
   ·show (cur.set m (gL tP l j)).drop (j + 1) = _
    rw [List.drop_set_of_lt (by omega), hd1]
  | false =>
   refine .nx ⟨(m, cur), rfl, ⟨h1, ?_, hd1, by omega, h5⟩⟩
   show cur.take m = _
   rw [ht, List.filter_append, h2, List.filter_cons, hk, if_neg (by simp), List.filter_nil, List.append_nil]
 ·obtain ⟨m, cur⟩ := x
  refine ⟨1, ?_, rfl, m, cur, j, rfl, hx, hj⟩
  simp only [A2, D0]
  rw [bfD (by omega)]
theorem Ud4 (l : List Pln) (n : Nat) : G6 (bL tP l) n = bL tP (l.take n) := by unfold bL; rw [E4, n8, n8, List.map_take]
theorem sd9 (l : List Pln) (n : Nat) : e7 (bL tP l) n = bL tP (l.drop n) := by unfold bL; rw [E5, n8, n8, List.map_drop]
theorem Ud5 (n : Nat) : List.replicate n [i 0, i 0, i 0, i 0] = bL tP (List.replicate n ⟨⟨0, 0, 0⟩, 0⟩) := by unfold bL; rw [n8, List.map_replicate]; rfl
theorem jd3 (l : List Pln) (X : List Pt) (hl : l.length ≤ 1000000000) (hX : X.length ≤ 1000000000) :
  ∃ m r, D8 ⟨l.length, bL tP l, X⟩ = ⟨1, m, bL tP r, X⟩ ∧ m ≤ r.length ∧ r.take m = l.filter (keep X) ∧ r.length = l.length := by
 unfold D8 D7
 simp only [m0, m8, Be9 l X hl hX]
 cases ha : l.any fun p => !keep X p with
 | false =>
  refine ⟨l.length, l, rfl, Nat.le_refl _, ?_, rfl⟩
  rw [List.take_length]
  symm
  rw [List.filter_eq_self]
  intro p hp
  have := List.any_eq_false.1 ha p hp
  simpa using this
 | true =>
  have hf : l.findIdx (fun p => !keep X p) < l.length := by
   rw [List.any_eq_true] at ha
   obtain ⟨p, hp, hc⟩ := ha
   exact List.findIdx_lt_length_of_exists ⟨p, hp, hc⟩
  have hk : keep X (gL tP l (l.findIdx fun p => !keep X p)) = false := by
   have := List.findIdx_getElem (xs := l) (p := fun p => !keep X p) (w := hf)
   rw [Ya8 tP hf]
   simpa using this
  have ht := qc0 (fun p => !keep X p) l
  simp only [Bool.not_not] at ht
  generalize hF : l.findIdx (fun p => !keep X p) = F at *
  have hW : W ((F : Int) + 1) = ((F + 1 : Nat) : Int) := o9 hf (by omega)
  have hne : ((F : Int) == -1) = false := by rw [beq_eq_false_iff_ne]; omega
  obtain ⟨t, s, e1, rfl, m, cur, k, e2, e3, e4⟩ := Fd8 l X hl hX F (F + 1) l ⟨rfl, by rw [Hc0 tP hf, List.filter_append, ht, List.filter_cons, hk, if_neg (by simp), List.filter_nil, List.append_nil], rfl, by omega, by omega⟩
  have hm : m ≤ l.length := e3.lm
  have hin : inB (m : Int) (l.length + 1) = true := f0 (by omega)
  have hfin : cur.take m = l.filter (keep X) := by rw [e3.t, List.take_of_length_le e4]
  simp only [if_true, hW, hne, e1, e2, Int.toNat_natCast, hin, Nat.zero_add, Nat.sub_zero]
  refine ⟨m, cur.take m ++ (List.replicate (l.length - m) ⟨⟨0, 0, 0⟩, 0⟩ ++ cur.drop (m + (l.length - m))), ?_, ?_, ?_, ?_⟩
  ·rw [Ud4, Ud5, sd9, La7, La7]
   rfl
  ·rw [List.length_append, List.length_append, List.length_take, List.length_replicate, e3.len]; omega
  ·rw [List.take_append_of_le_length (by rw [List.length_take, e3.len]; omega), List.take_take, Nat.min_self, hfin]
  ·rw [List.length_append, List.length_append, List.length_take, List.length_replicate, List.length_drop, e3.len]; omega
def eqP (x y : Pln) : Bool := x.n.x == y.n.x && (x.n.y == y.n.y && (x.n.z == y.n.z && (x.b == y.b && true)))
theorem vb4 (x y : Pln) : eqP x y = true ↔ x = y := by
 unfold eqP
 simp only [Bool.and_true, Bool.and_eq_true, beq_iff_eq]
 refine ⟨fun ⟨h1, h2, h3, h4⟩ => ?_, fun h => by subst h; exact ⟨rfl, rfl, rfl, rfl⟩⟩
 obtain ⟨⟨x1, x2, x3⟩, x4⟩ := x
 obtain ⟨⟨y1, y2, y3⟩, y4⟩ := y
 simp only at h1 h2 h3 h4
 subst h1 h2 h3 h4
 rfl
def ddF : Pln → List Pln → List Pln
 | _, [] => []
 | a, x :: l => if eqP x a then ddF x l else x :: ddF x l
def dd : List Pln → List Pln
 | [] => []
 | x :: l => x :: ddF x l
theorem Ud6 : ∀ (a : Pln) (l : List Pln), (ddF a l).length ≤ l.length
 | _, [] => Nat.le_refl _
 | a, x :: l => by
  have := Ud6 x l
  unfold ddF
  split <;> simp only [List.length_cons] <;> omega
structure Cmp (l : List Pln) (n : Nat) (cur : List Pln) (m j : Nat) (R : List Pln) : Prop where
 len : cur.length = l.length
 t : cur.take m ++ ddF (gL tP l (j - 1)) ((l.take n).drop j) = R
 d : cur.drop (j - 1) = l.drop (j - 1)
 le : m + 1 ≤ j
theorem td0 (l : List Pln) (n o : Nat) (hn : n ≤ l.length) (hl : l.length ≤ 1000000000) (ho : o < n) (m : Nat) (cur : List Pln) (R : List Pln) (hd : Cmp l n cur m (o + 1) R) :
  ∃ t s, lp (q8 ⟨n, 0 + o, n - o⟩) ⟨(m : Int), ((1 : Nat) : Int), bL tP cur⟩ = (t, s) ∧ (t = 1 ∧ ∃ m' cur' k, s = ⟨((m' : Nat) : Int), k, bL tP cur'⟩ ∧ cur'.length = l.length ∧ cur'.take m' = R ∧ m' ≤ n) := by
 refine ua0 (step := q8 ⟨n, 0 + o, n - o⟩) (mk := fun j (x : Nat × List Pln) => (⟨(x.1 : Int), (j : Int), bL tP x.2⟩ : o8)) (n - o) (fun j x => Cmp l n x.2 x.1 (o + j) R ∧ 1 ≤ j ∧ x.1 ≤ n) (fun t s => t = 1 ∧ ∃ m' cur' k, s = ⟨((m' : Nat) : Int), k, bL tP cur'⟩ ∧ cur'.length = l.length ∧ cur'.take m' = R ∧ m' ≤ n) (by omega) (fun j x hj hx => ?_) (fun j x hj hx => ?_) 1 (m, cur) ⟨hd, Nat.le_refl _, by have := hd.le; show m ≤ n; omega⟩
 ·obtain ⟨m, cur⟩ := x
  obtain ⟨⟨h1, h2, h3, h4⟩, hj1, hmn⟩ := hx
  simp only at h1 h2 h3 h4 hmn
  have hoj : o + j < n := by omega
  have hjc : o + j < cur.length := by omega
  have hjc' : o + (j - 1) < cur.length := by omega
  have hmc : m < cur.length := by omega
  have hg' : gL tP cur (o + (j - 1)) = gL tP l (o + j - 1) := by rw [show o + (j - 1) = o + j - 1 by omega]; exact xc0 tP h3
  have hd1 : cur.drop (o + j) = l.drop (o + j) := by have := qc1 h3 1; rw [show o + j - 1 + 1 = o + j by omega] at this; exact this
  have hg : gL tP cur (o + j) = gL tP l (o + j) := xc0 tP hd1
  have hWm : W ((m : Int) + 1) = ((m + 1 : Nat) : Int) := by rw [Ga0 (by omega) (by omega)]; omega
  have hWj : W ((j : Int) - 1) = ((j - 1 : Nat) : Int) := by rw [Ga0 (by omega) (by omega)]; omega
  have hb : Nat.blt m cur.length = true := by rw [Nat.blt_eq]; exact hmc
  have hrow : f7 (bL tP cur) m = tP.row (gL tP cur m) := X5 tP hmc
  have sp : ∀ (v : Pln) (x1 x2 x3 x4 : Int), M4 (tP.row v) 0 [i x1, i x2, i x3, i x4] = tP.row ⟨⟨x1, x2, x3⟩, x4⟩ := fun _ _ _ _ _ => rfl
  have rl : ∀ v : Pln, Nat.ble 4 (len (tP.row v)) = true := fun _ => rfl
  simp only [q8, K1, Int.toNat_natCast, Nat.zero_add, hWj, md9 tP hjc, md9 tP hjc', md8 tP hjc, md8 tP hjc', o9 hj (show n - o ≤ 4611686018427387904 by omega), hWm, hg, hg', hrow, O5, hb, sp, rl, Ab0, f0 (show m < n by omega)]
  rw [btD (n9 hj)]
  simp only [f0 hj, f0 (show j - 1 < n - o by omega), q7, Bool.and_self]
  rw [show ((gL tP l (o + j)).n.x == (gL tP l (o + j - 1)).n.x && ((gL tP l (o + j)).n.y == (gL tP l (o + j - 1)).n.y && ((gL tP l (o + j)).n.z == (gL tP l (o + j - 1)).n.z && ((gL tP l (o + j)).b == (gL tP l (o + j - 1)).b && true)))) = eqP (gL tP l (o + j)) (gL tP l (o + j - 1)) from rfl]
  have hcons : (l.take n).drop (o + j) = gL tP l (o + j) :: (l.take n).drop (o + (j + 1)) := by
   rw [List.drop_eq_getElem_cons (by rw [List.length_take]; omega), List.getElem_take, Ya8 tP (by omega)]
   rfl
  rw [hcons] at h2
  have hlast : o + (j + 1) - 1 = o + j := by omega
  unfold ddF at h2
  cases he : eqP (gL tP l (o + j)) (gL tP l (o + j - 1)) with
  | true =>
   rw [he] at h2
   simp only [if_true] at h2
   refine .nx ⟨(m, cur), rfl, ⟨⟨h1, ?_, ?_, by show m + 1 ≤ o + (j + 1); omega⟩, by omega, hmn⟩⟩
   ·rw [hlast]; exact h2
   ·rw [hlast]; exact hd1
  | false =>
   rw [he] at h2
   simp only [Bool.false_eq_true, if_false] at h2
   refine .nx ⟨(m + 1, cur.set m (gL tP l (o + j))), rfl, ⟨⟨by rw [List.length_set]; exact h1, ?_, ?_, by show m + 1 + 1 ≤ o + (j + 1); omega⟩, by omega, by show m + 1 ≤ n; omega⟩⟩
   ·rw [hlast]
    show (cur.set m (gL tP l (o + j))).take (m + 1) ++ _ = R
    rw [List.take_succ_eq_append_getElem (by rw [List.length_set]; exact hmc), List.getElem_set_self, List.take_set_of_le (Nat.le_refl _), List.append_assoc]
    exact h2
   ·rw [hlast]
    show (cur.set m (gL tP l (o + j))).drop (o + j) = _
    rw [List.drop_set_of_lt (by omega), hd1]
 ·obtain ⟨m, cur⟩ := x
  obtain ⟨⟨h1, h2, h3, h4⟩, hj1, hmn⟩ := hx
  simp only at h1 h2 h3 h4 hmn
  refine ⟨1, ?_, rfl, m, cur, _, rfl, h1, ?_, hmn⟩
  ·simp only [q8, K1]
   rw [bfD (by omega)]
  ·rw [List.drop_eq_nil_of_le (by rw [List.length_take]; omega)] at h2
   unfold ddF at h2
   rw [List.append_nil] at h2
   exact h2
theorem Uc1 (l : List Pln) (n : Nat) (hn : n ≤ l.length) (hl : l.length ≤ 1000000000) :
  ∃ m r, T1 ⟨n, bL tP l⟩ = ⟨1, m, bL tP r⟩ ∧ m ≤ r.length ∧ r.take m = dd (l.take n) := by
 unfold T1 L0
 simp only
 by_cases h2 : (n : Int) < 2
 ·rw [btD h2]
  refine ⟨n, l, rfl, hn, ?_⟩
  have : n = 0 ∨ n = 1 := by omega
  rcases this with rfl | rfl
  ·rfl
  ·cases l with
   | nil => rfl
   | cons x l => rfl
 ·rw [bfD h2]
  have h1n : 1 ≤ n := by omega
  have hI : ∀ j, j < n → 1 ≤ j → l.take j ++ ddF (gL tP l (j - 1)) ((l.take n).drop j) = dd (l.take n) →
    (eqP (gL tP l j) (gL tP l (j - 1)) = true → Cmp l n l j (j + 1) (dd (l.take n))) ∧ (eqP (gL tP l j) (gL tP l (j - 1)) = false → l.take (j + 1) ++ ddF (gL tP l (j + 1 - 1)) ((l.take n).drop (j + 1)) = dd (l.take n)) := by
   intro j hj hj1 hR
   have hcons : (l.take n).drop j = gL tP l j :: (l.take n).drop (j + 1) := by
    rw [List.drop_eq_getElem_cons (by rw [List.length_take]; omega), List.getElem_take, Ya8 tP (by omega)]
   rw [hcons] at hR
   unfold ddF at hR
   constructor
   ·intro he
    rw [he] at hR
    simp only [if_true] at hR
    exact ⟨rfl, hR, rfl, Nat.le_refl _⟩
   ·intro he
    rw [he] at hR
    simp only [Bool.false_eq_true, if_false] at hR
    rw [Hc0 tP (show j < l.length by omega), List.append_assoc]
    exact hR
  have inner : ∀ k, k < n → 1 ≤ k → Cmp l n l k (k + 1) (dd (l.take n)) → ∃ m' cur' k', lp (q8 ⟨n, 0 + k, n - k⟩) ⟨(k : Int), 1, bL tP l⟩ = (1, ⟨((m' : Nat) : Int), k', bL tP cur'⟩) ∧ cur'.length = l.length ∧ cur'.take m' = dd (l.take n) ∧ m' ≤ n := by
   intro k hk hk1 hc
   obtain ⟨t, s, e1, rfl, m', cur', k', rfl, e2, e3, e4⟩ := td0 l n k hn hl hk k l _ hc
   exact ⟨m', cur', k', e1, e2, e3, e4⟩
  have key := ua0 (step := L9 ⟨n, bL tP l⟩) (mk := fun j (_ : Unit) => (⟨(j : Int)⟩ : r6)) n (fun j _ => 1 ≤ j ∧ j ≤ n ∧ l.take j ++ ddF (gL tP l (j - 1)) ((l.take n).drop j) = dd (l.take n))
   (fun t s => (t = 1 ∧ ∃ k : Nat, s = ⟨(k : Int)⟩ ∧ k < n ∧ 1 ≤ k ∧ Cmp l n l k (k + 1) (dd (l.take n))) ∨ (t = 2 ∧ l.take n = dd (l.take n))) (by omega) (fun j x hj hx => ?_) (fun j x hj hx => ?_) 1 () ⟨Nat.le_refl _, h1n, by
    cases l with
    | nil => simp only [List.length_nil] at hn; omega
    | cons x l =>
     cases n with
     | zero => omega
     | succ n => rfl⟩
  ·obtain ⟨t, s, e1, e2⟩ := key
   rw [show (⟨1⟩ : r6) = ⟨((1 : Nat) : Int)⟩ from rfl, e1]
   rcases e2 with ⟨rfl, k, rfl, hk, hk1, hc⟩ | ⟨rfl, he⟩
   ·obtain ⟨m', cur', k', e2, e3, e4, e5⟩ := inner k hk hk1 hc
    simp only [Int.toNat_natCast, e2]
    simp only [Nat.zero_add, Nat.sub_zero]
    refine ⟨m', cur'.take m' ++ (List.replicate (n - m') ⟨⟨0, 0, 0⟩, 0⟩ ++ cur'.drop (m' + (n - m'))), ?_, ?_, ?_⟩
    ·rw [Ud4, Ud5, sd9, La7, La7]
     rfl
    ·rw [List.length_append, List.length_take, e3]; omega
    ·rw [List.take_append_of_le_length (by rw [List.length_take, e3]; omega), List.take_take, Nat.min_self, e4]
   ·exact ⟨n, l, rfl, hn, he⟩
  ·obtain ⟨hj1, hjn, hR⟩ := hx
   obtain ⟨i1, i2⟩ := hI j hj hj1 hR
   have hWj : W ((j : Int) - 1) = ((j - 1 : Nat) : Int) := by rw [Ga0 (by omega) (by omega)]; omega
   have hjl : j < l.length := by omega
   have hjl' : j - 1 < l.length := by omega
   simp only [L9, K2, Int.toNat_natCast, hWj, pc3 hjl, pc3 hjl', Xb1 hjl, Xb1 hjl', o9 hj (show n ≤ 4611686018427387904 by omega)]
   rw [btD (n9 hj), bt (f0 hj), bt (f0 (show j - 1 < n by omega)), bt (f0 (show j < n + 1 by omega))]
   simp only [q7]
   rw [show ((gL tP l j).n.x == (gL tP l (j - 1)).n.x && ((gL tP l j).n.y == (gL tP l (j - 1)).n.y && ((gL tP l j).n.z == (gL tP l (j - 1)).n.z && ((gL tP l j).b == (gL tP l (j - 1)).b && true)))) = eqP (gL tP l j) (gL tP l (j - 1)) from rfl]
   cases he : eqP (gL tP l j) (gL tP l (j - 1)) with
   | false => exact .nx ⟨(), rfl, by omega, by omega, i2 he⟩
   | true =>
    obtain ⟨m', cur', k', e2, e3, e4, e5⟩ := inner j hj hj1 (i1 he)
    rw [e2]
    simp only [f0 (show m' < n + 1 by omega)]
    exact .ex (.inl ⟨rfl, j, rfl, hj, hj1, i1 he⟩)
  ·obtain ⟨hj1, hjn, hR⟩ := hx
   refine ⟨2, ?_, .inr ⟨rfl, ?_⟩⟩
   ·simp only [L9, K2]
    rw [bfD (by omega)]
   ·have : j = n := by omega
    subst this
    rw [List.drop_eq_nil_of_le (by rw [List.length_take]; omega)] at hR
    unfold ddF at hR
    rw [List.append_nil] at hR
    exact hR
theorem pe5 (l : List Pln) (n : Nat) (hn : n ≤ l.length) : slR tP (bL tP l) 0 n = l.take n := Lc0 tP (by rw [List.length_take]; omega) fun k hk => by
 rw [Nat.zero_add, X5 tP (by omega)]
 congr 1
 simp [gL, List.getD_eq_getElem?_getD, List.getElem?_take, hk]
theorem pe6 (l : List Pln) (n : Nat) (hn : n ≤ l.length) : okS tP (bL tP l) 0 n = true := Eb6 tP (f := fun k => gL tP l k) fun k hk => by rw [Nat.zero_add, X5 tP (by omega)]
noncomputable def lean (c : List Pln) : List Pln := if ful c then dd (Ja3 (c.filter (keep (pts c)))) else []
theorem Ud7 (p : Pln) (c : List Pln) (hc : c.length ≤ 1000000) : Rd (one (r1L tP)) (cb0 (p, c)) (fun r => r = lean (p :: c)) := by
 have hl : (p :: c).length ≤ 1000000000 := by simp only [List.length_cons]; omega
 have hX := oc9 (p :: c)
 unfold cb0 lean
 simp only [m0, J9, m8, Re5, Re6, Rb6 hl, Rb7 hl, ob0 hl, ob1 hl]
 cases hf : ful (p :: c) with
 | false => exact ⟨_, [], rfl, rfl, rfl⟩
 | true =>
  have ec : o7 (fun k => tP.row (gL tP (p :: c) k)) (List.range (c.length + 1)) = bL tP (p :: c) := lb3 tP (p :: c)
  have hcl : na1 (p, c) = ⟨1, (p :: c).length, bL tP (p :: c)⟩ := by
   unfold na1 P4
   simp only [ec, O5]
   have z : Nat.beq (p :: c).length 0 = false := rfl
   have r : Nat.ble ((0 + (p :: c).length) * 32) room = true := da8 (by simp only [List.length_cons]; omega)
   rw [z, r, Nat.zero_add]
   rfl
  obtain ⟨m, r, e1, e2, e3, e4⟩ := jd3 (p :: c) (pts (p :: c)) hl (by omega)
  have hm : m ≤ (p :: c).length := by
   have h1 := congrArg List.length e3
   have h2 := List.length_filter_le (keep (pts (p :: c))) (p :: c)
   rw [List.length_take] at h1
   omega
  have hs : (Ja3 (r.take m)).length = m := by rw [Xb2, List.length_take]; omega
  have hrows : app (bL tP (Ja3 (r.take m))) (e7 (bL tP r) m) = bL tP (Ja3 (r.take m) ++ r.drop m) := by rw [sd9, La7]
  have hok : okL tP (c.length + 1) (fun k => tP.row (gL tP (p :: c) k)) = true := Eb6 tP (f := fun k => gL tP (p :: c) k) fun _ _ => rfl
  simp only [hcl, e1, pe5 r m e2, pe6 r m e2, hrows, hok]
  obtain ⟨m2, r2, k1, k2, k3⟩ := Uc1 (Ja3 (r.take m) ++ r.drop m) m (by rw [List.length_append, hs]; omega) (by rw [List.length_append, hs, List.length_drop, e4]; omega)
  rw [k1, O5]
  have q1 : Nat.ble m room = true := by rw [Nat.ble_eq]; unfold room; simp only [List.length_cons] at hm; omega
  have q2 : Nat.ble m r.length = true := by rw [Nat.ble_eq]; exact e2
  rw [q1, q2]
  have hfin : r2.take m2 = dd (Ja3 ((p :: c).filter (keep (pts (p :: c))))) := by
   rw [k3, List.take_append_of_le_length (by rw [hs]; omega), List.take_of_length_le (by rw [hs]; omega), e3]
  exact Pd0 k2 rfl hfin
theorem pe7 (p : Pln) (c : List Pln) (hc : c.length ≤ 1000000) : Tb3 (p, c) = lean (p :: c) := (Ud7 p c hc).p
theorem pe8 (p : Pln) (c : List Pln) (hc : c.length ≤ 1000000) : Tb4 (p, c) = true := (Ud7 p c hc).g
end Go.Ev.Ce
namespace Go.Ev.Ce
open Go Go.Ev Go.Ev.L Go.Proofs Go.Sort
theorem gc3 (l : List Pln) : List.Perm (Ja3 l) l := List.mergeSort_perm l _
theorem ce6 (x y z : Pln) (h1 : (!ltOf ja6 y x) = true) (h2 : (!ltOf ja6 z y) = true) : (!ltOf ja6 z x) = true := by
 simp only [Bool.not_eq_true', Wa8, decide_eq_false_iff_not] at *
 unfold LtP at *
 omega
theorem ce7 (x y : Pln) : ((!ltOf ja6 y x) || !ltOf ja6 x y) = true := by
 simp only [Bool.or_eq_true, Bool.not_eq_true', Wa8, decide_eq_false_iff_not]
 unfold LtP
 omega
theorem qc2 (l : List Pln) : (Ja3 l).Pairwise fun x y => (!ltOf ja6 y x) = true := List.pairwise_mergeSort ce6 ce7 l
theorem td1 {l r : List Pln} (hp : List.Perm r l) (hs : r.Pairwise fun x y => (!ltOf ja6 y x) = true) : Ja3 l = r :=
 List.Perm.eq_of_pairwise (fun x y _ _ h1 h2 => Ye3 x y (by simpa using h2) (by simpa using h1)) (qc2 l) hs ((gc3 l).trans hp.symm)
instance : DecidableEq Pln := fun x y => decidable_of_iff _ (vb4 x y)
def U6 : List Pln := [⟨⟨1, 0, 0⟩, 1⟩, ⟨⟨-1, 0, 0⟩, 0⟩, ⟨⟨0, 1, 0⟩, 1⟩, ⟨⟨0, -1, 0⟩, 0⟩, ⟨⟨0, 0, 1⟩, 1⟩, ⟨⟨0, 0, -1⟩, 0⟩]
def U8 : List Pln := [⟨⟨-1, 0, 0⟩, 0⟩, ⟨⟨0, 1, 0⟩, 1⟩, ⟨⟨0, -1, 0⟩, 0⟩, ⟨⟨0, 0, 1⟩, 1⟩, ⟨⟨0, 0, -1⟩, 0⟩, ⟨⟨1, 0, 0⟩, 1⟩, ⟨⟨1, 1, 1⟩, 3⟩, ⟨⟨1, 0, 0⟩, 7⟩]
def C4 : List Pln := [⟨⟨-1, 0, 0⟩, 0⟩, ⟨⟨0, -1, 0⟩, 0⟩, ⟨⟨0, 0, -1⟩, 0⟩, ⟨⟨2, 3, 4⟩, 1⟩]
def U7 : List Pln := [⟨⟨1, 0, 0⟩, 1⟩, ⟨⟨-1, 0, 0⟩, 0⟩, ⟨⟨0, 1, 0⟩, 1⟩, ⟨⟨0, -1, 0⟩, 0⟩, ⟨⟨0, 0, 1⟩, 1⟩, ⟨⟨0, 0, -1⟩, 0⟩, ⟨⟨-1, 0, 0⟩, -1⟩]
def LU : List Pln := [⟨⟨-1, 0, 0⟩, 0⟩, ⟨⟨0, -1, 0⟩, 0⟩, ⟨⟨0, 0, -1⟩, 0⟩, ⟨⟨0, 0, 1⟩, 1⟩, ⟨⟨0, 1, 0⟩, 1⟩, ⟨⟨1, 0, 0⟩, 1⟩]
def PU : List Pt := [⟨1, 1, 1, 1⟩, ⟨1, 1, 0, 1⟩, ⟨1, 0, 1, 1⟩, ⟨1, 0, 0, 1⟩, ⟨0, 1, 1, 1⟩, ⟨0, 1, 0, 1⟩, ⟨0, 0, 1, 1⟩, ⟨0, 0, 0, 1⟩]
def PC : List Pt := [⟨0, 0, 0, 1⟩, ⟨0, 0, 1, 4⟩, ⟨0, 1, 0, 3⟩, ⟨1, 0, 0, 2⟩]
theorem Ne8 : pts U6 = PU := by kernel_rfl
theorem Ne9 : pts C4 = PC := by kernel_rfl
theorem td2 : ful [] = true := by kernel_rfl
theorem Oe0 : ful U7 = false := by kernel_rfl
theorem Oe1 : has U6 ⟨1, 0, 0⟩ = true := by kernel_rfl
theorem Oe2 : has U6 ⟨2, 0, 0⟩ = false := by kernel_rfl
theorem Ye7 : bnd C4 = (⟨0, 0, 0⟩, ⟨1, 1, 1⟩, true) := by kernel_rfl
theorem Ye8 : apart U6 [⟨⟨-1, 0, 0⟩, -1⟩] = true := by kernel_rfl
theorem Ye9 : apart U6 [⟨⟨-1, -1, 0⟩, -1⟩] = false := by kernel_rfl
theorem Ze0 : ce5 U6 [⟨⟨1, 1, 1⟩, 3⟩] = true := by kernel_rfl
theorem Ze1 : ce5 U6 [⟨⟨1, 1, 1⟩, 2⟩] = false := by kernel_rfl
theorem Ze2 : chk [⟨⟨0, 0, 0⟩, 0⟩] = 12 := by kernel_rfl
theorem Ze3 : (⟨⟨1, 0, 0⟩, 1⟩ :: U8).filter (keep (pts (⟨⟨1, 0, 0⟩, 1⟩ :: U8))) = [⟨⟨1, 0, 0⟩, 1⟩, ⟨⟨-1, 0, 0⟩, 0⟩, ⟨⟨0, 1, 0⟩, 1⟩, ⟨⟨0, -1, 0⟩, 0⟩, ⟨⟨0, 0, 1⟩, 1⟩, ⟨⟨0, 0, -1⟩, 0⟩, ⟨⟨1, 0, 0⟩, 1⟩] := by kernel_rfl
theorem Oe3 : ful (⟨⟨1, 0, 0⟩, 1⟩ :: U8) = true := by kernel_rfl
theorem Oe4 : lean (⟨⟨1, 0, 0⟩, 1⟩ :: U8) = LU := by
 unfold lean
 rw [Oe3, if_pos rfl, Ze3, td1 (r := [⟨⟨-1, 0, 0⟩, 0⟩, ⟨⟨0, -1, 0⟩, 0⟩, ⟨⟨0, 0, -1⟩, 0⟩, ⟨⟨0, 0, 1⟩, 1⟩, ⟨⟨0, 1, 0⟩, 1⟩, ⟨⟨1, 0, 0⟩, 1⟩, ⟨⟨1, 0, 0⟩, 1⟩])]
 ·rfl
 ·exact List.isPerm_iff.1 (by kernel_rfl)
 ·exact of_decide_eq_true (by kernel_rfl)
theorem Ce0 : Ib3 = ⟨1, 0, 1, 0, 1, 0⟩ := by kernel_rfl
theorem jd4 : Da3 = some (b true, []) := by
 have le : ∀ {c : List Pln}, c.length ≤ 100 → c.length ≤ 1000000000 := fun h => by omega
 have le' : ∀ {c : List Pln}, c.length ≤ 100 → c.length ≤ 100000000 := fun h => by omega
 have u : U6.length ≤ 100 := by decide
 have u7 : U7.length ≤ 100 := by decide
 have u8 : U8.length ≤ 1000000 := by decide
 have c4 : C4.length ≤ 100 := by decide
 have n0 : ([] : List Pln).length ≤ 100 := by decide
 have o1 : ∀ p : Pln, [p].length ≤ 100 := fun _ => (by decide : 1 ≤ 100)
 unfold Da3
 rw [Ce0]
 simp only [m0, J9]
 rw [show ([⟨⟨1, 0, 0⟩, 1⟩, ⟨⟨-1, 0, 0⟩, 0⟩, ⟨⟨0, 1, 0⟩, 1⟩, ⟨⟨0, -1, 0⟩, 0⟩, ⟨⟨0, 0, 1⟩, 1⟩, ⟨⟨0, 0, -1⟩, 0⟩, ⟨⟨-1, 0, 0⟩, -1⟩] : List Pln) = U7 from rfl,
  show ([⟨⟨-1, 0, 0⟩, 0⟩, ⟨⟨0, 1, 0⟩, 1⟩, ⟨⟨0, -1, 0⟩, 0⟩, ⟨⟨0, 0, 1⟩, 1⟩, ⟨⟨0, 0, -1⟩, 0⟩, ⟨⟨1, 0, 0⟩, 1⟩, ⟨⟨1, 1, 1⟩, 3⟩, ⟨⟨1, 0, 0⟩, 7⟩] : List Pln) = U8 from rfl,
  show ([⟨⟨1, 0, 0⟩, 1⟩, ⟨⟨-1, 0, 0⟩, 0⟩, ⟨⟨0, 1, 0⟩, 1⟩, ⟨⟨0, -1, 0⟩, 0⟩, ⟨⟨0, 0, 1⟩, 1⟩, ⟨⟨0, 0, -1⟩, 0⟩] : List Pln) = U6 from rfl,
  show ([⟨⟨-1, 0, 0⟩, 0⟩, ⟨⟨0, -1, 0⟩, 0⟩, ⟨⟨0, 0, -1⟩, 0⟩, ⟨⟨2, 3, 4⟩, 1⟩] : List Pln) = C4 from rfl,
  show ([⟨⟨-1, 0, 0⟩, 0⟩, ⟨⟨0, -1, 0⟩, 0⟩, ⟨⟨0, 0, -1⟩, 0⟩, ⟨⟨0, 0, 1⟩, 1⟩, ⟨⟨0, 1, 0⟩, 1⟩, ⟨⟨1, 0, 0⟩, 1⟩] : List Pln) = LU from rfl]
 simp only [ob0 (le u), ob1 (le u), ob0 (le c4), ob1 (le c4), Ne8, Ne9, pe7 _ U8 u8, pe8 _ U8 u8, Oe4, Rb6 (le n0), Rb7 (le n0), td2, Rb6 (le u7), Rb7 (le u7), Oe0,
  oe8 (le u), oe9 (le u), Oe1, Oe2, ze8 (le c4), ze9 (le c4), Ye7, Be3 (le' u) (le' (o1 _)), Be4 (le' u) (le' (o1 _)), Ye8, Ye9, pe1 (le u) (le (o1 _)), pe2 (le u) (le (o1 _)), Ze0, Ze1,
  Sd7 _ (le (o1 _)), Sd8 _ (le (o1 _)), Ze2]
 rw [show ([⟨1, 1, 1, 1⟩, ⟨1, 1, 0, 1⟩, ⟨1, 0, 1, 1⟩, ⟨1, 0, 0, 1⟩, ⟨0, 1, 1, 1⟩, ⟨0, 1, 0, 1⟩, ⟨0, 0, 1, 1⟩, ⟨0, 0, 0, 1⟩] : List Pt) = PU from rfl,
  show ([⟨0, 0, 0, 1⟩, ⟨0, 0, 1, 4⟩, ⟨0, 1, 0, 3⟩, ⟨1, 0, 0, 2⟩] : List Pt) = PC from rfl]
 simp only [pc1 PU (by decide), pc2 PU (by decide), pc1 PC (by decide), pc2 PC (by decide), me6 LU (by decide), me7 LU (by decide)]
 rfl
theorem pe9 : Ta3 = true := by unfold Ta3; rw [jd4]; rfl
theorem qe0 : Ta4 = true := by unfold Ta4; rw [jd4]; rfl
end Go.Ev.Ce
section
namespace Go.Ev.Ce
open Go Go.Ev Go.Ev.L Go.Proofs
set_option maxRecDepth 100000
noncomputable def Pd4 : List (Nat × Sum) := [(16, ub8), (109, Rb9), (110, Mc8)]
theorem Fd9 : i6 prog G Pd4 := ⟨Fb3, Wb6, gd9, trivial⟩
noncomputable def Cb3 (x : List Pln) (y : V3) : Option (b7 × List b8) := let t1 := (Na3 (rt tP x)); let t2 := (Ra9 y); let t3 := (mb3 (rt tP x) (⟨y.x, y.y, y.z, 1⟩ : Pt)); (sl (okE tP x) (sl (Na4 (rt tP x)) (sl (t1 == 0) (sl (Sa0 y) (sl t2 (sl (okE tP x) (sl (mb4 (rt tP x) (⟨y.x, y.y, y.z, 1⟩ : Pt)) (some ((b t3), [])) none) none) (some ((b false), []))) none) (some ((b false), []))) none) none)
noncomputable def Xb3 (x : List Pln) (y : V3) : Bool := K5 (one r1B) (Cb3 x y)
noncomputable def Xb4 (x : List Pln) (y : V3) : Bool := okO (one r1B) (Cb3 x y)
noncomputable def jd5 : Sum := oa1 (W7 tP) (R4 tV) (fun x y => .guard (Xb4 x y) (.ret ((one r1B).enc (Xb3 x y), [])))
theorem Pd5 : g9 prog G 29 jd5 := gb5 (bd b29 Fd9) (one r1B) (o := Cb3) fun x y => r9 (by kernel_rfl)
noncomputable def Uc2 : List (Nat × Sum) := [(180, yb1)]
theorem Gd0 : i6 prog G Uc2 := ⟨Sb1, trivial⟩
structure cb1 where
 c7 : List Pln
 f9 : Int
 b9 : Int
 g7 : Int
 d9 : Int
structure na2 where
 is5 : Int
noncomputable def td3 (p : cb1) (s : na2) : St := ⟨((eL tP p.c7) :: (.unk :: (.unk :: ((.ptr 0 0 0 0) :: (.unk :: ((i s.is5) :: (ra 43 []))))))), [⟨0, 4, [[(i p.f9), (i p.b9), (i p.g7), (i p.d9)]], true, false, 0⟩]⟩
noncomputable def Ja5 {α : Type} (k : na2 → α) (e : Nat → α) (z : α) (p : cb1) (s : na2) : α := let t1 := (Y7 (gL tP p.c7 s.is5.toNat) (⟨(⟨p.f9, p.b9, p.g7⟩ : V3), p.d9⟩ : Pln)); (sl (decide (s.is5 < (↑(List.length p.c7) : Int))) (sl (inB s.is5 (List.length p.c7)) (sl (Xa8 (gL tP p.c7 s.is5.toNat) (⟨(⟨p.f9, p.b9, p.g7⟩ : V3), p.d9⟩ : Pln)) (sl (decide (t1 < 0)) (k ⟨(W (s.is5 + 1))⟩) (e 1)) z) z) (e 2))
noncomputable def Ea9 (p : cb1) (s : na2) : Stp na2 := Ja5 .next .exit .fail p s
noncomputable def Tb6 : Lo cb1 na2 := ⟨En Uc2, 0, Ee4, [1, 1, 0, 4, 4], [0, 3, 5], .p, [⟨((.s (.c 4 (nL tP))) :: ((.s (.o .unk)) :: ((.s (.o .unk)) :: ((.s (.o (.ptr 0 0 0 0))) :: ((.s (.o .unk)) :: ((.s (.o (.int .i64))) :: (ru2 43 []))))))), [⟨0, 4, true, (some [[(.o (.int .i64)), (.o (.int .i64)), (.o (.int .i64)), (.o (.int .i64))]])⟩], fun a H => (⟨(rL tP (slT a 0)), (toI (slT (rwT (elT H 0) 0) 0)), (toI (slT (rwT (elT H 0) 0) 1)), (toI (slT (rwT (elT H 0) 0) 2)), (toI (slT (rwT (elT H 0) 0) 3))⟩, ⟨(toI (slT a 5))⟩)⟩], Ea9, [(some 0, fun p s => let t1 := (Y7 (gL tP p.c7 s.is5.toNat) (⟨(⟨p.f9, p.b9, p.g7⟩ : V3), p.d9⟩ : Pln)); ⟨((eL tP p.c7) :: (.unk :: (.unk :: ((.ptr 0 0 0 0) :: (.unk :: ((i s.is5) :: (.unk :: ((i s.is5) :: ((eL tP p.c7) :: ((i (↑(List.length p.c7) : Int)) :: ((b (decide (s.is5 < (↑(List.length p.c7) : Int)))) :: ((b true) :: ((eL tP p.c7) :: ((i s.is5) :: ((.tptr [(i (gL tP p.c7 s.is5.toNat).n.x), (i (gL tP p.c7 s.is5.toNat).n.y), (i (gL tP p.c7 s.is5.toNat).n.z), (i (gL tP p.c7 s.is5.toNat).b)]) :: ((.agg [(i (gL tP p.c7 s.is5.toNat).n.x), (i (gL tP p.c7 s.is5.toNat).n.y), (i (gL tP p.c7 s.is5.toNat).n.z), (i (gL tP p.c7 s.is5.toNat).b)]) :: ((.agg [(i p.f9), (i p.b9), (i p.g7), (i p.d9)]) :: ((i t1) :: ((b (decide (t1 < 0))) :: ((b (decide (t1 < 0))) :: (ra 29 []))))))))))))))))))))), [⟨0, 4, [[(i p.f9), (i p.b9), (i p.g7), (i p.d9)]], true, false, 0⟩]⟩), (some 0, fun p s => ⟨((eL tP p.c7) :: (.unk :: (.unk :: ((.ptr 0 0 0 0) :: (.unk :: ((i s.is5) :: (.unk :: ((i s.is5) :: ((eL tP p.c7) :: ((i (↑(List.length p.c7) : Int)) :: ((b (decide (s.is5 < (↑(List.length p.c7) : Int)))) :: ((b false) :: (u :: (u :: (u :: (u :: (u :: (u :: (u :: ((b false) :: (ra 29 []))))))))))))))))))))), [⟨0, 4, [[(i p.f9), (i p.b9), (i p.g7), (i p.d9)]], true, false, 0⟩]⟩)], td3⟩
theorem td4 : Tb6.Ok := Lo.ok [] (by kernel_rfl) .nil rfl (.cons (fun a H => by kernel_rfl) .nil) fun p s => (.of @Ja5 (fun F _ _ _ _ _ => by unfold Ja5; (repeat' apply k9 (f := F)) <;> rfl) (by kernel_rfl))
noncomputable def Cb4 (x : List Pln) (y : Pln) : Option (b7 × List b8) := let t1 := (lp (Ea9 (⟨(rt tP x), y.n.x, y.n.y, y.n.z, y.b⟩ : cb1)) (⟨0⟩ : na2)); let a0 := (o7 (fun k => (fun k => (tP).row (gL tP (rt tP x) k)) (0 + k)) (List.range (t1.2.is5.toNat - 0))); let a1 := (o7 (fun k => (fun k => (tP).row (gL tP (rt tP x) k)) (t1.2.is5.toNat + k)) (List.range ((List.length (rt tP x)) - t1.2.is5.toNat))); let a2 := (inB t1.2.is5 ((List.length (rt tP x)) + 1)); let a3 := (Nat.beq (0 + (len a0)) (len (app [] a0)) && Nat.ble (((0 + (len a0)) + 1) * 32) room); let a4 := (((0 + (len a0)) + 1) + (len a1)); let a5 := (gL tP (rt tP x) t1.2.is5.toNat); let a6 := (Nat.beq 1 1 && Nat.ble ((1 + (len a1)) * 32) room); let a7 := (Nat.beq 0 0 && Nat.ble ((0 + (len a0)) * 32) room); (sl ((cnE tP x) && true) (sl (Nat.beq t1.1 1) (sl (decide (t1.2.is5 < (↑(List.length (rt tP x)) : Int))) (sl (inB t1.2.is5 (List.length (rt tP x))) (sl ((a5.n.x == y.n.x) && ((a5.n.y == y.n.y) && ((a5.n.z == y.n.z) && ((a5.b == y.b) && true)))) (some ((eL tP (rt tP x)), [])) (sl a2 (sl (Nat.beq (len a0) 0) (sl a2 (sl (Nat.beq (len a1) 0) (some ((.sl 0 0 1 0), [⟨50, 4, [[(i y.n.x), (i y.n.y), (i y.n.z), (i y.b)]], true, false, 0⟩])) (sl a6 (some ((.sl 0 0 (1 + (len a1)) 0), [⟨50, 4, (app [[(i y.n.x), (i y.n.y), (i y.n.z), (i y.b)]] a1), true, false, 0⟩])) none)) none) (sl a7 (sl a3 (sl a2 (sl (Nat.beq (len a1) 0) (some ((.sl 0 0 ((0 + (len a0)) + 1) 0), [⟨50, 4, (app (app [] a0) [[(i y.n.x), (i y.n.y), (i y.n.z), (i y.b)]]), true, false, 0⟩])) (sl (Nat.beq ((0 + (len a0)) + 1) (len (app (app [] a0) [[(i y.n.x), (i y.n.y), (i y.n.z), (i y.b)]])) && Nat.ble (a4 * 32) room) (some ((.sl 0 0 a4 0), [⟨50, 4, (app (app (app [] a0) [[(i y.n.x), (i y.n.y), (i y.n.z), (i y.b)]]) a1), true, false, 0⟩])) none)) none) none) none)) none)) none) (sl a2 (sl (Nat.beq (len a0) 0) (sl a2 (sl (Nat.beq (len a1) 0) (some ((.sl 0 0 1 0), [⟨50, 4, [[(i y.n.x), (i y.n.y), (i y.n.z), (i y.b)]], true, false, 0⟩])) (sl a6 (some ((.sl 0 0 (1 + (len a1)) 0), [⟨50, 4, (app [[(i y.n.x), (i y.n.y), (i y.n.z), (i y.b)]] a1), true, false, 0⟩])) none)) none) (sl a7 (sl a3 (sl a2 (sl (Nat.beq (len a1) 0) (some ((.sl 0 0 ((0 + (len a0)) + 1) 0), [⟨50, 4, (app (app [] a0) [[(i y.n.x), (i y.n.y), (i y.n.z), (i y.b)]]), true, false, 0⟩])) (sl (Nat.beq ((0 + (len a0)) + 1) (len (app (app [] a0) [[(i y.n.x), (i y.n.y), (i y.n.z), (i y.b)]])) && Nat.ble (a4 * 32) room) (some ((.sl 0 0 a4 0), [⟨50, 4, (app (app (app [] a0) [[(i y.n.x), (i y.n.y), (i y.n.z), (i y.b)]]) a1), true, false, 0⟩])) none)) none) none) none)) none)) (sl (Nat.beq t1.1 2) (sl (decide (t1.2.is5 < (↑(List.length (rt tP x)) : Int))) (sl (inB t1.2.is5 (List.length (rt tP x))) (sl ((a5.n.x == y.n.x) && ((a5.n.y == y.n.y) && ((a5.n.z == y.n.z) && ((a5.b == y.b) && true)))) (some ((eL tP (rt tP x)), [])) (sl a2 (sl (Nat.beq (len a0) 0) (sl a2 (sl (Nat.beq (len a1) 0) (some ((.sl 0 0 1 0), [⟨50, 4, [[(i y.n.x), (i y.n.y), (i y.n.z), (i y.b)]], true, false, 0⟩])) (sl a6 (some ((.sl 0 0 (1 + (len a1)) 0), [⟨50, 4, (app [[(i y.n.x), (i y.n.y), (i y.n.z), (i y.b)]] a1), true, false, 0⟩])) none)) none) (sl a7 (sl a3 (sl a2 (sl (Nat.beq (len a1) 0) (some ((.sl 0 0 ((0 + (len a0)) + 1) 0), [⟨50, 4, (app (app [] a0) [[(i y.n.x), (i y.n.y), (i y.n.z), (i y.b)]]), true, false, 0⟩])) (sl (Nat.beq ((0 + (len a0)) + 1) (len (app (app [] a0) [[(i y.n.x), (i y.n.y), (i y.n.z), (i y.b)]])) && Nat.ble (a4 * 32) room) (some ((.sl 0 0 a4 0), [⟨50, 4, (app (app (app [] a0) [[(i y.n.x), (i y.n.y), (i y.n.z), (i y.b)]]) a1), true, false, 0⟩])) none)) none) none) none)) none)) none) (sl a2 (sl (Nat.beq (len a0) 0) (sl a2 (sl (Nat.beq (len a1) 0) (some ((.sl 0 0 1 0), [⟨50, 4, [[(i y.n.x), (i y.n.y), (i y.n.z), (i y.b)]], true, false, 0⟩])) (sl a6 (some ((.sl 0 0 (1 + (len a1)) 0), [⟨50, 4, (app [[(i y.n.x), (i y.n.y), (i y.n.z), (i y.b)]] a1), true, false, 0⟩])) none)) none) (sl a7 (sl a3 (sl a2 (sl (Nat.beq (len a1) 0) (some ((.sl 0 0 ((0 + (len a0)) + 1) 0), [⟨50, 4, (app (app [] a0) [[(i y.n.x), (i y.n.y), (i y.n.z), (i y.b)]]), true, false, 0⟩])) (sl (Nat.beq ((0 + (len a0)) + 1) (len (app (app [] a0) [[(i y.n.x), (i y.n.y), (i y.n.z), (i y.b)]])) && Nat.ble (a4 * 32) room) (some ((.sl 0 0 a4 0), [⟨50, 4, (app (app (app [] a0) [[(i y.n.x), (i y.n.y), (i y.n.z), (i y.b)]]) a1), true, false, 0⟩])) none)) none) none) none)) none)) none)) none)
noncomputable def kb2 (x : List Pln) (y : Pln) : List Pln := K5 (one (r1L tP)) (Cb4 x y)
noncomputable def kb3 (x : List Pln) (y : Pln) : Bool := okO (one (r1L tP)) (Cb4 x y)
noncomputable def jd6 : Sum := oa1 (W7 tP) (R4 tP) (fun x y => .guard (kb3 x y) (.ret ((one (r1L tP)).enc (kb2 x y), [])))
theorem Pd6 : g9 prog G 106 jd6 := gb5 (bd df9 Gd0) (one (r1L tP)) (o := Cb4) fun x y => sa6 (.s .p (.s .p (.s (.b (.u Tb6.ls)) .p))) [Tb6.pr] (by kernel_rfl) (.cons td4 .nil) (by kernel_rfl)
structure qe1 where
 Bc1 : List Pln
 Ze9 : List Pt
structure qe2 where
 is6 : Int
end Go.Ev.Ce
end
namespace Go.Ev.L
open Go Go.Ev
noncomputable def Oe5 : Cod Unit where
 enc _ := .v (.slice none 0 0)
 dec x := match x with
  | .v (.slice none 0 0) => some ()
  | _ => none
 grd _ := true
 ok x a hx _ := by
  split at hx
  ·exact .refl _
  ·cases hx
noncomputable def cE0 : Cod (Addr × Nat) where
 enc z := .v (.slice (some z.1) 0 z.2)
 dec x := match x with
  | .v (.slice (some a) 0 c) => some (a, c)
  | _ => none
 grd _ := true
 ok x a hx _ := by
  split at hx
  ·cases hx; exact .refl _
  ·cases hx
section
variable {α : Type} {t : Ty α} {P : Program} {G : Nat → List Value} {f : FuncId}
theorem td5 {β : Type} {c : Cod β} {k k' : β → DT (b7 × List b8)} (h : g9 P G f (R3 c k)) (hk : ∀ a r, (k' a).run = some r → (k a).run = some r) : g9 P G f (R3 c k') := h.le fun args blks r hr => by
 unfold R3 at hr ⊢
 split at hr
 ·obtain ⟨a, h1, hr⟩ := L7 hr
  obtain ⟨g, hr⟩ := DT.run_guard_some hr
  simp only [h1, onO, g]
  exact hk a r hr
 ·cases hr
theorem Oe6 {k : List α → DT (b7 × List b8)} (hA : g9 P G f (R3 (ge2 t) fun z => k (z.1 :: z.2))) (hN : g9 P G f (R3 Oe5 fun _ => k [])) (hE : g9 P G f (R3 cE0 fun _ => k [])) : g9 P G f (R3 (W7 t) k) := by
 intro args blks r out he W ρ F w args' hH hlen hargs hG
 unfold R3 at he
 split at he
 ·rename_i x
  obtain ⟨a, h1, he⟩ := L7 he
  obtain ⟨g1, hk⟩ := DT.run_guard_some he
  have nilCase : ∀ v', args'[0]? = some v' → v' = .slice none 0 0 → a = [] → kb8 P f ∧ Calls P f args'.toArray w fun e w' => ∃ r', e = .returned r' ∧ O3 W ρ [] F w r out r' w' := fun v' hv e ha => by
   subst ha
   refine hN [.v (.slice none 0 0)] [] r out ?_ W ρ F w args' hH hlen (fun i x' y' hx hy => ?_) hG
   ·exact hk
   ·match i with
    | 0 => cases hx; rw [hv] at hy; cases hy; rw [e]; exact .val (.cell (.v _))
    | i + 1 => cases hx
  have emptyCase : ∀ v' ad c, args'[0]? = some v' → v' = .slice (some ad) 0 c → a = [] → kb8 P f ∧ Calls P f args'.toArray w fun e w' => ∃ r', e = .returned r' ∧ O3 W ρ [] F w r out r' w' := fun v' ad c hv e ha => by
   subst ha
   refine hE [.v (.slice (some ad) 0 c)] [] r out ?_ W ρ F w args' hH hlen (fun i x' y' hx hy => ?_) hG
   ·exact hk
   ·match i with
    | 0 => cases hx; rw [hv] at hy; cases hy; rw [e]; exact .val (.cell (.v _))
    | i + 1 => cases hx
  obtain ⟨v', hv⟩ : ∃ v', args'[0]? = some v' := by
   cases args' with
   | nil => simp at hlen
   | cons v' r' => exact ⟨v', rfl⟩
  cases x with
  | tree e n get =>
   have hb : Nat.beq e t.es = true ∧ a = lsL t n get := by
    have h1 : (Bool.rec none (some (lsL t n get)) (Nat.beq e t.es) : Option (List α)) = some a := h1
    cases hb : Nat.beq e t.es with
    | false => rw [hb] at h1; cases h1
    | true =>
     rw [hb] at h1
     have h1 : some (lsL t n get) = some a := h1
     injection h1 with h1
     exact ⟨rfl, h1.symm⟩
   cases n with
   | zero =>
    have ha : a = [] := hb.2
    have hm := ua6 (hargs 0 _ v' rfl hv)
    cases hm with
    | tree _ _ _ ad cap cs hs hcap hes hF hw hr => exact emptyCase _ ad cap hv rfl ha
    | nil => exact nilCase _ hv rfl ha
   | succ m =>
    have ha : a = hC t get :: tC t m get := hb.2.trans (xd9 t m get)
    subst ha
    refine hA [.tree e (m + 1) get] [] r out ?_ W ρ F w args' hH hlen hargs hG
    have hc : (ge2 t).dec (.tree e (m + 1) get) = some (hC t get, tC t m get) := by
     show (Bool.rec none (some (hC t get, tC t m get)) (Nat.beq e t.es) : Option (α × List α)) = _
     rw [hb.1]
    have hg : (ge2 t).grd (.tree e (m + 1) get) = true := g1
    simp only [R3, hc, onO, hg]
    exact hk
  | v q =>
   have hq := da0 (hargs 0 _ v' rfl hv)
   unfold W7 at h1
   simp only at h1
   split at h1
   ·rename_i heq; cases heq
   ·rename_i heq
    injection heq with heq
    injection h1 with h1
    exact nilCase v' hv (hq.trans heq) h1.symm
   ·rename_i ad c heq
    injection heq with heq
    injection h1 with h1
    exact emptyCase v' _ _ hv (hq.trans heq) h1.symm
   ·cases h1
  | _ => cases h1
 ·cases he
end
end Go.Ev.L
