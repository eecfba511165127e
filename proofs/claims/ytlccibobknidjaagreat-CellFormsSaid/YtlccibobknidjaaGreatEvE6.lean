/- Own work: a part of the proof. -/
import Derived.Test.YtlccibobknidjaaGreatEvD6
import Derived.Test.YtlccibobknidjaaGreatEvD5
set_option linter.unusedVariables false
set_option linter.unusedSimpArgs false
set_option linter.unnecessarySimpa false
set_option linter.unusedSectionVars false
section
namespace Go.Ev.Ce
open Go Go.Ev Go.Ev.L Go.Proofs
set_option maxRecDepth 100000
noncomputable def gd4 : List (Nat × Sum) := [(98, ma1), (97, cc5), (111, ac8), (35, wc7), (21, rb3), (46, Wb0), (112, gc7)]
theorem Uc5 : i7 prog G gd4 := ⟨ua7, wc3, tc2, fd9, Bb2, Fc3, Uc4, trivial⟩
noncomputable def bb0 (x : List Int) : Option (b7 × List b8) := let t1 := (j8 ⟨4, (rt tI x), 0⟩); let t2 := (La1 ⟨6, (rt tI (rt tI x)), t1.c7⟩); let t3 := (j8 ⟨6, (rt tI t2.f0), t2.c7⟩); let t4 := (j8 ⟨6, (rt tI (rt tI t2.f0)), t3.c7⟩); let t5 := (j8 ⟨6, (rt tI (rt tI (rt tI t2.f0))), t4.c7⟩); let t6 := (mb5 (⟨t2.ja2, t2.ja3, t2.ja4⟩ : V3) (⟨(W ((W (t2.ja2 + 1)) + t3.is0)), (W ((W (t2.ja3 + 1)) + t4.is0)), (W ((W (t2.ja4 + 1)) + t5.is0))⟩ : V3)); let a0 := (if 7 < (↑(List.length x) : Int) then 7 else (↑(List.length x) : Int)); let a1 := (n3 (fun k => (tP).row (gL tP t6 k)) (List.range (List.length t6))); let a2 := (fun k => (fun k => (tI).row (gL tI x k)) (a0.toNat + k)); let a3 := ((List.length x) - a0.toNat); let t7 := (wc6 (lsL tI a3 a2)); let t8 := (Ba2 [t7]); let t9 := (ka7 (lsL tI a3 a2)); let t10 := (gb4 (rt tV t9)); let t11 := (Ba2 (slR tP (app (app [] a1) [[(i t7.n.x), (i t7.n.y), (i t7.n.z), (i t7.b)]]) 0 ((0 + (len a1)) + 1))); (sl ((cnE tI x) && true) (sl (Nat.beq t1.alt 1) (sl ((cnE tI (rt tI x)) && true) (sl (Nat.beq t2.alt 1) (sl ((cnE tI t2.f0) && true) (sl (Nat.beq t3.alt 1) (sl ((cnE tI (rt tI t2.f0)) && true) (sl (Nat.beq t4.alt 1) (sl ((cnE tI (rt tI (rt tI t2.f0))) && true) (sl (Nat.beq t5.alt 1) (sl (Wa7 (⟨t2.ja2, t2.ja3, t2.ja4⟩ : V3) (⟨(W ((W (t2.ja2 + 1)) + t3.is0)), (W ((W (t2.ja3 + 1)) + t4.is0)), (W ((W (t2.ja4 + 1)) + t5.is0))⟩ : V3)) (sl (inB a0 ((List.length x) + 1)) (sl (t1.is0 == 2) (sl (Nat.beq (len a1) 0) (sl (okL tI a3 a2) (sl (sb7 (lsL tI a3 a2)) (sl (ra0 [t7]) (sl t8 (some ((.sl 0 0 1 0), [⟨50, 4, [[(i t7.n.x), (i t7.n.y), (i t7.n.z), (i t7.b)]], true, false, 0⟩])) (sl (t1.is0 == 3) (sl (okL tI a3 a2) (sl (Ha5 (lsL tI a3 a2)) (sl (okE tV t9) (sl (Ca8 (rt tV t9)) (sl (t10.2 == 0) (some ((eL tP t10.1), [])) (some ((eL tP t6), []))) none) none) none) none) (some ((eL tP t6), [])))) none) none) none) (sl (Nat.beq 0 0 && Nat.ble ((0 + (len a1)) * 32) room) (sl (okL tI a3 a2) (sl (sb7 (lsL tI a3 a2)) (sl (Nat.beq (0 + (len a1)) (len (app [] a1)) && Nat.ble (((0 + (len a1)) + 1) * 32) room) (sl (okS tP (app (app [] a1) [[(i t7.n.x), (i t7.n.y), (i t7.n.z), (i t7.b)]]) 0 ((0 + (len a1)) + 1)) (sl (ra0 (slR tP (app (app [] a1) [[(i t7.n.x), (i t7.n.y), (i t7.n.z), (i t7.b)]]) 0 ((0 + (len a1)) + 1))) (sl t11 (some ((.sl 0 0 ((0 + (len a1)) + 1) 0), [⟨50, 4, (app (app [] a1) [[(i t7.n.x), (i t7.n.y), (i t7.n.z), (i t7.b)]]), true, false, 0⟩])) (sl (t1.is0 == 3) (sl (okL tI a3 a2) (sl (Ha5 (lsL tI a3 a2)) (sl (okE tV t9) (sl (Ca8 (rt tV t9)) (sl (t10.2 == 0) (some ((eL tP t10.1), [])) (some ((eL tP t6), []))) none) none) none) none) (some ((eL tP t6), [])))) none) none) none) none) none) none)) (sl (t1.is0 == 3) (sl (okL tI a3 a2) (sl (Ha5 (lsL tI a3 a2)) (sl (okE tV t9) (sl (Ca8 (rt tV t9)) (sl (t10.2 == 0) (some ((eL tP t10.1), [])) (some ((eL tP t6), []))) none) none) none) none) (some ((eL tP t6), [])))) none) none) none) none) none) none) none) none) none) none) none) none)
noncomputable def aa4 (x : List Int) : List Pln := G6 (one (r1L tP)) (bb0 x)
noncomputable def Ob0 (x : List Int) : Bool := okO (one (r1L tP)) (bb0 x)
noncomputable def yc1 : Sum := ba5 (T5 tI) (fun x => .guard (Ob0 x) (.ret ((one (r1L tP)).enc (aa4 x), [])))
theorem gd5 : f6 prog G 30 yc1 := ua0 (bd b30 Uc5) (one (r1L tP)) (o := bb0) fun x => p7 (by kernel_rfl)
noncomputable def Uc6 : List (Nat × Sum) := []
theorem Fc4 : i7 prog G Uc6 := trivial
noncomputable def Qa1 (x : List Pln) : Option (b7 × List b8) := (sl (inB (if 8 < (↑(List.length x) : Int) then 8 else (↑(List.length x) : Int)) ((List.length x) + 1)) (some ((.tree 4 ((if 8 < (↑(List.length x) : Int) then 8 else (↑(List.length x) : Int)).toNat - 0) (fun k => (fun k => (tP).row (gL tP x k)) (0 + k))), [])) none)
noncomputable def gb5 (x : List Pln) : List Pln := G6 (one (r1L tP)) (Qa1 x)
noncomputable def Cb7 (x : List Pln) : Bool := okO (one (r1L tP)) (Qa1 x)
noncomputable def gc8 : Sum := ba5 (T5 tP) (fun x => .guard (Cb7 x) (.ret ((one (r1L tP)).enc (gb5 x), [])))
theorem Uc7 : f6 prog G 82 gc8 := ua0 (bd b82 Fc4) (one (r1L tP)) (o := Qa1) fun x => p7 (by kernel_rfl)
noncomputable def gb6 : List (Nat × Sum) := []
theorem Ob1 : i7 prog G gb6 := trivial
structure aa5 where
 y6 : List Pt
 Ac2 : List Pt
structure A9 where
 is5 : Int
noncomputable def Hb8 (p : aa5) (s : A9) : St := ⟨((eL tX p.y6) :: ((eL tX p.Ac2) :: (ra 3 ((i s.is5) :: (ra 20 []))))), []⟩
noncomputable def T3 {α : Type} (k : A9 → α) (e : Nat → α) (z : α) (p : aa5) (s : A9) : α := (sl (decide (s.is5 < (↑(List.length p.y6) : Int))) (sl (inB s.is5 (List.length p.y6)) (sl (inB s.is5 (List.length p.Ac2)) (sl (!(((gL tX p.y6 s.is5.toNat).px == (gL tX p.Ac2 s.is5.toNat).px) && (((gL tX p.y6 s.is5.toNat).py == (gL tX p.Ac2 s.is5.toNat).py) && (((gL tX p.y6 s.is5.toNat).pz == (gL tX p.Ac2 s.is5.toNat).pz) && (((gL tX p.y6 s.is5.toNat).pw == (gL tX p.Ac2 s.is5.toNat).pw) && true))))) (e 1) (k ⟨(W (s.is5 + 1))⟩)) z) z) (e 2))
noncomputable def V9 (p : aa5) (s : A9) : Stp A9 := T3 .next .exit .fail p s
noncomputable def Ba4 : Lo aa5 A9 := ⟨En gb6, 0, me6, [1, 1, 0, 1, 4, 4], [0, 1, 5], .p, [⟨((.s (.c 4 (nL tX))) :: ((.s (.c 4 (nL tX))) :: (ru2 3 ((.s (.o (.int .i64))) :: (ru2 20 []))))), [], fun a H => (⟨(rL tX (slT a 0)), (rL tX (slT a 1))⟩, ⟨(toI (slT a 5))⟩)⟩], V9, [(none, fun p s => ⟨[(b false)], []⟩), (some 0, fun p s => ⟨((eL tX p.y6) :: ((eL tX p.Ac2) :: (ra 3 ((i s.is5) :: (ra 5 ((i s.is5) :: ((eL tX p.y6) :: ((i (↑(List.length p.y6) : Int)) :: ((b (decide (s.is5 < (↑(List.length p.y6) : Int)))) :: (ra 11 [])))))))))), []⟩)], Hb8⟩
theorem Hb9 : Ba4.Ok := Lo.ok [] (by kernel_rfl) .nil rfl (.cons (fun a H => by kernel_rfl) .nil) fun p s => (.of @T3 (fun F _ _ _ _ _ => by unfold T3; (repeat' apply k9 (f := F)) <;> rfl) (by kernel_rfl))
noncomputable def ia7 (x : List Pt) (y : List Pt) : Option (b7 × List b8) := let t1 := (lp (V9 (⟨(rt tX x), (rt tX y)⟩ : aa5)) (⟨0⟩ : A9)); (sl ((↑(List.length x) : Int) != (↑(List.length y) : Int)) (some ((b false), [])) (sl ((cnE tX x) && ((cnE tX y) && true)) (sl (Nat.beq t1.1 1) (some ((b false), [])) (sl (Nat.beq t1.1 2) (some ((b true), [])) none)) none))
noncomputable def Z1 (x : List Pt) (y : List Pt) : Bool := G6 (one r1B) (ia7 x y)
noncomputable def Z2 (x : List Pt) (y : List Pt) : Bool := okO (one r1B) (ia7 x y)
noncomputable def La3 : Sum := ga8 (T5 tX) (T5 tX) (fun x y => .guard (Z2 x y) (.ret ((one r1B).enc (Z1 x y), [])))
theorem gb7 : f6 prog G 17 La3 := cb4 (bd b17 Ob1) (one r1B) (o := ia7) fun x y => wa0 (.s .p (.s .p (.s (.s .p (.b (.u Ba4.ls))) .p))) [Ba4.pr] (by kernel_rfl) (.cons Hb9 .nil) (by kernel_rfl)
noncomputable def gc9 : List (Nat × Sum) := []
theorem Uc8 : i7 prog G gc9 := trivial
structure Ha6 where
 c8 : List Pln
 Ac3 : List Pln
structure X8 where
 is5 : Int
noncomputable def Fc5 (p : Ha6) (s : X8) : St := ⟨((eL tP p.c8) :: ((eL tP p.Ac3) :: (ra 3 ((i s.is5) :: (ra 20 []))))), []⟩
noncomputable def ta1 {α : Type} (k : X8 → α) (e : Nat → α) (z : α) (p : Ha6) (s : X8) : α := (sl (decide (s.is5 < (↑(List.length p.c8) : Int))) (sl (inB s.is5 (List.length p.c8)) (sl (inB s.is5 (List.length p.Ac3)) (sl (!(((gL tP p.c8 s.is5.toNat).n.x == (gL tP p.Ac3 s.is5.toNat).n.x) && (((gL tP p.c8 s.is5.toNat).n.y == (gL tP p.Ac3 s.is5.toNat).n.y) && (((gL tP p.c8 s.is5.toNat).n.z == (gL tP p.Ac3 s.is5.toNat).n.z) && (((gL tP p.c8 s.is5.toNat).b == (gL tP p.Ac3 s.is5.toNat).b) && true))))) (e 1) (k ⟨(W (s.is5 + 1))⟩)) z) z) (e 2))
noncomputable def ya7 (p : Ha6) (s : X8) : Stp X8 := ta1 .next .exit .fail p s
noncomputable def tb5 : Lo Ha6 X8 := ⟨En gc9, 0, me9, [1, 1, 0, 1, 4, 4], [0, 1, 5], .p, [⟨((.s (.c 4 (nL tP))) :: ((.s (.c 4 (nL tP))) :: (ru2 3 ((.s (.o (.int .i64))) :: (ru2 20 []))))), [], fun a H => (⟨(rL tP (slT a 0)), (rL tP (slT a 1))⟩, ⟨(toI (slT a 5))⟩)⟩], ya7, [(none, fun p s => ⟨[(b false)], []⟩), (some 0, fun p s => ⟨((eL tP p.c8) :: ((eL tP p.Ac3) :: (ra 3 ((i s.is5) :: (ra 5 ((i s.is5) :: ((eL tP p.c8) :: ((i (↑(List.length p.c8) : Int)) :: ((b (decide (s.is5 < (↑(List.length p.c8) : Int)))) :: (ra 11 [])))))))))), []⟩)], Fc5⟩
theorem Fc6 : tb5.Ok := Lo.ok [] (by kernel_rfl) .nil rfl (.cons (fun a H => by kernel_rfl) .nil) fun p s => (.of @ta1 (fun F _ _ _ _ _ => by unfold ta1; (repeat' apply k9 (f := F)) <;> rfl) (by kernel_rfl))
noncomputable def bb1 (x : List Pln) (y : List Pln) : Option (b7 × List b8) := let t1 := (lp (ya7 (⟨(rt tP x), (rt tP y)⟩ : Ha6)) (⟨0⟩ : X8)); (sl ((↑(List.length x) : Int) != (↑(List.length y) : Int)) (some ((b false), [])) (sl ((cnE tP x) && ((cnE tP y) && true)) (sl (Nat.beq t1.1 1) (some ((b false), [])) (sl (Nat.beq t1.1 2) (some ((b true), [])) none)) none))
noncomputable def tb6 (x : List Pln) (y : List Pln) : Bool := G6 (one r1B) (bb1 x y)
noncomputable def tb7 (x : List Pln) (y : List Pln) : Bool := okO (one r1B) (bb1 x y)
noncomputable def yc2 : Sum := ga8 (T5 tP) (T5 tP) (fun x y => .guard (tb7 x y) (.ret ((one r1B).enc (tb6 x y), [])))
theorem gd6 : f6 prog G 26 yc2 := cb4 (bd b26 Uc8) (one r1B) (o := bb1) fun x y => wa0 (.s .p (.s .p (.s (.s .p (.b (.u tb5.ls))) .p))) [tb5.pr] (by kernel_rfl) (.cons Fc6 .nil) (by kernel_rfl)
noncomputable def yc3 : List (Nat × Sum) := [(47, Wa8), (118, Lc2), (119, Nb7)]
theorem gd7 : i7 prog G yc3 := ⟨Za4, qd3, gc2, trivial⟩
structure Qa2 where
 is6 : Int
structure ja8 where
 ns5 : Nat
 eh0 : List (List b7)
noncomputable def Uc9 (p : Qa2) (s : ja8) : St := ⟨(ra 5 ((.sl 0 0 s.ns5 0) :: ((i p.is6) :: (ra 91 [])))), [⟨50, 4, s.eh0, true, false, 0⟩]⟩
noncomputable def Ma3 {α : Type} (k : ja8 → α) (e : Nat → α) (z : α) (p : Qa2) (s : ja8) : α := (sl (decide ((↑s.ns5 : Int) ≤ 48)) (sl (inB p.is6 s.ns5) (sl (ldR tP s.eh0 (0 + p.is6.toNat)) (sl (Nat.beq s.ns5 (len s.eh0) && Nat.ble ((s.ns5 + 1) * 32) room) (k ⟨(s.ns5 + 1), (app s.eh0 [[(i (rdR tP s.eh0 (0 + p.is6.toNat)).n.x), (i (rdR tP s.eh0 (0 + p.is6.toNat)).n.y), (i (rdR tP s.eh0 (0 + p.is6.toNat)).n.z), (i (rdR tP s.eh0 (0 + p.is6.toNat)).b)]])⟩) z) z) z) (e 1))
noncomputable def Ha7 (p : Qa2) (s : ja8) : Stp ja8 := Ma3 .next .exit .fail p s
noncomputable def Cb8 : Lo Qa2 ja8 := ⟨En yc3, 0, ne0, [1, 1, 1, 1, 0, 1, 4, 1, 3, 1, 3, 1, 3, 1, 3, 1, 3, 1, 2, 4, 4], [5, 6], .p, [⟨(ru2 5 ((.s (.o (.sl 0 0 (some 0) none))) :: ((.s (.o (.int .i64))) :: (ru2 91 [])))), [⟨50, 4, true, none⟩], fun a H => (⟨(toI (slT a 6))⟩, ⟨(slN (slT a 5)), (elT H 0)⟩)⟩], Ha7, [(some 1, fun p s => ⟨(ra 5 ((.sl 0 0 s.ns5 0) :: ((i p.is6) :: (ra 80 ((.sl 0 0 s.ns5 0) :: ((i (↑s.ns5 : Int)) :: ((b (decide ((↑s.ns5 : Int) ≤ 48))) :: (ra 8 [])))))))), [⟨50, 4, s.eh0, true, false, 0⟩]⟩)], Uc9⟩
theorem Vc0 : Cb8.Ok := Lo.ok [] (by kernel_rfl) .nil rfl (.cons (fun a H => by kernel_rfl) .nil) fun p s => (.of @Ma3 (fun F _ _ _ _ _ => by unfold Ma3; (repeat' apply k9 (f := F)) <;> rfl) (by kernel_rfl))
noncomputable def ob1 (x : List Pln) (y : V3) : Option (b7 × List b8) := let t2 := (ha4 y.x 6); let t5 := (ha4 y.z 9); let a0 := (n3 (fun k => (tP).row (gL tP x k)) (List.range (List.length x))); let t1 := (ha4 y.y (↑(0 + (len a0)) : Int)); let t6 := (lp (Ha7 (⟨t1⟩ : Qa2)) (⟨(0 + (len a0)), (app [] a0)⟩ : ja8)); let a1 := (C9 (e7 (app [] a0) (0 + (W (t1 + 1)).toNat)) ((0 + (len a0)) - (W (t1 + 1)).toNat)); let a2 := (i5 (app [] a0) (0 + t1.toNat)); let a3 := (rdR tP (app [] a0) (0 + t1.toNat)); let t3 := (Lc1 a3 (⟨y.z, y.y, y.x⟩ : V3)); let t4 := (sb8 a3); let a4 := (Nat.blt (0 + t1.toNat) (len (app [] a0))); (sl (Nat.beq (len a0) 0) (some ((.sl 0 0 1 0), [⟨50, 4, [[(i 0), (i 0), (i 0), (i 0)]], true, false, 0⟩])) (sl (Nat.beq 0 0 && Nat.ble ((0 + (len a0)) * 32) room) (sl ((↑(0 + (len a0)) : Int) == 0) (some ((.sl 0 0 1 0), [⟨50, 4, [[(i 0), (i 0), (i 0), (i 0)]], true, false, 0⟩])) (sl (ca3 y.y (↑(0 + (len a0)) : Int)) (sl (ca3 y.x 6) (sl (t2 == 0) (sl (inB t1 (0 + (len a0))) (sl (ldR tP (app [] a0) (0 + t1.toNat)) (sl (dc0 a3 (⟨y.z, y.y, y.x⟩ : V3)) (sl (inB t1 (0 + (len a0))) (sl (a4 && (Nat.ble (0 + 4) (len a2))) (some ((.sl 0 0 (0 + (len a0)) 0), [⟨50, 4, (setAt (app [] a0) (0 + t1.toNat) (G8 a2 0 [(i t3.n.x), (i t3.n.y), (i t3.n.z), (i t3.b)])), true, false, 0⟩])) none) none) none) none) none) (sl (t2 == 1) (sl (inB t1 ((0 + (len a0)) + 1)) (sl (inB (W (t1 + 1)) ((0 + (len a0)) + 1)) (sl (Nat.ble ((t1.toNat - 0) + (len a1)) (len (app [] a0))) (some ((.sl 0 0 ((t1.toNat - 0) + (len a1)) 0), [⟨50, 4, (app (C9 (app [] a0) (t1.toNat - 0)) (app a1 (e7 (app [] a0) ((t1.toNat - 0) + (len a1))))), true, false, 0⟩])) none) none) none) (sl (t2 == 2) (sl (inB t1 (0 + (len a0))) (sl (ldR tP (app [] a0) (0 + t1.toNat)) (sl (inB t1 (0 + (len a0))) (sl (a4 && (Nat.ble (0 + 4) (len a2))) (some ((.sl 0 0 (0 + (len a0)) 0), [⟨50, 4, (setAt (app [] a0) (0 + t1.toNat) (G8 a2 0 [(i t4.n.x), (i t4.n.y), (i t4.n.z), (i t4.b)])), true, false, 0⟩])) none) none) none) none) (sl (t2 == 3) (sl (inB t1 (0 + (len a0))) (sl (ldR tP (app [] a0) (0 + t1.toNat)) (sl (Nat.beq (0 + (len a0)) (len (app [] a0)) && Nat.ble (((0 + (len a0)) + 1) * 32) room) (some ((.sl 0 0 ((0 + (len a0)) + 1) 0), [⟨50, 4, (app (app [] a0) [[(i a3.n.x), (i a3.n.y), (i a3.n.z), (i a3.b)]]), true, false, 0⟩])) none) none) none) (sl (t2 == 4) (sl (inB t1 (0 + (len a0))) (sl ((a4 && (Nat.ble (3 + 1) (len a2))) && (J5 [(CK.int .i64)] (e7 a2 3))) (sl (ca3 y.z 9) (sl (inB t1 (0 + (len a0))) (sl (a4 && (Nat.ble (3 + 1) (len a2))) (some ((.sl 0 0 (0 + (len a0)) 0), [⟨50, 4, (setAt (app [] a0) (0 + t1.toNat) (G8 a2 3 [(i (W ((W ((toI (hdA (e7 a2 3))) + t5)) - 4)))])), true, false, 0⟩])) none) none) none) none) none) (sl (t2 == 5) (sl (Nat.beq t6.1 1) (some ((.sl 0 0 t6.2.ns5 0), [⟨50, 4, t6.2.eh0, true, false, 0⟩])) none) (some ((.sl 0 0 (0 + (len a0)) 0), [⟨50, 4, (app [] a0), true, false, 0⟩])))))))) none) none)) none))
noncomputable def ua9 (x : List Pln) (y : V3) : List Pln := G6 (one (r1L tP)) (ob1 x y)
noncomputable def ob2 (x : List Pln) (y : V3) : Bool := okO (one (r1L tP)) (ob1 x y)
noncomputable def Lc4 : Sum := ga8 (T5 tP) (P7 tV) (fun x y => .guard (ob2 x y) (.ret ((one (r1L tP)).enc (ua9 x y), [])))
theorem qd5 : f6 prog G 39 Lc4 := cb4 (bd b39 gd7) (one (r1L tP)) (o := ob1) fun x y => wa0 (.s .p (.s .p (.s .p (.s .p (.s (.s .p (.b (.s .p (.c .p (.s .p (.c .p (.s .p (.c .p (.s .p (.c .p (.s .p (.c .p (.s .p (.c (.b (.u Cb8.ls)) .p)))))))))))))) .p))))) [Cb8.pr] (by kernel_rfl) (.cons Vc0 .nil) (by kernel_rfl)
noncomputable def yc4 : List (Nat × Sum) := [(30, yc1), (39, Lc4), (82, gc8)]
theorem lc1 : i7 prog G yc4 := ⟨gd5, qd5, Uc7, trivial⟩
noncomputable def ya8 (x : List Int) (y : Q2) (z : List Pln) : Option (b7 × List b8) := let t1 := (aa4 (rt tI x)); let t2 := (ua9 (rt tP t1) y.a); let t3 := (ua9 (rt tP t2) y.b); let t4 := (gb5 (rt tP z)); (sl (okE tI x) (sl (Ob0 (rt tI x)) (sl (okE tP t1) (sl (ob2 (rt tP t1) y.a) (sl (okE tP t1) (sl (ob2 (rt tP t1) y.a) (sl (okE tP t2) (sl (ob2 (rt tP t2) y.b) (sl (okE tP z) (sl (Cb7 (rt tP z)) (some ((.sl 0 0 4 0), [⟨25, 1, [[(eL tP t1)], [(eL tP t2)], [(eL tP t3)], [(eL tP t4)]], true, false, 0⟩])) none) none) none) none) none) none) none) none) none) none)
noncomputable def kb7 (x : List Int) (y : Q2) (z : List Pln) : List (List Pln) := G6 (one (r1L (tLs tP))) (ya8 x y z)
noncomputable def kb8 (x : List Int) (y : Q2) (z : List Pln) : Bool := okO (one (r1L (tLs tP))) (ya8 x y z)
noncomputable def Kb0 : Sum := ic3 (T5 tI) (P7 tQ) (T5 tP) (fun x y z => .guard (kb8 x y z) (.ret ((one (r1L (tLs tP))).enc (kb7 x y z), [])))
theorem yc5 : f6 prog G 14 Kb0 := Rd4 (bd b14 lc1) (one (r1L (tLs tP))) (o := ya8) fun x y z => p7 (by kernel_rfl)
end Go.Ev.Ce
end
namespace Go.Ev.Ce
open Go Go.Ev Go.Ev.L Go.Proofs
theorem gd8 {Q : Pt → Prop} (r : List Pln) (p q : Pln) : ∀ (l : List Pln) (out : List Pt), (∀ s ∈ l, (mpt p q s).2 = true → inn r (mpt p q s).1 = true → Q (mpt p q s).1) → (∀ x ∈ out, Q x) → ∀ x ∈ sb5 r p q l out, Q x
 | [], out, _, h => h
 | s :: l, out, hs, h => gd8 r p q l (Pa2 r p q out s) (fun t ht => hs t (List.mem_cons_of_mem _ ht)) fun x hx => by
  unfold Pa2 at hx
  split at hx
  ·rename_i hc
   rw [Bool.and_eq_true, Bool.and_eq_true] at hc
   rcases List.mem_append.1 hx with hx | hx
   ·exact h x hx
   ·rw [List.mem_singleton] at hx
    subst hx
    exact hs s List.mem_cons_self hc.1 hc.2.2
  ·exact h x hx
theorem gd9 {Q : Pt → Prop} (r : List Pln) (p : Pln) : ∀ (l : List Pln) (out : List Pt), (∀ q ∈ l, ∀ s ∈ l, (mpt p q s).2 = true → inn r (mpt p q s).1 = true → Q (mpt p q s).1) → (∀ x ∈ out, Q x) → ∀ x ∈ wb1 r p l out, Q x
 | [], out, _, h => h
 | q :: l, out, hs, h => gd9 r p l _ (fun a ha t ht => hs a (List.mem_cons_of_mem _ ha) t (List.mem_cons_of_mem _ ht)) (gd8 r p q l out (fun t ht => hs q List.mem_cons_self t (List.mem_cons_of_mem _ ht)) h)
theorem hd4 {Q : Pt → Prop} (r : List Pln) : ∀ (l : List Pln) (out : List Pt), (∀ p ∈ l, ∀ q ∈ l, ∀ s ∈ l, (mpt p q s).2 = true → inn r (mpt p q s).1 = true → Q (mpt p q s).1) → (∀ x ∈ out, Q x) → ∀ x ∈ Cd2 r l out, Q x
 | [], out, _, h => h
 | p :: l, out, hs, h => hd4 r l _ (fun a ha c hc t ht => hs a (List.mem_cons_of_mem _ ha) c (List.mem_cons_of_mem _ hc) t (List.mem_cons_of_mem _ ht)) (gd9 r p l out (fun c hc t ht => hs p List.mem_cons_self c (List.mem_cons_of_mem _ hc) t (List.mem_cons_of_mem _ ht)) h)
theorem Vd6 {Q : Pt → Prop} {r : List Pln} (hs : ∀ p ∈ r, ∀ q ∈ r, ∀ s ∈ r, (mpt p q s).2 = true → inn r (mpt p q s).1 = true → Q (mpt p q s).1) : ∀ x ∈ cor r, Q x :=
 hd4 r r [] hs fun x hx => by cases hx
structure Okx (x : Pt) : Prop where
 w1 : 0 < x.pw
 w2 : x.pw ≤ 600000000000
 c1 : Sm 300000000000000 x.px
 c2 : Sm 300000000000000 x.py
 c3 : Sm 300000000000000 x.pz
theorem Vd7 {r : List Pln} (hb : Bds r) : ∀ x ∈ cor r, Okx x := Vd6 fun p hp q hq s hs h _ => by
 obtain ⟨h1, h2, h3, h4, h5⟩ := ge7 (hb p hp) (hb q hq) (hb s hs) h
 exact ⟨h1, h5, h2, h3, h4⟩
theorem vd4 {c : List Pln} : ∀ x ∈ pts c, Okx x := by
 unfold pts
 cases h : chk c == 0 with
 | false => intro x hx; cases hx
 | true => exact Vd7 (sb6 h).1
theorem Wb1 (c : List Pln) : (pts c).length ≤ 8000000 := by
 unfold pts
 cases h : chk c == 0 with
 | false => exact Nat.zero_le _
 | true => exact Tc1 _ (sb6 h).1 (sb6 h).2
theorem hd5 {x y : Int} (hy : 0 < y) : Int.tmod x y + y * Int.tdiv x y = x ∧ -y < Int.tmod x y ∧ Int.tmod x y < y := by
 refine ⟨Int.tmod_add_mul_tdiv x y, ?_, Int.tmod_lt_of_pos x hy⟩
 have := Int.lt_tmod_of_pos x hy
 omega
theorem vd5 {x y q r : Int} (hy : 0 < y) (h : r + y * q = x) (h1 : 0 ≤ r) (h2 : r < y) : x / y = q := ((Int.ediv_emod_unique hy).2 ⟨h, h1, h2⟩).1
theorem Vd8 {x y : Int} (hx : Sm 300000000000000 x) (hy : 0 < y) : Sm 300000000000000 (Int.tdiv x y) := E1 hx hy
theorem hd6 {x y : Int} (hx : Sm 300000000000000 x) (hy : 0 < y) : Ga5 x y = some (i (x / y), []) := by
 have hz : (y == 0) = false := by rw [beq_eq_false_iff_ne]; omega
 obtain ⟨h1, h2, h3⟩ := hd5 (x := x) hy
 have hb := Vd8 hx hy
 unfold Ga5
 rw [bf hz, bf hz, sa2 (hb.mono (by omega))]
 by_cases h : Int.tmod x y < 0
 ·rw [btD h, vd5 hy (q := Int.tdiv x y - 1) (r := Int.tmod x y + y) (by rw [Int.mul_sub]; omega) (by omega) (by omega), va9 (by have := hb.1; omega) (by have := hb.2; omega)]
 ·rw [bfD h, vd5 hy h1 (by omega) h3]
theorem Gb2 {x y : Int} (hx : Sm 300000000000000 x) (hy : 0 < y) : X6 x y = x / y := by unfold X6; rw [hd6 hx hy]; rfl
theorem Gb3 {x y : Int} (hx : Sm 300000000000000 x) (hy : 0 < y) : X7 x y = true := by unfold X7; rw [hd6 hx hy]; rfl
theorem Ld6 (x : Int) {y : Int} (hy : 0 < y) (hy2 : y ≤ 4000000000000000000) : mb9 x y = some (i (x % y), []) := by
 have hz : (y == 0) = false := by rw [beq_eq_false_iff_ne]; omega
 obtain ⟨h1, h2, h3⟩ := hd5 (x := x) hy
 unfold mb9
 rw [bfD (by omega), bf hz, bf hz, va9 (by omega) (by omega), Int.tmod_eq_emod_of_nonneg (by omega)]
 congr 3
 rw [Int.add_emod_right]
 conv => rhs; rw [← h1]
 rw [Int.add_mul_emod_self_left]
theorem hd7 (x : Int) {y : Int} (hy : 0 < y) (hy2 : y ≤ 4000000000000000000) : ha4 x y = x % y := by unfold ha4; rw [Ld6 x hy hy2]; rfl
theorem hc3 (x : Int) {y : Int} (hy : 0 < y) (hy2 : y ≤ 4000000000000000000) : ca3 x y = true := by unfold ca3; rw [Ld6 x hy hy2]; rfl
theorem Lc5 {x y : Int} (hx : Sm 300000000000000 x) (hy : 0 < y) (hy2 : y ≤ 600000000000) : Na6 x y = some (i (x / y), []) := by
 have hz : (y == 0) = false := by rw [beq_eq_false_iff_ne]; omega
 have hm1 := Int.emod_nonneg x (show y ≠ 0 by omega)
 have hm2 := Int.emod_lt_of_pos x hy
 have hd := Int.emod_add_mul_ediv x y
 obtain ⟨hx1, hx2⟩ := hx
 unfold Na6
 simp only [hd7 x hy (by omega), hc3 x hy (by omega)]
 rw [o6, bf hz, va9 (n := x - x % y) (by omega) (by omega), show x - x % y = y * (x / y) by omega, Int.mul_tdiv_cancel_left _ (by omega)]
 rw [va9]
 ·have h1 : -300000000000000 ≤ x / y := by rw [Int.le_ediv_iff_mul_le hy]; have := Int.mul_le_mul_of_nonneg_left (show (1 : Int) ≤ y by omega) (show (0 : Int) ≤ 300000000000000 by omega); omega
  omega
 ·have h2 : x / y ≤ 300000000000000 := by
   have : x / y < 300000000000001 := by rw [Int.ediv_lt_iff_lt_mul hy]; have := Int.mul_le_mul_of_nonneg_left (show (1 : Int) ≤ y by omega) (show (0 : Int) ≤ 300000000000001 by omega); omega
   omega
  omega
theorem ob3 {x y : Int} (hx : Sm 300000000000000 x) (hy : 0 < y) (hy2 : y ≤ 600000000000) : da3 x y = x / y := by unfold da3; rw [Lc5 hx hy hy2]; rfl
theorem ob4 {x y : Int} (hx : Sm 300000000000000 x) (hy : 0 < y) (hy2 : y ≤ 600000000000) : da4 x y = true := by unfold da4; rw [Lc5 hx hy hy2]; rfl
noncomputable def Ua2 (s : V3 × V3) (x : Pt) : V3 × V3 :=
 (⟨if x.px / x.pw < s.1.x then x.px / x.pw else s.1.x, if x.py / x.pw < s.1.y then x.py / x.pw else s.1.y, if x.pz / x.pw < s.1.z then x.pz / x.pw else s.1.z⟩,
  ⟨if W (0 - -x.px / x.pw) > s.2.x then W (0 - -x.px / x.pw) else s.2.x, if W (0 - -x.py / x.pw) > s.2.y then W (0 - -x.py / x.pw) else s.2.y, if W (0 - -x.pz / x.pw) > s.2.z then W (0 - -x.pz / x.pw) else s.2.z⟩)
noncomputable def bnd (c : List Pln) : V3 × V3 × Bool :=
 if ful c then (((pts c).foldl Ua2 (⟨24, 24, 24⟩, ⟨-24, -24, -24⟩)).1, ((pts c).foldl Ua2 (⟨24, 24, 24⟩, ⟨-24, -24, -24⟩)).2, true) else (⟨0, 0, 0⟩, ⟨0, 0, 0⟩, false)
theorem Lc6 {x : Int} (h : Sm 300000000000000 x) : W (0 - x) = -x := by obtain ⟨h1, h2⟩ := h; rw [va9 (by omega) (by omega)]; omega
theorem Sm.neg {n x : Int} (h : Sm n x) : Sm n (-x) := ⟨by have := h.2; omega, by have := h.1; omega⟩
noncomputable def ie3 (r : V3 × V3 × Bool) : b7 := .tup [.agg (tV.row r.1), .agg (tV.row r.2.1), b r.2.2]
theorem qd6 (X : List Pt) (hX : X.length ≤ 8000000) (hok : ∀ x ∈ X, Okx x) (s : V3 × V3) : ∃ m, lp (ca4 ⟨X, (X.length : Int)⟩) ⟨0, s.1.x, s.1.y, s.1.z, s.2.x, s.2.y, s.2.z⟩ = (1, ⟨m, (X.foldl Ua2 s).1.x, (X.foldl Ua2 s).1.y, (X.foldl Ua2 s).1.z, (X.foldl Ua2 s).2.x, (X.foldl Ua2 s).2.y, (X.foldl Ua2 s).2.z⟩) := by
 have h := Fb2 (step := ca4 ⟨X, (X.length : Int)⟩) (mk := fun j (s : V3 × V3) => (⟨(j : Int), s.1.x, s.1.y, s.1.z, s.2.x, s.2.y, s.2.z⟩ : T0)) (f := Ua2) (fin := 1) tX X (fun _ _ => True) (by omega)
  (fun j s hj _ => ⟨by
   have hx := hok _ (Yb8 tX hj)
   simp only [ca4, ia5, Int.toNat_natCast, Lc6 hx.c1, Lc6 hx.c2, Lc6 hx.c3, Gb2 hx.c1 hx.w1, Gb2 hx.c2 hx.w1, Gb2 hx.c3 hx.w1, Gb3 hx.c1 hx.w1, Gb3 hx.c2 hx.w1, Gb3 hx.c3 hx.w1,
    Gb2 hx.c1.neg hx.w1, Gb2 hx.c2.neg hx.w1, Gb2 hx.c3.neg hx.w1, Gb3 hx.c1.neg hx.w1, Gb3 hx.c2.neg hx.w1, Gb3 hx.c3.neg hx.w1, o5 hj (by omega)]
   rw [btD (m9 hj), bt (e8 hj)]
   rfl, trivial⟩)
  (fun s _ => by simp only [ca4, ia5]; rw [bfD (T1 (Nat.lt_irrefl _))]) 0 (Nat.zero_le _) s trivial
 have h := h.1
 rw [List.drop_zero] at h
 exact ⟨_, h⟩
theorem hd8 (X : List Pt) (hX : X.length ≤ 8000000) (hok : ∀ x ∈ X, Okx x) (s : V3 × V3) : ∃ m, lp (ha5 ⟨X⟩) ⟨0, s.1.x, s.1.y, s.1.z, s.2.x, s.2.y, s.2.z⟩ = (1, ⟨m, (X.foldl Ua2 s).1.x, (X.foldl Ua2 s).1.y, (X.foldl Ua2 s).1.z, (X.foldl Ua2 s).2.x, (X.foldl Ua2 s).2.y, (X.foldl Ua2 s).2.z⟩) := by
 have h := Fb2 (step := ha5 ⟨X⟩) (mk := fun j (s : V3 × V3) => (⟨(j : Int), s.1.x, s.1.y, s.1.z, s.2.x, s.2.y, s.2.z⟩ : Y8)) (f := Ua2) (fin := 1) tX X (fun _ _ => True) (by omega)
  (fun j s hj _ => ⟨by
   have hx := hok _ (Yb8 tX hj)
   simp only [ha5, la3, Int.toNat_natCast, Lc6 hx.c1, Lc6 hx.c2, Lc6 hx.c3, ob3 hx.c1 hx.w1 hx.w2, ob3 hx.c2 hx.w1 hx.w2, ob3 hx.c3 hx.w1 hx.w2, ob4 hx.c1 hx.w1 hx.w2, ob4 hx.c2 hx.w1 hx.w2, ob4 hx.c3 hx.w1 hx.w2,
    ob3 hx.c1.neg hx.w1 hx.w2, ob3 hx.c2.neg hx.w1 hx.w2, ob3 hx.c3.neg hx.w1 hx.w2, ob4 hx.c1.neg hx.w1 hx.w2, ob4 hx.c2.neg hx.w1 hx.w2, ob4 hx.c3.neg hx.w1 hx.w2, o5 hj (by omega), e8 hj]
   rw [btD (m9 hj)]
   rfl, trivial⟩)
  (fun s _ => by simp only [ha5, la3]; rw [bfD (T1 (Nat.lt_irrefl _))]) 0 (Nat.zero_le _) s trivial
 have h := h.1
 rw [List.drop_zero] at h
 exact ⟨_, h⟩
theorem hd9 {c : List Pln} (hc : c.length ≤ 1000000000) : Ga6 c = some (ie3 (bnd c), []) := by
 have ht : M7 ⟨24, 24, 24⟩ (-1) = ⟨-24, -24, -24⟩ := by
  unfold M7
  rw [show W (24 * -1) = -24 from by rw [Ad1]; rfl]
 obtain ⟨m, hm⟩ := qd6 (pts c) (Wb1 c) vd4 (⟨24, 24, 24⟩, ⟨-24, -24, -24⟩)
 unfold Ga6 bnd
 simp only [l4, J4, m8, cc2 hc, cc3 hc, nb7 hc, nb8 hc, ht, hm]
 cases ful c <;> rfl
theorem Lc7 {c : List Pln} (hc : c.length ≤ 1000000000) : Na7 c = some (ie3 (bnd c), []) := by
 obtain ⟨m, hm⟩ := hd8 (pts c) (Wb1 c) vd4 (⟨24, 24, 24⟩, ⟨-24, -24, -24⟩)
 unfold Na7 bnd
 simp only [l4, J4, m8, vd3 hc, Tc5 hc, Kc9 hc, Lc0 hc, hm]
 cases ful c <;> rfl
theorem nc2 (r : V3 × V3 × Bool) : (Rb6 r1V r1V r1B).rd (ie3 r, []) = some r := rfl
theorem vd6 {c : List Pln} (hc : c.length ≤ 1000000000) : Ga7 c = bnd c := by unfold Ga7; rw [hd9 hc]; exact na3 _ (nc2 _)
theorem vd7 {c : List Pln} (hc : c.length ≤ 1000000000) : Ga8 c = true := by unfold Ga8; rw [hd9 hc]; exact ya0 _ (nc2 _)
theorem Ld7 {c : List Pln} (hc : c.length ≤ 1000000000) : gb1 c = bnd c := by unfold gb1; rw [Lc7 hc]; exact na3 _ (nc2 _)
theorem Ld8 {c : List Pln} (hc : c.length ≤ 1000000000) : gb2 c = true := by unfold gb2; rw [Lc7 hc]; exact ya0 _ (nc2 _)
theorem Ld9 (x : Pt) : (x.px == x.px && (x.py == x.py && (x.pz == x.pz && (x.pw == x.pw && true)))) = true := (Td9 x x).2 rfl
theorem Md0 (x : Pln) : (x.n.x == x.n.x && (x.n.y == x.n.y && (x.n.z == x.n.z && (x.b == x.b && true)))) = true := by simp
theorem Kb1 (l : List Pt) (hl : l.length ≤ 1000000000) : ia7 l l = some (b true, []) := by
 have h := ib1 (step := V9 ⟨l, l⟩) (mk := fun j => (⟨(j : Int)⟩ : A9)) (c := fun _ => false) (u := 1) (fin := 2) tX l hl
  (fun j hj => by
   simp only [V9, T3, Int.toNat_natCast, o5 hj (by omega), Ld9]
   rw [btD (m9 hj), bt (e8 hj), bt (e8 hj)]
   rfl)
  (by simp only [V9, T3]; rw [bfD (T1 (Nat.lt_irrefl _))]) 0 (Nat.zero_le _)
 rw [List.drop_zero, show (l.any fun _ => false) = false by simp] at h
 unfold ia7
 simp only [l4, m8]
 rw [show (⟨0⟩ : A9) = ⟨((0 : Nat) : Int)⟩ from rfl, h, bf (by simp)]
 rfl
theorem tb8 (l : List Pt) (hl : l.length ≤ 1000000000) : Z1 l l = true := by unfold Z1; rw [Kb1 l hl]; rfl
theorem tb9 (l : List Pt) (hl : l.length ≤ 1000000000) : Z2 l l = true := by unfold Z2; rw [Kb1 l hl]; rfl
theorem vd8 (l : List Pln) (hl : l.length ≤ 1000000000) : bb1 l l = some (b true, []) := by
 have h := ib1 (step := ya7 ⟨l, l⟩) (mk := fun j => (⟨(j : Int)⟩ : X8)) (c := fun _ => false) (u := 1) (fin := 2) tP l hl
  (fun j hj => by
   simp only [ya7, ta1, Int.toNat_natCast, o5 hj (by omega), Md0]
   rw [btD (m9 hj), bt (e8 hj), bt (e8 hj)]
   rfl)
  (by simp only [ya7, ta1]; rw [bfD (T1 (Nat.lt_irrefl _))]) 0 (Nat.zero_le _)
 rw [List.drop_zero, show (l.any fun _ => false) = false by simp] at h
 unfold bb1
 simp only [l4, m8]
 rw [show (⟨0⟩ : X8) = ⟨((0 : Nat) : Int)⟩ from rfl, h, bf (by simp)]
 rfl
theorem ie4 (l : List Pln) (hl : l.length ≤ 1000000000) : tb6 l l = true := by unfold tb6; rw [vd8 l hl]; rfl
theorem ie5 (l : List Pln) (hl : l.length ≤ 1000000000) : tb7 l l = true := by unfold tb7; rw [vd8 l hl]; rfl
end Go.Ev.Ce
namespace Go.Ev.Ce
open Go Go.Ev Go.Ev.L Go.Proofs
def Nx {σ : Type} (x : Stp σ) (E : Nat → Prop) (N : σ → Prop) : Prop := (∃ t, x = .exit t ∧ E t) ∨ ∃ s, x = .next s ∧ N s
theorem Nx.sl {σ : Type} {c : Bool} {t e : Stp σ} {E : Nat → Prop} {N : σ → Prop} (h1 : c = true → Nx t E N) (h2 : c = false → Nx e E N) : Nx (sl c t e) E N := by cases c; exact h2 rfl; exact h1 rfl
theorem Nx.ex {σ : Type} {t : Nat} {E : Nat → Prop} {N : σ → Prop} (h : E t) : Nx (.exit t) E N := .inl ⟨t, rfl, h⟩
theorem Nx.nx {σ : Type} {s : σ} {E : Nat → Prop} {N : σ → Prop} (h : N s) : Nx (.next s) E N := .inr ⟨s, rfl, h⟩
theorem Aa2 {σ τ : Type} {step : σ → Stp σ} {mk : Nat → τ → σ} (n : Nat) (I : Nat → τ → Prop) (E : Nat → σ → Prop) (hn : n ≤ 1000000000)
  (h : ∀ j a, j < n → I j a → Nx (step (mk j a)) (fun t => E t (mk j a)) (fun s => ∃ a', s = mk (j + 1) a' ∧ I (j + 1) a'))
  (hf : ∀ j a, n ≤ j → I j a → ∃ t, step (mk j a) = .exit t ∧ E t (mk j a)) (j0 : Nat) (a : τ) (hi : I j0 a) : ∃ t s, lp step (mk j0 a) = (t, s) ∧ E t s := by
 have key := zb7 (step := step) (I := fun m s => ∃ j a, m = n - j ∧ s = mk j a ∧ I j a) (Q := E) (fun m s ⟨j, a, hm, hs, ha⟩ => by
  subst hs
  by_cases hlt : j < n
  ·rcases h j a hlt ha with h1 | ⟨s', h1, a', h2, h3⟩
   ·exact .inl h1
   ·subst h2
    exact .inr ⟨_, n - (j + 1), by omega, h1, j + 1, a', rfl, rfl, h3⟩
  ·exact .inl (hf j a (by omega) ha)) (n - j0) (mk j0 a) (by omega) ⟨j0, a, rfl, rfl, hi⟩
 exact ⟨_, _, rfl, key⟩
def Rd {ρ : Type} (R : RR ρ) (o : Option (b7 × List b8)) (P : ρ → Prop) : Prop := ∃ x r, o = some x ∧ R.rd x = some r ∧ P r
theorem Rd.p {ρ : Type} {R : RR ρ} {o : Option (b7 × List b8)} {P : ρ → Prop} (h : Rd R o P) : P (G6 R o) := by
 obtain ⟨x, r, h1, h2, h3⟩ := h
 rw [h1, na3 R h2]
 exact h3
theorem Rd.g {ρ : Type} {R : RR ρ} {o : Option (b7 × List b8)} {P : ρ → Prop} (h : Rd R o P) : okO R o = true := by
 obtain ⟨x, r, h1, h2, h3⟩ := h
 rw [h1]
 exact ya0 R h2
theorem Rd.sl {ρ : Type} {R : RR ρ} {c : Bool} {t e : Option (b7 × List b8)} {P : ρ → Prop} (h1 : c = true → Rd R t P) (h2 : c = false → Rd R e P) : Rd R (sl c t e) P := by cases c; exact h2 rfl; exact h1 rfl
theorem pa3 (n : Int) (l : List Int) (j : Int) (h1 : 0 ≤ j) (h2 : j ≤ 1000000) (hn : 0 < n) (hn2 : n ≤ 1000000) :
  ∃ v j', j8 ⟨n, l, j⟩ = ⟨1, v, j'⟩ ∧ 0 ≤ v ∧ v < n ∧ j ≤ j' ∧ j' ≤ j + 1 := by
 unfold j8 ca5
 simp only
 by_cases h : j ≥ (l.length : Int)
 ·rw [btD h]
  exact ⟨0, j, rfl, by omega, hn, by omega, by omega⟩
 ·rw [bfD h]
  have hW : W (W (j + 1) - 1) = j := by rw [rc5, va9 (by omega) (by omega)]; omega
  have hW2 : W (j + 1) = j + 1 := va9 (by omega) (by omega)
  have hin : inB j l.length = true := by rw [mc8]; exact decide_eq_true (by omega)
  rw [hW, hW2, hin, hc3 _ hn (by omega), hd7 _ hn (by omega)]
  exact ⟨_, _, rfl, Int.emod_nonneg _ (by omega), Int.emod_lt_of_pos _ hn, by omega, by omega⟩
theorem Vc1 (m : Int) (l : List Int) (j : Int) (h1 : 0 ≤ j) (h2 : j ≤ 900000) (hm : 0 ≤ m) (hm2 : m ≤ 100000) :
  ∃ a b c j', La1 ⟨m, l, j⟩ = ⟨1, a, b, c, l, j'⟩ ∧ Sm m a ∧ Sm m b ∧ Sm m c ∧ j ≤ j' ∧ j' ≤ j + 3 := by
 unfold La1 Wa9
 simp only [l4, m8]
 have hW : W (W (2 * m) + 1) = 2 * m + 1 := by rw [ib0, va9 (by omega) (by omega)]
 rw [hW]
 obtain ⟨v1, j1, e1, a1, b1, c1, d1⟩ := pa3 (2 * m + 1) l j h1 (by omega) (by omega) (by omega)
 rw [e1]
 obtain ⟨v2, j2, e2, a2, b2, c2, d2⟩ := pa3 (2 * m + 1) l j1 (by omega) (by omega) (by omega) (by omega)
 simp only
 rw [e2]
 obtain ⟨v3, j3, e3, a3, b3, c3, d3⟩ := pa3 (2 * m + 1) l j2 (by omega) (by omega) (by omega) (by omega)
 simp only
 rw [e3]
 refine ⟨v1 - m, v2 - m, v3 - m, j3, ?_, ⟨by omega, by omega⟩, ⟨by omega, by omega⟩, ⟨by omega, by omega⟩, by omega, by omega⟩
 simp only
 rw [va9 (n := v1 - m) (by omega) (by omega), va9 (n := v2 - m) (by omega) (by omega), va9 (n := v3 - m) (by omega) (by omega)]
 rfl
def inV (v : V3) : Bool := smb 24 v.x && (smb 24 v.y && smb 24 v.z)
theorem vd9 (v : V3) : inV v = true ↔ Sm 24 v.x ∧ Sm 24 v.y ∧ Sm 24 v.z := by unfold inV; rw [Bool.and_eq_true, Bool.and_eq_true, Vb1, Vb1, Vb1]
theorem Md1 (v : V3) : Cb2 v = some (b (inV v), []) := by
 unfold Cb2 inV smb
 cases h1 : decide (v.x < -24) <;> cases h2 : decide (v.x > 24) <;> cases h3 : decide (v.y < -24) <;> cases h4 : decide (v.y > 24) <;> cases h5 : decide (v.z < -24) <;> cases h6 : decide (v.z > 24) <;> rfl
theorem ce6 (v : V3) : Pa3 v = inV v := by unfold Pa3; rw [Md1]; rfl
theorem Md2 (v : V3) : Pa4 v = true := by unfold Pa4; rw [Md1]; rfl
def sub (a b : V3) : V3 := ⟨a.x - b.x, a.y - b.y, a.z - b.z⟩
theorem wd0 {a b : V3} (ha : inV a = true) (hb : inV b = true) : Ca7 a b = sub a b ∧ Sm 48 (sub a b).x ∧ Sm 48 (sub a b).y ∧ Sm 48 (sub a b).z := by
 rw [vd9] at ha hb
 obtain ⟨⟨a1, a2⟩, ⟨a3, a4⟩, a5, a6⟩ := ha
 obtain ⟨⟨b1, b2⟩, ⟨b3, b4⟩, b5, b6⟩ := hb
 unfold Ca7 sub
 rw [va9 (by omega) (by omega), va9 (by omega) (by omega), va9 (by omega) (by omega)]
 exact ⟨rfl, ⟨by show _ ≤ a.x - b.x; omega, by show a.x - b.x ≤ _; omega⟩, ⟨by show _ ≤ a.y - b.y; omega, by show a.y - b.y ≤ _; omega⟩, ⟨by show _ ≤ a.z - b.z; omega, by show a.z - b.z ≤ _; omega⟩⟩
theorem Fc7 {a b c : V3} (ha : inV a = true) (hb : inV b = true) (hc : inV c = true) :
  N3 (Ca7 b a) (Ca7 c a) = D1 (sub b a) (sub c a) ∧ Sm 4608 (D1 (sub b a) (sub c a)).x ∧ Sm 4608 (D1 (sub b a) (sub c a)).y ∧ Sm 4608 (D1 (sub b a) (sub c a)).z := by
 obtain ⟨e1, ⟨u1, u2⟩, ⟨u3, u4⟩, u5, u6⟩ := wd0 hb ha
 obtain ⟨e2, ⟨v1, v2⟩, ⟨v3, v4⟩, v5, v6⟩ := wd0 hc ha
 rw [e1, e2, Ub9]
 generalize sub b a = p at *
 generalize sub c a = q at *
 have h1 := mb u3 u4 v5 v6; have h2 := mb u5 u6 v3 v4; have h3 := mb u5 u6 v1 v2; have h4 := mb u1 u2 v5 v6; have h5 := mb u1 u2 v3 v4; have h6 := mb u3 u4 v1 v2
 have k : Sm 4608 (D1 p q).x ∧ Sm 4608 (D1 p q).y ∧ Sm 4608 (D1 p q).z := by unfold Sm D1; simp only; omega
 obtain ⟨k1, k2, k3⟩ := k
 rw [sa2 (k1.mono (by omega)), sa2 (k2.mono (by omega)), sa2 (k3.mono (by omega))]
 exact ⟨rfl, k1, k2, k3⟩
def Vd9 (a b c : V3) : Pln × Bool :=
 if inV a && (inV b && inV c) then
  if g3 (D1 (sub b a) (sub c a)) = 0 then (⟨⟨0, 0, 0⟩, 0⟩, false)
  else (⟨⟨Int.tdiv (D1 (sub b a) (sub c a)).x (g3 (D1 (sub b a) (sub c a))), Int.tdiv (D1 (sub b a) (sub c a)).y (g3 (D1 (sub b a) (sub c a))), Int.tdiv (D1 (sub b a) (sub c a)).z (g3 (D1 (sub b a) (sub c a)))⟩,
   dot ⟨Int.tdiv (D1 (sub b a) (sub c a)).x (g3 (D1 (sub b a) (sub c a))), Int.tdiv (D1 (sub b a) (sub c a)).y (g3 (D1 (sub b a) (sub c a))), Int.tdiv (D1 (sub b a) (sub c a)).z (g3 (D1 (sub b a) (sub c a)))⟩ a⟩, true)
 else (⟨⟨0, 0, 0⟩, 0⟩, false)
theorem Cd5 (v : V3) : 0 ≤ g3 v := by unfold g3; omega
theorem yc6 (a c d : V3) : ya1 a c d = some (.tup [.agg (tP.row (Vd9 a c d).1), b (Vd9 a c d).2], []) := by
 unfold ya1 Vd9
 simp only [ce6, Md2]
 cases ha : inV a with
 | false => rfl
 | true =>
  cases hc : inV c with
  | false => rfl
  | true =>
   cases hd : inV d with
   | false => rfl
   | true =>
    obtain ⟨e, k1, k2, k3⟩ := Fc7 ha hc hd
    rw [e]
    generalize D1 (sub c a) (sub d a) = n at *
    have m1 := k1.mono (m := 1000000000000000000) (by omega)
    have m2 := k2.mono (m := 1000000000000000000) (by omega)
    have m3 := k3.mono (m := 1000000000000000000) (by omega)
    rw [Kd2 m1 m2 m3, vc5 m1 m2 m3]
    by_cases h0 : g3 n = 0
    ·rw [show (g3 n == 0) = true from by rw [h0]; rfl]
     simp only [Bool.and_self, if_true, h0]
     rfl
    ·have hp := Cd5 n
     have q1 := E1 (g := g3 n) k1 (by omega)
     have q2 := E1 (g := g3 n) k2 (by omega)
     have q3 := E1 (g := g3 n) k3 (by omega)
     rw [show (g3 n == 0) = false from by rw [beq_eq_false_iff_ne]; exact h0, he1 m1 m2 m3 h0]
     simp only [Bool.and_self, if_true, h0, if_false]
     rw [sa2 (q1.mono (by omega)), sa2 (q2.mono (by omega)), sa2 (q3.mono (by omega))]
     have hdot : Ba9 ⟨Int.tdiv n.x (g3 n), Int.tdiv n.y (g3 n), Int.tdiv n.z (g3 n)⟩ a = dot ⟨Int.tdiv n.x (g3 n), Int.tdiv n.y (g3 n), Int.tdiv n.z (g3 n)⟩ a := by
      unfold Ba9
      simp only [ib0, Mb0]
      obtain ⟨⟨a1, a2⟩, ⟨a3, a4⟩, a5, a6⟩ := (vd9 a).1 ha
      have r1 := mb q1.1 q1.2 a1 a2; have r2 := mb q2.1 q2.2 a3 a4; have r3 := mb q3.1 q3.2 a5 a6
      rw [va9 (by omega) (by omega)]
      rfl
     rw [hdot]
     rfl
theorem Cd6 (a b c : V3) : fa8 a b c = Vd9 a b c := by unfold fa8; rw [yc6]; rfl
theorem Gb4 (a b c : V3) : fa9 a b c = true := by unfold fa9; rw [yc6]; rfl
theorem Wd0 (l : List Int) : Rd (one r1P) (ab5 l) (fun _ => True) := by
 unfold ab5
 simp only [l4, m8]
 obtain ⟨v1, j1, e1, a1, b1, c1, d1⟩ := pa3 8 l 0 (by omega) (by omega) (by omega) (by omega)
 rw [e1]
 simp only
 obtain ⟨v2, j2, e2, a2, b2, c2, d2⟩ := pa3 17 l j1 (by omega) (by omega) (by omega) (by omega)
 rw [e2]
 simp only
 obtain ⟨x1, x2, x3, j3, e3, _, _, _, c3, d3⟩ := Vc1 8 l j2 (by omega) (by omega) (by omega) (by omega)
 rw [e3]
 simp only
 obtain ⟨y1, y2, y3, j4, e4, _, _, _, c4, d4⟩ := Vc1 8 l j3 (by omega) (by omega) (by omega) (by omega)
 rw [e4]
 simp only
 obtain ⟨z1, z2, z3, j5, e5, _, _, _, c5, d5⟩ := Vc1 8 l j4 (by omega) (by omega) (by omega) (by omega)
 rw [e5]
 simp only [Cd6, Gb4, hc3 _ (show (0 : Int) < 3 by omega) (by omega), m8]
 simp only [Nat.beq_refl, Bool.and_true, o6]
 refine Rd.sl (fun _ => Rd.sl (fun _ => ⟨_, _, rfl, rfl, trivial⟩) fun _ => ?_) (fun _ => ?_)
 ·exact Rd.sl (fun _ => ⟨_, _, rfl, rfl, trivial⟩) fun _ => Rd.sl (fun _ => ⟨_, _, rfl, rfl, trivial⟩) fun _ => ⟨_, _, rfl, rfl, trivial⟩
 ·exact Rd.sl (fun _ => ⟨_, _, rfl, rfl, trivial⟩) fun _ => Rd.sl (fun _ => ⟨_, _, rfl, rfl, trivial⟩) fun _ => ⟨_, _, rfl, rfl, trivial⟩
theorem Wd1 (l : List Int) : sb7 l = true := (Wd0 l).g
theorem Wd2 (p : Pln) (v : V3) : Rd (one r1I) (ab6 p v) (fun _ => True) := by
 unfold ab6
 simp only [ed5, Md2, o6]
 exact Rd.sl (fun _ => ⟨_, _, rfl, rfl, trivial⟩) fun _ => Rd.sl (fun _ => ⟨_, _, rfl, rfl, trivial⟩) fun _ => Rd.sl (fun _ => ⟨_, _, rfl, rfl, trivial⟩) fun _ => Rd.sl (fun _ => ⟨_, _, rfl, rfl, trivial⟩) fun _ => ⟨_, _, rfl, rfl, trivial⟩
theorem Md3 (p : Pln) (v : V3) : tb0 p v = true := (Wd2 p v).g
theorem re1 (P : ka6) (hl : P.d9.length ≤ 1000000000) : ∃ t s, lp (na4 P) ⟨0⟩ = (t, s) ∧ (t = 1 ∨ t = 2 ∨ t = 3) := by
 obtain ⟨l, x1, x2, x3, x4, x5, x6, x7, x8⟩ := P
 refine Aa2 (step := na4 ⟨l, x1, x2, x3, x4, x5, x6, x7, x8⟩) (mk := fun j (_ : Unit) => (⟨(j : Int)⟩ : ea4)) l.length (fun _ _ => True) (fun t _ => t = 1 ∨ t = 2 ∨ t = 3) hl (fun j a hj _ => ?_) (fun j a hj _ => ?_) 0 () trivial
 ·simp only [na4, sa3, Md3, Int.toNat_natCast, o5 hj (show l.length ≤ 4611686018427387904 from Nat.le_trans hl (by omega))]
  rw [btD (m9 hj), bt (e8 hj), o6]
  exact Nx.sl (fun _ => Nx.sl (fun _ => .ex (by simp)) fun _ => .nx ⟨(), rfl, trivial⟩) fun _ => .ex (by simp)
 ·simp only [na4, sa3]
  rw [bfD (by omega)]
  exact ⟨_, rfl, by simp⟩
theorem re2 (l : List V3) (hl : l.length ≤ 1000000000) (a c : Nat) (ha : a < l.length) (hc : c < a) : ∃ t s, lp (na5 ⟨(a : Int), (c : Int)⟩) ⟨l, 0⟩ = (t, s) ∧ ((t = 1 ∨ t = 2) ∧ s.d9 = l) := by
 refine Aa2 (step := na5 ⟨(a : Int), (c : Int)⟩) (mk := fun j (_ : Unit) => (⟨l, (j : Int)⟩ : ea5)) c (fun _ _ => True) (fun t s => (t = 1 ∨ t = 2) ∧ s.d9 = l) (by omega) (fun j x hj _ => ?_) (fun j x hj _ => ?_) 0 () trivial
 ·simp only [na5, sa4, Gb4, Int.toNat_natCast, l4, m8, o5 hj (show c ≤ 4611686018427387904 by omega)]
  rw [btD (m9 hj), bt (e8 ha), bt (e8 (show c < l.length by omega)), bt (e8 (show j < l.length by omega)), o6]
  generalize hP : ka6.mk _ _ _ _ _ _ _ _ _ = P3
  obtain ⟨t, s, h1, h2⟩ := re1 P3 (by subst hP; exact hl)
  rw [h1]
  rcases h2 with rfl | rfl | rfl
  ·exact .ex (by simp)
  ·exact .nx ⟨(), rfl, trivial⟩
  ·exact .nx ⟨(), rfl, trivial⟩
 ·simp only [na5, sa4]
  rw [bfD (by omega)]
  exact ⟨_, rfl, by simp⟩
theorem re3 (l : List V3) (hl : l.length ≤ 1000000000) (a : Nat) (ha : a < l.length) : ∃ t s, lp (na6 ⟨(a : Int)⟩) ⟨l, 0⟩ = (t, s) ∧ ((t = 1 ∨ t = 2) ∧ s.d9 = l) := by
 refine Aa2 (step := na6 ⟨(a : Int)⟩) (mk := fun j (_ : Unit) => (⟨l, (j : Int)⟩ : ea6)) a (fun _ _ => True) (fun t s => (t = 1 ∨ t = 2) ∧ s.d9 = l) (by omega) (fun j x hj _ => ?_) (fun j x hj _ => ?_) 0 () trivial
 ·simp only [na6, sa5, l4, m8, o5 hj (show a ≤ 4611686018427387904 by omega)]
  obtain ⟨t, s, h1, h2, h3⟩ := re2 l hl a j ha hj
  rw [btD (m9 hj), h1]
  rcases h2 with rfl | rfl
  ·exact .ex (by simp)
  ·exact .nx ⟨(), by rw [h3], trivial⟩
 ·simp only [na6, sa5]
  rw [bfD (by omega)]
  exact ⟨_, rfl, by simp⟩
theorem fb2 (l : List V3) (hl : l.length ≤ 1000000000) : Rd (one r1B) (ab7 l) (fun _ => True) := by
 have key : ∃ t s, lp (na7 ⟨⟩) ⟨l, 0⟩ = (t, s) ∧ (t = 1 ∨ t = 2) := by
  refine Aa2 (step := na7 ⟨⟩) (mk := fun j (_ : Unit) => (⟨l, (j : Int)⟩ : ea7)) l.length (fun _ _ => True) (fun t s => (t = 1 ∨ t = 2)) hl (fun j x hj _ => ?_) (fun j x hj _ => ?_) 0 () trivial
  ·simp only [na7, sa6, l4, m8, o5 hj (show l.length ≤ 4611686018427387904 by omega)]
   obtain ⟨t, s, h1, h2, h3⟩ := re3 l hl j hj
   rw [btD (m9 hj), h1]
   rcases h2 with rfl | rfl
   ·exact .ex (by simp)
   ·exact .nx ⟨(), by rw [h3], trivial⟩
  ·simp only [na7, sa6]
   rw [bfD (by omega)]
   exact ⟨_, rfl, by simp⟩
 obtain ⟨t, s, h1, h2⟩ := key
 unfold ab7
 simp only [l4, m8]
 rw [h1]
 rcases h2 with rfl | rfl <;> exact ⟨_, _, rfl, rfl, trivial⟩
theorem Md4 (l : List V3) (hl : l.length ≤ 1000000000) : La2 l = true := (fb2 l hl).g
theorem qd7 (l : List V3) (hl : l.length ≤ 1000000000) : Rd (one r1I) (Pa6 l) (fun _ => True) := by
 have h := ib1 (step := sa7 ⟨l⟩) (mk := fun j => (⟨(j : Int)⟩ : R7)) (c := fun v => !inV v) (u := 1) (fin := 2) tV l hl
  (fun j hj => by
   simp only [sa7, ma3, Int.toNat_natCast, ce6, Md2, o5 hj (show l.length ≤ 4611686018427387904 by omega)]
   rw [btD (m9 hj), bt (e8 hj), o6])
  (by simp only [sa7, ma3]; rw [bfD (T1 (Nat.lt_irrefl _))]) 0 (Nat.zero_le _)
 unfold Pa6
 simp only [l4, m8, J4, Md4 l hl]
 rw [show (⟨0⟩ : R7) = ⟨((0 : Nat) : Int)⟩ from rfl, h]
 refine Rd.sl (fun _ => ⟨_, _, rfl, rfl, trivial⟩) fun _ => ?_
 rw [List.drop_zero]
 cases l.any fun v => !inV v with
 | true => exact ⟨_, _, rfl, rfl, trivial⟩
 | false =>
  show Rd (one r1I) (sl (ab8 l) (some (i 11, [])) (some (i 0, []))) (fun _ => True)
  exact Rd.sl (fun _ => ⟨_, _, rfl, rfl, trivial⟩) fun _ => ⟨_, _, rfl, rfl, trivial⟩
theorem Cd7 (l : List V3) (hl : l.length ≤ 1000000000) : Cb5 l = true := (qd7 l hl).g
theorem Md5 (p : Pln) (l : List V3) (hl : l.length ≤ 1000000000) : Rd (one r1B) (Pa7 p l) (fun _ => True) := by
 have h := ib1 (step := sa8 ⟨l, p.n.x, p.n.y, p.n.z, p.b⟩) (mk := fun j => (⟨(j : Int)⟩ : R8)) (c := fun v => decide (sb9 p v > 0)) (u := 1) (fin := 2) tV l hl
  (fun j hj => by
   simp only [sa8, ma4, Int.toNat_natCast, Md3, o5 hj (show l.length ≤ 4611686018427387904 by omega)]
   rw [btD (m9 hj), bt (e8 hj), o6])
  (by simp only [sa8, ma4]; rw [bfD (T1 (Nat.lt_irrefl _))]) 0 (Nat.zero_le _)
 unfold Pa7
 simp only [l4, m8]
 rw [show (⟨0⟩ : R8) = ⟨((0 : Nat) : Int)⟩ from rfl, h]
 split <;> exact ⟨_, _, rfl, rfl, trivial⟩
theorem Wd3 (p : Pln) (l : List V3) (hl : l.length ≤ 1000000000) : ea8 p l = true := (Md5 p l hl).g
theorem ie6 (p q : Pln) : Rd (one r1I) (ya2 p q) (fun _ => True) := by
 have key : ∃ t s, lp (Z0 ⟨p.n.x, p.n.y, p.n.z, p.b, q.n.x, q.n.y, q.n.z, q.b⟩) ⟨0⟩ = (t, s) ∧ (t = 1 ∨ t = 2 ∨ t = 3) := by
  refine Aa2 (step := Z0 ⟨p.n.x, p.n.y, p.n.z, p.b, q.n.x, q.n.y, q.n.z, q.b⟩) (mk := fun j (_ : Unit) => (⟨(j : Int)⟩ : N5)) 4 (fun _ _ => True) (fun t s => (t = 1 ∨ t = 2 ∨ t = 3)) (by omega) (fun j x hj _ => ?_) (fun j x hj _ => ?_) 0 () trivial
  ·have hn := o5 hj (show 4 ≤ 4611686018427387904 by omega)
   simp only [Z0, ea3, Int.toNat_natCast, hn]
   have hlt : (j : Int) < 4 := by omega
   have hin := e8 hj
   have g : ∀ x1 x2 x3 x4 : Int, ((Nat.ble ((0 + (j * 1)) + 1) 4) && (J5 [(CK.int .i64)] (e7 [(i x1), (i x2), (i x3), (i x4)] (0 + (j * 1))))) = true := by
    intro x1 x2 x3 x4
    match j, hj with
    | 0, _ => rfl
    | 1, _ => rfl
    | 2, _ => rfl
    | 3, _ => rfl
   rw [btD hlt]
   simp only [hin, g, o6]
   exact Nx.sl (fun _ => .ex (by simp)) fun _ => Nx.sl (fun _ => .ex (by simp)) fun _ => .nx ⟨(), rfl, trivial⟩
  ·simp only [Z0, ea3]
   rw [bfD (by omega)]
   exact ⟨_, rfl, by simp⟩
 obtain ⟨t, s, h1, h2⟩ := key
 unfold ya2
 simp only
 rw [h1]
 rcases h2 with rfl | rfl | rfl <;> exact ⟨_, _, rfl, rfl, trivial⟩
theorem ie7 (p q : Pln) : kb1 p q = true := (ie6 p q).g
theorem qd8 (l : List Pln) (n : Nat) (h : n ≤ l.length) : n3 (fun k => (fun k => tP.row (gL tP l k)) (0 + k)) (List.range (n - 0)) = bL tP (l.take n) := by
 rw [← Xa9, k8, k8, List.length_take, Nat.min_eq_left h, Nat.sub_zero]
 apply List.map_congr_left
 intro k hk
 rw [List.mem_range] at hk
 show tP.row (gL tP l (0 + k)) = tP.row (gL tP (l.take n) k)
 congr 1
 simp [gL, List.getD_eq_getElem?_getD, List.getElem?_take, hk]
theorem qd9 (l : List Pln) (n : Nat) : n3 (fun k => (fun k => tP.row (gL tP l k)) (n + k)) (List.range (l.length - n)) = bL tP (l.drop n) := by
 rw [← Xa9, k8, k8, List.length_drop]
 apply List.map_congr_left
 intro k hk
 show tP.row (gL tP l (n + k)) = tP.row (gL tP (l.drop n) k)
 rw [Vb3]
theorem Wb2 (l : List Pln) (x1 x2 x3 x4 : Int) : app (bL tP l) [[i x1, i x2, i x3, i x4]] = bL tP (l ++ [⟨⟨x1, x2, x3⟩, x4⟩]) := Ea2 tP l [⟨⟨x1, x2, x3⟩, x4⟩]
def Vc2 (x : List Pln) (y : Pln) (n : Nat) : List Pln := x.take n ++ (y :: x.drop n)
theorem ub0 {l : List Pln} {n : Nat} {r : List (List b7)} {P : List Pln → Prop} (hn : n = l.length) (hr : r = bL tP l) (h : P l) : Rd (one (r1L tP)) (some (.sl 0 0 n 0, [⟨50, 4, r, true, false, 0⟩])) P := by
 subst hn hr
 exact ⟨_, l, rfl, Nb5 l, h⟩
theorem Md6 (x : List Pln) (y : Pln) (hx : x.length ≤ 1000000) : Rd (one (r1L tP)) (ob0 x y) (fun r => r ≠ [] ∧ r.length ≤ x.length + 1 ∧ ∀ p ∈ r, p = y ∨ p ∈ x) := by
 have h := fb7 (step := ua8 ⟨x, y.n.x, y.n.y, y.n.z, y.b⟩) (mk := fun j => (⟨(j : Int)⟩ : ea9)) (c := fun p => !decide (ya3 p y < 0)) (u := 1) (fin := 2) tP x (by omega)
  (fun j hj => by
   simp only [ua8, ya6, Int.toNat_natCast, ie7, o5 hj (show x.length ≤ 4611686018427387904 by omega)]
   rw [btD (m9 hj), bt (e8 hj), o6]
   cases decide (ya3 (gL tP x j) y < 0) <;> rfl)
  (by simp only [ua8, ya6]; rw [bfD (T1 (Nat.lt_irrefl _))]) 0 (Nat.zero_le _)
 rw [List.drop_zero] at h
 have key : ∃ t n, lp (ua8 ⟨x, y.n.x, y.n.y, y.n.z, y.b⟩) ⟨0⟩ = (t, ⟨((n : Nat) : Int)⟩) ∧ (t = 1 ∨ t = 2) ∧ n ≤ x.length := by
  rw [show (⟨0⟩ : ea9) = ⟨((0 : Nat) : Int)⟩ from rfl, h]
  split
  ·exact ⟨1, _, rfl, .inl rfl, by rw [Nat.zero_add]; exact List.findIdx_le_length⟩
  ·exact ⟨2, _, rfl, .inr rfl, Nat.le_refl _⟩
 obtain ⟨t, n, h1, h2, h3⟩ := key
 have hlo : inB (n : Int) (x.length + 1) = true := e8 (by omega)
 have hd : (bL tP (x.take n)).length = n := by rw [← j9, N6, List.length_take]; omega
 have hmem : ∀ p ∈ Vc2 x y n, p = y ∨ p ∈ x := fun p hp => by
  unfold Vc2 at hp
  rcases List.mem_append.1 hp with hp | hp
  ·exact .inr (List.mem_of_mem_take hp)
  ·rcases List.mem_cons.1 hp with hp | hp
   ·exact .inl hp
   ·exact .inr (List.mem_of_mem_drop hp)
 have hne : Vc2 x y n ≠ [] := by unfold Vc2; simp
 have hlen : (Vc2 x y n).length = x.length + 1 := by unfold Vc2; simp only [List.length_append, List.length_cons, List.length_take, List.length_drop]; omega
 have lt : len (bL tP (x.take n)) = n := by rw [j9]; exact hd
 have ld : len (bL tP (x.drop n)) = x.length - n := by rw [N6, List.length_drop]
 have b1 : (Nat.beq 1 1 && Nat.ble ((1 + (x.length - n)) * 32) room) = true := by rw [ka1 (by omega)]; rfl
 have b2 : (Nat.beq 0 0 && Nat.ble ((0 + n) * 32) room) = true := by rw [ka1 (by omega)]; rfl
 have e0 : app [] (bL tP (x.take n)) = bL tP (x.take n) := rfl
 have b3 : (Nat.beq (0 + n) n && Nat.ble (((0 + n) + 1) * 32) room) = true := by rw [ka1 (by omega), Nat.zero_add, Nat.beq_refl]; rfl
 have l3 : len (bL tP (x.take n ++ [y])) = n + 1 := by rw [N6, List.length_append, List.length_take]; simp only [List.length_singleton]; omega
 have b4 : (Nat.beq ((0 + n) + 1) (n + 1) && Nat.ble ((((0 + n) + 1) + (x.length - n)) * 32) room) = true := by rw [ka1 (by omega), Nat.zero_add, Nat.beq_refl]; rfl
 have z0 : ∀ {k : Nat}, Nat.beq k 0 = true → k = 0 := fun {k} h => Nat.eq_of_beq_eq_true h
 have fin : ∀ m r, m = x.length + 1 → r = bL tP (Vc2 x y n) → Rd (one (r1L tP)) (some (.sl 0 0 m 0, [⟨50, 4, r, true, false, 0⟩])) (fun r => r ≠ [] ∧ r.length ≤ x.length + 1 ∧ ∀ p ∈ r, p = y ∨ p ∈ x) :=
  fun m r hm hr => ub0 (by rw [hlen]; exact hm) hr ⟨hne, by omega, hmem⟩
 have tail : Rd (one (r1L tP)) (sl (Nat.beq n 0) (sl (Nat.beq (x.length - n) 0) (some ((.sl 0 0 1 0), [⟨50, 4, [[(i y.n.x), (i y.n.y), (i y.n.z), (i y.b)]], true, false, 0⟩]))
   (some ((.sl 0 0 (1 + (x.length - n)) 0), [⟨50, 4, (app [[(i y.n.x), (i y.n.y), (i y.n.z), (i y.b)]] (bL tP (x.drop n))), true, false, 0⟩])))
   (sl (Nat.beq (x.length - n) 0) (some ((.sl 0 0 ((0 + n) + 1) 0), [⟨50, 4, bL tP (x.take n ++ [y]), true, false, 0⟩]))
    (some ((.sl 0 0 (((0 + n) + 1) + (x.length - n)) 0), [⟨50, 4, (app (bL tP (x.take n ++ [y])) (bL tP (x.drop n))), true, false, 0⟩])))) (fun r => r ≠ [] ∧ r.length ≤ x.length + 1 ∧ ∀ p ∈ r, p = y ∨ p ∈ x) := by
  refine Rd.sl (fun q1 => Rd.sl (fun q2 => ?_) (fun q2 => ?_)) (fun q1 => Rd.sl (fun q2 => ?_) (fun q2 => ?_))
  ·have := z0 q1; have := z0 q2
   refine fin _ _ (by omega) ?_
   have : x = [] := List.eq_nil_of_length_eq_zero (by omega)
   subst this
   rw [show n = 0 by omega]; rfl
  ·have := z0 q1; subst this
   exact fin _ _ (by omega) rfl
  ·have := z0 q2
   refine fin _ _ (by omega) ?_
   unfold Vc2
   rw [show x.drop n = [] from List.drop_eq_nil_of_le (by omega)]
  ·refine fin _ _ (by omega) ?_
   rw [Ea2]
   unfold Vc2
   rw [List.append_assoc]; rfl
 have same : ∀ p : Pln, (p.n.x == y.n.x && (p.n.y == y.n.y && (p.n.z == y.n.z && (p.b == y.b && true)))) = true → n < x.length → Rd (one (r1L tP)) (some (eL tP x, [])) (fun r => r ≠ [] ∧ r.length ≤ x.length + 1 ∧ ∀ p ∈ r, p = y ∨ p ∈ x) := fun p _ hn =>
  ⟨_, x, rfl, ud9 tP x, List.ne_nil_of_length_pos (by omega), Nat.le_succ _, fun p hp => Or.inr hp⟩
 unfold ob0
 simp only [l4, m8]
 rw [h1]
 simp only [Int.toNat_natCast, qd8 x n h3, qd9, lt, ld, b1, b2, e0, b3, Wb2, l3, b4, hlo, o6]
 have main : Rd (one (r1L tP)) (sl (decide ((n : Int) < (x.length : Int))) (sl (inB (n : Int) x.length) (sl (((gL tP x n).n.x == y.n.x) && (((gL tP x n).n.y == y.n.y) && (((gL tP x n).n.z == y.n.z) && (((gL tP x n).b == y.b) && true)))) (some (eL tP x, []))
   (sl (Nat.beq n 0) (sl (Nat.beq (x.length - n) 0) (some ((.sl 0 0 1 0), [⟨50, 4, [[(i y.n.x), (i y.n.y), (i y.n.z), (i y.b)]], true, false, 0⟩]))
   (some ((.sl 0 0 (1 + (x.length - n)) 0), [⟨50, 4, (app [[(i y.n.x), (i y.n.y), (i y.n.z), (i y.b)]] (bL tP (x.drop n))), true, false, 0⟩])))
   (sl (Nat.beq (x.length - n) 0) (some ((.sl 0 0 ((0 + n) + 1) 0), [⟨50, 4, bL tP (x.take n ++ [y]), true, false, 0⟩]))
    (some ((.sl 0 0 (((0 + n) + 1) + (x.length - n)) 0), [⟨50, 4, (app (bL tP (x.take n ++ [y])) (bL tP (x.drop n))), true, false, 0⟩]))))) none)
   (sl (Nat.beq n 0) (sl (Nat.beq (x.length - n) 0) (some ((.sl 0 0 1 0), [⟨50, 4, [[(i y.n.x), (i y.n.y), (i y.n.z), (i y.b)]], true, false, 0⟩]))
   (some ((.sl 0 0 (1 + (x.length - n)) 0), [⟨50, 4, (app [[(i y.n.x), (i y.n.y), (i y.n.z), (i y.b)]] (bL tP (x.drop n))), true, false, 0⟩])))
   (sl (Nat.beq (x.length - n) 0) (some ((.sl 0 0 ((0 + n) + 1) 0), [⟨50, 4, bL tP (x.take n ++ [y]), true, false, 0⟩]))
    (some ((.sl 0 0 (((0 + n) + 1) + (x.length - n)) 0), [⟨50, 4, (app (bL tP (x.take n ++ [y])) (bL tP (x.drop n))), true, false, 0⟩]))))) (fun r => r ≠ [] ∧ r.length ≤ x.length + 1 ∧ ∀ p ∈ r, p = y ∨ p ∈ x) := by
  by_cases hn : n < x.length
  ·rw [btD (m9 hn), bt (e8 hn)]
   exact Rd.sl (fun q => same _ q hn) fun _ => tail
  ·rw [bfD (T1 hn)]
   exact tail
 rcases h2 with rfl | rfl
 ·exact main
 ·exact main
end Go.Ev.Ce
