/- Own work: a part of the proof. -/
import Derived.Test.YtlccibobknidjaaGreatEvD0
set_option linter.unusedVariables false
set_option linter.unusedSimpArgs false
set_option linter.unnecessarySimpa false
set_option linter.unusedSectionVars false
section
namespace Go.Ev.Ce
open Go Go.Ev Go.Ev.L Go.Proofs
set_option maxRecDepth 100000
noncomputable def Sc7 : List (Nat × Sum) := []
theorem Dc8 : j8 prog G Sc7 := trivial
noncomputable def Da2 (x : V3) (y : V3) : Int := (W ((W ((W (x.x * y.x)) + (W (x.y * y.y)))) + (W (x.z * y.z))))
noncomputable def Ab9 : Sum := ga9 (N8 tV) (N8 tV) (fun x y => .ret ((one r1I).enc (Da2 x y), []))
theorem Ub5 : i5 prog G 129 Ab9 := va1 (bd Ae1 Dc8) fun x y => r5 (by kernel_rfl)
noncomputable def Sc8 : List (Nat × Sum) := []
theorem Dc9 : j8 prog G Sc8 := trivial
noncomputable def ka5 (x : V3) (y : V3) : V3 := (⟨(W (x.x + y.x)), (W (x.y + y.y)), (W (x.z + y.z))⟩ : V3)
noncomputable def gc8 : Sum := ga9 (N8 tV) (N8 tV) (fun x y => .ret ((one r1V).enc (ka5 x y), []))
theorem Sc9 : i5 prog G 54 gc8 := va1 (bd b54 Dc9) fun x y => r5 (by kernel_rfl)
noncomputable def Ec0 : List (Nat × Sum) := []
theorem uc8 : j8 prog G Ec0 := trivial
noncomputable def N2 (x : V3) (y : Int) : V3 := (⟨(W (x.x * y)), (W (x.y * y)), (W (x.z * y))⟩ : V3)
noncomputable def qb9 : Sum := ga9 (N8 tV) cI (fun x y => .ret ((one r1V).enc (N2 x y), []))
theorem Jb6 : i5 prog G 94 qb9 := va1 (bd b94 uc8) fun x y => r5 (by kernel_rfl)
noncomputable def uc9 : List (Nat × Sum) := []
theorem jc8 : j8 prog G uc9 := trivial
noncomputable def M1 (x : V3) (y : V3) : V3 := (⟨(W ((W (x.y * y.z)) - (W (x.z * y.y)))), (W ((W (x.z * y.x)) - (W (x.x * y.z)))), (W ((W (x.x * y.y)) - (W (x.y * y.x))))⟩ : V3)
noncomputable def Jb7 : Sum := ga9 (N8 tV) (N8 tV) (fun x y => .ret ((one r1V).enc (M1 x y), []))
theorem vc0 : i5 prog G 142 Jb7 := va1 (bd Ae3 jc8) fun x y => r5 (by kernel_rfl)
noncomputable def Tc0 : List (Nat × Sum) := [(129, Ab9)]
theorem Ec1 : j8 prog G Tc0 := ⟨Ub5, trivial⟩
noncomputable def ka6 (x : Pln) (y : Pt) : Int := let t1 := (Da2 x.n (⟨y.px, y.py, y.pz⟩ : V3)); (W ((W (x.b * y.pw)) - t1))
noncomputable def hb9 : Sum := ga9 (N8 tP) (N8 tX) (fun x y => .ret ((one r1I).enc (ka6 x y), []))
theorem rb0 : i5 prog G 102 hb9 := va1 (bd ye7 Ec1) fun x y => r5 (by kernel_rfl)
noncomputable def Bb0 : List (Nat × Sum) := []
theorem Tc1 : j8 prog G Bb0 := trivial
structure va5 where
 wa9 : List Int
 is7 : Int
 is8 : Int
structure da8 where
 is3 : Int
 is5 : Int
noncomputable def Ec2 (p : va5) (s : da8) : St := ⟨(ra 3 ((i s.is3) :: (.unk :: ((i s.is5) :: ((eL tI p.wa9) :: ((i p.is7) :: ((i p.is8) :: (ra 14 [])))))))), []⟩
noncomputable def sa3 {α : Type} (k : da8 → α) (e : Nat → α) (z : α) (p : va5) (s : da8) : α := (sl (s.is5 != 0) (sl (s.is5 == 0) z (k ⟨s.is5, (Int.tmod s.is3 s.is5)⟩)) (e 1))
noncomputable def ya4 (p : va5) (s : da8) : Stp da8 := sa3 .next .exit .fail p s
noncomputable def rb1 : Lo va5 da8 := ⟨En Bb0, 0, Ld6, [1, 1, 0, 1, 4, 4, 1, 1, 0, 4, 1, 4, 4], [3, 5, 6, 7, 8], .p, [⟨(ru2 3 ((.s (.o (.int .i64))) :: ((.s (.o .unk)) :: ((.s (.o (.int .i64))) :: ((.s (.c 1 (nL tI))) :: ((.s (.o (.int .i64))) :: ((.s (.o (.int .i64))) :: (ru2 14 [])))))))), [], fun a H => (⟨(rL tI (slT a 6)), (toI (slT a 7)), (toI (slT a 8))⟩, ⟨(toI (slT a 3)), (toI (slT a 5))⟩)⟩], ya4, [(some 2, fun p s => ⟨(ra 3 ((i s.is3) :: (.unk :: ((i s.is5) :: ((eL tI p.wa9) :: ((i p.is7) :: ((i p.is8) :: (ra 3 ((i s.is5) :: ((b (s.is5 != 0)) :: (ra 9 []))))))))))), []⟩)], Ec2⟩
theorem Ec3 : rb1.Ok := Lo.ok [] (by kernel_rfl) .nil rfl (.cons (fun a H => by kernel_rfl) .nil) fun p s => (.of @sa3 (fun F _ _ _ _ _ => by unfold sa3; (repeat' apply m8 (f := F)) <;> rfl) (by kernel_rfl))
structure Fa5 where
 is7 : Int
structure da9 where
 is3 : Int
 wa9 : List Int
 is8 : Int
noncomputable def Ec4 (p : Fa5) (s : da9) : St := ⟨(ra 3 ((i s.is3) :: (.unk :: (.unk :: ((eL tI s.wa9) :: ((i p.is7) :: ((i s.is8) :: (ra 14 [])))))))), []⟩
noncomputable def sa4 {α : Type} (k : da9 → α) (e : Nat → α) (z : α) (p : Fa5) (s : da9) : α := let t1 := (lp (ya4 (⟨(rt tI s.wa9), p.is7, s.is8⟩ : va5)) (⟨s.is3, (gL tI s.wa9 s.is8.toNat)⟩ : da8)); (sl (decide (s.is8 < p.is7)) (sl (inB s.is8 (List.length s.wa9)) (sl ((cnE tI s.wa9) && true) (sl (Nat.beq t1.1 1) (k ⟨t1.2.is3, (rt tI s.wa9), (W (s.is8 + 1))⟩) z) z) z) (e 1))
noncomputable def oa4 (p : Fa5) (s : da9) : Stp da9 := sa4 .next .exit .fail p s
noncomputable def rb2 : Lo Fa5 da9 := ⟨En Bb0, 0, Ld6, [1, 1, 0, 1, 4, 4], [3, 6, 7, 8], (.s .p (.s .p (.s (.b (.s .p (.b (.u rb1.ls)))) .p))), [⟨(ru2 3 ((.s (.o (.int .i64))) :: ((.s (.o .unk)) :: ((.s (.o .unk)) :: ((.s (.c 1 (nL tI))) :: ((.s (.o (.int .i64))) :: ((.s (.o (.int .i64))) :: (ru2 14 [])))))))), [], fun a H => (⟨(toI (slT a 7))⟩, ⟨(toI (slT a 3)), (rL tI (slT a 6)), (toI (slT a 8))⟩)⟩], oa4, [(some 0, fun p s => ⟨(ra 3 ((i s.is3) :: (.unk :: (.unk :: ((eL tI s.wa9) :: ((i p.is7) :: ((i s.is8) :: ((b (decide (s.is8 < p.is7))) :: (ra 13 []))))))))), []⟩)], Ec4⟩
theorem Ec5 : rb2.Ok := Lo.ok [rb1.pr] (by kernel_rfl) (.cons Ec3 .nil) rfl (.cons (fun a H => by kernel_rfl) .nil) fun p s => (.of @sa4 (fun F _ _ _ _ _ => by unfold sa4; (repeat' apply m8 (f := F)) <;> rfl) (by kernel_rfl))
noncomputable def ab9 (x : List Int) : Option (b7 × List b8) := let t1 := (lp (oa4 (⟨(↑(List.length x) : Int)⟩ : Fa5)) (⟨0, (rt tI x), 0⟩ : da9)); (sl ((cnE tI x) && true) (sl (Nat.beq t1.1 1) (some ((i (if (W (0 - t1.2.is3)) > t1.2.is3 then (W (0 - t1.2.is3)) else t1.2.is3)), [])) none) none)
noncomputable def rb3 (x : List Int) : Int := I6 (one r1I) (ab9 x)
noncomputable def rb4 (x : List Int) : Bool := okO (one r1I) (ab9 x)
noncomputable def vc1 : Sum := da4 (U3 tI) (fun x => .guard (rb4 x) (.ret ((one r1I).enc (rb3 x), [])))
theorem fd1 : i5 prog G 218 vc1 := xa0 (bd De0 Tc1) (one r1I) (o := ab9) fun x => xa1 (.s .p (.s .p (.s (.s .p (.b (.u rb2.ls))) .p))) [rb2.pr] (by kernel_rfl) (.cons Ec5 .nil) (by kernel_rfl)
noncomputable def Tc2 : List (Nat × Sum) := [(142, Jb7), (129, Ab9), (94, qb9), (54, gc8), (218, vc1)]
theorem Ec6 : j8 prog G Tc2 := ⟨vc0, Ub5, Jb6, Sc9, fd1, trivial⟩
noncomputable def Oa1 (x : Tp) : Option (b7 × List b8) := let t1 := (M1 x.q.n x.r.n); let t3 := (N2 t1 x.p.b); let t4 := (ka5 (⟨0, 0, 0⟩ : V3) t3); let t5 := (M1 x.r.n x.p.n); let t7 := (N2 t5 x.q.b); let t8 := (ka5 t4 t7); let t9 := (M1 x.p.n x.q.n); let t10 := (Da2 x.r.n t9); let t11 := (N2 t9 x.r.b); let t12 := (ka5 t8 t11); let t13 := (rb3 [t12.x, t12.y, t12.z, t10]); (sl (t10 == 0) (some ((.tup [(.agg [(i 0), (i 0), (i 0), (i 0)]), (b false)]), [])) (sl (rb4 [t12.x, t12.y, t12.z, t10]) (sl (decide (t10 < 0)) (sl ((W (0 - t13)) == 0) none (sl ((W (0 - t13)) == 0) none (sl ((W (0 - t13)) == 0) none (sl ((W (0 - t13)) == 0) none (some ((.tup [(.agg [(i (W (Int.tdiv t12.x (W (0 - t13))))), (i (W (Int.tdiv t12.y (W (0 - t13))))), (i (W (Int.tdiv t12.z (W (0 - t13))))), (i (W (Int.tdiv t10 (W (0 - t13)))))]), (b true)]), [])))))) (sl (t13 == 0) none (sl (t13 == 0) none (sl (t13 == 0) none (sl (t13 == 0) none (some ((.tup [(.agg [(i (W (Int.tdiv t12.x t13))), (i (W (Int.tdiv t12.y t13))), (i (W (Int.tdiv t12.z t13))), (i (W (Int.tdiv t10 t13)))]), (b true)]), []))))))) none))
noncomputable def Oa2 (x : Tp) : Pt × Bool := I6 (two r1X r1B) (Oa1 x)
noncomputable def Oa3 (x : Tp) : Bool := okO (two r1X r1B) (Oa1 x)
noncomputable def gc9 : Sum := da4 (N8 tY) (fun x => .guard (Oa3 x) (.ret ((two r1X r1B).enc (Oa2 x), [])))
theorem Tc3 : i5 prog G 171 gc9 := xa0 (bd Be1 Ec6) (two r1X r1B) (o := Oa1) fun x => r5 (by kernel_rfl)
structure Aa4 where
 ja8 : Int
 ja9 : Int
 ka0 : Int
 db8 : Int
 g9 : Int
 c8 : Int
 i4 : Int
 e7 : Int
noncomputable def cc2 : List (Nat × Sum) := [(102, hb9)]
theorem Ub6 : j8 prog G cc2 := ⟨rb0, trivial⟩
structure ma5 where
 bs0 : Bool
noncomputable def ma6 {α : Type} (kk : ma5 → α) (x : Aa4) : α := let t1 := (ka6 (⟨(⟨x.ja8, x.ja9, x.ka0⟩ : V3), x.db8⟩ : Pln) (⟨x.g9, x.c8, x.i4, x.e7⟩ : Pt)); (kk ⟨(decide (t1 < 0))⟩)
noncomputable def Sa3 (x : Aa4) : ma5 := ma6 (fun r => r) x
noncomputable def Ka5 (x : Aa4) (r : ma5) : DT (b7 × List b8) := .ret ((b r.bs0), [⟨0, 4, [[(i x.g9), (i x.c8), (i x.i4), (i x.e7)]], true, false, 0⟩])
theorem jc9 {α β : Type} (F : α → β) (kk : ma5 → α) (x : Aa4) : F (ma6 kk x) = ma6 (fun r => F (kk r)) x := by unfold ma6; (repeat' apply m8 (f := F)) <;> rfl
noncomputable def ub4 : Sum := Za2 ⟨[(.agg [(.o (.int .i64)), (.o (.int .i64)), (.o (.int .i64)), (.o (.int .i64))]), (.s (.o (.ptr 0 0 0 0)))], [⟨0, 4, true, (some [[(.o (.int .i64)), (.o (.int .i64)), (.o (.int .i64)), (.o (.int .i64))]])⟩], fun a H => (⟨(toI (slT (cellsOf (slT a 0)) 0)), (toI (slT (cellsOf (slT a 0)) 1)), (toI (slT (cellsOf (slT a 0)) 2)), (toI (slT (cellsOf (slT a 0)) 3)), (toI (slT (rwT (elT H 0) 0) 0)), (toI (slT (rwT (elT H 0) 0) 1)), (toI (slT (rwT (elT H 0) 0) 2)), (toI (slT (rwT (elT H 0) 0) 3))⟩, ())⟩ (fun x => Ka5 x (Sa3 x))
theorem cc3 : i5 prog G 181 ub4 := O4 (enc := fun x => ⟨[(.agg [(i x.ja8), (i x.ja9), (i x.ka0), (i x.db8)]), (.ptr 0 0 0 0)], [⟨0, 4, [[(i x.g9), (i x.c8), (i x.i4), (i x.e7)]], true, false, 0⟩]⟩) (fun a H => by kernel_rfl) (bd Be9 Ub6) fun x => r5 (Eq.trans (b := ma6 (fun r => (Ka5 x r).run) x) (by kernel_rfl) (jc9 (fun r => (Ka5 x r).run) (fun r => r) x).symm)
structure O5 where
 c9 : List Pln
 g9 : Int
 c8 : Int
 i4 : Int
 e7 : Int
noncomputable def sa5 : List (Nat × Sum) := [(181, ub4)]
theorem Va8 : j8 prog G sa5 := ⟨cc3, trivial⟩
structure E1 where
 c9 : List Pln
 is7 : Int
 g9 : Int
 c8 : Int
 i4 : Int
 e7 : Int
structure m9 where
 is8 : Int
noncomputable def Sa4 (p : E1) (s : m9) : St := ⟨((eL tP p.c9) :: ((.fn 181 [(.ptr 0 0 0 0)]) :: (ra 5 ((i p.is7) :: ((i s.is8) :: (ra 10 [])))))), [⟨0, 4, [[(i p.g9), (i p.c8), (i p.i4), (i p.e7)]], true, false, 0⟩]⟩
noncomputable def A2 {α : Type} (k : m9 → α) (e : Nat → α) (z : α) (p : E1) (s : m9) : α := let t1 := (Sa3 ⟨(gL tP p.c9 s.is8.toNat).n.x, (gL tP p.c9 s.is8.toNat).n.y, (gL tP p.c9 s.is8.toNat).n.z, (gL tP p.c9 s.is8.toNat).b, p.g9, p.c8, p.i4, p.e7⟩); (sl (decide (s.is8 < p.is7)) (sl (inB s.is8 (List.length p.c9)) (sl t1.bs0 (e 1) (k ⟨(W (s.is8 + 1))⟩)) z) (e 2))
noncomputable def C3 (p : E1) (s : m9) : Stp m9 := A2 .next .exit .fail p s
noncomputable def X0 : Lo E1 m9 := ⟨En sa5, 1, vd6, [1, 0, 1, 4, 4], [0, 1, 7, 8], .p, [⟨((.s (.c 4 (nL tP))) :: ((.fn 181 [(.o (.ptr 0 0 0 0))]) :: (ru2 5 ((.s (.o (.int .i64))) :: ((.s (.o (.int .i64))) :: (ru2 10 [])))))), [⟨0, 4, true, (some [[(.o (.int .i64)), (.o (.int .i64)), (.o (.int .i64)), (.o (.int .i64))]])⟩], fun a H => (⟨(rL tP (slT a 0)), (toI (slT a 7)), (toI (slT (rwT (elT H 0) 0) 0)), (toI (slT (rwT (elT H 0) 0) 1)), (toI (slT (rwT (elT H 0) 0) 2)), (toI (slT (rwT (elT H 0) 0) 3))⟩, ⟨(toI (slT a 8))⟩)⟩], C3, [(none, fun p s => ⟨[(i s.is8)], [⟨0, 4, [[(i p.g9), (i p.c8), (i p.i4), (i p.e7)]], true, false, 0⟩]⟩), (some 0, fun p s => ⟨((eL tP p.c9) :: ((.fn 181 [(.ptr 0 0 0 0)]) :: (ra 5 ((i p.is7) :: ((i s.is8) :: ((b (decide (s.is8 < p.is7))) :: (ra 9 []))))))), [⟨0, 4, [[(i p.g9), (i p.c8), (i p.i4), (i p.e7)]], true, false, 0⟩]⟩)], Sa4⟩
theorem Sa5 : X0.Ok := Lo.ok [] (by kernel_rfl) .nil rfl (.cons (fun a H => by kernel_rfl) .nil) fun p s => (.of @A2 (fun F _ _ _ _ _ => by unfold A2; (repeat' apply m8 (f := F)) <;> rfl) (by kernel_rfl))
structure O6 where
 alt : Nat
 is0 : Int
noncomputable def A9 {α : Type} (kk : O6 → α) (x : O5) : α := let t1 := (lp (C3 (⟨(rt tP x.c9), (↑(List.length x.c9) : Int), x.g9, x.c8, x.i4, x.e7⟩ : E1)) (⟨0⟩ : m9)); (sl ((cnE tP x.c9) && true) (sl (Nat.beq t1.1 1) (kk ⟨1, t1.2.is8⟩) (sl (Nat.beq t1.1 2) (kk ⟨1, (-1)⟩) (kk ⟨0, 0⟩))) (kk ⟨0, 0⟩))
noncomputable def O7 (x : O5) : O6 := A9 (fun r => r) x
noncomputable def Z9 (x : O5) (r : O6) : DT (b7 × List b8) := (.ite (Nat.beq r.alt 1) (.ret ((i r.is0), [⟨0, 4, [[(i x.g9), (i x.c8), (i x.i4), (i x.e7)]], true, false, 0⟩])) .fail)
theorem db9 {α β : Type} (F : α → β) (kk : O6 → α) (x : O5) : F (A9 kk x) = A9 (fun r => F (kk r)) x := by unfold A9; (repeat' apply m8 (f := F)) <;> rfl
noncomputable def wa1 : Sum := Za2 ⟨[(.s (.c 4 (nL tP))), (.fn 181 [(.o (.ptr 0 0 0 0))])], [⟨0, 4, true, (some [[(.o (.int .i64)), (.o (.int .i64)), (.o (.int .i64)), (.o (.int .i64))]])⟩], fun a H => (⟨(rL tP (slT a 0)), (toI (slT (rwT (elT H 0) 0) 0)), (toI (slT (rwT (elT H 0) 0) 1)), (toI (slT (rwT (elT H 0) 0) 2)), (toI (slT (rwT (elT H 0) 0) 3))⟩, ())⟩ (fun x => Z9 x (O7 x))
theorem bb0 : i5 prog G 163 wa1 := O4 (enc := fun x => ⟨[(eL tP x.c9), (.fn 181 [(.ptr 0 0 0 0)])], [⟨0, 4, [[(i x.g9), (i x.c8), (i x.i4), (i x.e7)]], true, false, 0⟩]⟩) (fun a H => by kernel_rfl) (bd ie3 Va8) fun x => xa1 (.s .p (.s (.s .p (.b (.u X0.ls))) .p)) [X0.pr] (by kernel_rfl) (.cons Sa5 .nil) (Eq.trans (b := A9 (fun r => (Z9 x r).run) x) (by kernel_rfl) (db9 (fun r => (Z9 x r).run) (fun r => r) x).symm)
structure J1 where
 c9 : List Pln
 g9 : Int
 c8 : Int
 i4 : Int
 e7 : Int
noncomputable def Oa4 : List (Nat × Sum) := [(163, wa1)]
theorem Ka6 : j8 prog G Oa4 := ⟨bb0, trivial⟩
structure J2 where
 alt : Nat
 bs0 : Bool
noncomputable def w5 {α : Type} (kk : J2 → α) (x : J1) : α := let t1 := (O7 ⟨(rt tP x.c9), x.g9, x.c8, x.i4, x.e7⟩); (sl ((cnE tP x.c9) && true) (sl (Nat.beq t1.alt 1) (kk ⟨1, (decide (t1.is0 ≥ 0))⟩) (kk ⟨0, false⟩)) (kk ⟨0, false⟩))
noncomputable def U4 (x : J1) : J2 := w5 (fun r => r) x
noncomputable def T1 (x : J1) (r : J2) : DT (b7 × List b8) := (.ite (Nat.beq r.alt 1) (.ret ((b r.bs0), [⟨0, 4, [[(i x.g9), (i x.c8), (i x.i4), (i x.e7)]], true, false, 0⟩])) .fail)
theorem Sa6 {α β : Type} (F : α → β) (kk : J2 → α) (x : J1) : F (w5 kk x) = w5 (fun r => F (kk r)) x := by unfold w5; (repeat' apply m8 (f := F)) <;> rfl
noncomputable def ma7 : Sum := Za2 ⟨[(.s (.c 4 (nL tP))), (.fn 181 [(.o (.ptr 0 0 0 0))])], [⟨0, 4, true, (some [[(.o (.int .i64)), (.o (.int .i64)), (.o (.int .i64)), (.o (.int .i64))]])⟩], fun a H => (⟨(rL tP (slT a 0)), (toI (slT (rwT (elT H 0) 0) 0)), (toI (slT (rwT (elT H 0) 0) 1)), (toI (slT (rwT (elT H 0) 0) 2)), (toI (slT (rwT (elT H 0) 0) 3))⟩, ())⟩ (fun x => T1 x (U4 x))
theorem Oa5 : i5 prog G 83 ma7 := O4 (enc := fun x => ⟨[(eL tP x.c9), (.fn 181 [(.ptr 0 0 0 0)])], [⟨0, 4, [[(i x.g9), (i x.c8), (i x.i4), (i x.e7)]], true, false, 0⟩]⟩) (fun a H => by kernel_rfl) (bd b83 Ka6) fun x => r5 (Eq.trans (b := w5 (fun r => (T1 x r).run) x) (by kernel_rfl) (Sa6 (fun r => (T1 x r).run) (fun r => r) x).symm)
noncomputable def vc2 : List (Nat × Sum) := [(83, ma7)]
theorem kc0 : j8 prog G vc2 := ⟨Oa5, trivial⟩
noncomputable def ya5 (x : List Pln) (y : Pt) : Option (b7 × List b8) := let t1 := (U4 ⟨(rt tP x), y.px, y.py, y.pz, y.pw⟩); (sl ((cnE tP x) && true) (sl (Nat.beq t1.alt 1) (some ((b (!t1.bs0)), [])) none) none)
noncomputable def R8 (x : List Pln) (y : Pt) : Bool := I6 (one r1B) (ya5 x y)
noncomputable def R9 (x : List Pln) (y : Pt) : Bool := okO (one r1B) (ya5 x y)
noncomputable def Ma2 : Sum := ga9 (U3 tP) (N8 tX) (fun x y => .guard (R9 x y) (.ret ((one r1B).enc (R8 x y), [])))
theorem bb1 : i5 prog G 108 Ma2 := Za1 (bd ze1 kc0) (one r1B) (o := ya5) fun x y => r5 (by kernel_rfl)
noncomputable def ya6 : List (Nat × Sum) := []
theorem eb0 : j8 prog G ya6 := trivial
@[reducible] noncomputable def Da3 : Sum := j7 (En ya6) de0
theorem jb4 : i5 prog G 217 Da3 := bd Ce9 eb0
noncomputable def Fa6 : List (Nat × Sum) := [(217, Da3)]
theorem nb2 : j8 prog G Fa6 := ⟨jb4, trivial⟩
@[reducible] noncomputable def Ja4 : Sum := j7 (En Fa6) ce3
theorem rb5 : i5 prog G 170 Ja4 := bd Be0 nb2
noncomputable def X1 : List (Nat × Sum) := [(171, gc9), (108, Ma2), (170, Ja4)]
theorem nb3 : j8 prog G X1 := ⟨Tc3, bb1, rb5, trivial⟩
structure i6 where
 is3 : Int
 M0 : List Pln
 Ja2 : Int
 R3 : Int
 Yb3 : Nat
 Xa3 : Nat → List b7
 ba4 : Int
 ka1 : Int
 sd8 : Nat
 Ua9 : Nat → List b7
 Xc8 : Int
 b9 : List Pln
 F5 : Int
 F6 : Int
 F7 : Int
 F8 : Int
 Y8 : Int
 Y9 : Int
 Z0 : Int
 Xa4 : Int
 ka2 : List Pln
structure i7 where
 ph : Nat
 oa1 : Int
 Ma8 : Nat
 eh6 : List (List b7)
 eh7 : List (List b7)
noncomputable def eb1 (p : i6) (s : i7) : St := ⟨(.unk :: ((.ptr 0 0 0 0) :: (.unk :: ((i p.is3) :: ((.ptr 1 0 0 0) :: (.unk :: ((.ptr 2 0 0 0) :: (.unk :: (.unk :: ((eL tP p.M0) :: ((i p.Ja2) :: ((i p.R3) :: (ra 7 ((.tree 4 p.Yb3 p.Xa3) :: ((i p.ba4) :: ((i p.ka1) :: (ra 9 ((.tree 4 p.sd8 p.Ua9) :: ((i p.Xc8) :: ((i s.oa1) :: (ra 13 ((i 0) :: (.unk :: ((.ptr 3 0 0 0) :: ((.v (.slice none 0 0)) :: ((.ptr 4 0 0 0) :: ((.ptr 5 0 0 0) :: (ra 31 [])))))))))))))))))))))))))))), [⟨0, 1, [[(eL tP p.b9)]], true, false, 0⟩, ⟨0, 4, [[(i p.F5), (i p.F6), (i p.F7), (i p.F8)]], true, false, 0⟩, ⟨0, 4, [[(i p.Y8), (i p.Y9), (i p.Z0), (i p.Xa4)]], true, false, 0⟩, ⟨0, 1, [[(eL tP p.ka2)]], true, false, 0⟩, ⟨0, 0, [[(.v (.slice none 0 0))]], true, false, 0⟩, ⟨0, 0, [[(.ptr 6 0 0 0)]], true, false, 0⟩, ⟨174, 0, [], true, false, 0⟩]⟩
noncomputable def eb2 (p : i6) (s : i7) : St := ⟨(.unk :: ((.ptr 0 0 0 0) :: (.unk :: ((i p.is3) :: ((.ptr 1 0 0 0) :: (.unk :: ((.ptr 2 0 0 0) :: (.unk :: (.unk :: ((eL tP p.M0) :: ((i p.Ja2) :: ((i p.R3) :: (ra 7 ((.tree 4 p.Yb3 p.Xa3) :: ((i p.ba4) :: ((i p.ka1) :: (ra 9 ((.tree 4 p.sd8 p.Ua9) :: ((i p.Xc8) :: ((i s.oa1) :: (ra 13 ((i 0) :: (.unk :: ((.ptr 3 0 0 0) :: ((.v (.slice none 0 0)) :: ((.ptr 4 0 0 0) :: ((.ptr 5 0 0 0) :: (ra 31 [])))))))))))))))))))))))))))), [⟨0, 1, [[(eL tP p.b9)]], true, false, 0⟩, ⟨0, 4, [[(i p.F5), (i p.F6), (i p.F7), (i p.F8)]], true, false, 0⟩, ⟨0, 4, [[(i p.Y8), (i p.Y9), (i p.Z0), (i p.Xa4)]], true, false, 0⟩, ⟨0, 1, [[(eL tP p.ka2)]], true, false, 0⟩, ⟨0, 0, [[(.sl 6 0 s.Ma8 0)]], true, false, 0⟩, ⟨0, 0, [[(.ptr 7 0 0 0)]], true, false, 0⟩, ⟨54, 4, s.eh6, true, false, 0⟩, ⟨174, 0, s.eh7, true, false, 0⟩]⟩
noncomputable def jb5 (p : i6) (s : i7) : St := (sel (Nat.beq s.ph 1) (eb2 p s) (eb1 p s))
noncomputable def s6 {α : Type} (k : i7 → α) (e : Nat → α) (z : α) (p : i6) (s : i7) : α := let t1 := (Oa2 (⟨(⟨(⟨p.F5, p.F6, p.F7⟩ : V3), p.F8⟩ : Pln), (⟨(⟨p.Y8, p.Y9, p.Z0⟩ : V3), p.Xa4⟩ : Pln), (⟨(⟨(toI (hdA (p.Ua9 s.oa1.toNat))), (toI (hdA (tlA (p.Ua9 s.oa1.toNat)))), (toI (hdA (tlA (tlA (p.Ua9 s.oa1.toNat)))))⟩ : V3), (toI (hdA (tlA (tlA (tlA (p.Ua9 s.oa1.toNat))))))⟩ : Pln)⟩ : Tp)); let t2 := (R8 (rt tP p.ka2) t1.1); (sl (decide (s.oa1 < p.Xc8)) (sl (inB s.oa1 p.sd8) (sl ((Nat.ble 4 (len (p.Ua9 s.oa1.toNat))) && (I0 [(CK.int .i64), (CK.int .i64), (CK.int .i64), (CK.int .i64)] (p.Ua9 s.oa1.toNat))) (sl (Oa3 (⟨(⟨(⟨p.F5, p.F6, p.F7⟩ : V3), p.F8⟩ : Pln), (⟨(⟨p.Y8, p.Y9, p.Z0⟩ : V3), p.Xa4⟩ : Pln), (⟨(⟨(toI (hdA (p.Ua9 s.oa1.toNat))), (toI (hdA (tlA (p.Ua9 s.oa1.toNat)))), (toI (hdA (tlA (tlA (p.Ua9 s.oa1.toNat)))))⟩ : V3), (toI (hdA (tlA (tlA (tlA (p.Ua9 s.oa1.toNat))))))⟩ : Pln)⟩ : Tp)) (sl t1.2 (sl (!(Pb5 4 [(0, (.int .i64)), (1, (.int .i64)), (2, (.int .i64)), (3, (.int .i64))] [(i t1.1.px), (i t1.1.py), (i t1.1.pz), (i t1.1.pw)] [])) (sl (okE tP p.ka2) (sl (R9 (rt tP p.ka2) t1.1) (sl t2 (k ⟨1, (W (s.oa1 + 1)), 1, [[(i t1.1.px), (i t1.1.py), (i t1.1.pz), (i t1.1.pw)]], (ib4 [(0, (.int .i64)), (1, (.int .i64)), (2, (.int .i64)), (3, (.int .i64))] [(i t1.1.px), (i t1.1.py), (i t1.1.pz), (i t1.1.pw)] [(i t1.1.px), (i t1.1.py), (i t1.1.pz), (i t1.1.pw), (b true)] [])⟩) (k ⟨0, (W (s.oa1 + 1)), 0, [], []⟩)) z) z) (k ⟨0, (W (s.oa1 + 1)), 0, [], []⟩)) (k ⟨0, (W (s.oa1 + 1)), 0, [], []⟩)) z) z) z) (e 1))
noncomputable def s7 {α : Type} (k : i7 → α) (e : Nat → α) (z : α) (p : i6) (s : i7) : α := let t1 := (Oa2 (⟨(⟨(⟨p.F5, p.F6, p.F7⟩ : V3), p.F8⟩ : Pln), (⟨(⟨p.Y8, p.Y9, p.Z0⟩ : V3), p.Xa4⟩ : Pln), (⟨(⟨(toI (hdA (p.Ua9 s.oa1.toNat))), (toI (hdA (tlA (p.Ua9 s.oa1.toNat)))), (toI (hdA (tlA (tlA (p.Ua9 s.oa1.toNat)))))⟩ : V3), (toI (hdA (tlA (tlA (tlA (p.Ua9 s.oa1.toNat))))))⟩ : Pln)⟩ : Tp)); let t2 := (R8 (rt tP p.ka2) t1.1); (sl (decide (s.oa1 < p.Xc8)) (sl (inB s.oa1 p.sd8) (sl ((Nat.ble 4 (len (p.Ua9 s.oa1.toNat))) && (I0 [(CK.int .i64), (CK.int .i64), (CK.int .i64), (CK.int .i64)] (p.Ua9 s.oa1.toNat))) (sl (Oa3 (⟨(⟨(⟨p.F5, p.F6, p.F7⟩ : V3), p.F8⟩ : Pln), (⟨(⟨p.Y8, p.Y9, p.Z0⟩ : V3), p.Xa4⟩ : Pln), (⟨(⟨(toI (hdA (p.Ua9 s.oa1.toNat))), (toI (hdA (tlA (p.Ua9 s.oa1.toNat)))), (toI (hdA (tlA (tlA (p.Ua9 s.oa1.toNat)))))⟩ : V3), (toI (hdA (tlA (tlA (tlA (p.Ua9 s.oa1.toNat))))))⟩ : Pln)⟩ : Tp)) (sl t1.2 (sl (!(Pb5 4 [(0, (.int .i64)), (1, (.int .i64)), (2, (.int .i64)), (3, (.int .i64))] [(i t1.1.px), (i t1.1.py), (i t1.1.pz), (i t1.1.pw)] s.eh7)) (sl (okE tP p.ka2) (sl (R9 (rt tP p.ka2) t1.1) (sl t2 (sl (Nat.beq s.Ma8 (len s.eh6) && Nat.ble ((s.Ma8 + 1) * 32) room) (k ⟨1, (W (s.oa1 + 1)), (s.Ma8 + 1), (app s.eh6 [[(i t1.1.px), (i t1.1.py), (i t1.1.pz), (i t1.1.pw)]]), (ib4 [(0, (.int .i64)), (1, (.int .i64)), (2, (.int .i64)), (3, (.int .i64))] [(i t1.1.px), (i t1.1.py), (i t1.1.pz), (i t1.1.pw)] [(i t1.1.px), (i t1.1.py), (i t1.1.pz), (i t1.1.pw), (b true)] s.eh7)⟩) z) (k ⟨1, (W (s.oa1 + 1)), s.Ma8, s.eh6, s.eh7⟩)) z) z) (k ⟨1, (W (s.oa1 + 1)), s.Ma8, s.eh6, s.eh7⟩)) (k ⟨1, (W (s.oa1 + 1)), s.Ma8, s.eh6, s.eh7⟩)) z) z) z) (e 2))
noncomputable def r6 (p : i6) (s : i7) : Stp i7 := (sel (Nat.beq s.ph 1) (s7 .next .exit .fail p s) (s6 .next .exit .fail p s))
noncomputable def ha9 : Lo i6 i7 := ⟨En X1, 0, Ud9, [1, 1, 1, 0, 1, 4, 4, 1, 4, 4, 1, 1, 0, 4, 1, 1, 4, 4, 1, 1, 0, 4, 1, 1, 4, 4], [1, 3, 4, 6, 9, 10, 11, 19, 20, 21, 31, 32, 33, 47, 49, 50, 51, 52], .p, [⟨((.s (.o .unk)) :: ((.s (.o (.ptr 0 0 0 0))) :: ((.s (.o .unk)) :: ((.s (.o (.int .i64))) :: ((.s (.o (.ptr 1 0 0 0))) :: ((.s (.o .unk)) :: ((.s (.o (.ptr 2 0 0 0))) :: ((.s (.o .unk)) :: ((.s (.o .unk)) :: ((.s (.c 4 (nL tP))) :: ((.s (.o (.int .i64))) :: ((.s (.o (.int .i64))) :: (ru2 7 ((.s (.o (.tree 4))) :: ((.s (.o (.int .i64))) :: ((.s (.o (.int .i64))) :: (ru2 9 ((.s (.o (.tree 4))) :: ((.s (.o (.int .i64))) :: ((.s (.o (.int .i64))) :: (ru2 13 ((.s (.o (.lit .i64 0))) :: ((.s (.o .unk)) :: ((.s (.o (.ptr 3 0 0 0))) :: ((.s (.o .nil)) :: ((.s (.o (.ptr 4 0 0 0))) :: ((.s (.o (.ptr 5 0 0 0))) :: (ru2 31 [])))))))))))))))))))))))))))), [⟨0, 1, true, (some [[(.c 4 (nL tP))]])⟩, ⟨0, 4, true, (some [[(.o (.int .i64)), (.o (.int .i64)), (.o (.int .i64)), (.o (.int .i64))]])⟩, ⟨0, 4, true, (some [[(.o (.int .i64)), (.o (.int .i64)), (.o (.int .i64)), (.o (.int .i64))]])⟩, ⟨0, 1, true, (some [[(.c 4 (nL tP))]])⟩, ⟨0, 0, true, (some [[(.o .nil)]])⟩, ⟨0, 0, true, (some [[(.o (.ptr 6 0 0 0))]])⟩, ⟨174, 0, true, (some [])⟩], fun a H => (⟨(toI (slT a 3)), (rL tP (slT a 9)), (toI (slT a 10)), (toI (slT a 11)), (toN (slT a 19)), (toG (slT a 19)), (toI (slT a 20)), (toI (slT a 21)), (toN (slT a 31)), (toG (slT a 31)), (toI (slT a 32)), (rL tP (slT (rwT (elT H 0) 0) 0)), (toI (slT (rwT (elT H 1) 0) 0)), (toI (slT (rwT (elT H 1) 0) 1)), (toI (slT (rwT (elT H 1) 0) 2)), (toI (slT (rwT (elT H 1) 0) 3)), (toI (slT (rwT (elT H 2) 0) 0)), (toI (slT (rwT (elT H 2) 0) 1)), (toI (slT (rwT (elT H 2) 0) 2)), (toI (slT (rwT (elT H 2) 0) 3)), (rL tP (slT (rwT (elT H 3) 0) 0))⟩, ⟨0, (toI (slT a 33)), 0, [], []⟩)⟩, ⟨((.s (.o .unk)) :: ((.s (.o (.ptr 0 0 0 0))) :: ((.s (.o .unk)) :: ((.s (.o (.int .i64))) :: ((.s (.o (.ptr 1 0 0 0))) :: ((.s (.o .unk)) :: ((.s (.o (.ptr 2 0 0 0))) :: ((.s (.o .unk)) :: ((.s (.o .unk)) :: ((.s (.c 4 (nL tP))) :: ((.s (.o (.int .i64))) :: ((.s (.o (.int .i64))) :: (ru2 7 ((.s (.o (.tree 4))) :: ((.s (.o (.int .i64))) :: ((.s (.o (.int .i64))) :: (ru2 9 ((.s (.o (.tree 4))) :: ((.s (.o (.int .i64))) :: ((.s (.o (.int .i64))) :: (ru2 13 ((.s (.o (.lit .i64 0))) :: ((.s (.o .unk)) :: ((.s (.o (.ptr 3 0 0 0))) :: ((.s (.o .nil)) :: ((.s (.o (.ptr 4 0 0 0))) :: ((.s (.o (.ptr 5 0 0 0))) :: (ru2 31 [])))))))))))))))))))))))))))), [⟨0, 1, true, (some [[(.c 4 (nL tP))]])⟩, ⟨0, 4, true, (some [[(.o (.int .i64)), (.o (.int .i64)), (.o (.int .i64)), (.o (.int .i64))]])⟩, ⟨0, 4, true, (some [[(.o (.int .i64)), (.o (.int .i64)), (.o (.int .i64)), (.o (.int .i64))]])⟩, ⟨0, 1, true, (some [[(.c 4 (nL tP))]])⟩, ⟨0, 0, true, (some [[(.o (.sl 6 0 (some 0) none))]])⟩, ⟨0, 0, true, (some [[(.o (.ptr 7 0 0 0))]])⟩, ⟨54, 4, true, none⟩, ⟨174, 0, true, none⟩], fun a H => (⟨(toI (slT a 3)), (rL tP (slT a 9)), (toI (slT a 10)), (toI (slT a 11)), (toN (slT a 19)), (toG (slT a 19)), (toI (slT a 20)), (toI (slT a 21)), (toN (slT a 31)), (toG (slT a 31)), (toI (slT a 32)), (rL tP (slT (rwT (elT H 0) 0) 0)), (toI (slT (rwT (elT H 1) 0) 0)), (toI (slT (rwT (elT H 1) 0) 1)), (toI (slT (rwT (elT H 1) 0) 2)), (toI (slT (rwT (elT H 1) 0) 3)), (toI (slT (rwT (elT H 2) 0) 0)), (toI (slT (rwT (elT H 2) 0) 1)), (toI (slT (rwT (elT H 2) 0) 2)), (toI (slT (rwT (elT H 2) 0) 3)), (rL tP (slT (rwT (elT H 3) 0) 0))⟩, ⟨1, (toI (slT a 33)), (slN (slT (rwT (elT H 4) 0) 0)), (elT H 6), (elT H 7)⟩)⟩], r6, [(some 4, fun p s => ⟨(.unk :: ((.ptr 0 0 0 0) :: (.unk :: ((i p.is3) :: ((.ptr 1 0 0 0) :: (.unk :: ((.ptr 2 0 0 0) :: (.unk :: (.unk :: ((eL tP p.M0) :: ((i p.Ja2) :: ((i p.R3) :: (ra 7 ((.tree 4 p.Yb3 p.Xa3) :: ((i p.ba4) :: ((i p.ka1) :: (ra 9 ((.tree 4 p.sd8 p.Ua9) :: ((i p.Xc8) :: ((i s.oa1) :: ((b (decide (s.oa1 < p.Xc8))) :: (ra 12 ((i 0) :: (.unk :: ((.ptr 3 0 0 0) :: ((.v (.slice none 0 0)) :: ((.ptr 4 0 0 0) :: ((.ptr 5 0 0 0) :: (ra 31 []))))))))))))))))))))))))))))), [⟨0, 1, [[(eL tP p.b9)]], true, false, 0⟩, ⟨0, 4, [[(i p.F5), (i p.F6), (i p.F7), (i p.F8)]], true, false, 0⟩, ⟨0, 4, [[(i p.Y8), (i p.Y9), (i p.Z0), (i p.Xa4)]], true, false, 0⟩, ⟨0, 1, [[(eL tP p.ka2)]], true, false, 0⟩, ⟨0, 0, [[(.v (.slice none 0 0))]], true, false, 0⟩, ⟨0, 0, [[(.ptr 6 0 0 0)]], true, false, 0⟩, ⟨174, 0, [], true, false, 0⟩]⟩), (some 4, fun p s => ⟨(.unk :: ((.ptr 0 0 0 0) :: (.unk :: ((i p.is3) :: ((.ptr 1 0 0 0) :: (.unk :: ((.ptr 2 0 0 0) :: (.unk :: (.unk :: ((eL tP p.M0) :: ((i p.Ja2) :: ((i p.R3) :: (ra 7 ((.tree 4 p.Yb3 p.Xa3) :: ((i p.ba4) :: ((i p.ka1) :: (ra 9 ((.tree 4 p.sd8 p.Ua9) :: ((i p.Xc8) :: ((i s.oa1) :: ((b (decide (s.oa1 < p.Xc8))) :: (ra 12 ((i 0) :: (.unk :: ((.ptr 3 0 0 0) :: ((.v (.slice none 0 0)) :: ((.ptr 4 0 0 0) :: ((.ptr 5 0 0 0) :: (ra 31 []))))))))))))))))))))))))))))), [⟨0, 1, [[(eL tP p.b9)]], true, false, 0⟩, ⟨0, 4, [[(i p.F5), (i p.F6), (i p.F7), (i p.F8)]], true, false, 0⟩, ⟨0, 4, [[(i p.Y8), (i p.Y9), (i p.Z0), (i p.Xa4)]], true, false, 0⟩, ⟨0, 1, [[(eL tP p.ka2)]], true, false, 0⟩, ⟨0, 0, [[(.sl 6 0 s.Ma8 0)]], true, false, 0⟩, ⟨0, 0, [[(.ptr 7 0 0 0)]], true, false, 0⟩, ⟨54, 4, s.eh6, true, false, 0⟩, ⟨174, 0, s.eh7, true, false, 0⟩]⟩)], jb5⟩
theorem jb6 : ha9.OkM := Lo.okM [] (by kernel_rfl) .nil rfl (.cons (fun a H => by kernel_rfl) (.cons (fun a H => by kernel_rfl) .nil)) fun p s => (.sel (Nat.beq s.ph 1) (.of @s7 (fun F _ _ _ _ _ => by unfold s7; (repeat' apply m8 (f := F)) <;> rfl) (by kernel_rfl)) (.of @s6 (fun F _ _ _ _ _ => by unfold s6; (repeat' apply m8 (f := F)) <;> rfl) (by kernel_rfl)))
structure i8 where
 is3 : Int
 Ja2 : Int
 R3 : Int
 Yb3 : Nat
 Xa3 : Nat → List b7
 ba4 : Int
 F5 : Int
 F6 : Int
 F7 : Int
 F8 : Int
structure i9 where
 ph : Nat
 M0 : List Pln
 ka1 : Int
 b9 : List Pln
 N7 : List Pln
 Yb4 : Nat
 eh5 : List (List b7)
 eh6 : List (List b7)
noncomputable def eb3 (p : i8) (s : i9) : St := ⟨(.unk :: ((.ptr 0 0 0 0) :: (.unk :: ((i p.is3) :: ((.ptr 1 0 0 0) :: (ra 4 ((eL tP s.M0) :: ((i p.Ja2) :: ((i p.R3) :: (ra 7 ((.tree 4 p.Yb3 p.Xa3) :: ((i p.ba4) :: ((i s.ka1) :: (ra 25 ((i 0) :: (.unk :: ((.ptr 2 0 0 0) :: ((.v (.slice none 0 0)) :: ((.ptr 3 0 0 0) :: ((.ptr 4 0 0 0) :: (ra 31 []))))))))))))))))))))), [⟨0, 1, [[(eL tP s.b9)]], true, false, 0⟩, ⟨0, 4, [[(i p.F5), (i p.F6), (i p.F7), (i p.F8)]], true, false, 0⟩, ⟨0, 1, [[(eL tP s.N7)]], true, false, 0⟩, ⟨0, 0, [[(.v (.slice none 0 0))]], true, false, 0⟩, ⟨0, 0, [[(.ptr 5 0 0 0)]], true, false, 0⟩, ⟨174, 0, [], true, false, 0⟩]⟩
noncomputable def eb4 (p : i8) (s : i9) : St := ⟨(.unk :: ((.ptr 0 0 0 0) :: (.unk :: ((i p.is3) :: ((.ptr 1 0 0 0) :: (ra 4 ((eL tP s.M0) :: ((i p.Ja2) :: ((i p.R3) :: (ra 7 ((.tree 4 p.Yb3 p.Xa3) :: ((i p.ba4) :: ((i s.ka1) :: (ra 25 ((i 0) :: (.unk :: ((.ptr 2 0 0 0) :: ((.v (.slice none 0 0)) :: ((.ptr 3 0 0 0) :: ((.ptr 4 0 0 0) :: (ra 31 []))))))))))))))))))))), [⟨0, 1, [[(eL tP s.b9)]], true, false, 0⟩, ⟨0, 4, [[(i p.F5), (i p.F6), (i p.F7), (i p.F8)]], true, false, 0⟩, ⟨0, 1, [[(eL tP s.N7)]], true, false, 0⟩, ⟨0, 0, [[(.sl 5 0 s.Yb4 0)]], true, false, 0⟩, ⟨0, 0, [[(.ptr 6 0 0 0)]], true, false, 0⟩, ⟨54, 4, s.eh5, true, false, 0⟩, ⟨174, 0, s.eh6, true, false, 0⟩]⟩
noncomputable def jb7 (p : i8) (s : i9) : St := (sel (Nat.beq s.ph 1) (eb4 p s) (eb3 p s))
noncomputable def s8 {α : Type} (k : i9 → α) (e : Nat → α) (z : α) (p : i8) (s : i9) : α := let t1 := (lp (r6 (⟨p.is3, (rt tP s.M0), p.Ja2, p.R3, p.Yb3, p.Xa3, p.ba4, s.ka1, ((List.length s.b9) - (W ((W (p.is3 + s.ka1)) + 2)).toNat), (fun k => (fun k => (tP).row (gL tP s.b9 k)) ((W ((W (p.is3 + s.ka1)) + 2)).toNat + k)), (↑((List.length s.b9) - (W ((W (p.is3 + s.ka1)) + 2)).toNat) : Int), (rt tP s.b9), p.F5, p.F6, p.F7, p.F8, (toI (hdA (p.Xa3 s.ka1.toNat))), (toI (hdA (tlA (p.Xa3 s.ka1.toNat)))), (toI (hdA (tlA (tlA (p.Xa3 s.ka1.toNat))))), (toI (hdA (tlA (tlA (tlA (p.Xa3 s.ka1.toNat)))))), (rt tP s.N7)⟩ : i6)) (⟨0, 0, 0, [], []⟩ : i7)); (sl (decide (s.ka1 < p.ba4)) (sl (inB s.ka1 p.Yb3) (sl ((Nat.ble 4 (len (p.Xa3 s.ka1.toNat))) && (I0 [(CK.int .i64), (CK.int .i64), (CK.int .i64), (CK.int .i64)] (p.Xa3 s.ka1.toNat))) (sl (inB (W ((W (p.is3 + s.ka1)) + 2)) ((List.length s.b9) + 1)) (sl ((cnE tP s.M0) && ((cnE tP s.b9) && ((cnE tP s.N7) && true))) (sl (Nat.beq t1.1 1) (k ⟨0, (rt tP s.M0), (W (s.ka1 + 1)), (rt tP s.b9), (rt tP s.N7), 0, [], []⟩) (sl (Nat.beq t1.1 2) (k ⟨1, (rt tP s.M0), (W (s.ka1 + 1)), (rt tP s.b9), (rt tP s.N7), t1.2.Ma8, t1.2.eh6, t1.2.eh7⟩) z)) z) z) z) z) (e 1))
noncomputable def s9 {α : Type} (k : i9 → α) (e : Nat → α) (z : α) (p : i8) (s : i9) : α := let t1 := (lp (r6 (⟨p.is3, (rt tP s.M0), p.Ja2, p.R3, p.Yb3, p.Xa3, p.ba4, s.ka1, ((List.length s.b9) - (W ((W (p.is3 + s.ka1)) + 2)).toNat), (fun k => (fun k => (tP).row (gL tP s.b9 k)) ((W ((W (p.is3 + s.ka1)) + 2)).toNat + k)), (↑((List.length s.b9) - (W ((W (p.is3 + s.ka1)) + 2)).toNat) : Int), (rt tP s.b9), p.F5, p.F6, p.F7, p.F8, (toI (hdA (p.Xa3 s.ka1.toNat))), (toI (hdA (tlA (p.Xa3 s.ka1.toNat)))), (toI (hdA (tlA (tlA (p.Xa3 s.ka1.toNat))))), (toI (hdA (tlA (tlA (tlA (p.Xa3 s.ka1.toNat)))))), (rt tP s.N7)⟩ : i6)) (⟨1, 0, s.Yb4, s.eh5, s.eh6⟩ : i7)); (sl (decide (s.ka1 < p.ba4)) (sl (inB s.ka1 p.Yb3) (sl ((Nat.ble 4 (len (p.Xa3 s.ka1.toNat))) && (I0 [(CK.int .i64), (CK.int .i64), (CK.int .i64), (CK.int .i64)] (p.Xa3 s.ka1.toNat))) (sl (inB (W ((W (p.is3 + s.ka1)) + 2)) ((List.length s.b9) + 1)) (sl ((cnE tP s.M0) && ((cnE tP s.b9) && ((cnE tP s.N7) && true))) (sl (Nat.beq t1.1 1) (k ⟨0, (rt tP s.M0), (W (s.ka1 + 1)), (rt tP s.b9), (rt tP s.N7), 0, [], []⟩) (sl (Nat.beq t1.1 2) (k ⟨1, (rt tP s.M0), (W (s.ka1 + 1)), (rt tP s.b9), (rt tP s.N7), t1.2.Ma8, t1.2.eh6, t1.2.eh7⟩) z)) z) z) z) z) (e 2))
noncomputable def r7 (p : i8) (s : i9) : Stp i9 := (sel (Nat.beq s.ph 1) (s9 .next .exit .fail p s) (s8 .next .exit .fail p s))
noncomputable def ia0 : Lo i8 i9 := ⟨En X1, 0, Ud9, [1, 1, 1, 0, 1, 4, 4, 1, 4, 4, 1, 1, 0, 4, 1, 1, 4, 4], [1, 3, 4, 9, 10, 11, 19, 20, 21, 47, 49, 50, 51, 52], (.s .p (.s .p (.s (.b (.s .p (.s .p (.b (.u ha9.lsM))))) .p))), [⟨((.s (.o .unk)) :: ((.s (.o (.ptr 0 0 0 0))) :: ((.s (.o .unk)) :: ((.s (.o (.int .i64))) :: ((.s (.o (.ptr 1 0 0 0))) :: (ru2 4 ((.s (.c 4 (nL tP))) :: ((.s (.o (.int .i64))) :: ((.s (.o (.int .i64))) :: (ru2 7 ((.s (.o (.tree 4))) :: ((.s (.o (.int .i64))) :: ((.s (.o (.int .i64))) :: (ru2 25 ((.s (.o (.lit .i64 0))) :: ((.s (.o .unk)) :: ((.s (.o (.ptr 2 0 0 0))) :: ((.s (.o .nil)) :: ((.s (.o (.ptr 3 0 0 0))) :: ((.s (.o (.ptr 4 0 0 0))) :: (ru2 31 []))))))))))))))))))))), [⟨0, 1, true, (some [[(.c 4 (nL tP))]])⟩, ⟨0, 4, true, (some [[(.o (.int .i64)), (.o (.int .i64)), (.o (.int .i64)), (.o (.int .i64))]])⟩, ⟨0, 1, true, (some [[(.c 4 (nL tP))]])⟩, ⟨0, 0, true, (some [[(.o .nil)]])⟩, ⟨0, 0, true, (some [[(.o (.ptr 5 0 0 0))]])⟩, ⟨174, 0, true, (some [])⟩], fun a H => (⟨(toI (slT a 3)), (toI (slT a 10)), (toI (slT a 11)), (toN (slT a 19)), (toG (slT a 19)), (toI (slT a 20)), (toI (slT (rwT (elT H 1) 0) 0)), (toI (slT (rwT (elT H 1) 0) 1)), (toI (slT (rwT (elT H 1) 0) 2)), (toI (slT (rwT (elT H 1) 0) 3))⟩, ⟨0, (rL tP (slT a 9)), (toI (slT a 21)), (rL tP (slT (rwT (elT H 0) 0) 0)), (rL tP (slT (rwT (elT H 2) 0) 0)), 0, [], []⟩)⟩, ⟨((.s (.o .unk)) :: ((.s (.o (.ptr 0 0 0 0))) :: ((.s (.o .unk)) :: ((.s (.o (.int .i64))) :: ((.s (.o (.ptr 1 0 0 0))) :: (ru2 4 ((.s (.c 4 (nL tP))) :: ((.s (.o (.int .i64))) :: ((.s (.o (.int .i64))) :: (ru2 7 ((.s (.o (.tree 4))) :: ((.s (.o (.int .i64))) :: ((.s (.o (.int .i64))) :: (ru2 25 ((.s (.o (.lit .i64 0))) :: ((.s (.o .unk)) :: ((.s (.o (.ptr 2 0 0 0))) :: ((.s (.o .nil)) :: ((.s (.o (.ptr 3 0 0 0))) :: ((.s (.o (.ptr 4 0 0 0))) :: (ru2 31 []))))))))))))))))))))), [⟨0, 1, true, (some [[(.c 4 (nL tP))]])⟩, ⟨0, 4, true, (some [[(.o (.int .i64)), (.o (.int .i64)), (.o (.int .i64)), (.o (.int .i64))]])⟩, ⟨0, 1, true, (some [[(.c 4 (nL tP))]])⟩, ⟨0, 0, true, (some [[(.o (.sl 5 0 (some 0) none))]])⟩, ⟨0, 0, true, (some [[(.o (.ptr 6 0 0 0))]])⟩, ⟨54, 4, true, none⟩, ⟨174, 0, true, none⟩], fun a H => (⟨(toI (slT a 3)), (toI (slT a 10)), (toI (slT a 11)), (toN (slT a 19)), (toG (slT a 19)), (toI (slT a 20)), (toI (slT (rwT (elT H 1) 0) 0)), (toI (slT (rwT (elT H 1) 0) 1)), (toI (slT (rwT (elT H 1) 0) 2)), (toI (slT (rwT (elT H 1) 0) 3))⟩, ⟨1, (rL tP (slT a 9)), (toI (slT a 21)), (rL tP (slT (rwT (elT H 0) 0) 0)), (rL tP (slT (rwT (elT H 2) 0) 0)), (slN (slT (rwT (elT H 3) 0) 0)), (elT H 5), (elT H 6)⟩)⟩], r7, [(some 2, fun p s => ⟨(.unk :: ((.ptr 0 0 0 0) :: (.unk :: ((i p.is3) :: ((.ptr 1 0 0 0) :: (ra 4 ((eL tP s.M0) :: ((i p.Ja2) :: ((i p.R3) :: (ra 7 ((.tree 4 p.Yb3 p.Xa3) :: ((i p.ba4) :: ((i s.ka1) :: ((b (decide (s.ka1 < p.ba4))) :: (ra 24 ((i 0) :: (.unk :: ((.ptr 2 0 0 0) :: ((.v (.slice none 0 0)) :: ((.ptr 3 0 0 0) :: ((.ptr 4 0 0 0) :: (ra 31 [])))))))))))))))))))))), [⟨0, 1, [[(eL tP s.b9)]], true, false, 0⟩, ⟨0, 4, [[(i p.F5), (i p.F6), (i p.F7), (i p.F8)]], true, false, 0⟩, ⟨0, 1, [[(eL tP s.N7)]], true, false, 0⟩, ⟨0, 0, [[(.v (.slice none 0 0))]], true, false, 0⟩, ⟨0, 0, [[(.ptr 5 0 0 0)]], true, false, 0⟩, ⟨174, 0, [], true, false, 0⟩]⟩), (some 2, fun p s => ⟨(.unk :: ((.ptr 0 0 0 0) :: (.unk :: ((i p.is3) :: ((.ptr 1 0 0 0) :: (ra 4 ((eL tP s.M0) :: ((i p.Ja2) :: ((i p.R3) :: (ra 7 ((.tree 4 p.Yb3 p.Xa3) :: ((i p.ba4) :: ((i s.ka1) :: ((b (decide (s.ka1 < p.ba4))) :: (ra 24 ((i 0) :: (.unk :: ((.ptr 2 0 0 0) :: ((.v (.slice none 0 0)) :: ((.ptr 3 0 0 0) :: ((.ptr 4 0 0 0) :: (ra 31 [])))))))))))))))))))))), [⟨0, 1, [[(eL tP s.b9)]], true, false, 0⟩, ⟨0, 4, [[(i p.F5), (i p.F6), (i p.F7), (i p.F8)]], true, false, 0⟩, ⟨0, 1, [[(eL tP s.N7)]], true, false, 0⟩, ⟨0, 0, [[(.sl 5 0 s.Yb4 0)]], true, false, 0⟩, ⟨0, 0, [[(.ptr 6 0 0 0)]], true, false, 0⟩, ⟨54, 4, s.eh5, true, false, 0⟩, ⟨174, 0, s.eh6, true, false, 0⟩]⟩)], jb7⟩
theorem jb8 : ia0.OkM := Lo.okM [ha9.prM] (by kernel_rfl) (.cons jb6 .nil) rfl (.cons (fun a H => by kernel_rfl) (.cons (fun a H => by kernel_rfl) .nil)) fun p s => (.sel (Nat.beq s.ph 1) (.of @s9 (fun F _ _ _ _ _ => by unfold s9; (repeat' apply m8 (f := F)) <;> rfl) (by kernel_rfl)) (.of @s8 (fun F _ _ _ _ _ => by unfold s8; (repeat' apply m8 (f := F)) <;> rfl) (by kernel_rfl)))
structure o7 where
 Ja2 : Int
structure l4 where
 ph : Nat
 M0 : List Pln
 R3 : Int
 b9 : List Pln
 Da7 : List Pln
 oc6 : Nat
 eh4 : List (List b7)
 eh5 : List (List b7)
noncomputable def eb5 (p : o7) (s : l4) : St := ⟨(.unk :: ((.ptr 0 0 0 0) :: (ra 7 ((eL tP s.M0) :: ((i p.Ja2) :: ((i s.R3) :: (ra 35 ((i 0) :: (.unk :: ((.ptr 1 0 0 0) :: ((.v (.slice none 0 0)) :: ((.ptr 2 0 0 0) :: ((.ptr 3 0 0 0) :: (ra 31 [])))))))))))))), [⟨0, 1, [[(eL tP s.b9)]], true, false, 0⟩, ⟨0, 1, [[(eL tP s.Da7)]], true, false, 0⟩, ⟨0, 0, [[(.v (.slice none 0 0))]], true, false, 0⟩, ⟨0, 0, [[(.ptr 4 0 0 0)]], true, false, 0⟩, ⟨174, 0, [], true, false, 0⟩]⟩
noncomputable def eb6 (p : o7) (s : l4) : St := ⟨(.unk :: ((.ptr 0 0 0 0) :: (ra 7 ((eL tP s.M0) :: ((i p.Ja2) :: ((i s.R3) :: (ra 35 ((i 0) :: (.unk :: ((.ptr 1 0 0 0) :: ((.v (.slice none 0 0)) :: ((.ptr 2 0 0 0) :: ((.ptr 3 0 0 0) :: (ra 31 [])))))))))))))), [⟨0, 1, [[(eL tP s.b9)]], true, false, 0⟩, ⟨0, 1, [[(eL tP s.Da7)]], true, false, 0⟩, ⟨0, 0, [[(.sl 4 0 s.oc6 0)]], true, false, 0⟩, ⟨0, 0, [[(.ptr 5 0 0 0)]], true, false, 0⟩, ⟨54, 4, s.eh4, true, false, 0⟩, ⟨174, 0, s.eh5, true, false, 0⟩]⟩
noncomputable def jb9 (p : o7) (s : l4) : St := (sel (Nat.beq s.ph 1) (eb6 p s) (eb5 p s))
noncomputable def u9 {α : Type} (k : l4 → α) (e : Nat → α) (z : α) (p : o7) (s : l4) : α := let t1 := (lp (r7 (⟨s.R3, p.Ja2, s.R3, ((List.length s.b9) - (W (s.R3 + 1)).toNat), (fun k => (fun k => (tP).row (gL tP s.b9 k)) ((W (s.R3 + 1)).toNat + k)), (↑((List.length s.b9) - (W (s.R3 + 1)).toNat) : Int), (gL tP s.M0 s.R3.toNat).n.x, (gL tP s.M0 s.R3.toNat).n.y, (gL tP s.M0 s.R3.toNat).n.z, (gL tP s.M0 s.R3.toNat).b⟩ : i8)) (⟨0, (rt tP s.M0), 0, (rt tP s.b9), (rt tP s.Da7), 0, [], []⟩ : i9)); (sl (decide (s.R3 < p.Ja2)) (sl (inB s.R3 (List.length s.M0)) (sl (inB (W (s.R3 + 1)) ((List.length s.b9) + 1)) (sl ((cnE tP s.M0) && ((cnE tP s.b9) && ((cnE tP s.Da7) && true))) (sl (Nat.beq t1.1 1) (k ⟨0, t1.2.M0, (W (s.R3 + 1)), t1.2.b9, t1.2.N7, 0, [], []⟩) (sl (Nat.beq t1.1 2) (k ⟨1, t1.2.M0, (W (s.R3 + 1)), t1.2.b9, t1.2.N7, t1.2.Yb4, t1.2.eh5, t1.2.eh6⟩) z)) z) z) z) (e 1))
noncomputable def v7 {α : Type} (k : l4 → α) (e : Nat → α) (z : α) (p : o7) (s : l4) : α := let t1 := (lp (r7 (⟨s.R3, p.Ja2, s.R3, ((List.length s.b9) - (W (s.R3 + 1)).toNat), (fun k => (fun k => (tP).row (gL tP s.b9 k)) ((W (s.R3 + 1)).toNat + k)), (↑((List.length s.b9) - (W (s.R3 + 1)).toNat) : Int), (gL tP s.M0 s.R3.toNat).n.x, (gL tP s.M0 s.R3.toNat).n.y, (gL tP s.M0 s.R3.toNat).n.z, (gL tP s.M0 s.R3.toNat).b⟩ : i8)) (⟨1, (rt tP s.M0), 0, (rt tP s.b9), (rt tP s.Da7), s.oc6, s.eh4, s.eh5⟩ : i9)); (sl (decide (s.R3 < p.Ja2)) (sl (inB s.R3 (List.length s.M0)) (sl (inB (W (s.R3 + 1)) ((List.length s.b9) + 1)) (sl ((cnE tP s.M0) && ((cnE tP s.b9) && ((cnE tP s.Da7) && true))) (sl (Nat.beq t1.1 1) (k ⟨0, t1.2.M0, (W (s.R3 + 1)), t1.2.b9, t1.2.N7, 0, [], []⟩) (sl (Nat.beq t1.1 2) (k ⟨1, t1.2.M0, (W (s.R3 + 1)), t1.2.b9, t1.2.N7, t1.2.Yb4, t1.2.eh5, t1.2.eh6⟩) z)) z) z) z) (e 2))
noncomputable def r8 (p : o7) (s : l4) : Stp l4 := (sel (Nat.beq s.ph 1) (v7 .next .exit .fail p s) (u9 .next .exit .fail p s))
noncomputable def ia1 : Lo o7 l4 := ⟨En X1, 0, Ud9, [1, 1, 1, 0, 1, 4, 4, 1, 4, 4], [1, 9, 10, 11, 47, 49, 50, 51, 52], (.s .p (.s .p (.s (.b (.s .p (.s .p (.b (.u ia0.lsM))))) .p))), [⟨((.s (.o .unk)) :: ((.s (.o (.ptr 0 0 0 0))) :: (ru2 7 ((.s (.c 4 (nL tP))) :: ((.s (.o (.int .i64))) :: ((.s (.o (.int .i64))) :: (ru2 35 ((.s (.o (.lit .i64 0))) :: ((.s (.o .unk)) :: ((.s (.o (.ptr 1 0 0 0))) :: ((.s (.o .nil)) :: ((.s (.o (.ptr 2 0 0 0))) :: ((.s (.o (.ptr 3 0 0 0))) :: (ru2 31 [])))))))))))))), [⟨0, 1, true, (some [[(.c 4 (nL tP))]])⟩, ⟨0, 1, true, (some [[(.c 4 (nL tP))]])⟩, ⟨0, 0, true, (some [[(.o .nil)]])⟩, ⟨0, 0, true, (some [[(.o (.ptr 4 0 0 0))]])⟩, ⟨174, 0, true, (some [])⟩], fun a H => (⟨(toI (slT a 10))⟩, ⟨0, (rL tP (slT a 9)), (toI (slT a 11)), (rL tP (slT (rwT (elT H 0) 0) 0)), (rL tP (slT (rwT (elT H 1) 0) 0)), 0, [], []⟩)⟩, ⟨((.s (.o .unk)) :: ((.s (.o (.ptr 0 0 0 0))) :: (ru2 7 ((.s (.c 4 (nL tP))) :: ((.s (.o (.int .i64))) :: ((.s (.o (.int .i64))) :: (ru2 35 ((.s (.o (.lit .i64 0))) :: ((.s (.o .unk)) :: ((.s (.o (.ptr 1 0 0 0))) :: ((.s (.o .nil)) :: ((.s (.o (.ptr 2 0 0 0))) :: ((.s (.o (.ptr 3 0 0 0))) :: (ru2 31 [])))))))))))))), [⟨0, 1, true, (some [[(.c 4 (nL tP))]])⟩, ⟨0, 1, true, (some [[(.c 4 (nL tP))]])⟩, ⟨0, 0, true, (some [[(.o (.sl 4 0 (some 0) none))]])⟩, ⟨0, 0, true, (some [[(.o (.ptr 5 0 0 0))]])⟩, ⟨54, 4, true, none⟩, ⟨174, 0, true, none⟩], fun a H => (⟨(toI (slT a 10))⟩, ⟨1, (rL tP (slT a 9)), (toI (slT a 11)), (rL tP (slT (rwT (elT H 0) 0) 0)), (rL tP (slT (rwT (elT H 1) 0) 0)), (slN (slT (rwT (elT H 2) 0) 0)), (elT H 4), (elT H 5)⟩)⟩], r8, [(some 0, fun p s => ⟨(.unk :: ((.ptr 0 0 0 0) :: (ra 7 ((eL tP s.M0) :: ((i p.Ja2) :: ((i s.R3) :: ((b (decide (s.R3 < p.Ja2))) :: (ra 34 ((i 0) :: (.unk :: ((.ptr 1 0 0 0) :: ((.v (.slice none 0 0)) :: ((.ptr 2 0 0 0) :: ((.ptr 3 0 0 0) :: (ra 31 []))))))))))))))), [⟨0, 1, [[(eL tP s.b9)]], true, false, 0⟩, ⟨0, 1, [[(eL tP s.Da7)]], true, false, 0⟩, ⟨0, 0, [[(.v (.slice none 0 0))]], true, false, 0⟩, ⟨0, 0, [[(.ptr 4 0 0 0)]], true, false, 0⟩, ⟨174, 0, [], true, false, 0⟩]⟩), (some 0, fun p s => ⟨(.unk :: ((.ptr 0 0 0 0) :: (ra 7 ((eL tP s.M0) :: ((i p.Ja2) :: ((i s.R3) :: ((b (decide (s.R3 < p.Ja2))) :: (ra 34 ((i 0) :: (.unk :: ((.ptr 1 0 0 0) :: ((.v (.slice none 0 0)) :: ((.ptr 2 0 0 0) :: ((.ptr 3 0 0 0) :: (ra 31 []))))))))))))))), [⟨0, 1, [[(eL tP s.b9)]], true, false, 0⟩, ⟨0, 1, [[(eL tP s.Da7)]], true, false, 0⟩, ⟨0, 0, [[(.sl 4 0 s.oc6 0)]], true, false, 0⟩, ⟨0, 0, [[(.ptr 5 0 0 0)]], true, false, 0⟩, ⟨54, 4, s.eh4, true, false, 0⟩, ⟨174, 0, s.eh5, true, false, 0⟩]⟩)], jb9⟩
theorem kb0 : ia1.OkM := Lo.okM [ia0.prM] (by kernel_rfl) (.cons jb8 .nil) rfl (.cons (fun a H => by kernel_rfl) (.cons (fun a H => by kernel_rfl) .nil)) fun p s => (.sel (Nat.beq s.ph 1) (.of @v7 (fun F _ _ _ _ _ => by unfold v7; (repeat' apply m8 (f := F)) <;> rfl) (by kernel_rfl)) (.of @u9 (fun F _ _ _ _ _ => by unfold u9; (repeat' apply m8 (f := F)) <;> rfl) (by kernel_rfl)))
noncomputable def Q5 (x : List Pln) : Option (b7 × List b8) := let t1 := (lp (r8 (⟨(↑(List.length x) : Int)⟩ : o7)) (⟨0, (rt tP x), 0, (rt tP x), (rt tP x), 0, [], []⟩ : l4)); (sl ((cnE tP x) && ((cnE tP x) && ((cnE tP x) && true))) (sl (Nat.beq t1.1 1) (some ((.v (.slice none 0 0)), [])) (sl (Nat.beq t1.1 2) (some ((.sl 0 0 t1.2.oc6 0), [⟨54, 4, t1.2.eh4, true, false, 0⟩])) none)) none)
noncomputable def Q6 (x : List Pln) : List Pt := I6 (one (r1L tX)) (Q5 x)
noncomputable def Q7 (x : List Pln) : Bool := okO (one (r1L tX)) (Q5 x)
noncomputable def pa8 : Sum := da4 (U3 tP) (fun x => .guard (Q7 x) (.ret ((one (r1L tX)).enc (Q6 x), [])))
theorem Fa7 : i5 prog G 89 pa8 := xa0 (bd b89 nb3) (one (r1L tX)) (o := Q5) fun x => de3 (.s .p (.s .p (.s .p (.s (.s .p (.b (.i (.s .p (.b (.u ia1.lsM)))))) .p)))) [ia1.prM] (by kernel_rfl) (.cons kb0 .nil) (by kernel_rfl)
end Go.Ev.Ce
end
section
namespace Go.Ev.Ce
open Go Go.Ev Go.Ev.L Go.Proofs
set_option maxRecDepth 100000
noncomputable def ub5 : List (Nat × Sum) := []
theorem cc4 : j8 prog G ub5 := trivial
structure ia2 where
 is0 : Int
 kd8 : List Int
 is8 : Int
structure G5 where
 is9 : Int
noncomputable def Ub7 (p : ia2) (s : G5) : St := ⟨((i p.is0) :: (ra 6 ((eL tI p.kd8) :: ((i p.is8) :: ((i s.is9) :: (ra 13 [])))))), []⟩
noncomputable def aa0 {α : Type} (k : G5 → α) (e : Nat → α) (z : α) (p : ia2) (s : G5) : α := (sl (decide (s.is9 < p.is8)) (sl (inB s.is9 (List.length p.kd8)) (sl (decide ((gL tI p.kd8 s.is9.toNat) < (W (0 - p.is0)))) (e 1) (sl (decide ((gL tI p.kd8 s.is9.toNat) > p.is0)) (e 1) (k ⟨(W (s.is9 + 1))⟩))) z) (e 2))
noncomputable def ea0 (p : ia2) (s : G5) : Stp G5 := aa0 .next .exit .fail p s
noncomputable def Ka7 : Lo ia2 G5 := ⟨En ub5, 0, ce0, [1, 0, 1, 4, 4], [0, 7, 8, 9], .p, [⟨((.s (.o (.int .i64))) :: (ru2 6 ((.s (.c 1 (nL tI))) :: ((.s (.o (.int .i64))) :: ((.s (.o (.int .i64))) :: (ru2 13 [])))))), [], fun a H => (⟨(toI (slT a 0)), (rL tI (slT a 7)), (toI (slT a 8))⟩, ⟨(toI (slT a 9))⟩)⟩], ea0, [(none, fun p s => ⟨[(b false)], []⟩), (some 0, fun p s => ⟨((i p.is0) :: (ra 6 ((eL tI p.kd8) :: ((i p.is8) :: ((i s.is9) :: ((b (decide (s.is9 < p.is8))) :: (ra 12 []))))))), []⟩)], Ub7⟩
theorem Ub8 : Ka7.Ok := Lo.ok [] (by kernel_rfl) .nil rfl (.cons (fun a H => by kernel_rfl) .nil) fun p s => (.of @aa0 (fun F _ _ _ _ _ => by unfold aa0; (repeat' apply m8 (f := F)) <;> rfl) (by kernel_rfl))
noncomputable def sa6 (x : Int) (y : List Int) : Option (b7 × List b8) := let t1 := (lp (ea0 (⟨x, (rt tI y), (↑(List.length y) : Int)⟩ : ia2)) (⟨0⟩ : G5)); (sl ((cnE tI y) && true) (sl (Nat.beq t1.1 1) (some ((b false), [])) (sl (Nat.beq t1.1 2) (some ((b true), [])) none)) none)
noncomputable def ia3 (x : Int) (y : List Int) : Bool := I6 (one r1B) (sa6 x y)
noncomputable def ia4 (x : Int) (y : List Int) : Bool := okO (one r1B) (sa6 x y)
noncomputable def bb2 : Sum := ga9 cI (U3 tI) (fun x y => .guard (ia4 x y) (.ret ((one r1B).enc (ia3 x y), [])))
theorem ub6 : i5 prog G 164 bb2 := Za1 (bd Ae5 cc4) (one r1B) (o := sa6) fun x y => xa1 (.s .p (.s (.s .p (.b (.u Ka7.ls))) .p)) [Ka7.pr] (by kernel_rfl) (.cons Ub8 .nil) (by kernel_rfl)
noncomputable def Ub9 : List (Nat × Sum) := []
theorem Nb3 : j8 prog G Ub9 := trivial
noncomputable def va6 (x : Int) : Int := (if (W (0 - x)) > x then (W (0 - x)) else x)
noncomputable def nb4 : Sum := da4 cI (fun x => .ret ((one r1I).enc (va6 x), []))
theorem Vb0 : i5 prog G 214 nb4 := Sb1 (bd Ce7 Nb3) fun x => r5 (by kernel_rfl)
noncomputable def Ka8 : List (Nat × Sum) := [(214, nb4)]
theorem Vb1 : j8 prog G Ka8 := ⟨Vb0, trivial⟩
structure U1 where
 wa9 : List Int
 is7 : Int
 is8 : Int
structure H8 where
 is3 : Int
 is5 : Int
noncomputable def Nb4 (p : U1) (s : H8) : St := ⟨(ra 3 ((i s.is3) :: (.unk :: ((i s.is5) :: ((eL tI p.wa9) :: ((i p.is7) :: ((i p.is8) :: (ra 15 [])))))))), []⟩
noncomputable def W4 {α : Type} (k : H8 → α) (e : Nat → α) (z : α) (p : U1) (s : H8) : α := (sl (decide (s.is5 > 0)) (sl (s.is5 == 0) z (k ⟨s.is5, (Int.tmod s.is3 s.is5)⟩)) (e 1))
noncomputable def R2 (p : U1) (s : H8) : Stp H8 := W4 .next .exit .fail p s
noncomputable def Fa8 : Lo U1 H8 := ⟨En Ka8, 0, Ld3, [1, 1, 0, 1, 4, 4, 1, 1, 0, 4, 1, 1, 1, 4, 4], [3, 5, 6, 7, 8], .p, [⟨(ru2 3 ((.s (.o (.int .i64))) :: ((.s (.o .unk)) :: ((.s (.o (.int .i64))) :: ((.s (.c 1 (nL tI))) :: ((.s (.o (.int .i64))) :: ((.s (.o (.int .i64))) :: (ru2 15 [])))))))), [], fun a H => (⟨(rL tI (slT a 6)), (toI (slT a 7)), (toI (slT a 8))⟩, ⟨(toI (slT a 3)), (toI (slT a 5))⟩)⟩], R2, [(some 2, fun p s => ⟨(ra 3 ((i s.is3) :: (.unk :: ((i s.is5) :: ((eL tI p.wa9) :: ((i p.is7) :: ((i p.is8) :: (ra 7 ((i s.is5) :: ((b (decide (s.is5 > 0))) :: (ra 6 []))))))))))), []⟩)], Nb4⟩
theorem Nb5 : Fa8.Ok := Lo.ok [] (by kernel_rfl) .nil rfl (.cons (fun a H => by kernel_rfl) .nil) fun p s => (.of @W4 (fun F _ _ _ _ _ => by unfold W4; (repeat' apply m8 (f := F)) <;> rfl) (by kernel_rfl))
structure ea1 where
 is7 : Int
structure E2 where
 is3 : Int
 wa9 : List Int
 is8 : Int
noncomputable def Nb6 (p : ea1) (s : E2) : St := ⟨(ra 3 ((i s.is3) :: (.unk :: (.unk :: ((eL tI s.wa9) :: ((i p.is7) :: ((i s.is8) :: (ra 15 [])))))))), []⟩
noncomputable def W5 {α : Type} (k : E2 → α) (e : Nat → α) (z : α) (p : ea1) (s : E2) : α := let t1 := (va6 (gL tI s.wa9 s.is8.toNat)); let t2 := (lp (R2 (⟨(rt tI s.wa9), p.is7, s.is8⟩ : U1)) (⟨s.is3, t1⟩ : H8)); (sl (decide (s.is8 < p.is7)) (sl (inB s.is8 (List.length s.wa9)) (sl ((gL tI s.wa9 s.is8.toNat) == (-9223372036854775808)) (e 1) (sl ((cnE tI s.wa9) && true) (sl (Nat.beq t2.1 1) (k ⟨t2.2.is3, (rt tI s.wa9), (W (s.is8 + 1))⟩) z) z)) z) (e 2))
noncomputable def aa1 (p : ea1) (s : E2) : Stp E2 := W5 .next .exit .fail p s
noncomputable def Fa9 : Lo ea1 E2 := ⟨En Ka8, 0, Ld3, [1, 1, 0, 1, 4, 4], [3, 6, 7, 8], (.s .p (.s .p (.s (.b (.s .p (.s .p (.s .p (.b (.u Fa8.ls)))))) .p))), [⟨(ru2 3 ((.s (.o (.int .i64))) :: ((.s (.o .unk)) :: ((.s (.o .unk)) :: ((.s (.c 1 (nL tI))) :: ((.s (.o (.int .i64))) :: ((.s (.o (.int .i64))) :: (ru2 15 [])))))))), [], fun a H => (⟨(toI (slT a 7))⟩, ⟨(toI (slT a 3)), (rL tI (slT a 6)), (toI (slT a 8))⟩)⟩], aa1, [(none, fun p s => ⟨[(i 0)], []⟩), (some 0, fun p s => ⟨(ra 3 ((i s.is3) :: (.unk :: (.unk :: ((eL tI s.wa9) :: ((i p.is7) :: ((i s.is8) :: ((b (decide (s.is8 < p.is7))) :: (ra 14 []))))))))), []⟩)], Nb6⟩
theorem Nb7 : Fa9.Ok := Lo.ok [Fa8.pr] (by kernel_rfl) (.cons Nb5 .nil) rfl (.cons (fun a H => by kernel_rfl) .nil) fun p s => (.of @W5 (fun F _ _ _ _ _ => by unfold W5; (repeat' apply m8 (f := F)) <;> rfl) (by kernel_rfl))
noncomputable def ma8 (x : List Int) : Option (b7 × List b8) := let t1 := (lp (aa1 (⟨(↑(List.length x) : Int)⟩ : ea1)) (⟨0, (rt tI x), 0⟩ : E2)); (sl ((cnE tI x) && true) (sl (Nat.beq t1.1 1) (some ((i 0), [])) (sl (Nat.beq t1.1 2) (some ((i t1.2.is3), [])) none)) none)
noncomputable def Aa5 (x : List Int) : Int := I6 (one r1I) (ma8 x)
noncomputable def Aa6 (x : List Int) : Bool := okO (one r1I) (ma8 x)
noncomputable def ub7 : Sum := da4 (U3 tI) (fun x => .guard (Aa6 x) (.ret ((one r1I).enc (Aa5 x), [])))
theorem cc5 : i5 prog G 165 ub7 := xa0 (bd Ae6 Vb1) (one r1I) (o := ma8) fun x => xa1 (.s .p (.s .p (.s (.s .p (.b (.u Fa9.ls))) .p))) [Fa9.pr] (by kernel_rfl) (.cons Nb7 .nil) (by kernel_rfl)
noncomputable def vc3 : List (Nat × Sum) := [(164, bb2), (165, ub7)]
theorem kc1 : j8 prog G vc3 := ⟨ub6, cc5, trivial⟩
noncomputable def ya7 (x : Pln) : Option (b7 × List b8) := let t1 := (ia3 4608 [x.n.x, x.n.y, x.n.z]); let t2 := (Aa5 [x.n.x, x.n.y, x.n.z]); let t3 := (ia3 2097152 [x.b]); (sl (ia4 4608 [x.n.x, x.n.y, x.n.z]) (sl t1 (sl (Aa6 [x.n.x, x.n.y, x.n.z]) (sl (t2 == 1) (sl (ia4 2097152 [x.b]) (some ((b t3), [])) none) (some ((b false), []))) none) (some ((b false), []))) none)
noncomputable def Ma3 (x : Pln) : Bool := I6 (one r1B) (ya7 x)
noncomputable def Ma4 (x : Pln) : Bool := okO (one r1B) (ya7 x)
noncomputable def Jb8 : Sum := da4 (N8 tP) (fun x => .guard (Ma4 x) (.ret ((one r1B).enc (Ma3 x), [])))
theorem vc4 : i5 prog G 85 Jb8 := xa0 (bd b85 kc1) (one r1B) (o := ya7) fun x => r5 (by kernel_rfl)
noncomputable def kc2 : List (Nat × Sum) := [(85, Jb8)]
theorem cc6 : j8 prog G kc2 := ⟨vc4, trivial⟩
noncomputable def sa7 (x : Pln) : Option (b7 × List b8) := let t1 := (Ma3 x); (sl (Ma4 x) (some ((b (!t1)), [])) none)
noncomputable def Ga0 (x : Pln) : Bool := I6 (one r1B) (sa7 x)
noncomputable def Ga1 (x : Pln) : Bool := okO (one r1B) (sa7 x)
noncomputable def Bb1 : Sum := da4 (N8 tP) (fun x => .guard (Ga1 x) (.ret ((one r1B).enc (Ga0 x), [])))
theorem kc3 : i5 prog G 84 Bb1 := xa0 (bd b84 cc6) (one r1B) (o := sa7) fun x => r5 (by kernel_rfl)
structure O8 where
 c9 : List Pln
noncomputable def sa8 : List (Nat × Sum) := [(84, Bb1)]
theorem Va9 : j8 prog G sa8 := ⟨kc3, trivial⟩
structure E3 where
 c9 : List Pln
 is7 : Int
structure n5 where
 is8 : Int
noncomputable def Sa7 (p : E3) (s : n5) : St := ⟨((eL tP p.c9) :: ((.fn 84 []) :: (ra 5 ((i p.is7) :: ((i s.is8) :: (ra 10 [])))))), []⟩
noncomputable def A3 {α : Type} (k : n5 → α) (e : Nat → α) (z : α) (p : E3) (s : n5) : α := let t1 := (Ga0 (gL tP p.c9 s.is8.toNat)); (sl (decide (s.is8 < p.is7)) (sl (inB s.is8 (List.length p.c9)) (sl (Ga1 (gL tP p.c9 s.is8.toNat)) (sl t1 (e 1) (k ⟨(W (s.is8 + 1))⟩)) z) z) (e 2))
noncomputable def C5 (p : E3) (s : n5) : Stp n5 := A3 .next .exit .fail p s
noncomputable def X2 : Lo E3 n5 := ⟨En sa8, 0, vd6, [1, 0, 1, 4, 4], [0, 1, 7, 8], .p, [⟨((.s (.c 4 (nL tP))) :: ((.s (.o (.fn 84))) :: (ru2 5 ((.s (.o (.int .i64))) :: ((.s (.o (.int .i64))) :: (ru2 10 [])))))), [], fun a H => (⟨(rL tP (slT a 0)), (toI (slT a 7))⟩, ⟨(toI (slT a 8))⟩)⟩], C5, [(none, fun p s => ⟨[(i s.is8)], []⟩), (some 0, fun p s => ⟨((eL tP p.c9) :: ((.fn 84 []) :: (ra 5 ((i p.is7) :: ((i s.is8) :: ((b (decide (s.is8 < p.is7))) :: (ra 9 []))))))), []⟩)], Sa7⟩
theorem Sa8 : X2.Ok := Lo.ok [] (by kernel_rfl) .nil rfl (.cons (fun a H => by kernel_rfl) .nil) fun p s => (.of @A3 (fun F _ _ _ _ _ => by unfold A3; (repeat' apply m8 (f := F)) <;> rfl) (by kernel_rfl))
structure O9 where
 alt : Nat
 is0 : Int
noncomputable def B0 {α : Type} (kk : O9 → α) (x : O8) : α := let t1 := (lp (C5 (⟨(rt tP x.c9), (↑(List.length x.c9) : Int)⟩ : E3)) (⟨0⟩ : n5)); (sl ((cnE tP x.c9) && true) (sl (Nat.beq t1.1 1) (kk ⟨1, t1.2.is8⟩) (sl (Nat.beq t1.1 2) (kk ⟨1, (-1)⟩) (kk ⟨0, 0⟩))) (kk ⟨0, 0⟩))
noncomputable def ca0 (x : O8) : O9 := B0 (fun r => r) x
noncomputable def aa2 (x : O8) (r : O9) : DT (b7 × List b8) := (.ite (Nat.beq r.alt 1) (.ret ((i r.is0), [])) .fail)
theorem eb7 {α β : Type} (F : α → β) (kk : O9 → α) (x : O8) : F (B0 kk x) = B0 (fun r => F (kk r)) x := by unfold B0; (repeat' apply m8 (f := F)) <;> rfl
noncomputable def wa2 : Sum := Za2 ⟨[(.s (.c 4 (nL tP))), (.s (.o (.fn 84)))], [], fun a H => (⟨(rL tP (slT a 0))⟩, ())⟩ (fun x => aa2 x (ca0 x))
theorem bb3 : i5 prog G 163 wa2 := O4 (enc := fun x => ⟨[(eL tP x.c9), (.fn 84 [])], []⟩) (fun a H => by kernel_rfl) (bd ie3 Va9) fun x => xa1 (.s .p (.s (.s .p (.b (.u X2.ls))) .p)) [X2.pr] (by kernel_rfl) (.cons Sa8 .nil) (Eq.trans (b := B0 (fun r => (aa2 x r).run) x) (by kernel_rfl) (eb7 (fun r => (aa2 x r).run) (fun r => r) x).symm)
structure J3 where
 c9 : List Pln
noncomputable def Oa6 : List (Nat × Sum) := [(163, wa2)]
theorem Ka9 : j8 prog G Oa6 := ⟨bb3, trivial⟩
structure J4 where
 alt : Nat
 bs0 : Bool
noncomputable def w6 {α : Type} (kk : J4 → α) (x : J3) : α := let t1 := (ca0 ⟨(rt tP x.c9)⟩); (sl ((cnE tP x.c9) && true) (sl (Nat.beq t1.alt 1) (kk ⟨1, (decide (t1.is0 ≥ 0))⟩) (kk ⟨0, false⟩)) (kk ⟨0, false⟩))
noncomputable def U5 (x : J3) : J4 := w6 (fun r => r) x
noncomputable def T2 (x : J3) (r : J4) : DT (b7 × List b8) := (.ite (Nat.beq r.alt 1) (.ret ((b r.bs0), [])) .fail)
theorem Sa9 {α β : Type} (F : α → β) (kk : J4 → α) (x : J3) : F (w6 kk x) = w6 (fun r => F (kk r)) x := by unfold w6; (repeat' apply m8 (f := F)) <;> rfl
noncomputable def ma9 : Sum := Za2 ⟨[(.s (.c 4 (nL tP))), (.s (.o (.fn 84)))], [], fun a H => (⟨(rL tP (slT a 0))⟩, ())⟩ (fun x => T2 x (U5 x))
theorem Oa7 : i5 prog G 83 ma9 := O4 (enc := fun x => ⟨[(eL tP x.c9), (.fn 84 [])], []⟩) (fun a H => by kernel_rfl) (bd b83 Ka9) fun x => r5 (Eq.trans (b := w6 (fun r => (T2 x r).run) x) (by kernel_rfl) (Sa9 (fun r => (T2 x r).run) (fun r => r) x).symm)
noncomputable def Ec7 : List (Nat × Sum) := [(83, ma9)]
theorem vc5 : j8 prog G Ec7 := ⟨Oa7, trivial⟩
noncomputable def Ga2 (x : List Pln) : Option (b7 × List b8) := let t1 := (U5 ⟨(rt tP x)⟩); (sl (decide ((↑(List.length x) : Int) > 48)) (some ((i 2), [])) (sl ((cnE tP x) && true) (sl (Nat.beq t1.alt 1) (sl t1.bs0 (some ((i 12), [])) (some ((i 0), []))) none) none))
noncomputable def Ga3 (x : List Pln) : Int := I6 (one r1I) (Ga2 x)
noncomputable def Ga4 (x : List Pln) : Bool := okO (one r1I) (Ga2 x)
noncomputable def rb6 : Sum := da4 (U3 tP) (fun x => .guard (Ga4 x) (.ret ((one r1I).enc (Ga3 x), [])))
theorem Jb9 : i5 prog G 15 rb6 := xa0 (bd b15 vc5) (one r1I) (o := Ga2) fun x => r5 (by kernel_rfl)
noncomputable def kc4 : List (Nat × Sum) := [(15, rb6)]
theorem cc7 : j8 prog G kc4 := ⟨Jb9, trivial⟩
noncomputable def sa9 (x : List Pln) : Option (b7 × List b8) := let t1 := (Ga3 (rt tP x)); (sl (okE tP x) (sl (Ga4 (rt tP x)) (some ((b (t1 != 0)), [])) none) none)
noncomputable def Ga5 (x : List Pln) : Bool := I6 (one r1B) (sa9 x)
noncomputable def Ga6 (x : List Pln) : Bool := okO (one r1B) (sa9 x)
noncomputable def Bb2 : Sum := da4 (U3 tP) (fun x => .guard (Ga6 x) (.ret ((one r1B).enc (Ga5 x), [])))
theorem kc5 : i5 prog G 168 Bb2 := xa0 (bd Ae9 cc7) (one r1B) (o := sa9) fun x => r5 (by kernel_rfl)
end Go.Ev.Ce
end
