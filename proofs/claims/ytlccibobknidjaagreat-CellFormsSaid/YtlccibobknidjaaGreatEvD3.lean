/- Own work: a part of the proof. -/
import Derived.Test.YtlccibobknidjaaGreatEvD0
set_option linter.unusedVariables false
set_option linter.unusedSimpArgs false
set_option linter.unnecessarySimpa false
set_option linter.unusedSectionVars false
section
namespace Go.Ev.Ce
open Go Go.Ev Go.Ev.L Go.Proofs
set_option maxRecDepth 100000
noncomputable def Rc5 : List (Nat × Sum) := []
theorem Cc6 : i7 prog G Rc5 := trivial
noncomputable def Ca4 (x : V3) (y : V3) : Int := (W ((W ((W (x.x * y.x)) + (W (x.y * y.y)))) + (W (x.z * y.z))))
noncomputable def Bb3 : Sum := ga8 (P7 tV) (P7 tV) (fun x y => .ret ((one r1I).enc (Ca4 x y), []))
theorem Tb9 : f6 prog G 129 Bb3 := ta9 (bd ye4 Cc6) fun x y => p7 (by kernel_rfl)
noncomputable def Rc6 : List (Nat × Sum) := []
theorem Cc7 : i7 prog G Rc6 := trivial
noncomputable def ja6 (x : V3) (y : V3) : V3 := (⟨(W (x.x + y.x)), (W (x.y + y.y)), (W (x.z + y.z))⟩ : V3)
noncomputable def fc9 : Sum := ga8 (P7 tV) (P7 tV) (fun x y => .ret ((one r1V).enc (ja6 x y), []))
theorem Rc7 : f6 prog G 54 fc9 := ta9 (bd b54 Cc7) fun x y => p7 (by kernel_rfl)
noncomputable def Cc8 : List (Nat × Sum) := []
theorem tc8 : i7 prog G Cc8 := trivial
noncomputable def M7 (x : V3) (y : Int) : V3 := (⟨(W (x.x * y)), (W (x.y * y)), (W (x.z * y))⟩ : V3)
noncomputable def rb4 : Sum := ga8 (P7 tV) cI (fun x y => .ret ((one r1V).enc (M7 x y), []))
theorem Jb3 : f6 prog G 94 rb4 := ta9 (bd b94 tc8) fun x y => p7 (by kernel_rfl)
noncomputable def tc9 : List (Nat × Sum) := []
theorem ic9 : i7 prog G tc9 := trivial
noncomputable def L6 (x : V3) (y : V3) : V3 := (⟨(W ((W (x.y * y.z)) - (W (x.z * y.y)))), (W ((W (x.z * y.x)) - (W (x.x * y.z)))), (W ((W (x.x * y.y)) - (W (x.y * y.x))))⟩ : V3)
noncomputable def Jb4 : Sum := ga8 (P7 tV) (P7 tV) (fun x y => .ret ((one r1V).enc (L6 x y), []))
theorem uc0 : f6 prog G 142 Jb4 := ta9 (bd ye6 ic9) fun x y => p7 (by kernel_rfl)
noncomputable def Rc8 : List (Nat × Sum) := [(129, Bb3)]
theorem Cc9 : i7 prog G Rc8 := ⟨Tb9, trivial⟩
noncomputable def ja7 (x : Pln) (y : Pt) : Int := let t1 := (Ca4 x.n (⟨y.px, y.py, y.pz⟩ : V3)); (W ((W (x.b * y.pw)) - t1))
noncomputable def gb3 : Sum := ga8 (P7 tP) (P7 tX) (fun x y => .ret ((one r1I).enc (ja7 x y), []))
theorem rb5 : f6 prog G 102 gb3 := ta9 (bd xe0 Cc9) fun x y => p7 (by kernel_rfl)
noncomputable def Bb4 : List (Nat × Sum) := []
theorem Rc9 : i7 prog G Bb4 := trivial
structure ua2 where
 va8 : List Int
 is7 : Int
 is8 : Int
structure da5 where
 is3 : Int
 is5 : Int
noncomputable def Dc0 (p : ua2) (s : da5) : St := ⟨(ra 3 ((i s.is3) :: (.unk :: ((i s.is5) :: ((eL tI p.va8) :: ((i p.is7) :: ((i p.is8) :: (ra 14 [])))))))), []⟩
noncomputable def ra1 {α : Type} (k : da5 → α) (e : Nat → α) (z : α) (p : ua2) (s : da5) : α := (sl (s.is5 != 0) (sl (s.is5 == 0) z (k ⟨s.is5, (Int.tmod s.is3 s.is5)⟩)) (e 1))
noncomputable def xa3 (p : ua2) (s : da5) : Stp da5 := ra1 .next .exit .fail p s
noncomputable def rb6 : Lo ua2 da5 := ⟨En Bb4, 0, Jd7, [1, 1, 0, 1, 4, 4, 1, 1, 0, 4, 1, 4, 4], [3, 5, 6, 7, 8], .p, [⟨(ru2 3 ((.s (.o (.int .i64))) :: ((.s (.o .unk)) :: ((.s (.o (.int .i64))) :: ((.s (.c 1 (nL tI))) :: ((.s (.o (.int .i64))) :: ((.s (.o (.int .i64))) :: (ru2 14 [])))))))), [], fun a H => (⟨(rL tI (slT a 6)), (toI (slT a 7)), (toI (slT a 8))⟩, ⟨(toI (slT a 3)), (toI (slT a 5))⟩)⟩], xa3, [(some 2, fun p s => ⟨(ra 3 ((i s.is3) :: (.unk :: ((i s.is5) :: ((eL tI p.va8) :: ((i p.is7) :: ((i p.is8) :: (ra 3 ((i s.is5) :: ((b (s.is5 != 0)) :: (ra 9 []))))))))))), []⟩)], Dc0⟩
theorem Dc1 : rb6.Ok := Lo.ok [] (by kernel_rfl) .nil rfl (.cons (fun a H => by kernel_rfl) .nil) fun p s => (.of @ra1 (fun F _ _ _ _ _ => by unfold ra1; (repeat' apply k9 (f := F)) <;> rfl) (by kernel_rfl))
structure Fa2 where
 is7 : Int
structure da6 where
 is3 : Int
 va8 : List Int
 is8 : Int
noncomputable def Dc2 (p : Fa2) (s : da6) : St := ⟨(ra 3 ((i s.is3) :: (.unk :: (.unk :: ((eL tI s.va8) :: ((i p.is7) :: ((i s.is8) :: (ra 14 [])))))))), []⟩
noncomputable def ra2 {α : Type} (k : da6 → α) (e : Nat → α) (z : α) (p : Fa2) (s : da6) : α := let t1 := (lp (xa3 (⟨(rt tI s.va8), p.is7, s.is8⟩ : ua2)) (⟨s.is3, (gL tI s.va8 s.is8.toNat)⟩ : da5)); (sl (decide (s.is8 < p.is7)) (sl (inB s.is8 (List.length s.va8)) (sl ((cnE tI s.va8) && true) (sl (Nat.beq t1.1 1) (k ⟨t1.2.is3, (rt tI s.va8), (W (s.is8 + 1))⟩) z) z) z) (e 1))
noncomputable def na1 (p : Fa2) (s : da6) : Stp da6 := ra2 .next .exit .fail p s
noncomputable def rb7 : Lo Fa2 da6 := ⟨En Bb4, 0, Jd7, [1, 1, 0, 1, 4, 4], [3, 6, 7, 8], (.s .p (.s .p (.s (.b (.s .p (.b (.u rb6.ls)))) .p))), [⟨(ru2 3 ((.s (.o (.int .i64))) :: ((.s (.o .unk)) :: ((.s (.o .unk)) :: ((.s (.c 1 (nL tI))) :: ((.s (.o (.int .i64))) :: ((.s (.o (.int .i64))) :: (ru2 14 [])))))))), [], fun a H => (⟨(toI (slT a 7))⟩, ⟨(toI (slT a 3)), (rL tI (slT a 6)), (toI (slT a 8))⟩)⟩], na1, [(some 0, fun p s => ⟨(ra 3 ((i s.is3) :: (.unk :: (.unk :: ((eL tI s.va8) :: ((i p.is7) :: ((i s.is8) :: ((b (decide (s.is8 < p.is7))) :: (ra 13 []))))))))), []⟩)], Dc2⟩
theorem Dc3 : rb7.Ok := Lo.ok [rb6.pr] (by kernel_rfl) (.cons Dc1 .nil) rfl (.cons (fun a H => by kernel_rfl) .nil) fun p s => (.of @ra2 (fun F _ _ _ _ _ => by unfold ra2; (repeat' apply k9 (f := F)) <;> rfl) (by kernel_rfl))
noncomputable def Za5 (x : List Int) : Option (b7 × List b8) := let t1 := (lp (na1 (⟨(↑(List.length x) : Int)⟩ : Fa2)) (⟨0, (rt tI x), 0⟩ : da6)); (sl ((cnE tI x) && true) (sl (Nat.beq t1.1 1) (some ((i (if (W (0 - t1.2.is3)) > t1.2.is3 then (W (0 - t1.2.is3)) else t1.2.is3)), [])) none) none)
noncomputable def rb8 (x : List Int) : Int := G6 (one r1I) (Za5 x)
noncomputable def rb9 (x : List Int) : Bool := okO (one r1I) (Za5 x)
noncomputable def uc1 : Sum := ba5 (T5 tI) (fun x => .guard (rb9 x) (.ret ((one r1I).enc (rb8 x), [])))
theorem dd9 : f6 prog G 218 uc1 := ua0 (bd Be3 Rc9) (one r1I) (o := Za5) fun x => wa0 (.s .p (.s .p (.s (.s .p (.b (.u rb7.ls))) .p))) [rb7.pr] (by kernel_rfl) (.cons Dc3 .nil) (by kernel_rfl)
noncomputable def Sc0 : List (Nat × Sum) := [(142, Jb4), (129, Bb3), (94, rb4), (54, fc9), (218, uc1)]
theorem Dc4 : i7 prog G Sc0 := ⟨uc0, Tb9, Jb3, Rc7, dd9, trivial⟩
noncomputable def Na8 (x : Tp) : Option (b7 × List b8) := let t1 := (L6 x.q.n x.r.n); let t3 := (M7 t1 x.p.b); let t4 := (ja6 (⟨0, 0, 0⟩ : V3) t3); let t5 := (L6 x.r.n x.p.n); let t7 := (M7 t5 x.q.b); let t8 := (ja6 t4 t7); let t9 := (L6 x.p.n x.q.n); let t10 := (Ca4 x.r.n t9); let t11 := (M7 t9 x.r.b); let t12 := (ja6 t8 t11); let t13 := (rb8 [t12.x, t12.y, t12.z, t10]); (sl (t10 == 0) (some ((.tup [(.agg [(i 0), (i 0), (i 0), (i 0)]), (b false)]), [])) (sl (rb9 [t12.x, t12.y, t12.z, t10]) (sl (decide (t10 < 0)) (sl ((W (0 - t13)) == 0) none (sl ((W (0 - t13)) == 0) none (sl ((W (0 - t13)) == 0) none (sl ((W (0 - t13)) == 0) none (some ((.tup [(.agg [(i (W (Int.tdiv t12.x (W (0 - t13))))), (i (W (Int.tdiv t12.y (W (0 - t13))))), (i (W (Int.tdiv t12.z (W (0 - t13))))), (i (W (Int.tdiv t10 (W (0 - t13)))))]), (b true)]), [])))))) (sl (t13 == 0) none (sl (t13 == 0) none (sl (t13 == 0) none (sl (t13 == 0) none (some ((.tup [(.agg [(i (W (Int.tdiv t12.x t13))), (i (W (Int.tdiv t12.y t13))), (i (W (Int.tdiv t12.z t13))), (i (W (Int.tdiv t10 t13)))]), (b true)]), []))))))) none))
noncomputable def Na9 (x : Tp) : Pt × Bool := G6 (two r1X r1B) (Na8 x)
noncomputable def Oa0 (x : Tp) : Bool := okO (two r1X r1B) (Na8 x)
noncomputable def gc0 : Sum := ba5 (P7 tY) (fun x => .guard (Oa0 x) (.ret ((two r1X r1B).enc (Na9 x), [])))
theorem Sc1 : f6 prog G 171 gc0 := ua0 (bd ze4 Dc4) (two r1X r1B) (o := Na8) fun x => p7 (by kernel_rfl)
structure za6 where
 ja2 : Int
 ja3 : Int
 ja4 : Int
 cb3 : Int
 g7 : Int
 c7 : Int
 g8 : Int
 d8 : Int
noncomputable def bc0 : List (Nat × Sum) := [(102, gb3)]
theorem Ub0 : i7 prog G bc0 := ⟨rb5, trivial⟩
structure la4 where
 bs0 : Bool
noncomputable def la5 {α : Type} (kk : la4 → α) (x : za6) : α := let t1 := (ja7 (⟨(⟨x.ja2, x.ja3, x.ja4⟩ : V3), x.cb3⟩ : Pln) (⟨x.g7, x.c7, x.g8, x.d8⟩ : Pt)); (kk ⟨(decide (t1 < 0))⟩)
noncomputable def Ra5 (x : za6) : la4 := la5 (fun r => r) x
noncomputable def Ka1 (x : za6) (r : la4) : DT (b7 × List b8) := .ret ((b r.bs0), [⟨0, 4, [[(i x.g7), (i x.c7), (i x.g8), (i x.d8)]], true, false, 0⟩])
theorem jc0 {α β : Type} (F : α → β) (kk : la4 → α) (x : za6) : F (la5 kk x) = la5 (fun r => F (kk r)) x := by unfold la5; (repeat' apply k9 (f := F)) <;> rfl
noncomputable def ub9 : Sum := Ya0 ⟨[(.agg [(.o (.int .i64)), (.o (.int .i64)), (.o (.int .i64)), (.o (.int .i64))]), (.s (.o (.ptr 0 0 0 0)))], [⟨0, 4, true, (some [[(.o (.int .i64)), (.o (.int .i64)), (.o (.int .i64)), (.o (.int .i64))]])⟩], fun a H => (⟨(toI (slT (cellsOf (slT a 0)) 0)), (toI (slT (cellsOf (slT a 0)) 1)), (toI (slT (cellsOf (slT a 0)) 2)), (toI (slT (cellsOf (slT a 0)) 3)), (toI (slT (rwT (elT H 0) 0) 0)), (toI (slT (rwT (elT H 0) 0) 1)), (toI (slT (rwT (elT H 0) 0) 2)), (toI (slT (rwT (elT H 0) 0) 3))⟩, ())⟩ (fun x => Ka1 x (Ra5 x))
theorem bc1 : f6 prog G 181 ub9 := N7 (enc := fun x => ⟨[(.agg [(i x.ja2), (i x.ja3), (i x.ja4), (i x.cb3)]), (.ptr 0 0 0 0)], [⟨0, 4, [[(i x.g7), (i x.c7), (i x.g8), (i x.d8)]], true, false, 0⟩]⟩) (fun a H => by kernel_rfl) (bd Ae2 Ub0) fun x => p7 (Eq.trans (b := la5 (fun r => (Ka1 x r).run) x) (by kernel_rfl) (jc0 (fun r => (Ka1 x r).run) (fun r => r) x).symm)
structure N8 where
 c8 : List Pln
 g7 : Int
 c7 : Int
 g8 : Int
 d8 : Int
noncomputable def ra3 : List (Nat × Sum) := [(181, ub9)]
theorem Ua7 : i7 prog G ra3 := ⟨bc1, trivial⟩
structure D2 where
 c8 : List Pln
 is7 : Int
 g7 : Int
 c7 : Int
 g8 : Int
 d8 : Int
structure l5 where
 is8 : Int
noncomputable def Ra6 (p : D2) (s : l5) : St := ⟨((eL tP p.c8) :: ((.fn 181 [(.ptr 0 0 0 0)]) :: (ra 5 ((i p.is7) :: ((i s.is8) :: (ra 10 [])))))), [⟨0, 4, [[(i p.g7), (i p.c7), (i p.g8), (i p.d8)]], true, false, 0⟩]⟩
noncomputable def z5 {α : Type} (k : l5 → α) (e : Nat → α) (z : α) (p : D2) (s : l5) : α := let t1 := (Ra5 ⟨(gL tP p.c8 s.is8.toNat).n.x, (gL tP p.c8 s.is8.toNat).n.y, (gL tP p.c8 s.is8.toNat).n.z, (gL tP p.c8 s.is8.toNat).b, p.g7, p.c7, p.g8, p.d8⟩); (sl (decide (s.is8 < p.is7)) (sl (inB s.is8 (List.length p.c8)) (sl t1.bs0 (e 1) (k ⟨(W (s.is8 + 1))⟩)) z) (e 2))
noncomputable def B4 (p : D2) (s : l5) : Stp l5 := z5 .next .exit .fail p s
noncomputable def W7 : Lo D2 l5 := ⟨En ra3, 1, ud3, [1, 0, 1, 4, 4], [0, 1, 7, 8], .p, [⟨((.s (.c 4 (nL tP))) :: ((.fn 181 [(.o (.ptr 0 0 0 0))]) :: (ru2 5 ((.s (.o (.int .i64))) :: ((.s (.o (.int .i64))) :: (ru2 10 [])))))), [⟨0, 4, true, (some [[(.o (.int .i64)), (.o (.int .i64)), (.o (.int .i64)), (.o (.int .i64))]])⟩], fun a H => (⟨(rL tP (slT a 0)), (toI (slT a 7)), (toI (slT (rwT (elT H 0) 0) 0)), (toI (slT (rwT (elT H 0) 0) 1)), (toI (slT (rwT (elT H 0) 0) 2)), (toI (slT (rwT (elT H 0) 0) 3))⟩, ⟨(toI (slT a 8))⟩)⟩], B4, [(none, fun p s => ⟨[(i s.is8)], [⟨0, 4, [[(i p.g7), (i p.c7), (i p.g8), (i p.d8)]], true, false, 0⟩]⟩), (some 0, fun p s => ⟨((eL tP p.c8) :: ((.fn 181 [(.ptr 0 0 0 0)]) :: (ra 5 ((i p.is7) :: ((i s.is8) :: ((b (decide (s.is8 < p.is7))) :: (ra 9 []))))))), [⟨0, 4, [[(i p.g7), (i p.c7), (i p.g8), (i p.d8)]], true, false, 0⟩]⟩)], Ra6⟩
theorem Ra7 : W7.Ok := Lo.ok [] (by kernel_rfl) .nil rfl (.cons (fun a H => by kernel_rfl) .nil) fun p s => (.of @z5 (fun F _ _ _ _ _ => by unfold z5; (repeat' apply k9 (f := F)) <;> rfl) (by kernel_rfl))
structure N9 where
 alt : Nat
 is0 : Int
noncomputable def A2 {α : Type} (kk : N9 → α) (x : N8) : α := let t1 := (lp (B4 (⟨(rt tP x.c8), (↑(List.length x.c8) : Int), x.g7, x.c7, x.g8, x.d8⟩ : D2)) (⟨0⟩ : l5)); (sl ((cnE tP x.c8) && true) (sl (Nat.beq t1.1 1) (kk ⟨1, t1.2.is8⟩) (sl (Nat.beq t1.1 2) (kk ⟨1, (-1)⟩) (kk ⟨0, 0⟩))) (kk ⟨0, 0⟩))
noncomputable def O0 (x : N8) : N9 := A2 (fun r => r) x
noncomputable def Z4 (x : N8) (r : N9) : DT (b7 × List b8) := (.ite (Nat.beq r.alt 1) (.ret ((i r.is0), [⟨0, 4, [[(i x.g7), (i x.c7), (i x.g8), (i x.d8)]], true, false, 0⟩])) .fail)
theorem cb5 {α β : Type} (F : α → β) (kk : N9 → α) (x : N8) : F (A2 kk x) = A2 (fun r => F (kk r)) x := by unfold A2; (repeat' apply k9 (f := F)) <;> rfl
noncomputable def va0 : Sum := Ya0 ⟨[(.s (.c 4 (nL tP))), (.fn 181 [(.o (.ptr 0 0 0 0))])], [⟨0, 4, true, (some [[(.o (.int .i64)), (.o (.int .i64)), (.o (.int .i64)), (.o (.int .i64))]])⟩], fun a H => (⟨(rL tP (slT a 0)), (toI (slT (rwT (elT H 0) 0) 0)), (toI (slT (rwT (elT H 0) 0) 1)), (toI (slT (rwT (elT H 0) 0) 2)), (toI (slT (rwT (elT H 0) 0) 3))⟩, ())⟩ (fun x => Z4 x (O0 x))
theorem Za6 : f6 prog G 163 va0 := N7 (enc := fun x => ⟨[(eL tP x.c8), (.fn 181 [(.ptr 0 0 0 0)])], [⟨0, 4, [[(i x.g7), (i x.c7), (i x.g8), (i x.d8)]], true, false, 0⟩]⟩) (fun a H => by kernel_rfl) (bd ge4 Ua7) fun x => wa0 (.s .p (.s (.s .p (.b (.u W7.ls))) .p)) [W7.pr] (by kernel_rfl) (.cons Ra7 .nil) (Eq.trans (b := A2 (fun r => (Z4 x r).run) x) (by kernel_rfl) (cb5 (fun r => (Z4 x r).run) (fun r => r) x).symm)
structure H8 where
 c8 : List Pln
 g7 : Int
 c7 : Int
 g8 : Int
 d8 : Int
noncomputable def Oa1 : List (Nat × Sum) := [(163, va0)]
theorem Ka2 : i7 prog G Oa1 := ⟨Za6, trivial⟩
structure H9 where
 alt : Nat
 bs0 : Bool
noncomputable def s8 {α : Type} (kk : H9 → α) (x : H8) : α := let t1 := (O0 ⟨(rt tP x.c8), x.g7, x.c7, x.g8, x.d8⟩); (sl ((cnE tP x.c8) && true) (sl (Nat.beq t1.alt 1) (kk ⟨1, (decide (t1.is0 ≥ 0))⟩) (kk ⟨0, false⟩)) (kk ⟨0, false⟩))
noncomputable def U1 (x : H8) : H9 := s8 (fun r => r) x
noncomputable def S5 (x : H8) (r : H9) : DT (b7 × List b8) := (.ite (Nat.beq r.alt 1) (.ret ((b r.bs0), [⟨0, 4, [[(i x.g7), (i x.c7), (i x.g8), (i x.d8)]], true, false, 0⟩])) .fail)
theorem Ra8 {α β : Type} (F : α → β) (kk : H9 → α) (x : H8) : F (s8 kk x) = s8 (fun r => F (kk r)) x := by unfold s8; (repeat' apply k9 (f := F)) <;> rfl
noncomputable def la6 : Sum := Ya0 ⟨[(.s (.c 4 (nL tP))), (.fn 181 [(.o (.ptr 0 0 0 0))])], [⟨0, 4, true, (some [[(.o (.int .i64)), (.o (.int .i64)), (.o (.int .i64)), (.o (.int .i64))]])⟩], fun a H => (⟨(rL tP (slT a 0)), (toI (slT (rwT (elT H 0) 0) 0)), (toI (slT (rwT (elT H 0) 0) 1)), (toI (slT (rwT (elT H 0) 0) 2)), (toI (slT (rwT (elT H 0) 0) 3))⟩, ())⟩ (fun x => S5 x (U1 x))
theorem Oa2 : f6 prog G 83 la6 := N7 (enc := fun x => ⟨[(eL tP x.c8), (.fn 181 [(.ptr 0 0 0 0)])], [⟨0, 4, [[(i x.g7), (i x.c7), (i x.g8), (i x.d8)]], true, false, 0⟩]⟩) (fun a H => by kernel_rfl) (bd b83 Ka2) fun x => p7 (Eq.trans (b := s8 (fun r => (S5 x r).run) x) (by kernel_rfl) (Ra8 (fun r => (S5 x r).run) (fun r => r) x).symm)
noncomputable def uc2 : List (Nat × Sum) := [(83, la6)]
theorem jc1 : i7 prog G uc2 := ⟨Oa2, trivial⟩
noncomputable def xa4 (x : List Pln) (y : Pt) : Option (b7 × List b8) := let t1 := (U1 ⟨(rt tP x), y.px, y.py, y.pz, y.pw⟩); (sl ((cnE tP x) && true) (sl (Nat.beq t1.alt 1) (some ((b (!t1.bs0)), [])) none) none)
noncomputable def Q9 (x : List Pln) (y : Pt) : Bool := G6 (one r1B) (xa4 x y)
noncomputable def R2 (x : List Pln) (y : Pt) : Bool := okO (one r1B) (xa4 x y)
noncomputable def La9 : Sum := ga8 (T5 tP) (P7 tX) (fun x y => .guard (R2 x y) (.ret ((one r1B).enc (Q9 x y), [])))
theorem Za7 : f6 prog G 108 La9 := cb4 (bd xe4 jc1) (one r1B) (o := xa4) fun x y => p7 (by kernel_rfl)
noncomputable def xa5 : List (Nat × Sum) := []
theorem cb6 : i7 prog G xa5 := trivial
@[reducible] noncomputable def Ca5 : Sum := i6 (En xa5) be3
theorem ib6 : f6 prog G 217 Ca5 := bd Be2 cb6
noncomputable def Fa3 : List (Nat × Sum) := [(217, Ca5)]
theorem nb0 : i7 prog G Fa3 := ⟨ib6, trivial⟩
@[reducible] noncomputable def Ja1 : Sum := i6 (En Fa3) ae6
theorem sb0 : f6 prog G 170 Ja1 := bd ze3 nb0
noncomputable def W8 : List (Nat × Sum) := [(171, gc0), (108, La9), (170, Ja1)]
theorem nb1 : i7 prog G W8 := ⟨Sc1, Za7, sb0, trivial⟩
structure f7 where
 is3 : Int
 L5 : List Pln
 Ia9 : Int
 Q4 : Int
 Xb2 : Nat
 Wa0 : Nat → List b7
 aa9 : Int
 ba4 : Int
 rd6 : Nat
 Ua0 : Nat → List b7
 Wc5 : Int
 d7 : List Pln
 E2 : Int
 E3 : Int
 E4 : Int
 E5 : Int
 K6 : Int
 K7 : Int
 K8 : Int
 Wa1 : Int
 ja5 : List Pln
structure f8 where
 ph : Nat
 ma9 : Int
 Ma5 : Nat
 eh6 : List (List b7)
 eh7 : List (List b7)
noncomputable def cb7 (p : f7) (s : f8) : St := ⟨(.unk :: ((.ptr 0 0 0 0) :: (.unk :: ((i p.is3) :: ((.ptr 1 0 0 0) :: (.unk :: ((.ptr 2 0 0 0) :: (.unk :: (.unk :: ((eL tP p.L5) :: ((i p.Ia9) :: ((i p.Q4) :: (ra 7 ((.tree 4 p.Xb2 p.Wa0) :: ((i p.aa9) :: ((i p.ba4) :: (ra 9 ((.tree 4 p.rd6 p.Ua0) :: ((i p.Wc5) :: ((i s.ma9) :: (ra 13 ((i 0) :: (.unk :: ((.ptr 3 0 0 0) :: ((.v (.slice none 0 0)) :: ((.ptr 4 0 0 0) :: ((.ptr 5 0 0 0) :: (ra 31 [])))))))))))))))))))))))))))), [⟨0, 1, [[(eL tP p.d7)]], true, false, 0⟩, ⟨0, 4, [[(i p.E2), (i p.E3), (i p.E4), (i p.E5)]], true, false, 0⟩, ⟨0, 4, [[(i p.K6), (i p.K7), (i p.K8), (i p.Wa1)]], true, false, 0⟩, ⟨0, 1, [[(eL tP p.ja5)]], true, false, 0⟩, ⟨0, 0, [[(.v (.slice none 0 0))]], true, false, 0⟩, ⟨0, 0, [[(.ptr 6 0 0 0)]], true, false, 0⟩, ⟨174, 0, [], true, false, 0⟩]⟩
noncomputable def cb8 (p : f7) (s : f8) : St := ⟨(.unk :: ((.ptr 0 0 0 0) :: (.unk :: ((i p.is3) :: ((.ptr 1 0 0 0) :: (.unk :: ((.ptr 2 0 0 0) :: (.unk :: (.unk :: ((eL tP p.L5) :: ((i p.Ia9) :: ((i p.Q4) :: (ra 7 ((.tree 4 p.Xb2 p.Wa0) :: ((i p.aa9) :: ((i p.ba4) :: (ra 9 ((.tree 4 p.rd6 p.Ua0) :: ((i p.Wc5) :: ((i s.ma9) :: (ra 13 ((i 0) :: (.unk :: ((.ptr 3 0 0 0) :: ((.v (.slice none 0 0)) :: ((.ptr 4 0 0 0) :: ((.ptr 5 0 0 0) :: (ra 31 [])))))))))))))))))))))))))))), [⟨0, 1, [[(eL tP p.d7)]], true, false, 0⟩, ⟨0, 4, [[(i p.E2), (i p.E3), (i p.E4), (i p.E5)]], true, false, 0⟩, ⟨0, 4, [[(i p.K6), (i p.K7), (i p.K8), (i p.Wa1)]], true, false, 0⟩, ⟨0, 1, [[(eL tP p.ja5)]], true, false, 0⟩, ⟨0, 0, [[(.sl 6 0 s.Ma5 0)]], true, false, 0⟩, ⟨0, 0, [[(.ptr 7 0 0 0)]], true, false, 0⟩, ⟨54, 4, s.eh6, true, false, 0⟩, ⟨174, 0, s.eh7, true, false, 0⟩]⟩
noncomputable def ib7 (p : f7) (s : f8) : St := (sel (Nat.beq s.ph 1) (cb8 p s) (cb7 p s))
noncomputable def r4 {α : Type} (k : f8 → α) (e : Nat → α) (z : α) (p : f7) (s : f8) : α := let t1 := (Na9 (⟨(⟨(⟨p.E2, p.E3, p.E4⟩ : V3), p.E5⟩ : Pln), (⟨(⟨p.K6, p.K7, p.K8⟩ : V3), p.Wa1⟩ : Pln), (⟨(⟨(toI (hdA (p.Ua0 s.ma9.toNat))), (toI (hdA (tlA (p.Ua0 s.ma9.toNat)))), (toI (hdA (tlA (tlA (p.Ua0 s.ma9.toNat)))))⟩ : V3), (toI (hdA (tlA (tlA (tlA (p.Ua0 s.ma9.toNat))))))⟩ : Pln)⟩ : Tp)); let t2 := (Q9 (rt tP p.ja5) t1.1); (sl (decide (s.ma9 < p.Wc5)) (sl (inB s.ma9 p.rd6) (sl ((Nat.ble 4 (len (p.Ua0 s.ma9.toNat))) && (J5 [(CK.int .i64), (CK.int .i64), (CK.int .i64), (CK.int .i64)] (p.Ua0 s.ma9.toNat))) (sl (Oa0 (⟨(⟨(⟨p.E2, p.E3, p.E4⟩ : V3), p.E5⟩ : Pln), (⟨(⟨p.K6, p.K7, p.K8⟩ : V3), p.Wa1⟩ : Pln), (⟨(⟨(toI (hdA (p.Ua0 s.ma9.toNat))), (toI (hdA (tlA (p.Ua0 s.ma9.toNat)))), (toI (hdA (tlA (tlA (p.Ua0 s.ma9.toNat)))))⟩ : V3), (toI (hdA (tlA (tlA (tlA (p.Ua0 s.ma9.toNat))))))⟩ : Pln)⟩ : Tp)) (sl t1.2 (sl (!(Ob9 4 [(0, (.int .i64)), (1, (.int .i64)), (2, (.int .i64)), (3, (.int .i64))] [(i t1.1.px), (i t1.1.py), (i t1.1.pz), (i t1.1.pw)] [])) (sl (okE tP p.ja5) (sl (R2 (rt tP p.ja5) t1.1) (sl t2 (k ⟨1, (W (s.ma9 + 1)), 1, [[(i t1.1.px), (i t1.1.py), (i t1.1.pz), (i t1.1.pw)]], (hb5 [(0, (.int .i64)), (1, (.int .i64)), (2, (.int .i64)), (3, (.int .i64))] [(i t1.1.px), (i t1.1.py), (i t1.1.pz), (i t1.1.pw)] [(i t1.1.px), (i t1.1.py), (i t1.1.pz), (i t1.1.pw), (b true)] [])⟩) (k ⟨0, (W (s.ma9 + 1)), 0, [], []⟩)) z) z) (k ⟨0, (W (s.ma9 + 1)), 0, [], []⟩)) (k ⟨0, (W (s.ma9 + 1)), 0, [], []⟩)) z) z) z) (e 1))
noncomputable def r5 {α : Type} (k : f8 → α) (e : Nat → α) (z : α) (p : f7) (s : f8) : α := let t1 := (Na9 (⟨(⟨(⟨p.E2, p.E3, p.E4⟩ : V3), p.E5⟩ : Pln), (⟨(⟨p.K6, p.K7, p.K8⟩ : V3), p.Wa1⟩ : Pln), (⟨(⟨(toI (hdA (p.Ua0 s.ma9.toNat))), (toI (hdA (tlA (p.Ua0 s.ma9.toNat)))), (toI (hdA (tlA (tlA (p.Ua0 s.ma9.toNat)))))⟩ : V3), (toI (hdA (tlA (tlA (tlA (p.Ua0 s.ma9.toNat))))))⟩ : Pln)⟩ : Tp)); let t2 := (Q9 (rt tP p.ja5) t1.1); (sl (decide (s.ma9 < p.Wc5)) (sl (inB s.ma9 p.rd6) (sl ((Nat.ble 4 (len (p.Ua0 s.ma9.toNat))) && (J5 [(CK.int .i64), (CK.int .i64), (CK.int .i64), (CK.int .i64)] (p.Ua0 s.ma9.toNat))) (sl (Oa0 (⟨(⟨(⟨p.E2, p.E3, p.E4⟩ : V3), p.E5⟩ : Pln), (⟨(⟨p.K6, p.K7, p.K8⟩ : V3), p.Wa1⟩ : Pln), (⟨(⟨(toI (hdA (p.Ua0 s.ma9.toNat))), (toI (hdA (tlA (p.Ua0 s.ma9.toNat)))), (toI (hdA (tlA (tlA (p.Ua0 s.ma9.toNat)))))⟩ : V3), (toI (hdA (tlA (tlA (tlA (p.Ua0 s.ma9.toNat))))))⟩ : Pln)⟩ : Tp)) (sl t1.2 (sl (!(Ob9 4 [(0, (.int .i64)), (1, (.int .i64)), (2, (.int .i64)), (3, (.int .i64))] [(i t1.1.px), (i t1.1.py), (i t1.1.pz), (i t1.1.pw)] s.eh7)) (sl (okE tP p.ja5) (sl (R2 (rt tP p.ja5) t1.1) (sl t2 (sl (Nat.beq s.Ma5 (len s.eh6) && Nat.ble ((s.Ma5 + 1) * 32) room) (k ⟨1, (W (s.ma9 + 1)), (s.Ma5 + 1), (app s.eh6 [[(i t1.1.px), (i t1.1.py), (i t1.1.pz), (i t1.1.pw)]]), (hb5 [(0, (.int .i64)), (1, (.int .i64)), (2, (.int .i64)), (3, (.int .i64))] [(i t1.1.px), (i t1.1.py), (i t1.1.pz), (i t1.1.pw)] [(i t1.1.px), (i t1.1.py), (i t1.1.pz), (i t1.1.pw), (b true)] s.eh7)⟩) z) (k ⟨1, (W (s.ma9 + 1)), s.Ma5, s.eh6, s.eh7⟩)) z) z) (k ⟨1, (W (s.ma9 + 1)), s.Ma5, s.eh6, s.eh7⟩)) (k ⟨1, (W (s.ma9 + 1)), s.Ma5, s.eh6, s.eh7⟩)) z) z) z) (e 2))
noncomputable def p8 (p : f7) (s : f8) : Stp f8 := (sel (Nat.beq s.ph 1) (r5 .next .exit .fail p s) (r4 .next .exit .fail p s))
noncomputable def ha6 : Lo f7 f8 := ⟨En W8, 0, Td4, [1, 1, 1, 0, 1, 4, 4, 1, 4, 4, 1, 1, 0, 4, 1, 1, 4, 4, 1, 1, 0, 4, 1, 1, 4, 4], [1, 3, 4, 6, 9, 10, 11, 19, 20, 21, 31, 32, 33, 47, 49, 50, 51, 52], .p, [⟨((.s (.o .unk)) :: ((.s (.o (.ptr 0 0 0 0))) :: ((.s (.o .unk)) :: ((.s (.o (.int .i64))) :: ((.s (.o (.ptr 1 0 0 0))) :: ((.s (.o .unk)) :: ((.s (.o (.ptr 2 0 0 0))) :: ((.s (.o .unk)) :: ((.s (.o .unk)) :: ((.s (.c 4 (nL tP))) :: ((.s (.o (.int .i64))) :: ((.s (.o (.int .i64))) :: (ru2 7 ((.s (.o (.tree 4))) :: ((.s (.o (.int .i64))) :: ((.s (.o (.int .i64))) :: (ru2 9 ((.s (.o (.tree 4))) :: ((.s (.o (.int .i64))) :: ((.s (.o (.int .i64))) :: (ru2 13 ((.s (.o (.lit .i64 0))) :: ((.s (.o .unk)) :: ((.s (.o (.ptr 3 0 0 0))) :: ((.s (.o .nil)) :: ((.s (.o (.ptr 4 0 0 0))) :: ((.s (.o (.ptr 5 0 0 0))) :: (ru2 31 [])))))))))))))))))))))))))))), [⟨0, 1, true, (some [[(.c 4 (nL tP))]])⟩, ⟨0, 4, true, (some [[(.o (.int .i64)), (.o (.int .i64)), (.o (.int .i64)), (.o (.int .i64))]])⟩, ⟨0, 4, true, (some [[(.o (.int .i64)), (.o (.int .i64)), (.o (.int .i64)), (.o (.int .i64))]])⟩, ⟨0, 1, true, (some [[(.c 4 (nL tP))]])⟩, ⟨0, 0, true, (some [[(.o .nil)]])⟩, ⟨0, 0, true, (some [[(.o (.ptr 6 0 0 0))]])⟩, ⟨174, 0, true, (some [])⟩], fun a H => (⟨(toI (slT a 3)), (rL tP (slT a 9)), (toI (slT a 10)), (toI (slT a 11)), (toN (slT a 19)), (toG (slT a 19)), (toI (slT a 20)), (toI (slT a 21)), (toN (slT a 31)), (toG (slT a 31)), (toI (slT a 32)), (rL tP (slT (rwT (elT H 0) 0) 0)), (toI (slT (rwT (elT H 1) 0) 0)), (toI (slT (rwT (elT H 1) 0) 1)), (toI (slT (rwT (elT H 1) 0) 2)), (toI (slT (rwT (elT H 1) 0) 3)), (toI (slT (rwT (elT H 2) 0) 0)), (toI (slT (rwT (elT H 2) 0) 1)), (toI (slT (rwT (elT H 2) 0) 2)), (toI (slT (rwT (elT H 2) 0) 3)), (rL tP (slT (rwT (elT H 3) 0) 0))⟩, ⟨0, (toI (slT a 33)), 0, [], []⟩)⟩, ⟨((.s (.o .unk)) :: ((.s (.o (.ptr 0 0 0 0))) :: ((.s (.o .unk)) :: ((.s (.o (.int .i64))) :: ((.s (.o (.ptr 1 0 0 0))) :: ((.s (.o .unk)) :: ((.s (.o (.ptr 2 0 0 0))) :: ((.s (.o .unk)) :: ((.s (.o .unk)) :: ((.s (.c 4 (nL tP))) :: ((.s (.o (.int .i64))) :: ((.s (.o (.int .i64))) :: (ru2 7 ((.s (.o (.tree 4))) :: ((.s (.o (.int .i64))) :: ((.s (.o (.int .i64))) :: (ru2 9 ((.s (.o (.tree 4))) :: ((.s (.o (.int .i64))) :: ((.s (.o (.int .i64))) :: (ru2 13 ((.s (.o (.lit .i64 0))) :: ((.s (.o .unk)) :: ((.s (.o (.ptr 3 0 0 0))) :: ((.s (.o .nil)) :: ((.s (.o (.ptr 4 0 0 0))) :: ((.s (.o (.ptr 5 0 0 0))) :: (ru2 31 [])))))))))))))))))))))))))))), [⟨0, 1, true, (some [[(.c 4 (nL tP))]])⟩, ⟨0, 4, true, (some [[(.o (.int .i64)), (.o (.int .i64)), (.o (.int .i64)), (.o (.int .i64))]])⟩, ⟨0, 4, true, (some [[(.o (.int .i64)), (.o (.int .i64)), (.o (.int .i64)), (.o (.int .i64))]])⟩, ⟨0, 1, true, (some [[(.c 4 (nL tP))]])⟩, ⟨0, 0, true, (some [[(.o (.sl 6 0 (some 0) none))]])⟩, ⟨0, 0, true, (some [[(.o (.ptr 7 0 0 0))]])⟩, ⟨54, 4, true, none⟩, ⟨174, 0, true, none⟩], fun a H => (⟨(toI (slT a 3)), (rL tP (slT a 9)), (toI (slT a 10)), (toI (slT a 11)), (toN (slT a 19)), (toG (slT a 19)), (toI (slT a 20)), (toI (slT a 21)), (toN (slT a 31)), (toG (slT a 31)), (toI (slT a 32)), (rL tP (slT (rwT (elT H 0) 0) 0)), (toI (slT (rwT (elT H 1) 0) 0)), (toI (slT (rwT (elT H 1) 0) 1)), (toI (slT (rwT (elT H 1) 0) 2)), (toI (slT (rwT (elT H 1) 0) 3)), (toI (slT (rwT (elT H 2) 0) 0)), (toI (slT (rwT (elT H 2) 0) 1)), (toI (slT (rwT (elT H 2) 0) 2)), (toI (slT (rwT (elT H 2) 0) 3)), (rL tP (slT (rwT (elT H 3) 0) 0))⟩, ⟨1, (toI (slT a 33)), (slN (slT (rwT (elT H 4) 0) 0)), (elT H 6), (elT H 7)⟩)⟩], p8, [(some 4, fun p s => ⟨(.unk :: ((.ptr 0 0 0 0) :: (.unk :: ((i p.is3) :: ((.ptr 1 0 0 0) :: (.unk :: ((.ptr 2 0 0 0) :: (.unk :: (.unk :: ((eL tP p.L5) :: ((i p.Ia9) :: ((i p.Q4) :: (ra 7 ((.tree 4 p.Xb2 p.Wa0) :: ((i p.aa9) :: ((i p.ba4) :: (ra 9 ((.tree 4 p.rd6 p.Ua0) :: ((i p.Wc5) :: ((i s.ma9) :: ((b (decide (s.ma9 < p.Wc5))) :: (ra 12 ((i 0) :: (.unk :: ((.ptr 3 0 0 0) :: ((.v (.slice none 0 0)) :: ((.ptr 4 0 0 0) :: ((.ptr 5 0 0 0) :: (ra 31 []))))))))))))))))))))))))))))), [⟨0, 1, [[(eL tP p.d7)]], true, false, 0⟩, ⟨0, 4, [[(i p.E2), (i p.E3), (i p.E4), (i p.E5)]], true, false, 0⟩, ⟨0, 4, [[(i p.K6), (i p.K7), (i p.K8), (i p.Wa1)]], true, false, 0⟩, ⟨0, 1, [[(eL tP p.ja5)]], true, false, 0⟩, ⟨0, 0, [[(.v (.slice none 0 0))]], true, false, 0⟩, ⟨0, 0, [[(.ptr 6 0 0 0)]], true, false, 0⟩, ⟨174, 0, [], true, false, 0⟩]⟩), (some 4, fun p s => ⟨(.unk :: ((.ptr 0 0 0 0) :: (.unk :: ((i p.is3) :: ((.ptr 1 0 0 0) :: (.unk :: ((.ptr 2 0 0 0) :: (.unk :: (.unk :: ((eL tP p.L5) :: ((i p.Ia9) :: ((i p.Q4) :: (ra 7 ((.tree 4 p.Xb2 p.Wa0) :: ((i p.aa9) :: ((i p.ba4) :: (ra 9 ((.tree 4 p.rd6 p.Ua0) :: ((i p.Wc5) :: ((i s.ma9) :: ((b (decide (s.ma9 < p.Wc5))) :: (ra 12 ((i 0) :: (.unk :: ((.ptr 3 0 0 0) :: ((.v (.slice none 0 0)) :: ((.ptr 4 0 0 0) :: ((.ptr 5 0 0 0) :: (ra 31 []))))))))))))))))))))))))))))), [⟨0, 1, [[(eL tP p.d7)]], true, false, 0⟩, ⟨0, 4, [[(i p.E2), (i p.E3), (i p.E4), (i p.E5)]], true, false, 0⟩, ⟨0, 4, [[(i p.K6), (i p.K7), (i p.K8), (i p.Wa1)]], true, false, 0⟩, ⟨0, 1, [[(eL tP p.ja5)]], true, false, 0⟩, ⟨0, 0, [[(.sl 6 0 s.Ma5 0)]], true, false, 0⟩, ⟨0, 0, [[(.ptr 7 0 0 0)]], true, false, 0⟩, ⟨54, 4, s.eh6, true, false, 0⟩, ⟨174, 0, s.eh7, true, false, 0⟩]⟩)], ib7⟩
theorem ib8 : ha6.OkM := Lo.okM [] (by kernel_rfl) .nil rfl (.cons (fun a H => by kernel_rfl) (.cons (fun a H => by kernel_rfl) .nil)) fun p s => (.sel (Nat.beq s.ph 1) (.of @r5 (fun F _ _ _ _ _ => by unfold r5; (repeat' apply k9 (f := F)) <;> rfl) (by kernel_rfl)) (.of @r4 (fun F _ _ _ _ _ => by unfold r4; (repeat' apply k9 (f := F)) <;> rfl) (by kernel_rfl)))
structure f9 where
 is3 : Int
 Ia9 : Int
 Q4 : Int
 Xb2 : Nat
 Wa0 : Nat → List b7
 aa9 : Int
 E2 : Int
 E3 : Int
 E4 : Int
 E5 : Int
structure g9 where
 ph : Nat
 L5 : List Pln
 ba4 : Int
 d7 : List Pln
 N1 : List Pln
 Xb3 : Nat
 eh5 : List (List b7)
 eh6 : List (List b7)
noncomputable def cb9 (p : f9) (s : g9) : St := ⟨(.unk :: ((.ptr 0 0 0 0) :: (.unk :: ((i p.is3) :: ((.ptr 1 0 0 0) :: (ra 4 ((eL tP s.L5) :: ((i p.Ia9) :: ((i p.Q4) :: (ra 7 ((.tree 4 p.Xb2 p.Wa0) :: ((i p.aa9) :: ((i s.ba4) :: (ra 25 ((i 0) :: (.unk :: ((.ptr 2 0 0 0) :: ((.v (.slice none 0 0)) :: ((.ptr 3 0 0 0) :: ((.ptr 4 0 0 0) :: (ra 31 []))))))))))))))))))))), [⟨0, 1, [[(eL tP s.d7)]], true, false, 0⟩, ⟨0, 4, [[(i p.E2), (i p.E3), (i p.E4), (i p.E5)]], true, false, 0⟩, ⟨0, 1, [[(eL tP s.N1)]], true, false, 0⟩, ⟨0, 0, [[(.v (.slice none 0 0))]], true, false, 0⟩, ⟨0, 0, [[(.ptr 5 0 0 0)]], true, false, 0⟩, ⟨174, 0, [], true, false, 0⟩]⟩
noncomputable def db0 (p : f9) (s : g9) : St := ⟨(.unk :: ((.ptr 0 0 0 0) :: (.unk :: ((i p.is3) :: ((.ptr 1 0 0 0) :: (ra 4 ((eL tP s.L5) :: ((i p.Ia9) :: ((i p.Q4) :: (ra 7 ((.tree 4 p.Xb2 p.Wa0) :: ((i p.aa9) :: ((i s.ba4) :: (ra 25 ((i 0) :: (.unk :: ((.ptr 2 0 0 0) :: ((.v (.slice none 0 0)) :: ((.ptr 3 0 0 0) :: ((.ptr 4 0 0 0) :: (ra 31 []))))))))))))))))))))), [⟨0, 1, [[(eL tP s.d7)]], true, false, 0⟩, ⟨0, 4, [[(i p.E2), (i p.E3), (i p.E4), (i p.E5)]], true, false, 0⟩, ⟨0, 1, [[(eL tP s.N1)]], true, false, 0⟩, ⟨0, 0, [[(.sl 5 0 s.Xb3 0)]], true, false, 0⟩, ⟨0, 0, [[(.ptr 6 0 0 0)]], true, false, 0⟩, ⟨54, 4, s.eh5, true, false, 0⟩, ⟨174, 0, s.eh6, true, false, 0⟩]⟩
noncomputable def ib9 (p : f9) (s : g9) : St := (sel (Nat.beq s.ph 1) (db0 p s) (cb9 p s))
noncomputable def r6 {α : Type} (k : g9 → α) (e : Nat → α) (z : α) (p : f9) (s : g9) : α := let t1 := (lp (p8 (⟨p.is3, (rt tP s.L5), p.Ia9, p.Q4, p.Xb2, p.Wa0, p.aa9, s.ba4, ((List.length s.d7) - (W ((W (p.is3 + s.ba4)) + 2)).toNat), (fun k => (fun k => (tP).row (gL tP s.d7 k)) ((W ((W (p.is3 + s.ba4)) + 2)).toNat + k)), (↑((List.length s.d7) - (W ((W (p.is3 + s.ba4)) + 2)).toNat) : Int), (rt tP s.d7), p.E2, p.E3, p.E4, p.E5, (toI (hdA (p.Wa0 s.ba4.toNat))), (toI (hdA (tlA (p.Wa0 s.ba4.toNat)))), (toI (hdA (tlA (tlA (p.Wa0 s.ba4.toNat))))), (toI (hdA (tlA (tlA (tlA (p.Wa0 s.ba4.toNat)))))), (rt tP s.N1)⟩ : f7)) (⟨0, 0, 0, [], []⟩ : f8)); (sl (decide (s.ba4 < p.aa9)) (sl (inB s.ba4 p.Xb2) (sl ((Nat.ble 4 (len (p.Wa0 s.ba4.toNat))) && (J5 [(CK.int .i64), (CK.int .i64), (CK.int .i64), (CK.int .i64)] (p.Wa0 s.ba4.toNat))) (sl (inB (W ((W (p.is3 + s.ba4)) + 2)) ((List.length s.d7) + 1)) (sl ((cnE tP s.L5) && ((cnE tP s.d7) && ((cnE tP s.N1) && true))) (sl (Nat.beq t1.1 1) (k ⟨0, (rt tP s.L5), (W (s.ba4 + 1)), (rt tP s.d7), (rt tP s.N1), 0, [], []⟩) (sl (Nat.beq t1.1 2) (k ⟨1, (rt tP s.L5), (W (s.ba4 + 1)), (rt tP s.d7), (rt tP s.N1), t1.2.Ma5, t1.2.eh6, t1.2.eh7⟩) z)) z) z) z) z) (e 1))
noncomputable def r7 {α : Type} (k : g9 → α) (e : Nat → α) (z : α) (p : f9) (s : g9) : α := let t1 := (lp (p8 (⟨p.is3, (rt tP s.L5), p.Ia9, p.Q4, p.Xb2, p.Wa0, p.aa9, s.ba4, ((List.length s.d7) - (W ((W (p.is3 + s.ba4)) + 2)).toNat), (fun k => (fun k => (tP).row (gL tP s.d7 k)) ((W ((W (p.is3 + s.ba4)) + 2)).toNat + k)), (↑((List.length s.d7) - (W ((W (p.is3 + s.ba4)) + 2)).toNat) : Int), (rt tP s.d7), p.E2, p.E3, p.E4, p.E5, (toI (hdA (p.Wa0 s.ba4.toNat))), (toI (hdA (tlA (p.Wa0 s.ba4.toNat)))), (toI (hdA (tlA (tlA (p.Wa0 s.ba4.toNat))))), (toI (hdA (tlA (tlA (tlA (p.Wa0 s.ba4.toNat)))))), (rt tP s.N1)⟩ : f7)) (⟨1, 0, s.Xb3, s.eh5, s.eh6⟩ : f8)); (sl (decide (s.ba4 < p.aa9)) (sl (inB s.ba4 p.Xb2) (sl ((Nat.ble 4 (len (p.Wa0 s.ba4.toNat))) && (J5 [(CK.int .i64), (CK.int .i64), (CK.int .i64), (CK.int .i64)] (p.Wa0 s.ba4.toNat))) (sl (inB (W ((W (p.is3 + s.ba4)) + 2)) ((List.length s.d7) + 1)) (sl ((cnE tP s.L5) && ((cnE tP s.d7) && ((cnE tP s.N1) && true))) (sl (Nat.beq t1.1 1) (k ⟨0, (rt tP s.L5), (W (s.ba4 + 1)), (rt tP s.d7), (rt tP s.N1), 0, [], []⟩) (sl (Nat.beq t1.1 2) (k ⟨1, (rt tP s.L5), (W (s.ba4 + 1)), (rt tP s.d7), (rt tP s.N1), t1.2.Ma5, t1.2.eh6, t1.2.eh7⟩) z)) z) z) z) z) (e 2))
noncomputable def p9 (p : f9) (s : g9) : Stp g9 := (sel (Nat.beq s.ph 1) (r7 .next .exit .fail p s) (r6 .next .exit .fail p s))
noncomputable def ha7 : Lo f9 g9 := ⟨En W8, 0, Td4, [1, 1, 1, 0, 1, 4, 4, 1, 4, 4, 1, 1, 0, 4, 1, 1, 4, 4], [1, 3, 4, 9, 10, 11, 19, 20, 21, 47, 49, 50, 51, 52], (.s .p (.s .p (.s (.b (.s .p (.s .p (.b (.u ha6.lsM))))) .p))), [⟨((.s (.o .unk)) :: ((.s (.o (.ptr 0 0 0 0))) :: ((.s (.o .unk)) :: ((.s (.o (.int .i64))) :: ((.s (.o (.ptr 1 0 0 0))) :: (ru2 4 ((.s (.c 4 (nL tP))) :: ((.s (.o (.int .i64))) :: ((.s (.o (.int .i64))) :: (ru2 7 ((.s (.o (.tree 4))) :: ((.s (.o (.int .i64))) :: ((.s (.o (.int .i64))) :: (ru2 25 ((.s (.o (.lit .i64 0))) :: ((.s (.o .unk)) :: ((.s (.o (.ptr 2 0 0 0))) :: ((.s (.o .nil)) :: ((.s (.o (.ptr 3 0 0 0))) :: ((.s (.o (.ptr 4 0 0 0))) :: (ru2 31 []))))))))))))))))))))), [⟨0, 1, true, (some [[(.c 4 (nL tP))]])⟩, ⟨0, 4, true, (some [[(.o (.int .i64)), (.o (.int .i64)), (.o (.int .i64)), (.o (.int .i64))]])⟩, ⟨0, 1, true, (some [[(.c 4 (nL tP))]])⟩, ⟨0, 0, true, (some [[(.o .nil)]])⟩, ⟨0, 0, true, (some [[(.o (.ptr 5 0 0 0))]])⟩, ⟨174, 0, true, (some [])⟩], fun a H => (⟨(toI (slT a 3)), (toI (slT a 10)), (toI (slT a 11)), (toN (slT a 19)), (toG (slT a 19)), (toI (slT a 20)), (toI (slT (rwT (elT H 1) 0) 0)), (toI (slT (rwT (elT H 1) 0) 1)), (toI (slT (rwT (elT H 1) 0) 2)), (toI (slT (rwT (elT H 1) 0) 3))⟩, ⟨0, (rL tP (slT a 9)), (toI (slT a 21)), (rL tP (slT (rwT (elT H 0) 0) 0)), (rL tP (slT (rwT (elT H 2) 0) 0)), 0, [], []⟩)⟩, ⟨((.s (.o .unk)) :: ((.s (.o (.ptr 0 0 0 0))) :: ((.s (.o .unk)) :: ((.s (.o (.int .i64))) :: ((.s (.o (.ptr 1 0 0 0))) :: (ru2 4 ((.s (.c 4 (nL tP))) :: ((.s (.o (.int .i64))) :: ((.s (.o (.int .i64))) :: (ru2 7 ((.s (.o (.tree 4))) :: ((.s (.o (.int .i64))) :: ((.s (.o (.int .i64))) :: (ru2 25 ((.s (.o (.lit .i64 0))) :: ((.s (.o .unk)) :: ((.s (.o (.ptr 2 0 0 0))) :: ((.s (.o .nil)) :: ((.s (.o (.ptr 3 0 0 0))) :: ((.s (.o (.ptr 4 0 0 0))) :: (ru2 31 []))))))))))))))))))))), [⟨0, 1, true, (some [[(.c 4 (nL tP))]])⟩, ⟨0, 4, true, (some [[(.o (.int .i64)), (.o (.int .i64)), (.o (.int .i64)), (.o (.int .i64))]])⟩, ⟨0, 1, true, (some [[(.c 4 (nL tP))]])⟩, ⟨0, 0, true, (some [[(.o (.sl 5 0 (some 0) none))]])⟩, ⟨0, 0, true, (some [[(.o (.ptr 6 0 0 0))]])⟩, ⟨54, 4, true, none⟩, ⟨174, 0, true, none⟩], fun a H => (⟨(toI (slT a 3)), (toI (slT a 10)), (toI (slT a 11)), (toN (slT a 19)), (toG (slT a 19)), (toI (slT a 20)), (toI (slT (rwT (elT H 1) 0) 0)), (toI (slT (rwT (elT H 1) 0) 1)), (toI (slT (rwT (elT H 1) 0) 2)), (toI (slT (rwT (elT H 1) 0) 3))⟩, ⟨1, (rL tP (slT a 9)), (toI (slT a 21)), (rL tP (slT (rwT (elT H 0) 0) 0)), (rL tP (slT (rwT (elT H 2) 0) 0)), (slN (slT (rwT (elT H 3) 0) 0)), (elT H 5), (elT H 6)⟩)⟩], p9, [(some 2, fun p s => ⟨(.unk :: ((.ptr 0 0 0 0) :: (.unk :: ((i p.is3) :: ((.ptr 1 0 0 0) :: (ra 4 ((eL tP s.L5) :: ((i p.Ia9) :: ((i p.Q4) :: (ra 7 ((.tree 4 p.Xb2 p.Wa0) :: ((i p.aa9) :: ((i s.ba4) :: ((b (decide (s.ba4 < p.aa9))) :: (ra 24 ((i 0) :: (.unk :: ((.ptr 2 0 0 0) :: ((.v (.slice none 0 0)) :: ((.ptr 3 0 0 0) :: ((.ptr 4 0 0 0) :: (ra 31 [])))))))))))))))))))))), [⟨0, 1, [[(eL tP s.d7)]], true, false, 0⟩, ⟨0, 4, [[(i p.E2), (i p.E3), (i p.E4), (i p.E5)]], true, false, 0⟩, ⟨0, 1, [[(eL tP s.N1)]], true, false, 0⟩, ⟨0, 0, [[(.v (.slice none 0 0))]], true, false, 0⟩, ⟨0, 0, [[(.ptr 5 0 0 0)]], true, false, 0⟩, ⟨174, 0, [], true, false, 0⟩]⟩), (some 2, fun p s => ⟨(.unk :: ((.ptr 0 0 0 0) :: (.unk :: ((i p.is3) :: ((.ptr 1 0 0 0) :: (ra 4 ((eL tP s.L5) :: ((i p.Ia9) :: ((i p.Q4) :: (ra 7 ((.tree 4 p.Xb2 p.Wa0) :: ((i p.aa9) :: ((i s.ba4) :: ((b (decide (s.ba4 < p.aa9))) :: (ra 24 ((i 0) :: (.unk :: ((.ptr 2 0 0 0) :: ((.v (.slice none 0 0)) :: ((.ptr 3 0 0 0) :: ((.ptr 4 0 0 0) :: (ra 31 [])))))))))))))))))))))), [⟨0, 1, [[(eL tP s.d7)]], true, false, 0⟩, ⟨0, 4, [[(i p.E2), (i p.E3), (i p.E4), (i p.E5)]], true, false, 0⟩, ⟨0, 1, [[(eL tP s.N1)]], true, false, 0⟩, ⟨0, 0, [[(.sl 5 0 s.Xb3 0)]], true, false, 0⟩, ⟨0, 0, [[(.ptr 6 0 0 0)]], true, false, 0⟩, ⟨54, 4, s.eh5, true, false, 0⟩, ⟨174, 0, s.eh6, true, false, 0⟩]⟩)], ib9⟩
theorem jb0 : ha7.OkM := Lo.okM [ha6.prM] (by kernel_rfl) (.cons ib8 .nil) rfl (.cons (fun a H => by kernel_rfl) (.cons (fun a H => by kernel_rfl) .nil)) fun p s => (.sel (Nat.beq s.ph 1) (.of @r7 (fun F _ _ _ _ _ => by unfold r7; (repeat' apply k9 (f := F)) <;> rfl) (by kernel_rfl)) (.of @r6 (fun F _ _ _ _ _ => by unfold r6; (repeat' apply k9 (f := F)) <;> rfl) (by kernel_rfl)))
structure n9 where
 Ia9 : Int
structure j7 where
 ph : Nat
 L5 : List Pln
 Q4 : Int
 d7 : List Pln
 Da0 : List Pln
 nc4 : Nat
 eh4 : List (List b7)
 eh5 : List (List b7)
noncomputable def db1 (p : n9) (s : j7) : St := ⟨(.unk :: ((.ptr 0 0 0 0) :: (ra 7 ((eL tP s.L5) :: ((i p.Ia9) :: ((i s.Q4) :: (ra 35 ((i 0) :: (.unk :: ((.ptr 1 0 0 0) :: ((.v (.slice none 0 0)) :: ((.ptr 2 0 0 0) :: ((.ptr 3 0 0 0) :: (ra 31 [])))))))))))))), [⟨0, 1, [[(eL tP s.d7)]], true, false, 0⟩, ⟨0, 1, [[(eL tP s.Da0)]], true, false, 0⟩, ⟨0, 0, [[(.v (.slice none 0 0))]], true, false, 0⟩, ⟨0, 0, [[(.ptr 4 0 0 0)]], true, false, 0⟩, ⟨174, 0, [], true, false, 0⟩]⟩
noncomputable def db2 (p : n9) (s : j7) : St := ⟨(.unk :: ((.ptr 0 0 0 0) :: (ra 7 ((eL tP s.L5) :: ((i p.Ia9) :: ((i s.Q4) :: (ra 35 ((i 0) :: (.unk :: ((.ptr 1 0 0 0) :: ((.v (.slice none 0 0)) :: ((.ptr 2 0 0 0) :: ((.ptr 3 0 0 0) :: (ra 31 [])))))))))))))), [⟨0, 1, [[(eL tP s.d7)]], true, false, 0⟩, ⟨0, 1, [[(eL tP s.Da0)]], true, false, 0⟩, ⟨0, 0, [[(.sl 4 0 s.nc4 0)]], true, false, 0⟩, ⟨0, 0, [[(.ptr 5 0 0 0)]], true, false, 0⟩, ⟨54, 4, s.eh4, true, false, 0⟩, ⟨174, 0, s.eh5, true, false, 0⟩]⟩
noncomputable def jb1 (p : n9) (s : j7) : St := (sel (Nat.beq s.ph 1) (db2 p s) (db1 p s))
noncomputable def r8 {α : Type} (k : j7 → α) (e : Nat → α) (z : α) (p : n9) (s : j7) : α := let t1 := (lp (p9 (⟨s.Q4, p.Ia9, s.Q4, ((List.length s.d7) - (W (s.Q4 + 1)).toNat), (fun k => (fun k => (tP).row (gL tP s.d7 k)) ((W (s.Q4 + 1)).toNat + k)), (↑((List.length s.d7) - (W (s.Q4 + 1)).toNat) : Int), (gL tP s.L5 s.Q4.toNat).n.x, (gL tP s.L5 s.Q4.toNat).n.y, (gL tP s.L5 s.Q4.toNat).n.z, (gL tP s.L5 s.Q4.toNat).b⟩ : f9)) (⟨0, (rt tP s.L5), 0, (rt tP s.d7), (rt tP s.Da0), 0, [], []⟩ : g9)); (sl (decide (s.Q4 < p.Ia9)) (sl (inB s.Q4 (List.length s.L5)) (sl (inB (W (s.Q4 + 1)) ((List.length s.d7) + 1)) (sl ((cnE tP s.L5) && ((cnE tP s.d7) && ((cnE tP s.Da0) && true))) (sl (Nat.beq t1.1 1) (k ⟨0, t1.2.L5, (W (s.Q4 + 1)), t1.2.d7, t1.2.N1, 0, [], []⟩) (sl (Nat.beq t1.1 2) (k ⟨1, t1.2.L5, (W (s.Q4 + 1)), t1.2.d7, t1.2.N1, t1.2.Xb3, t1.2.eh5, t1.2.eh6⟩) z)) z) z) z) (e 1))
noncomputable def r9 {α : Type} (k : j7 → α) (e : Nat → α) (z : α) (p : n9) (s : j7) : α := let t1 := (lp (p9 (⟨s.Q4, p.Ia9, s.Q4, ((List.length s.d7) - (W (s.Q4 + 1)).toNat), (fun k => (fun k => (tP).row (gL tP s.d7 k)) ((W (s.Q4 + 1)).toNat + k)), (↑((List.length s.d7) - (W (s.Q4 + 1)).toNat) : Int), (gL tP s.L5 s.Q4.toNat).n.x, (gL tP s.L5 s.Q4.toNat).n.y, (gL tP s.L5 s.Q4.toNat).n.z, (gL tP s.L5 s.Q4.toNat).b⟩ : f9)) (⟨1, (rt tP s.L5), 0, (rt tP s.d7), (rt tP s.Da0), s.nc4, s.eh4, s.eh5⟩ : g9)); (sl (decide (s.Q4 < p.Ia9)) (sl (inB s.Q4 (List.length s.L5)) (sl (inB (W (s.Q4 + 1)) ((List.length s.d7) + 1)) (sl ((cnE tP s.L5) && ((cnE tP s.d7) && ((cnE tP s.Da0) && true))) (sl (Nat.beq t1.1 1) (k ⟨0, t1.2.L5, (W (s.Q4 + 1)), t1.2.d7, t1.2.N1, 0, [], []⟩) (sl (Nat.beq t1.1 2) (k ⟨1, t1.2.L5, (W (s.Q4 + 1)), t1.2.d7, t1.2.N1, t1.2.Xb3, t1.2.eh5, t1.2.eh6⟩) z)) z) z) z) (e 2))
noncomputable def q7 (p : n9) (s : j7) : Stp j7 := (sel (Nat.beq s.ph 1) (r9 .next .exit .fail p s) (r8 .next .exit .fail p s))
noncomputable def ha8 : Lo n9 j7 := ⟨En W8, 0, Td4, [1, 1, 1, 0, 1, 4, 4, 1, 4, 4], [1, 9, 10, 11, 47, 49, 50, 51, 52], (.s .p (.s .p (.s (.b (.s .p (.s .p (.b (.u ha7.lsM))))) .p))), [⟨((.s (.o .unk)) :: ((.s (.o (.ptr 0 0 0 0))) :: (ru2 7 ((.s (.c 4 (nL tP))) :: ((.s (.o (.int .i64))) :: ((.s (.o (.int .i64))) :: (ru2 35 ((.s (.o (.lit .i64 0))) :: ((.s (.o .unk)) :: ((.s (.o (.ptr 1 0 0 0))) :: ((.s (.o .nil)) :: ((.s (.o (.ptr 2 0 0 0))) :: ((.s (.o (.ptr 3 0 0 0))) :: (ru2 31 [])))))))))))))), [⟨0, 1, true, (some [[(.c 4 (nL tP))]])⟩, ⟨0, 1, true, (some [[(.c 4 (nL tP))]])⟩, ⟨0, 0, true, (some [[(.o .nil)]])⟩, ⟨0, 0, true, (some [[(.o (.ptr 4 0 0 0))]])⟩, ⟨174, 0, true, (some [])⟩], fun a H => (⟨(toI (slT a 10))⟩, ⟨0, (rL tP (slT a 9)), (toI (slT a 11)), (rL tP (slT (rwT (elT H 0) 0) 0)), (rL tP (slT (rwT (elT H 1) 0) 0)), 0, [], []⟩)⟩, ⟨((.s (.o .unk)) :: ((.s (.o (.ptr 0 0 0 0))) :: (ru2 7 ((.s (.c 4 (nL tP))) :: ((.s (.o (.int .i64))) :: ((.s (.o (.int .i64))) :: (ru2 35 ((.s (.o (.lit .i64 0))) :: ((.s (.o .unk)) :: ((.s (.o (.ptr 1 0 0 0))) :: ((.s (.o .nil)) :: ((.s (.o (.ptr 2 0 0 0))) :: ((.s (.o (.ptr 3 0 0 0))) :: (ru2 31 [])))))))))))))), [⟨0, 1, true, (some [[(.c 4 (nL tP))]])⟩, ⟨0, 1, true, (some [[(.c 4 (nL tP))]])⟩, ⟨0, 0, true, (some [[(.o (.sl 4 0 (some 0) none))]])⟩, ⟨0, 0, true, (some [[(.o (.ptr 5 0 0 0))]])⟩, ⟨54, 4, true, none⟩, ⟨174, 0, true, none⟩], fun a H => (⟨(toI (slT a 10))⟩, ⟨1, (rL tP (slT a 9)), (toI (slT a 11)), (rL tP (slT (rwT (elT H 0) 0) 0)), (rL tP (slT (rwT (elT H 1) 0) 0)), (slN (slT (rwT (elT H 2) 0) 0)), (elT H 4), (elT H 5)⟩)⟩], q7, [(some 0, fun p s => ⟨(.unk :: ((.ptr 0 0 0 0) :: (ra 7 ((eL tP s.L5) :: ((i p.Ia9) :: ((i s.Q4) :: ((b (decide (s.Q4 < p.Ia9))) :: (ra 34 ((i 0) :: (.unk :: ((.ptr 1 0 0 0) :: ((.v (.slice none 0 0)) :: ((.ptr 2 0 0 0) :: ((.ptr 3 0 0 0) :: (ra 31 []))))))))))))))), [⟨0, 1, [[(eL tP s.d7)]], true, false, 0⟩, ⟨0, 1, [[(eL tP s.Da0)]], true, false, 0⟩, ⟨0, 0, [[(.v (.slice none 0 0))]], true, false, 0⟩, ⟨0, 0, [[(.ptr 4 0 0 0)]], true, false, 0⟩, ⟨174, 0, [], true, false, 0⟩]⟩), (some 0, fun p s => ⟨(.unk :: ((.ptr 0 0 0 0) :: (ra 7 ((eL tP s.L5) :: ((i p.Ia9) :: ((i s.Q4) :: ((b (decide (s.Q4 < p.Ia9))) :: (ra 34 ((i 0) :: (.unk :: ((.ptr 1 0 0 0) :: ((.v (.slice none 0 0)) :: ((.ptr 2 0 0 0) :: ((.ptr 3 0 0 0) :: (ra 31 []))))))))))))))), [⟨0, 1, [[(eL tP s.d7)]], true, false, 0⟩, ⟨0, 1, [[(eL tP s.Da0)]], true, false, 0⟩, ⟨0, 0, [[(.sl 4 0 s.nc4 0)]], true, false, 0⟩, ⟨0, 0, [[(.ptr 5 0 0 0)]], true, false, 0⟩, ⟨54, 4, s.eh4, true, false, 0⟩, ⟨174, 0, s.eh5, true, false, 0⟩]⟩)], jb1⟩
theorem jb2 : ha8.OkM := Lo.okM [ha7.prM] (by kernel_rfl) (.cons jb0 .nil) rfl (.cons (fun a H => by kernel_rfl) (.cons (fun a H => by kernel_rfl) .nil)) fun p s => (.sel (Nat.beq s.ph 1) (.of @r9 (fun F _ _ _ _ _ => by unfold r9; (repeat' apply k9 (f := F)) <;> rfl) (by kernel_rfl)) (.of @r8 (fun F _ _ _ _ _ => by unfold r8; (repeat' apply k9 (f := F)) <;> rfl) (by kernel_rfl)))
noncomputable def P8 (x : List Pln) : Option (b7 × List b8) := let t1 := (lp (q7 (⟨(↑(List.length x) : Int)⟩ : n9)) (⟨0, (rt tP x), 0, (rt tP x), (rt tP x), 0, [], []⟩ : j7)); (sl ((cnE tP x) && ((cnE tP x) && ((cnE tP x) && true))) (sl (Nat.beq t1.1 1) (some ((.v (.slice none 0 0)), [])) (sl (Nat.beq t1.1 2) (some ((.sl 0 0 t1.2.nc4 0), [⟨54, 4, t1.2.eh4, true, false, 0⟩])) none)) none)
noncomputable def P9 (x : List Pln) : List Pt := G6 (one (r1L tX)) (P8 x)
noncomputable def Q0 (x : List Pln) : Bool := okO (one (r1L tX)) (P8 x)
noncomputable def oa6 : Sum := ba5 (T5 tP) (fun x => .guard (Q0 x) (.ret ((one (r1L tX)).enc (P9 x), [])))
theorem Fa4 : f6 prog G 89 oa6 := ua0 (bd b89 nb1) (one (r1L tX)) (o := P8) fun x => be6 (.s .p (.s .p (.s .p (.s (.s .p (.b (.i (.s .p (.b (.u ha8.lsM)))))) .p)))) [ha8.prM] (by kernel_rfl) (.cons jb2 .nil) (by kernel_rfl)
end Go.Ev.Ce
end
section
namespace Go.Ev.Ce
open Go Go.Ev Go.Ev.L Go.Proofs
set_option maxRecDepth 100000
noncomputable def vb0 : List (Nat × Sum) := []
theorem bc2 : i7 prog G vb0 := trivial
structure ha9 where
 is0 : Int
 jd7 : List Int
 is8 : Int
structure F5 where
 is9 : Int
noncomputable def Ub1 (p : ha9) (s : F5) : St := ⟨((i p.is0) :: (ra 6 ((eL tI p.jd7) :: ((i p.is8) :: ((i s.is9) :: (ra 13 [])))))), []⟩
noncomputable def Z5 {α : Type} (k : F5 → α) (e : Nat → α) (z : α) (p : ha9) (s : F5) : α := (sl (decide (s.is9 < p.is8)) (sl (inB s.is9 (List.length p.jd7)) (sl (decide ((gL tI p.jd7 s.is9.toNat) < (W (0 - p.is0)))) (e 1) (sl (decide ((gL tI p.jd7 s.is9.toNat) > p.is0)) (e 1) (k ⟨(W (s.is9 + 1))⟩))) z) (e 2))
noncomputable def da7 (p : ha9) (s : F5) : Stp F5 := Z5 .next .exit .fail p s
noncomputable def Ka3 : Lo ha9 F5 := ⟨En vb0, 0, ae3, [1, 0, 1, 4, 4], [0, 7, 8, 9], .p, [⟨((.s (.o (.int .i64))) :: (ru2 6 ((.s (.c 1 (nL tI))) :: ((.s (.o (.int .i64))) :: ((.s (.o (.int .i64))) :: (ru2 13 [])))))), [], fun a H => (⟨(toI (slT a 0)), (rL tI (slT a 7)), (toI (slT a 8))⟩, ⟨(toI (slT a 9))⟩)⟩], da7, [(none, fun p s => ⟨[(b false)], []⟩), (some 0, fun p s => ⟨((i p.is0) :: (ra 6 ((eL tI p.jd7) :: ((i p.is8) :: ((i s.is9) :: ((b (decide (s.is9 < p.is8))) :: (ra 12 []))))))), []⟩)], Ub1⟩
theorem Ub2 : Ka3.Ok := Lo.ok [] (by kernel_rfl) .nil rfl (.cons (fun a H => by kernel_rfl) .nil) fun p s => (.of @Z5 (fun F _ _ _ _ _ => by unfold Z5; (repeat' apply k9 (f := F)) <;> rfl) (by kernel_rfl))
noncomputable def ra4 (x : Int) (y : List Int) : Option (b7 × List b8) := let t1 := (lp (da7 (⟨x, (rt tI y), (↑(List.length y) : Int)⟩ : ha9)) (⟨0⟩ : F5)); (sl ((cnE tI y) && true) (sl (Nat.beq t1.1 1) (some ((b false), [])) (sl (Nat.beq t1.1 2) (some ((b true), [])) none)) none)
noncomputable def ia0 (x : Int) (y : List Int) : Bool := G6 (one r1B) (ra4 x y)
noncomputable def ia1 (x : Int) (y : List Int) : Bool := okO (one r1B) (ra4 x y)
noncomputable def Za8 : Sum := ga8 cI (T5 tI) (fun x y => .guard (ia1 x y) (.ret ((one r1B).enc (ia0 x y), [])))
theorem vb1 : f6 prog G 164 Za8 := cb4 (bd ye8 bc2) (one r1B) (o := ra4) fun x y => wa0 (.s .p (.s (.s .p (.b (.u Ka3.ls))) .p)) [Ka3.pr] (by kernel_rfl) (.cons Ub2 .nil) (by kernel_rfl)
noncomputable def Ub3 : List (Nat × Sum) := []
theorem Mb7 : i7 prog G Ub3 := trivial
noncomputable def ua3 (x : Int) : Int := (if (W (0 - x)) > x then (W (0 - x)) else x)
noncomputable def nb2 : Sum := ba5 cI (fun x => .ret ((one r1I).enc (ua3 x), []))
theorem Ub4 : f6 prog G 214 nb2 := Rb5 (bd Be0 Mb7) fun x => p7 (by kernel_rfl)
noncomputable def Ka4 : List (Nat × Sum) := [(214, nb2)]
theorem Ub5 : i7 prog G Ka4 := ⟨Ub4, trivial⟩
structure T8 where
 va8 : List Int
 is7 : Int
 is8 : Int
structure G5 where
 is3 : Int
 is5 : Int
noncomputable def Mb8 (p : T8) (s : G5) : St := ⟨(ra 3 ((i s.is3) :: (.unk :: ((i s.is5) :: ((eL tI p.va8) :: ((i p.is7) :: ((i p.is8) :: (ra 15 [])))))))), []⟩
noncomputable def V7 {α : Type} (k : G5 → α) (e : Nat → α) (z : α) (p : T8) (s : G5) : α := (sl (decide (s.is5 > 0)) (sl (s.is5 == 0) z (k ⟨s.is5, (Int.tmod s.is3 s.is5)⟩)) (e 1))
noncomputable def Q3 (p : T8) (s : G5) : Stp G5 := V7 .next .exit .fail p s
noncomputable def Fa5 : Lo T8 G5 := ⟨En Ka4, 0, Jd4, [1, 1, 0, 1, 4, 4, 1, 1, 0, 4, 1, 1, 1, 4, 4], [3, 5, 6, 7, 8], .p, [⟨(ru2 3 ((.s (.o (.int .i64))) :: ((.s (.o .unk)) :: ((.s (.o (.int .i64))) :: ((.s (.c 1 (nL tI))) :: ((.s (.o (.int .i64))) :: ((.s (.o (.int .i64))) :: (ru2 15 [])))))))), [], fun a H => (⟨(rL tI (slT a 6)), (toI (slT a 7)), (toI (slT a 8))⟩, ⟨(toI (slT a 3)), (toI (slT a 5))⟩)⟩], Q3, [(some 2, fun p s => ⟨(ra 3 ((i s.is3) :: (.unk :: ((i s.is5) :: ((eL tI p.va8) :: ((i p.is7) :: ((i p.is8) :: (ra 7 ((i s.is5) :: ((b (decide (s.is5 > 0))) :: (ra 6 []))))))))))), []⟩)], Mb8⟩
theorem Mb9 : Fa5.Ok := Lo.ok [] (by kernel_rfl) .nil rfl (.cons (fun a H => by kernel_rfl) .nil) fun p s => (.of @V7 (fun F _ _ _ _ _ => by unfold V7; (repeat' apply k9 (f := F)) <;> rfl) (by kernel_rfl))
structure da8 where
 is7 : Int
structure D3 where
 is3 : Int
 va8 : List Int
 is8 : Int
noncomputable def Nb0 (p : da8) (s : D3) : St := ⟨(ra 3 ((i s.is3) :: (.unk :: (.unk :: ((eL tI s.va8) :: ((i p.is7) :: ((i s.is8) :: (ra 15 [])))))))), []⟩
noncomputable def V8 {α : Type} (k : D3 → α) (e : Nat → α) (z : α) (p : da8) (s : D3) : α := let t1 := (ua3 (gL tI s.va8 s.is8.toNat)); let t2 := (lp (Q3 (⟨(rt tI s.va8), p.is7, s.is8⟩ : T8)) (⟨s.is3, t1⟩ : G5)); (sl (decide (s.is8 < p.is7)) (sl (inB s.is8 (List.length s.va8)) (sl ((gL tI s.va8 s.is8.toNat) == (-9223372036854775808)) (e 1) (sl ((cnE tI s.va8) && true) (sl (Nat.beq t2.1 1) (k ⟨t2.2.is3, (rt tI s.va8), (W (s.is8 + 1))⟩) z) z)) z) (e 2))
noncomputable def Z6 (p : da8) (s : D3) : Stp D3 := V8 .next .exit .fail p s
noncomputable def Fa6 : Lo da8 D3 := ⟨En Ka4, 0, Jd4, [1, 1, 0, 1, 4, 4], [3, 6, 7, 8], (.s .p (.s .p (.s (.b (.s .p (.s .p (.s .p (.b (.u Fa5.ls)))))) .p))), [⟨(ru2 3 ((.s (.o (.int .i64))) :: ((.s (.o .unk)) :: ((.s (.o .unk)) :: ((.s (.c 1 (nL tI))) :: ((.s (.o (.int .i64))) :: ((.s (.o (.int .i64))) :: (ru2 15 [])))))))), [], fun a H => (⟨(toI (slT a 7))⟩, ⟨(toI (slT a 3)), (rL tI (slT a 6)), (toI (slT a 8))⟩)⟩], Z6, [(none, fun p s => ⟨[(i 0)], []⟩), (some 0, fun p s => ⟨(ra 3 ((i s.is3) :: (.unk :: (.unk :: ((eL tI s.va8) :: ((i p.is7) :: ((i s.is8) :: ((b (decide (s.is8 < p.is7))) :: (ra 14 []))))))))), []⟩)], Nb0⟩
theorem Nb1 : Fa6.Ok := Lo.ok [Fa5.pr] (by kernel_rfl) (.cons Mb9 .nil) rfl (.cons (fun a H => by kernel_rfl) .nil) fun p s => (.of @V8 (fun F _ _ _ _ _ => by unfold V8; (repeat' apply k9 (f := F)) <;> rfl) (by kernel_rfl))
noncomputable def la7 (x : List Int) : Option (b7 × List b8) := let t1 := (lp (Z6 (⟨(↑(List.length x) : Int)⟩ : da8)) (⟨0, (rt tI x), 0⟩ : D3)); (sl ((cnE tI x) && true) (sl (Nat.beq t1.1 1) (some ((i 0), [])) (sl (Nat.beq t1.1 2) (some ((i t1.2.is3), [])) none)) none)
noncomputable def za7 (x : List Int) : Int := G6 (one r1I) (la7 x)
noncomputable def za8 (x : List Int) : Bool := okO (one r1I) (la7 x)
noncomputable def vb2 : Sum := ba5 (T5 tI) (fun x => .guard (za8 x) (.ret ((one r1I).enc (za7 x), [])))
theorem bc3 : f6 prog G 165 vb2 := ua0 (bd ye9 Ub5) (one r1I) (o := la7) fun x => wa0 (.s .p (.s .p (.s (.s .p (.b (.u Fa6.ls))) .p))) [Fa6.pr] (by kernel_rfl) (.cons Nb1 .nil) (by kernel_rfl)
noncomputable def uc3 : List (Nat × Sum) := [(164, Za8), (165, vb2)]
theorem jc2 : i7 prog G uc3 := ⟨vb1, bc3, trivial⟩
noncomputable def xa6 (x : Pln) : Option (b7 × List b8) := let t1 := (ia0 4608 [x.n.x, x.n.y, x.n.z]); let t2 := (za7 [x.n.x, x.n.y, x.n.z]); let t3 := (ia0 2097152 [x.b]); (sl (ia1 4608 [x.n.x, x.n.y, x.n.z]) (sl t1 (sl (za8 [x.n.x, x.n.y, x.n.z]) (sl (t2 == 1) (sl (ia1 2097152 [x.b]) (some ((b t3), [])) none) (some ((b false), []))) none) (some ((b false), []))) none)
noncomputable def Ma0 (x : Pln) : Bool := G6 (one r1B) (xa6 x)
noncomputable def Ma1 (x : Pln) : Bool := okO (one r1B) (xa6 x)
noncomputable def Jb5 : Sum := ba5 (P7 tP) (fun x => .guard (Ma1 x) (.ret ((one r1B).enc (Ma0 x), [])))
theorem uc4 : f6 prog G 85 Jb5 := ua0 (bd b85 jc2) (one r1B) (o := xa6) fun x => p7 (by kernel_rfl)
noncomputable def jc3 : List (Nat × Sum) := [(85, Jb5)]
theorem bc4 : i7 prog G jc3 := ⟨uc4, trivial⟩
noncomputable def ra5 (x : Pln) : Option (b7 × List b8) := let t1 := (Ma0 x); (sl (Ma1 x) (some ((b (!t1)), [])) none)
noncomputable def Fa7 (x : Pln) : Bool := G6 (one r1B) (ra5 x)
noncomputable def Fa8 (x : Pln) : Bool := okO (one r1B) (ra5 x)
noncomputable def Bb5 : Sum := ba5 (P7 tP) (fun x => .guard (Fa8 x) (.ret ((one r1B).enc (Fa7 x), [])))
theorem jc4 : f6 prog G 84 Bb5 := ua0 (bd b84 bc4) (one r1B) (o := ra5) fun x => p7 (by kernel_rfl)
structure O1 where
 c8 : List Pln
noncomputable def ra6 : List (Nat × Sum) := [(84, Bb5)]
theorem Ua8 : i7 prog G ra6 := ⟨jc4, trivial⟩
structure D4 where
 c8 : List Pln
 is7 : Int
structure l6 where
 is8 : Int
noncomputable def Ra9 (p : D4) (s : l6) : St := ⟨((eL tP p.c8) :: ((.fn 84 []) :: (ra 5 ((i p.is7) :: ((i s.is8) :: (ra 10 [])))))), []⟩
noncomputable def z6 {α : Type} (k : l6 → α) (e : Nat → α) (z : α) (p : D4) (s : l6) : α := let t1 := (Fa7 (gL tP p.c8 s.is8.toNat)); (sl (decide (s.is8 < p.is7)) (sl (inB s.is8 (List.length p.c8)) (sl (Fa8 (gL tP p.c8 s.is8.toNat)) (sl t1 (e 1) (k ⟨(W (s.is8 + 1))⟩)) z) z) (e 2))
noncomputable def B5 (p : D4) (s : l6) : Stp l6 := z6 .next .exit .fail p s
noncomputable def W9 : Lo D4 l6 := ⟨En ra6, 0, ud3, [1, 0, 1, 4, 4], [0, 1, 7, 8], .p, [⟨((.s (.c 4 (nL tP))) :: ((.s (.o (.fn 84))) :: (ru2 5 ((.s (.o (.int .i64))) :: ((.s (.o (.int .i64))) :: (ru2 10 [])))))), [], fun a H => (⟨(rL tP (slT a 0)), (toI (slT a 7))⟩, ⟨(toI (slT a 8))⟩)⟩], B5, [(none, fun p s => ⟨[(i s.is8)], []⟩), (some 0, fun p s => ⟨((eL tP p.c8) :: ((.fn 84 []) :: (ra 5 ((i p.is7) :: ((i s.is8) :: ((b (decide (s.is8 < p.is7))) :: (ra 9 []))))))), []⟩)], Ra9⟩
theorem Sa0 : W9.Ok := Lo.ok [] (by kernel_rfl) .nil rfl (.cons (fun a H => by kernel_rfl) .nil) fun p s => (.of @z6 (fun F _ _ _ _ _ => by unfold z6; (repeat' apply k9 (f := F)) <;> rfl) (by kernel_rfl))
structure O2 where
 alt : Nat
 is0 : Int
noncomputable def A3 {α : Type} (kk : O2 → α) (x : O1) : α := let t1 := (lp (B5 (⟨(rt tP x.c8), (↑(List.length x.c8) : Int)⟩ : D4)) (⟨0⟩ : l6)); (sl ((cnE tP x.c8) && true) (sl (Nat.beq t1.1 1) (kk ⟨1, t1.2.is8⟩) (sl (Nat.beq t1.1 2) (kk ⟨1, (-1)⟩) (kk ⟨0, 0⟩))) (kk ⟨0, 0⟩))
noncomputable def ba6 (x : O1) : O2 := A3 (fun r => r) x
noncomputable def Z7 (x : O1) (r : O2) : DT (b7 × List b8) := (.ite (Nat.beq r.alt 1) (.ret ((i r.is0), [])) .fail)
theorem db3 {α β : Type} (F : α → β) (kk : O2 → α) (x : O1) : F (A3 kk x) = A3 (fun r => F (kk r)) x := by unfold A3; (repeat' apply k9 (f := F)) <;> rfl
noncomputable def va1 : Sum := Ya0 ⟨[(.s (.c 4 (nL tP))), (.s (.o (.fn 84)))], [], fun a H => (⟨(rL tP (slT a 0))⟩, ())⟩ (fun x => Z7 x (ba6 x))
theorem Za9 : f6 prog G 163 va1 := N7 (enc := fun x => ⟨[(eL tP x.c8), (.fn 84 [])], []⟩) (fun a H => by kernel_rfl) (bd ge4 Ua8) fun x => wa0 (.s .p (.s (.s .p (.b (.u W9.ls))) .p)) [W9.pr] (by kernel_rfl) (.cons Sa0 .nil) (Eq.trans (b := A3 (fun r => (Z7 x r).run) x) (by kernel_rfl) (db3 (fun r => (Z7 x r).run) (fun r => r) x).symm)
structure I0 where
 c8 : List Pln
noncomputable def Oa3 : List (Nat × Sum) := [(163, va1)]
theorem Ka5 : i7 prog G Oa3 := ⟨Za9, trivial⟩
structure I1 where
 alt : Nat
 bs0 : Bool
noncomputable def s9 {α : Type} (kk : I1 → α) (x : I0) : α := let t1 := (ba6 ⟨(rt tP x.c8)⟩); (sl ((cnE tP x.c8) && true) (sl (Nat.beq t1.alt 1) (kk ⟨1, (decide (t1.is0 ≥ 0))⟩) (kk ⟨0, false⟩)) (kk ⟨0, false⟩))
noncomputable def U2 (x : I0) : I1 := s9 (fun r => r) x
noncomputable def S6 (x : I0) (r : I1) : DT (b7 × List b8) := (.ite (Nat.beq r.alt 1) (.ret ((b r.bs0), [])) .fail)
theorem Sa1 {α β : Type} (F : α → β) (kk : I1 → α) (x : I0) : F (s9 kk x) = s9 (fun r => F (kk r)) x := by unfold s9; (repeat' apply k9 (f := F)) <;> rfl
noncomputable def la8 : Sum := Ya0 ⟨[(.s (.c 4 (nL tP))), (.s (.o (.fn 84)))], [], fun a H => (⟨(rL tP (slT a 0))⟩, ())⟩ (fun x => S6 x (U2 x))
theorem Oa4 : f6 prog G 83 la8 := N7 (enc := fun x => ⟨[(eL tP x.c8), (.fn 84 [])], []⟩) (fun a H => by kernel_rfl) (bd b83 Ka5) fun x => p7 (Eq.trans (b := s9 (fun r => (S6 x r).run) x) (by kernel_rfl) (Sa1 (fun r => (S6 x r).run) (fun r => r) x).symm)
noncomputable def Dc5 : List (Nat × Sum) := [(83, la8)]
theorem uc5 : i7 prog G Dc5 := ⟨Oa4, trivial⟩
noncomputable def Fa9 (x : List Pln) : Option (b7 × List b8) := let t1 := (U2 ⟨(rt tP x)⟩); (sl (decide ((↑(List.length x) : Int) > 48)) (some ((i 2), [])) (sl ((cnE tP x) && true) (sl (Nat.beq t1.alt 1) (sl t1.bs0 (some ((i 12), [])) (some ((i 0), []))) none) none))
noncomputable def ua4 (x : List Pln) : Int := G6 (one r1I) (Fa9 x)
noncomputable def ua5 (x : List Pln) : Bool := okO (one r1I) (Fa9 x)
noncomputable def Ua9 : Sum := ba5 (T5 tP) (fun x => .guard (ua5 x) (.ret ((one r1I).enc (ua4 x), [])))
theorem jb3 : f6 prog G 15 Ua9 := ua0 (bd b15 uc5) (one r1I) (o := Fa9) fun x => p7 (by kernel_rfl)
noncomputable def jc5 : List (Nat × Sum) := [(15, Ua9)]
theorem bc5 : i7 prog G jc5 := ⟨jb3, trivial⟩
noncomputable def ra7 (x : List Pln) : Option (b7 × List b8) := let t1 := (ua4 (rt tP x)); (sl (okE tP x) (sl (ua5 (rt tP x)) (some ((b (t1 != 0)), [])) none) none)
noncomputable def Ga0 (x : List Pln) : Bool := G6 (one r1B) (ra7 x)
noncomputable def Ga1 (x : List Pln) : Bool := okO (one r1B) (ra7 x)
noncomputable def Bb6 : Sum := ba5 (T5 tP) (fun x => .guard (Ga1 x) (.ret ((one r1B).enc (Ga0 x), [])))
theorem jc6 : f6 prog G 168 Bb6 := ua0 (bd ze2 bc5) (one r1B) (o := ra7) fun x => p7 (by kernel_rfl)
end Go.Ev.Ce
end
