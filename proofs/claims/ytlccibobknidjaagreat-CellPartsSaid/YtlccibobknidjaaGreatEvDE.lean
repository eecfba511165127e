/- Own work: a part of the proof. -/
import Derived.Test.YtlccibobknidjaaGreatEvDG
import Derived.Test.YtlccibobknidjaaGreatEvD5
import Derived.Test.YtlccibobknidjaaGreatEvE8
import Derived.Shelf.SlSortCmp.WholeK
import Derived.Test.YtlccibobknidjaaGreatEvSp7
import Derived.KernelRfl
set_option linter.unusedVariables false
set_option linter.unusedSimpArgs false
set_option linter.unnecessarySimpa false
set_option linter.unusedSectionVars false
section
namespace Go.Ev.Ce
open Go Go.Ev Go.Ev.L Go.Proofs
set_option maxRecDepth 100000
structure Ya0 where
 na5 : Int
 na6 : Int
 na7 : Int
 qb8 : Int
 g8 : List Pt
noncomputable def Sb9 : List (Nat × Sum) := [(102, ub9)]
theorem Ec6 : i6 prog G Sb9 := ⟨Gb0, trivial⟩
structure wa1 where
 Wd3 : List Pt
 is8 : Int
 g8 : List Pt
 l5 : Int
 l6 : Int
 l7 : Int
 J7 : Int
structure N9 where
 is4 : Int
 is9 : Int
noncomputable def wc3 (p : wa1) (s : N9) : St := ⟨(.unk :: (.unk :: ((.ptr 1 0 0 0) :: (.unk :: ((i s.is4) :: (.unk :: (.unk :: ((eL tX p.Wd3) :: ((i p.is8) :: ((i s.is9) :: (ra 12 []))))))))))), [⟨0, 1, [[(eL tX p.g8)]], true, false, 0⟩, ⟨0, 4, [[(i p.l5), (i p.l6), (i p.l7), (i p.J7)]], true, false, 0⟩]⟩
noncomputable def ma9 {α : Type} (k : N9 → α) (e : Nat → α) (z : α) (p : wa1) (s : N9) : α := let t1 := (sa8 (⟨(⟨p.l5, p.l6, p.l7⟩ : V3), p.J7⟩ : Pln) (gL tX p.Wd3 s.is9.toNat)); (sl (decide (s.is9 < p.is8)) (sl (inB s.is9 (List.length p.Wd3)) (sl (t1 == 0) (k ⟨(W (s.is4 + 1)), (W (s.is9 + 1))⟩) (k ⟨s.is4, (W (s.is9 + 1))⟩)) z) (e 1))
noncomputable def ra8 (p : wa1) (s : N9) : Stp N9 := ma9 .next .exit .fail p s
noncomputable def eb6 : Lo wa1 N9 := ⟨En Sb9, 1, Ee3, [1, 1, 0, 1, 4, 4], [2, 4, 7, 8, 9], .p, [⟨((.s (.o .unk)) :: ((.s (.o .unk)) :: ((.s (.o (.ptr 1 0 0 0))) :: ((.s (.o .unk)) :: ((.s (.o (.int .i64))) :: ((.s (.o .unk)) :: ((.s (.o .unk)) :: ((.s (.c 4 (nL tX))) :: ((.s (.o (.int .i64))) :: ((.s (.o (.int .i64))) :: (ru2 12 []))))))))))), [⟨0, 1, true, (some [[(.c 4 (nL tX))]])⟩, ⟨0, 4, true, (some [[(.o (.int .i64)), (.o (.int .i64)), (.o (.int .i64)), (.o (.int .i64))]])⟩], fun a H => (⟨(rL tX (slT a 7)), (toI (slT a 8)), (rL tX (slT (rwT (elT H 0) 0) 0)), (toI (slT (rwT (elT H 1) 0) 0)), (toI (slT (rwT (elT H 1) 0) 1)), (toI (slT (rwT (elT H 1) 0) 2)), (toI (slT (rwT (elT H 1) 0) 3))⟩, ⟨(toI (slT a 4)), (toI (slT a 9))⟩)⟩], ra8, [(some 0, fun p s => ⟨(.unk :: (.unk :: ((.ptr 1 0 0 0) :: (.unk :: ((i s.is4) :: (.unk :: (.unk :: ((eL tX p.Wd3) :: ((i p.is8) :: ((i s.is9) :: ((b (decide (s.is9 < p.is8))) :: (ra 11 [])))))))))))), [⟨0, 1, [[(eL tX p.g8)]], true, false, 0⟩, ⟨0, 4, [[(i p.l5), (i p.l6), (i p.l7), (i p.J7)]], true, false, 0⟩]⟩)], wc3⟩
theorem wc4 : eb6.Ok := Lo.ok [] (by kernel_rfl) .nil rfl (.cons (fun a H => by kernel_rfl) .nil) fun p s => (.of @ma9 (fun F _ _ _ _ _ => by unfold ma9; (repeat' apply k9 (f := F)) <;> rfl) (by kernel_rfl))
structure xa5 where
 alt : Nat
 bs0 : Bool
 g8 : List Pt
noncomputable def xa6 {α : Type} (kk : xa5 → α) (x : Ya0) : α := let t1 := (lp (ra8 (⟨(rt tX x.g8), (↑(List.length x.g8) : Int), (rt tX x.g8), x.na5, x.na6, x.na7, x.qb8⟩ : wa1)) (⟨0, 0⟩ : N9)); (sl ((cnE tX x.g8) && ((cnE tX x.g8) && true)) (sl (Nat.beq t1.1 1) (kk ⟨1, (decide (t1.2.is4 < 3)), (rt tX x.g8)⟩) (kk ⟨0, false, []⟩)) (kk ⟨0, false, []⟩))
noncomputable def oa8 (x : Ya0) : xa5 := xa6 (fun r => r) x
noncomputable def pb2 (x : Ya0) (r : xa5) : DT (b7 × List b8) := (.ite (Nat.beq r.alt 1) (.ret ((b r.bs0), [⟨0, 1, [[(eL tX r.g8)]], true, false, 0⟩])) .fail)
theorem bd7 {α β : Type} (F : α → β) (kk : xa5 → α) (x : Ya0) : F (xa6 kk x) = xa6 (fun r => F (kk r)) x := by unfold xa6; (repeat' apply k9 (f := F)) <;> rfl
noncomputable def zb0 : Sum := Pa4 ⟨[(.agg [(.o (.int .i64)), (.o (.int .i64)), (.o (.int .i64)), (.o (.int .i64))]), (.s (.o (.ptr 0 0 0 0)))], [⟨0, 1, true, (some [[(.c 4 (nL tX))]])⟩], fun a H => (⟨(toI (slT (cellsOf (slT a 0)) 0)), (toI (slT (cellsOf (slT a 0)) 1)), (toI (slT (cellsOf (slT a 0)) 2)), (toI (slT (cellsOf (slT a 0)) 3)), (rL tX (slT (rwT (elT H 0) 0) 0))⟩, ())⟩ (fun x => pb2 x (oa8 x))
theorem Tb0 : g9 prog G 101 zb0 := J5 (enc := fun x => ⟨[(.agg [(i x.na5), (i x.na6), (i x.na7), (i x.qb8)]), (.ptr 0 0 0 0)], [⟨0, 1, [[(eL tX x.g8)]], true, false, 0⟩]⟩) (fun a H => by kernel_rfl) (bd df5 Ec6) fun x => sa6 (.s .p (.s .p (.s (.s .p (.b (.u eb6.ls))) .p))) [eb6.pr] (by kernel_rfl) (.cons wc4 .nil) (Eq.trans (b := xa6 (fun r => (pb2 x r).run) x) (by kernel_rfl) (bd7 (fun r => (pb2 x r).run) (fun r => r) x).symm)
structure V5 where
 ns0 : Nat
 eh0 : List (List b7)
 u9 : List Pt
noncomputable def Ca8 : List (Nat × Sum) := [(101, zb0)]
theorem ib4 : i6 prog G Ca8 := ⟨Tb0, trivial⟩
structure I1 where
 ns0 : Nat
 is7 : Int
 eh0 : List (List b7)
structure o5 where
 is8 : Int
 u9 : List Pt
noncomputable def eb7 (p : I1) (s : o5) : St := ⟨((.sl 0 0 p.ns0 0) :: ((.fn 101 [(.ptr 1 0 0 0)]) :: (ra 5 ((i p.is7) :: ((i s.is8) :: (ra 10 [])))))), [⟨50, 4, p.eh0, true, false, 0⟩, ⟨0, 1, [[(eL tX s.u9)]], true, false, 0⟩]⟩
noncomputable def C9 {α : Type} (k : o5 → α) (e : Nat → α) (z : α) (p : I1) (s : o5) : α := let t1 := (oa8 ⟨(rdR tP p.eh0 (0 + s.is8.toNat)).n.x, (rdR tP p.eh0 (0 + s.is8.toNat)).n.y, (rdR tP p.eh0 (0 + s.is8.toNat)).n.z, (rdR tP p.eh0 (0 + s.is8.toNat)).b, (rt tX s.u9)⟩); (sl (decide (s.is8 < p.is7)) (sl (inB s.is8 p.ns0) (sl (ldR tP p.eh0 (0 + s.is8.toNat)) (sl ((cnE tX s.u9) && true) (sl (Nat.beq t1.alt 1) (sl t1.bs0 (e 1) (k ⟨(W (s.is8 + 1)), t1.g8⟩)) z) z) z) z) (e 2))
noncomputable def F6 (p : I1) (s : o5) : Stp o5 := C9 .next .exit .fail p s
noncomputable def fa2 : Lo I1 o5 := ⟨En Ca8, 2, Ad4, [1, 0, 1, 4, 4], [0, 1, 7, 8], .p, [⟨((.s (.o (.sl 0 0 (some 0) none))) :: ((.fn 101 [(.o (.ptr 1 0 0 0))]) :: (ru2 5 ((.s (.o (.int .i64))) :: ((.s (.o (.int .i64))) :: (ru2 10 [])))))), [⟨50, 4, true, none⟩, ⟨0, 1, true, (some [[(.c 4 (nL tX))]])⟩], fun a H => (⟨(slN (slT a 0)), (toI (slT a 7)), (elT H 0)⟩, ⟨(toI (slT a 8)), (rL tX (slT (rwT (elT H 1) 0) 0))⟩)⟩], F6, [(none, fun p s => let t1 := (oa8 ⟨(rdR tP p.eh0 (0 + s.is8.toNat)).n.x, (rdR tP p.eh0 (0 + s.is8.toNat)).n.y, (rdR tP p.eh0 (0 + s.is8.toNat)).n.z, (rdR tP p.eh0 (0 + s.is8.toNat)).b, (rt tX s.u9)⟩); ⟨[(i s.is8)], [⟨50, 4, p.eh0, true, false, 0⟩, ⟨0, 1, [[(eL tX t1.g8)]], true, false, 0⟩]⟩), (some 0, fun p s => ⟨((.sl 0 0 p.ns0 0) :: ((.fn 101 [(.ptr 1 0 0 0)]) :: (ra 5 ((i p.is7) :: ((i s.is8) :: ((b (decide (s.is8 < p.is7))) :: (ra 9 []))))))), [⟨50, 4, p.eh0, true, false, 0⟩, ⟨0, 1, [[(eL tX s.u9)]], true, false, 0⟩]⟩)], eb7⟩
theorem eb8 : fa2.Ok := Lo.ok [] (by kernel_rfl) .nil rfl (.cons (fun a H => by kernel_rfl) .nil) fun p s => (.of @C9 (fun F _ _ _ _ _ => by unfold C9; (repeat' apply k9 (f := F)) <;> rfl) (by kernel_rfl))
structure V6 where
 alt : Nat
 is0 : Int
 u9 : List Pt
noncomputable def D6 {α : Type} (kk : V6 → α) (x : V5) : α := let t1 := (lp (F6 (⟨x.ns0, (↑x.ns0 : Int), x.eh0⟩ : I1)) (⟨0, (rt tX x.u9)⟩ : o5)); let t2 := (oa8 ⟨(rdR tP x.eh0 (0 + t1.2.is8.toNat)).n.x, (rdR tP x.eh0 (0 + t1.2.is8.toNat)).n.y, (rdR tP x.eh0 (0 + t1.2.is8.toNat)).n.z, (rdR tP x.eh0 (0 + t1.2.is8.toNat)).b, (rt tX t1.2.u9)⟩); (sl ((cnE tX x.u9) && true) (sl (Nat.beq t1.1 1) (kk ⟨1, t1.2.is8, t2.g8⟩) (sl (Nat.beq t1.1 2) (kk ⟨1, (-1), t1.2.u9⟩) (kk ⟨0, 0, []⟩))) (kk ⟨0, 0, []⟩))
noncomputable def V7 (x : V5) : V6 := D6 (fun r => r) x
noncomputable def ia1 (x : V5) (r : V6) : DT (b7 × List b8) := (.ite (Nat.beq r.alt 1) (.ret ((i r.is0), [⟨50, 4, x.eh0, true, false, 0⟩, ⟨0, 1, [[(eL tX r.u9)]], true, false, 0⟩])) .fail)
theorem sb4 {α β : Type} (F : α → β) (kk : V6 → α) (x : V5) : F (D6 kk x) = D6 (fun r => F (kk r)) x := by unfold D6; (repeat' apply k9 (f := F)) <;> rfl
noncomputable def Fa6 : Sum := Pa4 ⟨[(.s (.o (.sl 0 0 (some 0) none))), (.fn 101 [(.o (.ptr 1 0 0 0))])], [⟨50, 4, true, none⟩, ⟨0, 1, true, (some [[(.c 4 (nL tX))]])⟩], fun a H => (⟨(slN (slT a 0)), (elT H 0), (rL tX (slT (rwT (elT H 1) 0) 0))⟩, ())⟩ (fun x => ia1 x (V7 x))
theorem pb3 : g9 prog G 163 Fa6 := J5 (enc := fun x => ⟨[(.sl 0 0 x.ns0 0), (.fn 101 [(.ptr 1 0 0 0)])], [⟨50, 4, x.eh0, true, false, 0⟩, ⟨0, 1, [[(eL tX x.u9)]], true, false, 0⟩]⟩) (fun a H => by kernel_rfl) (bd xe5 ib4) fun x => sa6 (.s .p (.s (.s .p (.b (.u fa2.ls))) .p)) [fa2.pr] (by kernel_rfl) (.cons eb8 .nil) (Eq.trans (b := D6 (fun r => (ia1 x r).run) x) (by kernel_rfl) (sb4 (fun r => (ia1 x r).run) (fun r => r) x).symm)
structure V8 where
 ns0 : Nat
 eh0 : List (List b7)
 u9 : List Pt
noncomputable def Ca9 : List (Nat × Sum) := [(163, Fa6), (101, zb0)]
theorem ib5 : i6 prog G Ca9 := ⟨pb3, Tb0, trivial⟩
structure I4 where
 ns0 : Nat
structure q9 where
 is5 : Int
 is6 : Int
 eh0 : List (List b7)
 u9 : List Pt
noncomputable def eb9 (p : I4) (s : q9) : St := ⟨((.sl 0 0 p.ns0 0) :: ((.fn 101 [(.ptr 1 0 0 0)]) :: (ra 3 ((i s.is5) :: ((i s.is6) :: (ra 35 [])))))), [⟨50, 4, s.eh0, true, false, 0⟩, ⟨0, 1, [[(eL tX s.u9)]], true, false, 0⟩]⟩
noncomputable def D0 {α : Type} (k : q9 → α) (e : Nat → α) (z : α) (p : I4) (s : q9) : α := let t1 := (oa8 ⟨(rdR tP s.eh0 (0 + s.is6.toNat)).n.x, (rdR tP s.eh0 (0 + s.is6.toNat)).n.y, (rdR tP s.eh0 (0 + s.is6.toNat)).n.z, (rdR tP s.eh0 (0 + s.is6.toNat)).b, (rt tX s.u9)⟩); (sl (decide (s.is6 < (↑p.ns0 : Int))) (sl (inB s.is6 p.ns0) (sl (ldR tP s.eh0 (0 + s.is6.toNat)) (sl ((cnE tX s.u9) && true) (sl (Nat.beq t1.alt 1) (sl (!t1.bs0) (sl (inB s.is5 p.ns0) (sl ((Nat.blt (0 + s.is5.toNat) (len s.eh0)) && (Nat.ble (0 + 4) (len (f7 s.eh0 (0 + s.is5.toNat))))) (k ⟨(W (s.is5 + 1)), (W (s.is6 + 1)), (setAt s.eh0 (0 + s.is5.toNat) (M4 (f7 s.eh0 (0 + s.is5.toNat)) 0 [(i (rdR tP s.eh0 (0 + s.is6.toNat)).n.x), (i (rdR tP s.eh0 (0 + s.is6.toNat)).n.y), (i (rdR tP s.eh0 (0 + s.is6.toNat)).n.z), (i (rdR tP s.eh0 (0 + s.is6.toNat)).b)])), t1.g8⟩) z) z) (k ⟨s.is5, (W (s.is6 + 1)), s.eh0, t1.g8⟩)) z) z) z) z) (e 1))
noncomputable def A2 (p : I4) (s : q9) : Stp q9 := D0 .next .exit .fail p s
noncomputable def fa3 : Lo I4 q9 := ⟨En Ca9, 2, Te1, [1, 1, 1, 0, 1, 4, 4], [0, 1, 5, 6], .p, [⟨((.s (.o (.sl 0 0 (some 0) none))) :: ((.fn 101 [(.o (.ptr 1 0 0 0))]) :: (ru2 3 ((.s (.o (.int .i64))) :: ((.s (.o (.int .i64))) :: (ru2 35 [])))))), [⟨50, 4, true, none⟩, ⟨0, 1, true, (some [[(.c 4 (nL tX))]])⟩], fun a H => (⟨(slN (slT a 0))⟩, ⟨(toI (slT a 5)), (toI (slT a 6)), (elT H 0), (rL tX (slT (rwT (elT H 1) 0) 0))⟩)⟩], A2, [(some 0, fun p s => ⟨((.sl 0 0 p.ns0 0) :: ((.fn 101 [(.ptr 1 0 0 0)]) :: (ra 3 ((i s.is5) :: ((i s.is6) :: (ra 9 ((i s.is6) :: ((.sl 0 0 p.ns0 0) :: ((i (↑p.ns0 : Int)) :: ((b (decide (s.is6 < (↑p.ns0 : Int)))) :: (ra 22 []))))))))))), [⟨50, 4, s.eh0, true, false, 0⟩, ⟨0, 1, [[(eL tX s.u9)]], true, false, 0⟩]⟩)], eb9⟩
theorem fb0 : fa3.Ok := Lo.ok [] (by kernel_rfl) .nil rfl (.cons (fun a H => by kernel_rfl) .nil) fun p s => (.of @D0 (fun F _ _ _ _ _ => by unfold D0; (repeat' apply k9 (f := F)) <;> rfl) (by kernel_rfl))
structure V9 where
 alt : Nat
 ns0 : Nat
 eh0 : List (List b7)
 u9 : List Pt
noncomputable def D7 {α : Type} (kk : V9 → α) (x : V8) : α := let t1 := (V7 ⟨x.ns0, x.eh0, (rt tX x.u9)⟩); let t2 := (lp (A2 (⟨x.ns0⟩ : I4)) (⟨t1.is0, (W (t1.is0 + 1)), x.eh0, (rt tX t1.u9)⟩ : q9)); (sl ((cnE tX x.u9) && true) (sl (Nat.beq t1.alt 1) (sl (t1.is0 == (-1)) (kk ⟨1, x.ns0, x.eh0, t1.u9⟩) (sl ((cnE tX t1.u9) && true) (sl (Nat.beq t2.1 1) (sl (inB t2.2.is5 (x.ns0 + 1)) (sl (inB t2.2.is5 (x.ns0 + 1)) (kk ⟨1, (t2.2.is5.toNat - 0), (app (G6 t2.2.eh0 (0 + t2.2.is5.toNat)) (app (List.replicate (x.ns0 - t2.2.is5.toNat) [(i 0), (i 0), (i 0), (i 0)]) (e7 t2.2.eh0 ((0 + t2.2.is5.toNat) + (x.ns0 - t2.2.is5.toNat))))), t2.2.u9⟩) (kk ⟨0, 0, [], []⟩)) (kk ⟨0, 0, [], []⟩)) (kk ⟨0, 0, [], []⟩)) (kk ⟨0, 0, [], []⟩))) (kk ⟨0, 0, [], []⟩)) (kk ⟨0, 0, [], []⟩))
noncomputable def D8 (x : V8) : V9 := D7 (fun r => r) x
noncomputable def ia2 (x : V8) (r : V9) : DT (b7 × List b8) := (.ite (Nat.beq r.alt 1) (.ret ((.sl 0 0 r.ns0 0), [⟨50, 4, r.eh0, true, false, 0⟩, ⟨0, 1, [[(eL tX r.u9)]], true, false, 0⟩])) .fail)
theorem sb5 {α β : Type} (F : α → β) (kk : V9 → α) (x : V8) : F (D7 kk x) = D7 (fun r => F (kk r)) x := by unfold D7; (repeat' apply k9 (f := F)) <;> rfl
noncomputable def ka1 : Sum := Pa4 ⟨[(.s (.o (.sl 0 0 (some 0) none))), (.fn 101 [(.o (.ptr 1 0 0 0))])], [⟨50, 4, true, none⟩, ⟨0, 1, true, (some [[(.c 4 (nL tX))]])⟩], fun a H => (⟨(slN (slT a 0)), (elT H 0), (rL tX (slT (rwT (elT H 1) 0) 0))⟩, ())⟩ (fun x => ia2 x (D8 x))
theorem Da0 : g9 prog G 99 ka1 := J5 (enc := fun x => ⟨[(.sl 0 0 x.ns0 0), (.fn 101 [(.ptr 1 0 0 0)])], [⟨50, 4, x.eh0, true, false, 0⟩, ⟨0, 1, [[(eL tX x.u9)]], true, false, 0⟩]⟩) (fun a H => by kernel_rfl) (bd b99 ib5) fun x => sa6 (.s .p (.s .p (.s .p (.s (.s .p (.b (.u fa3.ls))) .p)))) [fa3.pr] (by kernel_rfl) (.cons fb0 .nil) (Eq.trans (b := D7 (fun r => (ia2 x r).run) x) (by kernel_rfl) (sb5 (fun r => (ia2 x r).run) (fun r => r) x).symm)
structure fa4 where
 ns0 : Nat
 eh0 : List (List b7)
noncomputable def ra9 : List (Nat × Sum) := []
theorem zb1 : i6 prog G ra9 := trivial
structure A9 where
 ns0 : Nat
 os4 : Nat
 ns4 : Nat
structure o8 where
 is3 : Int
 is5 : Int
 eh0 : List (List b7)
noncomputable def sb6 (p : A9) (s : o8) : St := ⟨((.sl 0 0 p.ns0 0) :: (.unk :: (.unk :: ((i s.is3) :: ((.sl 0 p.os4 p.ns4 0) :: ((i s.is5) :: (ra 55 []))))))), [⟨50, 4, s.eh0, true, false, 0⟩]⟩
noncomputable def K1 {α : Type} (k : o8 → α) (e : Nat → α) (z : α) (p : A9) (s : o8) : α := (sl (decide (s.is5 < (↑p.ns4 : Int))) (sl (inB s.is5 p.ns4) (sl (ldR tP s.eh0 (p.os4 + s.is5.toNat)) (sl (inB (W (s.is5 - 1)) p.ns4) (sl (ldR tP s.eh0 (p.os4 + (W (s.is5 - 1)).toNat)) (sl (!(((rdR tP s.eh0 (p.os4 + s.is5.toNat)).n.x == (rdR tP s.eh0 (p.os4 + (W (s.is5 - 1)).toNat)).n.x) && (((rdR tP s.eh0 (p.os4 + s.is5.toNat)).n.y == (rdR tP s.eh0 (p.os4 + (W (s.is5 - 1)).toNat)).n.y) && (((rdR tP s.eh0 (p.os4 + s.is5.toNat)).n.z == (rdR tP s.eh0 (p.os4 + (W (s.is5 - 1)).toNat)).n.z) && (((rdR tP s.eh0 (p.os4 + s.is5.toNat)).b == (rdR tP s.eh0 (p.os4 + (W (s.is5 - 1)).toNat)).b) && true))))) (sl (inB s.is5 p.ns4) (sl (ldR tP s.eh0 (p.os4 + s.is5.toNat)) (sl (inB s.is3 p.ns0) (sl ((Nat.blt (0 + s.is3.toNat) (len s.eh0)) && (Nat.ble (0 + 4) (len (f7 s.eh0 (0 + s.is3.toNat))))) (k ⟨(W (s.is3 + 1)), (W (s.is5 + 1)), (setAt s.eh0 (0 + s.is3.toNat) (M4 (f7 s.eh0 (0 + s.is3.toNat)) 0 [(i (rdR tP s.eh0 (p.os4 + s.is5.toNat)).n.x), (i (rdR tP s.eh0 (p.os4 + s.is5.toNat)).n.y), (i (rdR tP s.eh0 (p.os4 + s.is5.toNat)).n.z), (i (rdR tP s.eh0 (p.os4 + s.is5.toNat)).b)]))⟩) z) z) z) z) (k ⟨s.is3, (W (s.is5 + 1)), s.eh0⟩)) z) z) z) z) (e 1))
noncomputable def q8 (p : A9) (s : o8) : Stp o8 := K1 .next .exit .fail p s
noncomputable def oa9 : Lo A9 o8 := ⟨En ra9, 1, je8, [1, 1, 0, 1, 4, 4, 1, 0, 4, 1, 2, 1, 0, 1, 4, 4], [0, 3, 4, 5], .p, [⟨((.s (.o (.sl 0 0 (some 0) none))) :: ((.s (.o .unk)) :: ((.s (.o .unk)) :: ((.s (.o (.int .i64))) :: ((.s (.o (.sl 0 0 none none))) :: ((.s (.o (.int .i64))) :: (ru2 55 []))))))), [⟨50, 4, true, none⟩], fun a H => (⟨(slN (slT a 0)), (slO (slT a 4)), (slN (slT a 4))⟩, ⟨(toI (slT a 3)), (toI (slT a 5)), (elT H 0)⟩)⟩], q8, [(some 2, fun p s => ⟨((.sl 0 0 p.ns0 0) :: (.unk :: (.unk :: ((i s.is3) :: ((.sl 0 p.os4 p.ns4 0) :: ((i s.is5) :: (ra 23 ((i s.is5) :: ((.sl 0 p.os4 p.ns4 0) :: ((i (↑p.ns4 : Int)) :: ((b (decide (s.is5 < (↑p.ns4 : Int)))) :: (ra 28 [])))))))))))), [⟨50, 4, s.eh0, true, false, 0⟩]⟩)], sb6⟩
theorem sb7 : oa9.Ok := Lo.ok [] (by kernel_rfl) .nil rfl (.cons (fun a H => by kernel_rfl) .nil) fun p s => (.of @K1 (fun F _ _ _ _ _ => by unfold K1; (repeat' apply k9 (f := F)) <;> rfl) (by kernel_rfl))
structure M6 where
 ns0 : Nat
 eh0 : List (List b7)
structure r6 where
 is3 : Int
noncomputable def sb8 (p : M6) (s : r6) : St := ⟨((.sl 0 0 p.ns0 0) :: (.unk :: (.unk :: ((i s.is3) :: (ra 57 []))))), [⟨50, 4, p.eh0, true, false, 0⟩]⟩
noncomputable def K2 {α : Type} (k : r6 → α) (e : Nat → α) (z : α) (p : M6) (s : r6) : α := let t1 := (lp (q8 (⟨p.ns0, (0 + s.is3.toNat), (p.ns0 - s.is3.toNat)⟩ : A9)) (⟨s.is3, 1, p.eh0⟩ : o8)); (sl (decide (s.is3 < (↑p.ns0 : Int))) (sl (inB s.is3 p.ns0) (sl (ldR tP p.eh0 (0 + s.is3.toNat)) (sl (inB (W (s.is3 - 1)) p.ns0) (sl (ldR tP p.eh0 (0 + (W (s.is3 - 1)).toNat)) (sl (((rdR tP p.eh0 (0 + s.is3.toNat)).n.x == (rdR tP p.eh0 (0 + (W (s.is3 - 1)).toNat)).n.x) && (((rdR tP p.eh0 (0 + s.is3.toNat)).n.y == (rdR tP p.eh0 (0 + (W (s.is3 - 1)).toNat)).n.y) && (((rdR tP p.eh0 (0 + s.is3.toNat)).n.z == (rdR tP p.eh0 (0 + (W (s.is3 - 1)).toNat)).n.z) && (((rdR tP p.eh0 (0 + s.is3.toNat)).b == (rdR tP p.eh0 (0 + (W (s.is3 - 1)).toNat)).b) && true)))) (sl (inB s.is3 (p.ns0 + 1)) (sl (Nat.beq t1.1 1) (sl (inB t1.2.is3 (p.ns0 + 1)) (sl (inB t1.2.is3 (p.ns0 + 1)) (e 1) z) z) z) z) (k ⟨(W (s.is3 + 1))⟩)) z) z) z) z) (e 2))
noncomputable def L9 (p : M6) (s : r6) : Stp r6 := K2 .next .exit .fail p s
noncomputable def pa0 : Lo M6 r6 := ⟨En ra9, 1, je8, [1, 1, 0, 1, 4, 4], [0, 3], (.s .p (.s (.b (.s .p (.c (.s .p (.s (.s .p (.b (.u oa9.ls))) .p)) .p))) .p)), [⟨((.s (.o (.sl 0 0 (some 0) none))) :: ((.s (.o .unk)) :: ((.s (.o .unk)) :: ((.s (.o (.int .i64))) :: (ru2 57 []))))), [⟨50, 4, true, none⟩], fun a H => (⟨(slN (slT a 0)), (elT H 0)⟩, ⟨(toI (slT a 3))⟩)⟩], L9, [(none, fun p s => let t1 := (lp (q8 (⟨p.ns0, (0 + s.is3.toNat), (p.ns0 - s.is3.toNat)⟩ : A9)) (⟨s.is3, 1, p.eh0⟩ : o8)); ⟨[(.sl 0 0 (t1.2.is3.toNat - 0) 0)], [⟨50, 4, (app (G6 t1.2.eh0 (0 + t1.2.is3.toNat)) (app (List.replicate (p.ns0 - t1.2.is3.toNat) [(i 0), (i 0), (i 0), (i 0)]) (e7 t1.2.eh0 ((0 + t1.2.is3.toNat) + (p.ns0 - t1.2.is3.toNat))))), true, false, 0⟩]⟩), (some 0, fun p s => ⟨((.sl 0 0 p.ns0 0) :: (.unk :: (.unk :: ((i s.is3) :: (ra 6 ((i s.is3) :: ((.sl 0 0 p.ns0 0) :: ((i (↑p.ns0 : Int)) :: ((b (decide (s.is3 < (↑p.ns0 : Int)))) :: (ra 47 [])))))))))), [⟨50, 4, p.eh0, true, false, 0⟩]⟩)], sb8⟩
theorem sb9 : pa0.Ok := Lo.ok [oa9.pr] (by kernel_rfl) (.cons sb7 .nil) rfl (.cons (fun a H => by kernel_rfl) .nil) fun p s => (.of @K2 (fun F _ _ _ _ _ => by unfold K2; (repeat' apply k9 (f := F)) <;> rfl) (by kernel_rfl))
structure fa5 where
 alt : Nat
 ns0 : Nat
 eh0 : List (List b7)
noncomputable def L0 {α : Type} (kk : fa5 → α) (x : fa4) : α := let t1 := (lp (L9 (⟨x.ns0, x.eh0⟩ : M6)) (⟨1⟩ : r6)); let t2 := (lp (q8 (⟨x.ns0, (0 + t1.2.is3.toNat), (x.ns0 - t1.2.is3.toNat)⟩ : A9)) (⟨t1.2.is3, 1, x.eh0⟩ : o8)); (sl (decide ((↑x.ns0 : Int) < 2)) (kk ⟨1, x.ns0, x.eh0⟩) (sl (Nat.beq t1.1 1) (kk ⟨1, (t2.2.is3.toNat - 0), (app (G6 t2.2.eh0 (0 + t2.2.is3.toNat)) (app (List.replicate (x.ns0 - t2.2.is3.toNat) [(i 0), (i 0), (i 0), (i 0)]) (e7 t2.2.eh0 ((0 + t2.2.is3.toNat) + (x.ns0 - t2.2.is3.toNat)))))⟩) (sl (Nat.beq t1.1 2) (kk ⟨1, x.ns0, x.eh0⟩) (kk ⟨0, 0, []⟩))))
noncomputable def T1 (x : fa4) : fa5 := L0 (fun r => r) x
noncomputable def sa0 (x : fa4) (r : fa5) : DT (b7 × List b8) := (.ite (Nat.beq r.alt 1) (.ret ((.sl 0 0 r.ns0 0), [⟨50, 4, r.eh0, true, false, 0⟩])) .fail)
theorem Hb9 {α β : Type} (F : α → β) (kk : fa5 → α) (x : fa4) : F (L0 kk x) = L0 (fun r => F (kk r)) x := by unfold L0; (repeat' apply k9 (f := F)) <;> rfl
noncomputable def ua2 : Sum := Pa4 ⟨[(.s (.o (.sl 0 0 (some 0) none)))], [⟨50, 4, true, none⟩], fun a H => (⟨(slN (slT a 0)), (elT H 0)⟩, ())⟩ (fun x => sa0 x (T1 x))
theorem Na9 : g9 prog G 105 ua2 := J5 (enc := fun x => ⟨[(.sl 0 0 x.ns0 0)], [⟨50, 4, x.eh0, true, false, 0⟩]⟩) (fun a H => by kernel_rfl) (bd We4 zb1) fun x => sa6 (.s .p (.s .p (.s (.s .p (.b (.u pa0.ls))) .p))) [pa0.pr] (by kernel_rfl) (.cons sb9 .nil) (Eq.trans (b := L0 (fun r => (sa0 x r).run) x) (by kernel_rfl) (Hb9 (fun r => (sa0 x r).run) (fun r => r) x).symm)
noncomputable def Tc0 : List (Nat × Sum) := []
theorem Ec7 : i6 prog G Tc0 := trivial
noncomputable def Ia9 (x : Int) (y : Int) : Option (b7 × List b8) := (sl (decide (x < y)) (some ((i (-1)), [])) (sl (decide (x > y)) (some ((i 1), [])) (some ((i 0), []))))
noncomputable def pa1 (x : Int) (y : Int) : Int := K5 (one r1I) (Ia9 x y)
noncomputable def pa2 (x : Int) (y : Int) : Bool := okO (one r1I) (Ia9 x y)
noncomputable def bc7 : Sum := oa1 cI cI (fun x y => .guard (pa2 x y) (.ret ((one r1I).enc (pa1 x y), [])))
theorem Tc1 : g9 prog G 179 bc7 := gb5 (bd gf9 Ec7) (one r1I) (o := Ia9) fun x y => r9 (by kernel_rfl)
noncomputable def wc5 : List (Nat × Sum) := [(179, bc7)]
theorem pc4 : i6 prog G wc5 := ⟨Tc1, trivial⟩
noncomputable def wa2 (x : Pln) (y : Pln) : Option (b7 × List b8) := let t1 := (pa1 x.n.x y.n.x); let t2 := (pa1 x.n.y y.n.y); let t3 := (pa1 x.n.z y.n.z); let t4 := (pa1 x.b y.b); (sl (pa2 x.n.x y.n.x) (sl (t1 == 0) (sl (pa2 x.n.y y.n.y) (sl (t2 == 0) (sl (pa2 x.n.z y.n.z) (sl (t3 == 0) (sl (pa2 x.b y.b) (sl (t4 == 0) (some ((i t4), [])) (some ((i t4), []))) none) (some ((i t3), []))) none) (some ((i t2), []))) none) (some ((i t1), []))) none)
noncomputable def Ka8 (x : Pln) (y : Pln) : Int := K5 (one r1I) (wa2 x y)
noncomputable def Ka9 (x : Pln) (y : Pln) : Bool := okO (one r1I) (wa2 x y)
noncomputable def fb1 : Sum := oa1 (R4 tP) (R4 tP) (fun x y => .guard (Ka9 x y) (.ret ((one r1I).enc (Ka8 x y), [])))
theorem wc6 : g9 prog G 104 fb1 := gb5 (bd df8 pc4) (one r1I) (o := wa2) fun x y => r9 (by kernel_rfl)
noncomputable def Fd1 : List (Nat × Sum) := [(164, nb2)]
theorem sd2 : i6 prog G Fd1 := ⟨Kb0, trivial⟩
noncomputable def pb4 (x : V3) : Option (b7 × List b8) := let t1 := (qa6 24 [x.x, x.y, x.z]); (sl (qa7 24 [x.x, x.y, x.z]) (some ((b t1), [])) none)
noncomputable def Ib0 (x : V3) : Bool := K5 (one r1B) (pb4 x)
noncomputable def Ib1 (x : V3) : Bool := okO (one r1B) (pb4 x)
noncomputable def Tc2 : Sum := R3 (R4 tV) (fun x => .guard (Ib1 x) (.ret ((one r1B).enc (Ib0 x), [])))
theorem Fd2 : g9 prog G 107 Tc2 := za1 (bd ef0 sd2) (one r1B) (o := pb4) fun x => r9 (by kernel_rfl)
noncomputable def Fd3 : List (Nat × Sum) := [(87, Ea5), (107, Tc2), (108, Xa4)]
theorem sd3 : i6 prog G Fd3 := ⟨Ha9, Fd2, nb1, trivial⟩
noncomputable def pb5 (x : List Pln) (y : V3) : Option (b7 × List b8) := let t1 := (ea4 [(rt tP x)]); let t2 := (Ib0 y); let t3 := (Y3 (rt tP x) (⟨y.x, y.y, y.z, 1⟩ : Pt)); (sl ((okE tP x) && true) (sl (ea5 [(rt tP x)]) (sl t1 (sl (Ib1 y) (sl t2 (sl (okE tP x) (sl (Y4 (rt tP x) (⟨y.x, y.y, y.z, 1⟩ : Pt)) (some ((b t3), [])) none) none) (some ((b false), []))) none) (some ((b false), []))) none) none)
noncomputable def Ma3 (x : List Pln) (y : V3) : Bool := K5 (one r1B) (pb5 x y)
noncomputable def Da1 (x : List Pln) (y : V3) : Bool := okO (one r1B) (pb5 x y)
noncomputable def gc2 : Sum := oa1 (W7 tP) (R4 tV) (fun x y => .guard (Da1 x y) (.ret ((one r1B).enc (Ma3 x y), [])))
theorem Ac5 : g9 prog G 28 gc2 := gb5 (bd b28 sd3) (one r1B) (o := pb5) fun x y => r9 (by kernel_rfl)
noncomputable def bd8 : List (Nat × Sum) := [(87, Ea5), (88, Wb2), (92, Ma1)]
theorem Tc3 : i6 prog G bd8 := ⟨Ha9, fc0, gb0, trivial⟩
noncomputable def Sa9 (x : List Pln) (y : List Pln) : Option (b7 × List b8) := let t1 := (ea4 [(rt tP x), (rt tP y)]); let t2 := (Wa0 [(rt tP x), (rt tP y)]); let t3 := (ha7 (rt tP t2)); (sl ((okE tP x) && ((okE tP y) && true)) (sl (ea5 [(rt tP x), (rt tP y)]) (sl (!t1) (some ((b true), [])) (sl ((okE tP x) && ((okE tP y) && true)) (sl (Wa1 [(rt tP x), (rt tP y)]) (sl (okE tP t2) (sl (ha8 (rt tP t2)) (some ((b (!t3)), [])) none) none) none) none)) none) none)
noncomputable def Ta0 (x : List Pln) (y : List Pln) : Bool := K5 (one r1B) (Sa9 x y)
noncomputable def Ta1 (x : List Pln) (y : List Pln) : Bool := okO (one r1B) (Sa9 x y)
noncomputable def pc5 : Sum := oa1 (W7 tP) (W7 tP) (fun x y => .guard (Ta1 x y) (.ret ((one r1B).enc (Ta0 x y), [])))
theorem bd9 : g9 prog G 31 pc5 := gb5 (bd b31 Tc3) (one r1B) (o := Sa9) fun x y => r9 (by kernel_rfl)
structure La0 where
 na5 : Int
 na6 : Int
 na7 : Int
 qb8 : Int
 d8 : List Pln
noncomputable def wc7 : List (Nat × Sum) := [(108, Xa4)]
theorem pc6 : i6 prog G wc7 := ⟨nb1, trivial⟩
structure wa3 where
 alt : Nat
 bs0 : Bool
noncomputable def la0 {α : Type} (kk : wa3 → α) (x : La0) : α := let t1 := (Y3 (rt tP x.d8) (⟨x.na5, x.na6, x.na7, x.qb8⟩ : Pt)); (sl (okE tP x.d8) (sl (Y4 (rt tP x.d8) (⟨x.na5, x.na6, x.na7, x.qb8⟩ : Pt)) (kk ⟨1, (!t1)⟩) (kk ⟨0, false⟩)) (kk ⟨0, false⟩))
noncomputable def La1 (x : La0) : wa3 := la0 (fun r => r) x
noncomputable def Wa6 (x : La0) (r : wa3) : DT (b7 × List b8) := (.ite (Nat.beq r.alt 1) (.ret ((b r.bs0), [⟨0, 1, [[(eL tP x.d8)]], true, false, 0⟩])) .fail)
theorem Ec8 {α β : Type} (F : α → β) (kk : wa3 → α) (x : La0) : F (la0 kk x) = la0 (fun r => F (kk r)) x := by unfold la0; (repeat' apply k9 (f := F)) <;> rfl
noncomputable def Kb3 : Sum := Pa4 ⟨[(.agg [(.o (.int .i64)), (.o (.int .i64)), (.o (.int .i64)), (.o (.int .i64))]), (.s (.o (.ptr 0 0 0 0)))], [⟨0, 1, true, (some [[(.c 4 (nL tP))]])⟩], fun a H => (⟨(toI (slT (cellsOf (slT a 0)) 0)), (toI (slT (cellsOf (slT a 0)) 1)), (toI (slT (cellsOf (slT a 0)) 2)), (toI (slT (cellsOf (slT a 0)) 3)), (rL tP (slT (rwT (elT H 0) 0) 0))⟩, ())⟩ (fun x => Wa6 x (La1 x))
theorem wc8 : g9 prog G 114 Kb3 := J5 (enc := fun x => ⟨[(.agg [(i x.na5), (i x.na6), (i x.na7), (i x.qb8)]), (.ptr 0 0 0 0)], [⟨0, 1, [[(eL tP x.d8)]], true, false, 0⟩]⟩) (fun a H => by kernel_rfl) (bd ef5 pc6) fun x => r9 (Eq.trans (b := la0 (fun r => (Wa6 x r).run) x) (by kernel_rfl) (Ec8 (fun r => (Wa6 x r).run) (fun r => r) x).symm)
structure W0 where
 B3 : List Pt
 d8 : List Pln
noncomputable def Da2 : List (Nat × Sum) := [(114, Kb3)]
theorem ib6 : i6 prog G Da2 := ⟨wc8, trivial⟩
structure I5 where
 B3 : List Pt
 is7 : Int
structure o6 where
 is8 : Int
 d8 : List Pln
noncomputable def fb2 (p : I5) (s : o6) : St := ⟨((eL tX p.B3) :: ((.fn 114 [(.ptr 0 0 0 0)]) :: (ra 5 ((i p.is7) :: ((i s.is8) :: (ra 10 [])))))), [⟨0, 1, [[(eL tP s.d8)]], true, false, 0⟩]⟩
noncomputable def D1 {α : Type} (k : o6 → α) (e : Nat → α) (z : α) (p : I5) (s : o6) : α := let t1 := (La1 ⟨(gL tX p.B3 s.is8.toNat).px, (gL tX p.B3 s.is8.toNat).py, (gL tX p.B3 s.is8.toNat).pz, (gL tX p.B3 s.is8.toNat).pw, (rt tP s.d8)⟩); (sl (decide (s.is8 < p.is7)) (sl (inB s.is8 (List.length p.B3)) (sl ((cnE tP s.d8) && true) (sl (Nat.beq t1.alt 1) (sl t1.bs0 (e 1) (k ⟨(W (s.is8 + 1)), (rt tP s.d8)⟩)) z) z) z) (e 2))
noncomputable def F7 (p : I5) (s : o6) : Stp o6 := D1 .next .exit .fail p s
noncomputable def fa6 : Lo I5 o6 := ⟨En Da2, 1, ke1, [1, 0, 1, 4, 4], [0, 1, 7, 8], .p, [⟨((.s (.c 4 (nL tX))) :: ((.fn 114 [(.o (.ptr 0 0 0 0))]) :: (ru2 5 ((.s (.o (.int .i64))) :: ((.s (.o (.int .i64))) :: (ru2 10 [])))))), [⟨0, 1, true, (some [[(.c 4 (nL tP))]])⟩], fun a H => (⟨(rL tX (slT a 0)), (toI (slT a 7))⟩, ⟨(toI (slT a 8)), (rL tP (slT (rwT (elT H 0) 0) 0))⟩)⟩], F7, [(none, fun p s => ⟨[(i s.is8)], [⟨0, 1, [[(eL tP (rt tP s.d8))]], true, false, 0⟩]⟩), (some 0, fun p s => ⟨((eL tX p.B3) :: ((.fn 114 [(.ptr 0 0 0 0)]) :: (ra 5 ((i p.is7) :: ((i s.is8) :: ((b (decide (s.is8 < p.is7))) :: (ra 9 []))))))), [⟨0, 1, [[(eL tP s.d8)]], true, false, 0⟩]⟩)], fb2⟩
theorem fb3 : fa6.Ok := Lo.ok [] (by kernel_rfl) .nil rfl (.cons (fun a H => by kernel_rfl) .nil) fun p s => (.of @D1 (fun F _ _ _ _ _ => by unfold D1; (repeat' apply k9 (f := F)) <;> rfl) (by kernel_rfl))
structure W4 where
 alt : Nat
 is0 : Int
 d8 : List Pln
noncomputable def D9 {α : Type} (kk : W4 → α) (x : W0) : α := let t1 := (lp (F7 (⟨(rt tX x.B3), (↑(List.length x.B3) : Int)⟩ : I5)) (⟨0, (rt tP x.d8)⟩ : o6)); (sl ((cnE tX x.B3) && ((cnE tP x.d8) && true)) (sl (Nat.beq t1.1 1) (kk ⟨1, t1.2.is8, (rt tP t1.2.d8)⟩) (sl (Nat.beq t1.1 2) (kk ⟨1, (-1), t1.2.d8⟩) (kk ⟨0, 0, []⟩))) (kk ⟨0, 0, []⟩))
noncomputable def ka2 (x : W0) : W4 := D9 (fun r => r) x
noncomputable def ia3 (x : W0) (r : W4) : DT (b7 × List b8) := (.ite (Nat.beq r.alt 1) (.ret ((i r.is0), [⟨0, 1, [[(eL tP r.d8)]], true, false, 0⟩])) .fail)
theorem tb0 {α β : Type} (F : α → β) (kk : W4 → α) (x : W0) : F (D9 kk x) = D9 (fun r => F (kk r)) x := by unfold D9; (repeat' apply k9 (f := F)) <;> rfl
noncomputable def Fa7 : Sum := Pa4 ⟨[(.s (.c 4 (nL tX))), (.fn 114 [(.o (.ptr 0 0 0 0))])], [⟨0, 1, true, (some [[(.c 4 (nL tP))]])⟩], fun a H => (⟨(rL tX (slT a 0)), (rL tP (slT (rwT (elT H 0) 0) 0))⟩, ())⟩ (fun x => ia3 x (ka2 x))
theorem pb6 : g9 prog G 185 Fa7 := J5 (enc := fun x => ⟨[(eL tX x.B3), (.fn 114 [(.ptr 0 0 0 0)])], [⟨0, 1, [[(eL tP x.d8)]], true, false, 0⟩]⟩) (fun a H => by kernel_rfl) (bd We7 ib6) fun x => sa6 (.s .p (.s (.s .p (.b (.u fa6.ls))) .p)) [fa6.pr] (by kernel_rfl) (.cons fb3 .nil) (Eq.trans (b := D9 (fun r => (ia3 x r).run) x) (by kernel_rfl) (tb0 (fun r => (ia3 x r).run) (fun r => r) x).symm)
structure O0 where
 B3 : List Pt
 d8 : List Pln
noncomputable def bb7 : List (Nat × Sum) := [(185, Fa7)]
theorem Wa7 : i6 prog G bb7 := ⟨pb6, trivial⟩
structure O1 where
 alt : Nat
 bs0 : Bool
 d8 : List Pln
noncomputable def A3 {α : Type} (kk : O1 → α) (x : O0) : α := let t1 := (ka2 ⟨(rt tX x.B3), (rt tP x.d8)⟩); (sl ((cnE tX x.B3) && ((cnE tP x.d8) && true)) (sl (Nat.beq t1.alt 1) (kk ⟨1, (decide (t1.is0 ≥ 0)), t1.d8⟩) (kk ⟨0, false, []⟩)) (kk ⟨0, false, []⟩))
noncomputable def ca8 (x : O0) : O1 := A3 (fun r => r) x
noncomputable def aa7 (x : O0) (r : O1) : DT (b7 × List b8) := (.ite (Nat.beq r.alt 1) (.ret ((b r.bs0), [⟨0, 1, [[(eL tP r.d8)]], true, false, 0⟩])) .fail)
theorem fb4 {α β : Type} (F : α → β) (kk : O1 → α) (x : O0) : F (A3 kk x) = A3 (fun r => F (kk r)) x := by unfold A3; (repeat' apply k9 (f := F)) <;> rfl
noncomputable def wa4 : Sum := Pa4 ⟨[(.s (.c 4 (nL tX))), (.fn 114 [(.o (.ptr 0 0 0 0))])], [⟨0, 1, true, (some [[(.c 4 (nL tP))]])⟩], fun a H => (⟨(rL tX (slT a 0)), (rL tP (slT (rwT (elT H 0) 0) 0))⟩, ())⟩ (fun x => aa7 x (ca8 x))
theorem bb8 : g9 prog G 113 wa4 := J5 (enc := fun x => ⟨[(eL tX x.B3), (.fn 114 [(.ptr 0 0 0 0)])], [⟨0, 1, [[(eL tP x.d8)]], true, false, 0⟩]⟩) (fun a H => by kernel_rfl) (bd We6 Wa7) fun x => r9 (Eq.trans (b := A3 (fun r => (aa7 x r).run) x) (by kernel_rfl) (fb4 (fun r => (aa7 x r).run) (fun r => r) x).symm)
noncomputable def Tc4 : List (Nat × Sum) := [(20, sa9), (87, Ea5), (18, oa4), (113, wa4)]
theorem Ec9 : i6 prog G Tc4 := ⟨ta7, Ha9, ra1, bb8, trivial⟩
noncomputable def Ja0 (x : List Pln) (y : List Pln) : Option (b7 × List b8) := let t1 := (aa2 (rt tP x)); let t2 := (ea4 [(rt tP y)]); let t3 := (Q9 (rt tP x)); let t4 := (ca8 ⟨(rt tX t3), (rt tP y)⟩); (sl (okE tP x) (sl (aa3 (rt tP x)) (sl t1 (sl ((okE tP y) && true) (sl (ea5 [(rt tP y)]) (sl t2 (sl (okE tP x) (sl (R2 (rt tP x)) (sl ((cnE tX t3) && ((cnE tP y) && true)) (sl (Nat.beq t4.alt 1) (some ((b (!t4.bs0)), [])) none) none) none) none) (some ((b false), []))) none) none) (some ((b false), []))) none) none)
noncomputable def Ja1 (x : List Pln) (y : List Pln) : Bool := K5 (one r1B) (Ja0 x y)
noncomputable def Ja2 (x : List Pln) (y : List Pln) : Bool := okO (one r1B) (Ja0 x y)
noncomputable def bc8 : Sum := oa1 (W7 tP) (W7 tP) (fun x y => .guard (Ja2 x y) (.ret ((one r1B).enc (Ja1 x y), [])))
theorem Tc5 : g9 prog G 33 bc8 := gb5 (bd b33 Ec9) (one r1B) (o := Ja0) fun x y => r9 (by kernel_rfl)
noncomputable def Fd4 : List (Nat × Sum) := []
theorem sd4 : i6 prog G Fd4 := trivial
structure Ib2 where
 d9 : Int
 Q1 : Int
 Q3 : Int
 Q4 : Int
 Q5 : Int
 Q6 : Int
noncomputable def pb7 {α : Type} (kk : Ib2 → α) (x : V3) (y : V3) : α := (kk ⟨y.x, (W (0 - x.x)), y.y, (W (0 - x.y)), y.z, (W (0 - x.z))⟩)
noncomputable def Tc6 (x : V3) (y : V3) : Ib2 := pb7 (fun r => r) x y
noncomputable def Tb1 (r : Ib2) : DT (b7 × List b8) := .ret ((.sl 0 0 6 0), [⟨50, 4, [[(i 1), (i 0), (i 0), (i r.d9)], [(i (-1)), (i 0), (i 0), (i r.Q1)], [(i 0), (i 1), (i 0), (i r.Q3)], [(i 0), (i (-1)), (i 0), (i r.Q4)], [(i 0), (i 0), (i 1), (i r.Q5)], [(i 0), (i 0), (i (-1)), (i r.Q6)]], true, false, 0⟩])
theorem Pd1 {α β : Type} (F : α → β) (kk : Ib2 → α) (x : V3) (y : V3) : F (pb7 kk x y) = pb7 (fun r => F (kk r)) x y := by unfold pb7; (repeat' apply k9 (f := F)) <;> rfl
noncomputable def Tc7 : Sum := oa1 (R4 tV) (R4 tV) (fun x y => Tb1 (Tc6 x y))
theorem Fd5 : g9 prog G 111 Tc7 := Ea1 (bd We5 sd4) fun x y => r9 (Eq.trans (b := pb7 (fun r => (Tb1 r).run) x y) (by kernel_rfl) (Pd1 (fun r => (Tb1 r).run) (fun r => r) x y).symm)
noncomputable def cd0 : List (Nat × Sum) := [(111, Tc7)]
theorem Tc8 : i6 prog G cd0 := ⟨Fd5, trivial⟩
structure ib7 where
 d9 : Int
 Q1 : Int
 Q3 : Int
 Q4 : Int
 Q5 : Int
 Q6 : Int
noncomputable def Ta2 {α : Type} (kk : ib7 → α)  : α := let t1 := (Tc6 (⟨0, 0, 0⟩ : V3) (⟨1, 1, 1⟩ : V3)); (kk ⟨t1.d9, t1.Q1, t1.Q3, t1.Q4, t1.Q5, t1.Q6⟩)
noncomputable def Ib3  : ib7 := Ta2 (fun r => r)
noncomputable def zb2 (r : ib7) : DT (b7 × List b8) := .ret ((.sl 0 0 6 0), [⟨50, 4, [[(i 1), (i 0), (i 0), (i r.d9)], [(i (-1)), (i 0), (i 0), (i r.Q1)], [(i 0), (i 1), (i 0), (i r.Q3)], [(i 0), (i (-1)), (i 0), (i r.Q4)], [(i 0), (i 0), (i 1), (i r.Q5)], [(i 0), (i 0), (i (-1)), (i r.Q6)]], true, false, 0⟩])
theorem sd5 {α β : Type} (F : α → β) (kk : ib7 → α)  : F (Ta2 kk ) = Ta2 (fun r => F (kk r))  := by unfold Ta2; (repeat' apply k9 (f := F)) <;> rfl
noncomputable def pc7 : Sum := xd5  (zb2 (Ib3 ))
theorem cd1 : g9 prog G 81 pc7 := Qd9 (bd b81 Tc8) (r9 (Eq.trans (b := Ta2 (fun r => (zb2 r).run) ) (by kernel_rfl) (sd5 (fun r => (zb2 r).run) (fun r => r) ).symm))
end Go.Ev.Ce
end
namespace Go.Ev.Ce
open Go Go.Ev Go.Ev.L Go.Proofs
theorem oe6 (v : V3) : Ib0 v = inV v ∧ Ib1 v = true := by
 have h3 : [v.x, v.y, v.z].length ≤ 1000000000 := by simp
 have : pb4 v = some (b (inV v), []) := by
  unfold pb4 inV
  simp only [vc2 24 _ (by omega) h3, vc3 24 _ (by omega) h3, q7]
  simp only [List.all_cons, List.all_nil, Bool.and_true]
 unfold Ib0 Ib1
 rw [this]
 exact ⟨rfl, rfl⟩
noncomputable def has (c : List Pln) (v : V3) : Bool := (chk c == 0) && (inV v && inn c ⟨v.x, v.y, v.z, 1⟩)
theorem oe7 {c : List Pln} (hc : c.length ≤ 1000000000) (v : V3) : pb5 c v = some (b (has c v), []) := by
 unfold pb5 has
 simp only [m0, J9, oc2 c hc, oc3 c hc, (oe6 v).1, (oe6 v).2, Pc2 c _ hc, Pc3 c _ hc]
 cases chk c == 0 with
 | false => rfl
 | true => cases inV v <;> rfl
theorem oe8 {c : List Pln} (hc : c.length ≤ 1000000000) (v : V3) : Ma3 c v = has c v := by unfold Ma3; rw [oe7 hc]; rfl
theorem oe9 {c : List Pln} (hc : c.length ≤ 1000000000) (v : V3) : Da1 c v = true := by unfold Da1; rw [oe7 hc]; rfl
theorem pe0 {a c : List Pln} (ha : (chk a == 0) = true) (hc : (chk c == 0) = true) : Bds (a ++ c ++ ws) ∧ (a ++ c ++ ws).length ≤ 200 := by
 rw [beq_iff_eq, Pc8] at ha hc
 refine ⟨fun p hp => ?_, by rw [List.length_append, List.length_append, show ws.length = 6 from rfl]; omega⟩
 rcases List.mem_append.1 hp with hp | hp
 ·rcases List.mem_append.1 hp with hp | hp
  ·exact qd0 (ha.2 p hp)
  ·exact qd0 (hc.2 p hp)
 ·exact Ge6 p hp
noncomputable def apart (a c : List Pln) : Bool := !((chk a == 0) && (chk c == 0)) || !Zc9 (a ++ c ++ ws)
theorem Fd6 {a c : List Pln} (ha : a.length ≤ 100000000) (hc : c.length ≤ 100000000) : Sa9 a c = some (b (apart a c), []) := by
 have hn : [a, c].length ≤ 1000000000 := by simp
 have hl : ∀ x ∈ [a, c], x.length ≤ 1000000000 := by
  intro x hx
  simp only [List.mem_cons, List.not_mem_nil, or_false] at hx
  rcases hx with rfl | rfl <;> omega
 have hf : [a, c].flatten = a ++ c := by simp
 have hfl : [a, c].flatten.length ≤ 1000000000 := by rw [hf, List.length_append]; omega
 unfold Sa9 apart
 simp only [m0, J9, Cd8 _ hn hl, Cd9 _ hn hl, Xe2 _ hn hfl, Xe3 _ hn hfl, hf, List.all_cons, List.all_nil, Bool.and_true]
 cases h1 : chk a == 0 with
 | false => rfl
 | true =>
  cases h2 : chk c == 0 with
  | false => rfl
  | true =>
   obtain ⟨q1, q2⟩ := pe0 h1 h2
   rw [me0 _ q1 q2, me1 _ q1 q2]
   rfl
theorem Be3 {a c : List Pln} (ha : a.length ≤ 100000000) (hc : c.length ≤ 100000000) : Ta0 a c = apart a c := by unfold Ta0; rw [Fd6 ha hc]; rfl
theorem Be4 {a c : List Pln} (ha : a.length ≤ 100000000) (hc : c.length ≤ 100000000) : Ta1 a c = true := by unfold Ta1; rw [Fd6 ha hc]; rfl
noncomputable def ce5 (a c : List Pln) : Bool := ful a && ((chk c == 0) && (pts a).all (inn c))
theorem Pd2 (x : Pt) (c : List Pln) (hc : c.length ≤ 1000000000) : La1 ⟨x.px, x.py, x.pz, x.pw, c⟩ = ⟨1, !inn c x⟩ := by
 unfold La1 la0
 simp only [m0, J9, q7]
 show sl (Y4 c x) (wa3.mk 1 (!Y3 c x)) _ = _
 rw [Pc2 c x hc, Pc3 c x hc]
 rfl
theorem jd1 {a c : List Pln} (ha : a.length ≤ 1000000000) (hc : c.length ≤ 1000000000) : Ja0 a c = some (b (ce5 a c), []) := by
 have hX := oc9 a
 have h := gb6 (step := F7 ⟨pts a, ((pts a).length : Int)⟩) (mk := fun j => (⟨(j : Int), c⟩ : o6)) (c := fun x => !inn c x) (u := 1) (fin := 2) tX (pts a) (by omega)
  (fun j hj => by
   simp only [F7, D1, Int.toNat_natCast, m0, m8, Pd2 _ _ hc, o9 hj (show (pts a).length ≤ 4611686018427387904 by omega)]
   rw [btD (n9 hj), bt (f0 hj)]
   rfl)
  (by simp only [F7, D1]; rw [bfD (P1 (Nat.lt_irrefl _))]) 0 (Nat.zero_le _)
 rw [List.drop_zero] at h
 have e : ((pts a).any fun x => !inn c x) = !(pts a).all (inn c) := by rw [List.not_all_eq_any_not]
 unfold Ja0 ca8 A3 ka2 D9 ce5
 simp only [m0, m8, J9, Rb6 ha, Rb7 ha, oc2 c hc, oc3 c hc, ob0 ha, ob1 ha]
 rw [show (⟨0, c⟩ : o6) = ⟨((0 : Nat) : Int), c⟩ from rfl, h, e]
 cases ful a with
 | false => rfl
 | true =>
  cases chk c == 0 with
  | false => rfl
  | true =>
   cases (pts a).all (inn c) with
   | true => rfl
   | false =>
    simp only [Bool.not_false, if_true, Nat.zero_add]
    show some (b (!(decide ((((pts a).findIdx fun x => !inn c x : Nat) : Int) ≥ 0))), []) = _
    rw [show decide ((((pts a).findIdx fun x => !inn c x : Nat) : Int) ≥ 0) = true from decide_eq_true (by omega)]
    rfl
theorem pe1 {a c : List Pln} (ha : a.length ≤ 1000000000) (hc : c.length ≤ 1000000000) : Ja1 a c = ce5 a c := by unfold Ja1; rw [jd1 ha hc]; rfl
theorem pe2 {a c : List Pln} (ha : a.length ≤ 1000000000) (hc : c.length ≤ 1000000000) : Ja2 a c = true := by unfold Ja2; rw [jd1 ha hc]; rfl
end Go.Ev.Ce
namespace Go.Ev.L
open Go Go.Ev Go.Sort Go.Proofs
section
variable {α : Type} [Inhabited α] {P : Program} {G : Nat → List Value} {g : FuncId} {S : Sum} {t : Ty α} {enc : α → List Value} {cf : α → α → Int}
theorem Be5 (hc : g9 P G g S) (hS : ∀ x y, (S [.agg (t.row x), .agg (t.row y)] []).run = some (i (cf x y), [])) (hG : ∀ n, G n = []) (he : ∀ x, t.row x = (enc x).map .v) (k blk off size : Nat) (w : World) :
  CmpLays P g #[] enc k cf blk off size w := by
 intro m os dk _ x y
 generalize sortWorldK enc k w blk off m dk os = w0
 have hrow : ∀ (z : α), da6 (fun _ => ⟨0, 0, 0⟩) [] (fun _ _ => False) w0 (.agg (t.row z)) (.agg (enc z).toArray) := fun z => by
  refine .agg _ _ (by rw [he]; simp) fun i u u' hu hu' => ?_
  rw [he, List.getElem?_map] at hu
  have hu' : (enc z)[i]? = some u' := by simpa using hu'
  rw [hu'] at hu
  injection hu with hu
  subst hu
  exact .v _
 obtain ⟨_, h⟩ := hc _ _ _ _ (hS x y) (fun k => w0.heap.size ≤ k) (fun _ => ⟨0, 0, 0⟩) (fun _ _ => False) w0 [.agg (enc x).toArray, .agg (enc y).toArray]
  ⟨fun id b hb => by simp at hb, fun id id' b b' hb => by simp at hb, fun b o hf => hf.elim, fun k hk => hk⟩ rfl
  (fun i u u' hu hu' => by
   match i, hu, hu' with
   | 0, hu, hu' => cases hu; cases hu'; exact .val (hrow x)
   | 1, hu, hu' => cases hu; cases hu'; exact .val (hrow y))
  (fun n c v hv => by rw [hG] at hv; simp at hv)
 refine h.mono fun e w' ⟨r', h1, ρ', F', h2, h3, h4⟩ => ?_
 have h5 := da0 h4
 subst h5
 refine ⟨h1, w'.drawn - w0.drawn, w'.heap.extract w0.heap.size w'.heap.size, ?_⟩
 have hd := h2.ext.drawn
 have hs := h2.ext.size
 have hheap : w'.heap = w0.heap ++ w'.heap.extract w0.heap.size w'.heap.size := by
  apply Array.ext_getElem?
  intro j
  rcases Nat.lt_or_ge j w0.heap.size with hj | hj
  ·rw [Array.getElem?_append_left hj, h2.ext.block j hj (by omega)]
  ·rw [Array.getElem?_append_right hj, Array.getElem?_extract]
   have e : w0.heap.size + (j - w0.heap.size) = j := by omega
   rw [e]
   split
   ·rfl
   ·rw [Array.getElem?_eq_none (by omega)]
 obtain ⟨hp, tp, dr, os', out⟩ := w'
 have e1 := h2.ext.os; have e2 := h2.ext.tape; have e3 := h2.ext.output
 simp only at e1 e2 e3 hd hheap
 subst e1 e2 e3
 unfold grow World.drewN
 simp only
 congr 1
 omega
noncomputable def pe3 (t : Ty α) (g : Nat) (et : Nat) (srt : List α → List α) : Sum := fun args blks => match args, blks with
 | [.sl 0 0 n 0, .fn g' []], [⟨et', es', el, true, false, 0⟩] =>
  Bool.rec (motive := fun _ => DT (b7 × List b8)) .fail (.guard (Bool.and (Nat.ble n room) (Bool.and (Nat.ble n (len el)) (okS t el 0 n))) (.ret (.v (.tuple #[]), [⟨et', es', app (bL t (srt (slR t el 0 n))) (e7 el n), true, false, 0⟩])))
   (Bool.and (Nat.beq g' g) (Bool.and (Nat.beq et' et) (Nat.beq es' t.es)))
 | _, _ => .fail
theorem pc8 (l : List α) (j : Nat) (h : j < l.length) : l.toArray[j]! = l[j] := by
 rw [getElem!_pos l.toArray j (by simpa using h)]
 simp
theorem Be6 {f : FuncId} {et : Nat} {srt : List α → List α} (hcall : kb8 P f) (hes : 0 < t.es) (he : ∀ x, t.row x = (enc x).map .v) (hx : ∀ r, t.ok r = true → r = t.row (t.rd r)) (h1 : ∀ x, ∀ v ∈ enc x, v.oneCell' = true)
  (hlen : ∀ l, (srt l).length = l.length) (hcl : ∀ blk off size w, CmpLays P g #[] enc t.es cf blk off size w)
  (hcon : ∀ (blk cap : Nat) (d : Array α) (w : World), (∀ off size, CmpLays P g #[] enc t.es cf blk off size w) → HoldsK enc t.es w blk 0 d → blk < w.heap.size → d.size < 4611686018427387904 →
   Calls P f #[.slice (some ⟨blk, 0, none⟩) d.size cap, .func (.func g) #[] #[]] w fun e w' => e = .returned (.tuple #[]) ∧ ∃ n os, w' = sortWorldK enc t.es w blk 0 n (srt d.toList).toArray os) :
  g9 P G f (pe3 t g et srt) := by
 intro args blks r out hr W ρ F w args' hH hl hargs hG
 refine ⟨hcall, ?_⟩
 unfold pe3 at hr
 split at hr
 case h_2 => cases hr
 rename_i n g' et' es' el
 cases hb0 : Bool.and (Nat.beq g' g) (Bool.and (Nat.beq et' et) (Nat.beq es' t.es)) with
 | false => rw [hb0] at hr; cases hr
 | true =>
 rw [hb0] at hr
 rw [Bool.and_eq_true, Bool.and_eq_true] at hb0
 have q1 := Nat.eq_of_beq_eq_true hb0.1; have q2 := Nat.eq_of_beq_eq_true hb0.2.1; have q3 := Nat.eq_of_beq_eq_true hb0.2.2
 subst q1 q2 q3
 obtain ⟨hg0, hr⟩ := DT.run_guard_some hr
 rw [Bool.and_eq_true, Bool.and_eq_true] at hg0
 have hroom : n ≤ room := Nat.le_of_ble_eq_true hg0.1
 have hn := Nat.le_of_ble_eq_true hg0.2.1
 rw [l9] at hn
 have hok := hg0.2.2
 injection hr with hr; injection hr with p1 p2; subst p1 p2
 match args', hl with
 | [v0, v1], _ =>
 obtain ⟨a, cap, b, rfl, hb, hd, _, hncap, hspot, hcap, hq⟩ := La5 (hargs 0 _ _ rfl rfl)
 obtain ⟨vs1, rfl, hvs1, _⟩ := Db5 (hargs 1 _ _ rfl rfl)
 have hvs1 : vs1 = #[] := Array.eq_empty_of_size_eq_zero (by simpa using hvs1.symm)
 subst hvs1
 have hb : b = ⟨et', t.es, el, true, false, 0⟩ := by simpa using hb.symm
 subst hb
 obtain ⟨ha, hsz, hne⟩ := hq rfl
 have ha : a = ⟨(ρ 0).blk, (ρ 0).off + 0 * t.es, none⟩ := ha.resolve_left fun h => by omega
 obtain ⟨cc, tt, fr, hB⟩ := hH.blk 0 _ rfl rfl
 obtain ⟨hfr, hW, hoff, hsize, hnF, het⟩ := hB.own rfl
 subst hfr
 rw [hoff, Nat.zero_mul, Nat.add_zero] at ha
 subst ha
 generalize hbk : (ρ 0).blk = blk at *
 -- the rows as data
 have hrow : ∀ j, j < n → f7 el j = (enc (gL t (slR t el 0 n) j)).map .v := fun j hj => by
  have h2 : t.ok (f7 el (0 + j)) = true := List.all_eq_true.1 hok j (by simpa using hj)
  rw [Nat.zero_add] at h2
  rw [← he, slR, Rd1 t _ hj, Nat.zero_add]
  exact hx _ h2
 have hld : (slR t el 0 n).length = n := md7 ..
 have hk : ∀ x, (enc x).length = t.es := fun x => by have := t.h0 x; rw [l9, he] at this; simpa using this
 have hlt : blk < w.heap.size := by
  have := hB.obj
  rcases Nat.lt_or_ge blk w.heap.size with h | h
  ·exact h
  ·rw [hbk, Array.getElem?_eq_none h] at this; cases this
 have hobj : w.heap[blk]? = some (.cells cc tt (0, 0)) := by rw [← hbk]; exact hB.obj
 have hgd : ∀ (l : List α) (j : Nat) (h : j < l.length), gL t l j = l[j] := fun l j h => by simp [gL, List.getD_eq_getElem?_getD, List.getElem?_eq_getElem h]
 have hdm : ∀ q, q < n * t.es → q / t.es < n ∧ q % t.es < t.es ∧ (q / t.es) * t.es + q % t.es = q := fun q hq => ⟨Nat.div_lt_of_lt_mul (by rw [Nat.mul_comm]; exact hq), Nat.mod_lt _ hes, Nat.div_add_mod' q t.es⟩
 have hrowAt : ∀ j, j < el.length → el[j]? = some (f7 el j) := fun j hj => by
  unfold f7; rw [A4, List.getElem?_eq_getElem hj]
 have hH0 : HoldsK enc t.es w blk 0 (slR t el 0 n).toArray := by
  intro q hq
  have hq : q < n * t.es := by rw [size_flatK] at hq; simpa [hld] using hq
  obtain ⟨e1, e2, e3⟩ := hdm q hq
  rw [get_flatK _ _ _ _ (by simpa [hld] using hq), pc8 _ _ (by rw [hld]; exact e1), ← hgd _ _ (by rw [hld]; exact e1)]
  have hcx : (f7 el (q / t.es))[q % t.es]? = some (.v ((enc (gL t (slR t el 0 n) (q / t.es)))[q % t.es]!)) := by
   rw [hrow _ e1, List.getElem?_map, List.getElem?_eq_getElem (by rw [hk]; exact e2), getElem!_pos _ _ (by rw [hk]; exact e2)]
   rfl
  obtain ⟨x', h5, h6⟩ := hB.cell (q / t.es) _ (q % t.es) _ (hrowAt _ (by omega)) hcx
  have h6 : x' = (enc (gL t (slR t el 0 n) (q / t.es)))[q % t.es]! := by cases h6; rfl
  subst h6
  rw [hoff] at h5
  simp only [e3, Nat.zero_add] at h5
  constructor
  ·simp only [World.cell?, hobj, Nat.zero_add]
   simpa using h5
  ·simp [World.frozen?, hobj]
 have hds : (slR t el 0 n).toArray.size = n := by simpa using hld
 have hmax : n < 4611686018427387904 := by unfold room at hroom; omega
 have hcalls := hcon blk cap (slR t el 0 n).toArray w (fun off size => hcl blk off size w) hH0 hlt (by rw [hds]; exact hmax)
 rw [hds] at hcalls
 refine hcalls.mono fun e w' ⟨h5, m, os, h6⟩ => ⟨_, h5, ρ, F, ?_⟩
 generalize hsd : srt (slR t el 0 n) = sd at *
 have hsl : sd.length = n := by rw [← hsd, hlen, hld]
 have h6 : w' = grow (mapBlock (Sort.ahead w m) blk (putCells id 0 (flatK enc t.es sd.toArray))) os := h6
 have hw'size : w'.heap.size = w.heap.size + os.size := by rw [h6]; simp [mapBlock]
 have hold : ∀ k, k < w.heap.size → k ≠ blk → w'.heap[k]? = w.heap[k]? := fun k h7 h8 => by
  rw [h6]
  simp only [grow, mapBlock]
  rw [Array.getElem?_append_left (by simpa using h7), Array.getElem?_modify]
  simp [Ne.symm h8]
 have hnew : w'.heap[blk]? = some (.cells (putCells id 0 (flatK enc t.es sd.toArray) cc) tt (0, 0)) := by
  rw [h6]
  simp only [grow, mapBlock]
  rw [Array.getElem?_append_left (by simpa using hlt), Array.getElem?_modify]
  simp [hobj, onCells]
 have hcells : ∀ b o, F b o → w'.cell? ⟨b, o, none⟩ = w.cell? ⟨b, o, none⟩ := fun b o hf => by
  have h7 : b ≠ blk := fun h8 => hnF o (h8 ▸ hf)
  have := Db2 (hH.frz b o hf)
  simp only [World.cell?, hold b this h7]
 have hpc : ∀ q, q < cc.size → (putCells id 0 (flatK enc t.es sd.toArray) cc)[q]? = if q < n * t.es then some ((enc sd.toArray[q / t.es]!)[q % t.es]!) else cc[q]? := fun q hq => by
  simp only [putCells, Array.getElem?_mapIdx, Array.getElem?_eq_getElem hq, Option.map_some, size_flatK, Nat.zero_le, true_and, Nat.zero_add, Nat.sub_zero, id]
  have : sd.toArray.size = n := by simpa using hsl
  rw [this]
  split
  ·next h7 => rw [get_flatK _ _ _ _ (by rw [this]; exact h7)]
  ·rfl
 have hel : (app (bL t sd) (e7 el n)).length = el.length := by
  rw [E6, List.length_append, ← l9 (bL t sd), O5, hsl, E5, List.length_drop]
  omega
 have hnrow : ∀ (j : Nat) r, (app (bL t sd) (e7 el n))[j]? = some r → (j < n ∧ r = t.row (gL t sd j)) ∨ (n ≤ j ∧ el[j]? = some r) := fun j r hr => by
  have hlb : (bL t sd).length = n := by rw [← l9, O5, hsl]
  rw [E6] at hr
  rcases Nat.lt_or_ge j n with h7 | h7
  ·rw [List.getElem?_append_left (by omega)] at hr
   left
   refine ⟨h7, ?_⟩
   unfold bL at hr
   rw [n8, List.getElem?_map, List.getElem?_eq_getElem (by omega)] at hr
   injection hr with hr
   rw [← hr, hgd sd j (by omega)]
  ·rw [List.getElem?_append_right (by omega), hlb, E5, List.getElem?_drop] at hr
   right
   exact ⟨h7, by rw [← hr]; congr 1; omega⟩
 have hcs : el.length * t.es ≤ cc.size := by have := hB.len; rw [hsize] at this; exact this
 refine ⟨⟨⟨?_, ?_, ?_, by omega, fun k h7 h8 => hold k h7 fun h9 => h8 (h9 ▸ hW), hcells, ?_⟩, fun id b hb => ?_, fun _ _ h => h, fun _ _ h => .inl h, fun id b' hb' hn' => ?_⟩, ⟨fun id b hb hd' => ?_, fun id id' b b' hb hb' h7 h8 h9 h10 => ?_, fun b o hf => by rw [hcells b o hf]; exact hH.frz b o hf, fun k hk' => hH.new k (by omega)⟩, .ofv _⟩
 ·rw [h6]; rfl
 ·rw [h6]; rfl
 ·rw [h6]; rfl
 ·rw [h6]; exact Nat.le_add_right _ _
 ·match id, hb with
  | 0, hb =>
   cases hb
   exact ⟨_, rfl, rfl, Nat.le_refl _, fun _ => ⟨rfl, rfl, by simp only [hel]; exact Nat.le_refl _⟩⟩
 ·match id, hb' with
  | 0, hb' => cases hb'; exact absurd rfl (hn' ⟨et', t.es, el, true, false, 0⟩ rfl)
 ·match id, hb with
  | 0, hb =>
   cases hb
   refine ⟨_, tt, (0, 0), by rw [hbk]; exact hnew, ?_, ?_, ?_, ?_, fun _ => ⟨rfl, by rw [hbk]; exact hW, hoff, ?_, by rw [hbk]; exact hnF, het⟩, fun h => by cases h⟩
   ·rw [hoff, hsize]; simp [putCells]
   ·simp only [hel]; exact hB.len
   ·intro j r hr
    rcases hnrow j r hr with ⟨_, h8⟩ | ⟨_, h8⟩
    ·rw [h8, ← l9]; exact t.h0 _
    ·exact hB.rows j r h8
   ·intro j r c x hr hc
    rw [hoff, Nat.zero_add]
    rcases hnrow j r hr with ⟨h7, h8⟩ | ⟨h7, h8⟩
    ·subst h8
     have hclt : c < t.es := by
      have := (List.getElem?_eq_some_iff.1 hc).1
      rw [← l9, t.h0] at this
      exact this
     have hq : j * t.es + c < n * t.es := by
      have := Nat.mul_le_mul_right t.es (show j + 1 ≤ n from h7)
      rw [Nat.add_mul, Nat.one_mul] at this
      omega
     have hqn : n * t.es ≤ el.length * t.es := Nat.mul_le_mul_right _ hn
     have e1 : (j * t.es + c) / t.es = j := by rw [Nat.mul_comm, Nat.mul_add_div hes, Nat.div_eq_of_lt hclt, Nat.add_zero]
     have e2 : (j * t.es + c) % t.es = c := by rw [Nat.mul_comm, Nat.mul_add_mod, Nat.mod_eq_of_lt hclt]
     rw [he, List.getElem?_map, List.getElem?_eq_getElem (by rw [hk]; exact hclt)] at hc
     injection hc with hc
     subst hc
     refine ⟨(enc (gL t sd j))[c]'(by rw [hk]; exact hclt), ?_, .v _ (h1 _ _ (List.getElem_mem _))⟩
     rw [hpc _ (Nat.lt_of_lt_of_le hq (Nat.le_trans hqn hcs)), if_pos hq, e1, e2, pc8 _ _ (by omega), hgd sd j (by omega), getElem!_pos _ _ (by rw [hk]; exact hclt)]
    ·obtain ⟨x', h9, h10⟩ := hB.cell j r c x h8 hc
     rw [hoff, Nat.zero_add] at h9
     have hq : ¬ j * t.es + c < n * t.es := by
      have := Nat.mul_le_mul_right t.es h7
      omega
     have hlt' : j * t.es + c < cc.size := (Array.getElem?_eq_some_iff.1 h9).1
     exact ⟨x', by rw [hpc _ hlt', if_neg hq]; exact h9, h10.adv (fun _ _ h => h) hcells⟩
   ·rw [hsize]; simp [putCells]
 ·match id, hb, id', hb' with
  | 0, hb, 0, hb' => exact absurd rfl h10
end
end Go.Ev.L
namespace Go.Proofs
open Go.Shelf
shelf_lay_g SlLaysF0.n6 Slsf 6 at Tryz 103 as Ce.sortLay
end Go.Proofs
namespace Go.Ev.Ce
open Go Go.Ev Go.Ev.L Go.Proofs Go.Sort
def pb8 (x y : Int) : Int := if x < y then -1 else if x > y then 1 else 0
def ja6 (x y : Pln) : Int :=
 if pb8 x.n.x y.n.x = 0 then if pb8 x.n.y y.n.y = 0 then if pb8 x.n.z y.n.z = 0 then pb8 x.b y.b else pb8 x.n.z y.n.z else pb8 x.n.y y.n.y else pb8 x.n.x y.n.x
theorem Gc9 (x y : Int) : pb8 x y < 0 ↔ x < y := by unfold pb8; split <;> (try split) <;> omega
theorem sd6 (x y : Int) : pb8 x y = 0 ↔ x = y := by unfold pb8; split <;> (try split) <;> omega
def LtP (x y : Pln) : Prop := x.n.x < y.n.x ∨ x.n.x = y.n.x ∧ (x.n.y < y.n.y ∨ x.n.y = y.n.y ∧ (x.n.z < y.n.z ∨ x.n.z = y.n.z ∧ x.b < y.b))
instance (x y : Pln) : Decidable (LtP x y) := by unfold LtP; exact inferInstance
theorem sd7 (x y : Pln) : ja6 x y < 0 ↔ LtP x y := by
 have h1 := Gc9 x.n.x y.n.x; have h2 := sd6 x.n.x y.n.x
 have h3 := Gc9 x.n.y y.n.y; have h4 := sd6 x.n.y y.n.y
 have h5 := Gc9 x.n.z y.n.z; have h6 := sd6 x.n.z y.n.z
 have h7 := Gc9 x.b y.b
 unfold ja6 LtP
 split
 ·split
  ·split <;> omega
  ·omega
 ·omega
theorem Wa8 (x y : Pln) : ltOf ja6 x y = decide (LtP x y) := by
 unfold ltOf
 rw [decide_eq_decide]
 exact sd7 x y
theorem Ye2 : SWO (ltOf ja6) where
 irrefl x := by rw [Wa8]; simp [LtP]
 trans x y z h1 h2 := by rw [Wa8, decide_eq_true_eq] at *; unfold LtP at *; omega
 ntrans x y z h1 h2 := by rw [Wa8, decide_eq_false_iff_not] at *; unfold LtP at *; omega
theorem Ye3 (x y : Pln) (h1 : ltOf ja6 x y = false) (h2 : ltOf ja6 y x = false) : x = y := by
 rw [Wa8, decide_eq_false_iff_not] at *
 unfold LtP at *
 obtain ⟨⟨a, b, c⟩, d⟩ := x; obtain ⟨⟨a', b', c'⟩, d'⟩ := y
 simp only at *
 have : a = a' ∧ b = b' ∧ c = c' ∧ d = d' := by omega
 obtain ⟨rfl, rfl, rfl, rfl⟩ := this
 rfl
theorem Fd7 (x y : Int) : Ia9 x y = some (i (pb8 x y), []) := by
 unfold Ia9 pb8
 simp only [lb2, decide_eq_true_eq]
 split <;> (try split) <;> rfl
theorem Be7 (x y : Int) : pa1 x y = pb8 x y := by unfold pa1; rw [Fd7]; rfl
theorem Be8 (x y : Int) : pa2 x y = true := by unfold pa2; rw [Fd7]; rfl
theorem Tc9 (x y : Pln) : wa2 x y = some (i (ja6 x y), []) := by
 unfold wa2 ja6
 simp only [Be7, Be8, lb2, beq_iff_eq, if_true]
 repeat' (first | rfl | split)
theorem Ye4 (x y : Pln) : Ka8 x y = ja6 x y := by unfold Ka8; rw [Tc9]; rfl
theorem Ye5 (x y : Pln) : Ka9 x y = true := by unfold Ka9; rw [Tc9]; rfl
theorem Ye6 (x y : Pln) : (fb1 [.agg (tP.row x), .agg (tP.row y)] []).run = some (i (ja6 x y), []) := by
 have : (fb1 [.agg (tP.row x), .agg (tP.row y)] []).run = sel (Ka9 x y) (some (i (Ka8 x y), [])) none := by kernel_rfl
 rw [this, Ye5, Ye4]
def tc5 (p : Pln) : List Value := [.int .i64 p.n.x, .int .i64 p.n.y, .int .i64 p.n.z, .int .i64 p.b]
instance : Inhabited Pln := ⟨⟨⟨0, 0, 0⟩, 0⟩⟩
def Ja3 (l : List Pln) : List Pln := l.mergeSort fun x y => !ltOf ja6 y x
theorem Xb2 (l : List Pln) : (Ja3 l).length = l.length := List.length_mergeSort l
noncomputable def sa1 : Sum := pe3 tP 104 50 Ja3
theorem pe4 : Ce.sortLay_ren.f 6 = 103 := by kernel_rfl
theorem jd2 : Ce.sortLay_ren.t 24 = 50 := by kernel_rfl
set_option maxRecDepth 100000 in
theorem Ja4 : g9 prog G 103 sa1 := by
 refine Be6 (enc := tc5) (cf := ja6) ⟨_, Tryz.func103, by kernel_rfl, of_decide_eq_true (by kernel_rfl)⟩ (by decide) (fun _ => rfl) (fun r h => Ma8 (n := 4) h) (fun x v hv => ?_) Xb2
  (fun blk off size w => Be5 wc6 Ye6 (fun _ => rfl) (fun _ => rfl) _ _ _ _ _) (fun blk cap d w hcl hH hb hs => ?_)
 ·simp [tc5] at hv
  rcases hv with rfl | rfl | rfl | rfl <;> rfl
 ·have eg : ∀ args w, (callFunc 104 args).run Tryz.prog w = .ok (.enter 104 args) w := enters_of Tryz.func104 (by kernel_rfl) rfl
  have := AnyQ.slices_SortFunc Ce.sortLay 4 (by rw [jd2]; exact Tryz.isAgg50) (by rw [jd2]; exact Tryz.sizeOf50) tc5 (fun _ => rfl) (fun x v hv => by simp [tc5] at hv; rcases hv with rfl | rfl | rfl | rfl <;> rfl) ja6 Ye2 104 #[] blk 0 cap d w eg (hcl 0 d.size) hH hb hs
  rw [pe4] at this
  refine this.mono fun e w' ⟨h1, d', n, os, h2, h3, h4⟩ => ⟨h1, n, os, ?_⟩
  have h5 := sorted_unique_holds Ye2 Ye3 d d' h2 h3
  rw [h4]
  show _ = sortWorldK tc5 4 w blk 0 n (d.toList.mergeSort fun x y => !ltOf ja6 y x).toArray os
  rw [← h5]
end Go.Ev.Ce
section
namespace Go.Ev.Ce
open Go Go.Ev Go.Ev.L Go.Proofs
set_option maxRecDepth 100000
noncomputable def Lb1 : List (Nat × Sum) := []
theorem Ib4 : i6 prog G Lb1 := trivial
structure na0 where
 alt : Nat
 ns0 : Nat
 eh0 : List (List b7)
noncomputable def P4 {α : Type} (kk : na0 → α) (x : Pln × List Pln) : α := (sl (Nat.beq (len (o7 (fun k => (tP).row (gL tP (x.1 :: x.2) k)) (List.range (List.length x.2 + 1)))) 0) (kk ⟨1, 0, []⟩) (sl (Nat.beq 0 0 && Nat.ble ((0 + (len (o7 (fun k => (tP).row (gL tP (x.1 :: x.2) k)) (List.range (List.length x.2 + 1))))) * 32) room) (kk ⟨1, (0 + (len (o7 (fun k => (tP).row (gL tP (x.1 :: x.2) k)) (List.range (List.length x.2 + 1))))), (app [] (o7 (fun k => (tP).row (gL tP (x.1 :: x.2) k)) (List.range (List.length x.2 + 1))))⟩) (kk ⟨0, 0, []⟩)))
noncomputable def na1 (x : Pln × List Pln) : na0 := P4 (fun r => r) x
noncomputable def ya4 (r : na0) : DT (b7 × List b8) := (.ite (Nat.beq r.alt 1) (.ret ((.sl 0 0 r.ns0 0), [⟨50, 4, r.eh0, true, false, 0⟩])) .fail)
theorem Tb2 {α β : Type} (F : α → β) (kk : na0 → α) (x : Pln × List Pln) : F (P4 kk x) = P4 (fun r => F (kk r)) x := by unfold P4; (repeat' apply k9 (f := F)) <;> rfl
noncomputable def bb9 : Sum := R3 (ge2 tP) (fun x => ya4 (na1 x))
theorem Lb2 : g9 prog G 100 bb9 := Eb5 (bd Le6 Ib4) fun x => r9 (Eq.trans (b := P4 (fun r => (ya4 r).run) x) (by kernel_rfl) (Tb2 (fun r => (ya4 r).run) (fun r => r) x).symm)
noncomputable def sd8 : List (Nat × Sum) := [(20, sa9), (18, oa4), (100, bb9), (99, ka1), (103, sa1), (105, ua2)]
theorem cd2 : i6 prog G sd8 := ⟨ta7, ra1, Lb2, Da0, Ja4, Na9, trivial⟩
noncomputable def cb0 (x : Pln × List Pln) : Option (b7 × List b8) := let t1 := (aa2 (rt tP (x.1 :: x.2))); let t2 := (Q9 (rt tP (x.1 :: x.2))); let t3 := (na1 (hC tP (fun k => (tP).row (gL tP (x.1 :: x.2) k)), tC tP (List.length x.2) (fun k => (tP).row (gL tP (x.1 :: x.2) k)))); let t4 := (D8 ⟨t3.ns0, t3.eh0, (rt tX t2)⟩); let t5 := (T1 ⟨t4.ns0, (app (bL tP (Ja3 (slR tP t4.eh0 0 t4.ns0))) (e7 t4.eh0 t4.ns0))⟩); (sl (okE tP (x.1 :: x.2)) (sl (aa3 (rt tP (x.1 :: x.2))) (sl (!t1) (some ((.v (.slice none 0 0)), [])) (sl (okE tP (x.1 :: x.2)) (sl (R2 (rt tP (x.1 :: x.2))) (sl (okL tP (List.length x.2 + 1) (fun k => (tP).row (gL tP (x.1 :: x.2) k))) (sl (Nat.beq t3.alt 1) (sl ((cnE tX t2) && true) (sl (Nat.beq t4.alt 1) (sl (Bool.and (Nat.ble t4.ns0 room) (Bool.and (Nat.ble t4.ns0 (len t4.eh0)) (okS tP t4.eh0 0 t4.ns0))) (sl (Nat.beq t5.alt 1) (some ((.sl 0 0 t5.ns0 0), [⟨50, 4, t5.eh0, true, false, 0⟩])) none) none) none) none) none) none) none) none)) none) none)
noncomputable def Tb3 (x : Pln × List Pln) : List Pln := K5 (one (r1L tP)) (cb0 x)
noncomputable def Tb4 (x : Pln × List Pln) : Bool := okO (one (r1L tP)) (cb0 x)
noncomputable def Ac6 : Sum := R3 (ge2 tP) (fun x => .guard (Tb4 x) (.ret ((one (r1L tP)).enc (Tb3 x), [])))
theorem pc9 : g9 prog G 25 Ac6 := za1 (bd b25 cd2) (one (r1L tP)) (o := cb0) fun x => r9 (by kernel_rfl)
noncomputable def Fc0 : List (Nat × Sum) := [(81, pc7), (18, oa4), (17, Cb0), (25, Ac6), (26, gc1), (20, sa9), (28, gc2), (22, nc5), (31, pc5), (33, bc8), (15, Gb6)]
theorem wc9 : i6 prog G Fc0 := ⟨cd1, ra1, oc8, pc9, Ac4, ta7, Ac5, Zc5, bd9, Tc5, bc2, trivial⟩
noncomputable def Da3  : Option (b7 × List b8) := let t1 := Ib3; let t2 := (Q9 [(⟨(⟨1, 0, 0⟩ : V3), t1.d9⟩ : Pln), (⟨(⟨(-1), 0, 0⟩ : V3), t1.Q1⟩ : Pln), (⟨(⟨0, 1, 0⟩ : V3), t1.Q3⟩ : Pln), (⟨(⟨0, (-1), 0⟩ : V3), t1.Q4⟩ : Pln), (⟨(⟨0, 0, 1⟩ : V3), t1.Q5⟩ : Pln), (⟨(⟨0, 0, (-1)⟩ : V3), t1.Q6⟩ : Pln)]); let t3 := (Q9 [(⟨(⟨(-1), 0, 0⟩ : V3), 0⟩ : Pln), (⟨(⟨0, (-1), 0⟩ : V3), 0⟩ : Pln), (⟨(⟨0, 0, (-1)⟩ : V3), 0⟩ : Pln), (⟨(⟨2, 3, 4⟩ : V3), 1⟩ : Pln)]); let t4 := (ra6 (rt tX t2) [(⟨1, 1, 1, 1⟩ : Pt), (⟨1, 1, 0, 1⟩ : Pt), (⟨1, 0, 1, 1⟩ : Pt), (⟨1, 0, 0, 1⟩ : Pt), (⟨0, 1, 1, 1⟩ : Pt), (⟨0, 1, 0, 1⟩ : Pt), (⟨0, 0, 1, 1⟩ : Pt), (⟨0, 0, 0, 1⟩ : Pt)]); let t5 := (ra6 (rt tX t3) [(⟨0, 0, 0, 1⟩ : Pt), (⟨0, 0, 1, 4⟩ : Pt), (⟨0, 1, 0, 3⟩ : Pt), (⟨1, 0, 0, 2⟩ : Pt)]); let t6 := (Tb3 ((⟨(⟨1, 0, 0⟩ : V3), t1.d9⟩ : Pln), [(⟨(⟨(-1), 0, 0⟩ : V3), t1.Q1⟩ : Pln), (⟨(⟨0, 1, 0⟩ : V3), t1.Q3⟩ : Pln), (⟨(⟨0, (-1), 0⟩ : V3), t1.Q4⟩ : Pln), (⟨(⟨0, 0, 1⟩ : V3), t1.Q5⟩ : Pln), (⟨(⟨0, 0, (-1)⟩ : V3), t1.Q6⟩ : Pln), (⟨(⟨1, 0, 0⟩ : V3), t1.d9⟩ : Pln), (⟨(⟨1, 1, 1⟩ : V3), 3⟩ : Pln), (⟨(⟨1, 0, 0⟩ : V3), 7⟩ : Pln)])); let t7 := (pb0 (rt tP t6) [(⟨(⟨(-1), 0, 0⟩ : V3), t1.Q1⟩ : Pln), (⟨(⟨0, (-1), 0⟩ : V3), t1.Q4⟩ : Pln), (⟨(⟨0, 0, (-1)⟩ : V3), t1.Q6⟩ : Pln), (⟨(⟨0, 0, 1⟩ : V3), t1.Q5⟩ : Pln), (⟨(⟨0, 1, 0⟩ : V3), t1.Q3⟩ : Pln), (⟨(⟨1, 0, 0⟩ : V3), t1.d9⟩ : Pln)]); let t8 := (aa2 []); let t9 := (aa2 [(⟨(⟨1, 0, 0⟩ : V3), t1.d9⟩ : Pln), (⟨(⟨(-1), 0, 0⟩ : V3), t1.Q1⟩ : Pln), (⟨(⟨0, 1, 0⟩ : V3), t1.Q3⟩ : Pln), (⟨(⟨0, (-1), 0⟩ : V3), t1.Q4⟩ : Pln), (⟨(⟨0, 0, 1⟩ : V3), t1.Q5⟩ : Pln), (⟨(⟨0, 0, (-1)⟩ : V3), t1.Q6⟩ : Pln), (⟨(⟨(-1), 0, 0⟩ : V3), (-1)⟩ : Pln)]); let t10 := (Ma3 [(⟨(⟨1, 0, 0⟩ : V3), t1.d9⟩ : Pln), (⟨(⟨(-1), 0, 0⟩ : V3), t1.Q1⟩ : Pln), (⟨(⟨0, 1, 0⟩ : V3), t1.Q3⟩ : Pln), (⟨(⟨0, (-1), 0⟩ : V3), t1.Q4⟩ : Pln), (⟨(⟨0, 0, 1⟩ : V3), t1.Q5⟩ : Pln), (⟨(⟨0, 0, (-1)⟩ : V3), t1.Q6⟩ : Pln)] (⟨1, 0, 0⟩ : V3)); let t11 := (Ma3 [(⟨(⟨1, 0, 0⟩ : V3), t1.d9⟩ : Pln), (⟨(⟨(-1), 0, 0⟩ : V3), t1.Q1⟩ : Pln), (⟨(⟨0, 1, 0⟩ : V3), t1.Q3⟩ : Pln), (⟨(⟨0, (-1), 0⟩ : V3), t1.Q4⟩ : Pln), (⟨(⟨0, 0, 1⟩ : V3), t1.Q5⟩ : Pln), (⟨(⟨0, 0, (-1)⟩ : V3), t1.Q6⟩ : Pln)] (⟨2, 0, 0⟩ : V3)); let t12 := (ib1 [(⟨(⟨(-1), 0, 0⟩ : V3), 0⟩ : Pln), (⟨(⟨0, (-1), 0⟩ : V3), 0⟩ : Pln), (⟨(⟨0, 0, (-1)⟩ : V3), 0⟩ : Pln), (⟨(⟨2, 3, 4⟩ : V3), 1⟩ : Pln)]); let t13 := (Ta0 [(⟨(⟨1, 0, 0⟩ : V3), t1.d9⟩ : Pln), (⟨(⟨(-1), 0, 0⟩ : V3), t1.Q1⟩ : Pln), (⟨(⟨0, 1, 0⟩ : V3), t1.Q3⟩ : Pln), (⟨(⟨0, (-1), 0⟩ : V3), t1.Q4⟩ : Pln), (⟨(⟨0, 0, 1⟩ : V3), t1.Q5⟩ : Pln), (⟨(⟨0, 0, (-1)⟩ : V3), t1.Q6⟩ : Pln)] [(⟨(⟨(-1), 0, 0⟩ : V3), (-1)⟩ : Pln)]); let t14 := (Ta0 [(⟨(⟨1, 0, 0⟩ : V3), t1.d9⟩ : Pln), (⟨(⟨(-1), 0, 0⟩ : V3), t1.Q1⟩ : Pln), (⟨(⟨0, 1, 0⟩ : V3), t1.Q3⟩ : Pln), (⟨(⟨0, (-1), 0⟩ : V3), t1.Q4⟩ : Pln), (⟨(⟨0, 0, 1⟩ : V3), t1.Q5⟩ : Pln), (⟨(⟨0, 0, (-1)⟩ : V3), t1.Q6⟩ : Pln)] [(⟨(⟨(-1), (-1), 0⟩ : V3), (-1)⟩ : Pln)]); let t15 := (Ja1 [(⟨(⟨1, 0, 0⟩ : V3), t1.d9⟩ : Pln), (⟨(⟨(-1), 0, 0⟩ : V3), t1.Q1⟩ : Pln), (⟨(⟨0, 1, 0⟩ : V3), t1.Q3⟩ : Pln), (⟨(⟨0, (-1), 0⟩ : V3), t1.Q4⟩ : Pln), (⟨(⟨0, 0, 1⟩ : V3), t1.Q5⟩ : Pln), (⟨(⟨0, 0, (-1)⟩ : V3), t1.Q6⟩ : Pln)] [(⟨(⟨1, 1, 1⟩ : V3), 3⟩ : Pln)]); let t16 := (Ja1 [(⟨(⟨1, 0, 0⟩ : V3), t1.d9⟩ : Pln), (⟨(⟨(-1), 0, 0⟩ : V3), t1.Q1⟩ : Pln), (⟨(⟨0, 1, 0⟩ : V3), t1.Q3⟩ : Pln), (⟨(⟨0, (-1), 0⟩ : V3), t1.Q4⟩ : Pln), (⟨(⟨0, 0, 1⟩ : V3), t1.Q5⟩ : Pln), (⟨(⟨0, 0, (-1)⟩ : V3), t1.Q6⟩ : Pln)] [(⟨(⟨1, 1, 1⟩ : V3), 2⟩ : Pln)]); let t17 := (Ra0 [(⟨(⟨0, 0, 0⟩ : V3), 0⟩ : Pln)]); (sl (R2 [(⟨(⟨1, 0, 0⟩ : V3), t1.d9⟩ : Pln), (⟨(⟨(-1), 0, 0⟩ : V3), t1.Q1⟩ : Pln), (⟨(⟨0, 1, 0⟩ : V3), t1.Q3⟩ : Pln), (⟨(⟨0, (-1), 0⟩ : V3), t1.Q4⟩ : Pln), (⟨(⟨0, 0, 1⟩ : V3), t1.Q5⟩ : Pln), (⟨(⟨0, 0, (-1)⟩ : V3), t1.Q6⟩ : Pln)]) (sl (R2 [(⟨(⟨(-1), 0, 0⟩ : V3), 0⟩ : Pln), (⟨(⟨0, (-1), 0⟩ : V3), 0⟩ : Pln), (⟨(⟨0, 0, (-1)⟩ : V3), 0⟩ : Pln), (⟨(⟨2, 3, 4⟩ : V3), 1⟩ : Pln)]) (sl (okE tX t2) (sl (ra7 (rt tX t2) [(⟨1, 1, 1, 1⟩ : Pt), (⟨1, 1, 0, 1⟩ : Pt), (⟨1, 0, 1, 1⟩ : Pt), (⟨1, 0, 0, 1⟩ : Pt), (⟨0, 1, 1, 1⟩ : Pt), (⟨0, 1, 0, 1⟩ : Pt), (⟨0, 0, 1, 1⟩ : Pt), (⟨0, 0, 0, 1⟩ : Pt)]) (sl (!t4) (some ((b false), [])) (sl (okE tX t3) (sl (ra7 (rt tX t3) [(⟨0, 0, 0, 1⟩ : Pt), (⟨0, 0, 1, 4⟩ : Pt), (⟨0, 1, 0, 3⟩ : Pt), (⟨1, 0, 0, 2⟩ : Pt)]) (sl (!t5) (some ((b false), [])) (sl (Tb4 ((⟨(⟨1, 0, 0⟩ : V3), t1.d9⟩ : Pln), [(⟨(⟨(-1), 0, 0⟩ : V3), t1.Q1⟩ : Pln), (⟨(⟨0, 1, 0⟩ : V3), t1.Q3⟩ : Pln), (⟨(⟨0, (-1), 0⟩ : V3), t1.Q4⟩ : Pln), (⟨(⟨0, 0, 1⟩ : V3), t1.Q5⟩ : Pln), (⟨(⟨0, 0, (-1)⟩ : V3), t1.Q6⟩ : Pln), (⟨(⟨1, 0, 0⟩ : V3), t1.d9⟩ : Pln), (⟨(⟨1, 1, 1⟩ : V3), 3⟩ : Pln), (⟨(⟨1, 0, 0⟩ : V3), 7⟩ : Pln)])) (sl (okE tP t6) (sl (pb1 (rt tP t6) [(⟨(⟨(-1), 0, 0⟩ : V3), t1.Q1⟩ : Pln), (⟨(⟨0, (-1), 0⟩ : V3), t1.Q4⟩ : Pln), (⟨(⟨0, 0, (-1)⟩ : V3), t1.Q6⟩ : Pln), (⟨(⟨0, 0, 1⟩ : V3), t1.Q5⟩ : Pln), (⟨(⟨0, 1, 0⟩ : V3), t1.Q3⟩ : Pln), (⟨(⟨1, 0, 0⟩ : V3), t1.d9⟩ : Pln)]) (sl (!t7) (some ((b false), [])) (sl (aa3 []) (sl (!t8) (some ((b false), [])) (sl (aa3 [(⟨(⟨1, 0, 0⟩ : V3), t1.d9⟩ : Pln), (⟨(⟨(-1), 0, 0⟩ : V3), t1.Q1⟩ : Pln), (⟨(⟨0, 1, 0⟩ : V3), t1.Q3⟩ : Pln), (⟨(⟨0, (-1), 0⟩ : V3), t1.Q4⟩ : Pln), (⟨(⟨0, 0, 1⟩ : V3), t1.Q5⟩ : Pln), (⟨(⟨0, 0, (-1)⟩ : V3), t1.Q6⟩ : Pln), (⟨(⟨(-1), 0, 0⟩ : V3), (-1)⟩ : Pln)]) (sl t9 (some ((b false), [])) (sl (Da1 [(⟨(⟨1, 0, 0⟩ : V3), t1.d9⟩ : Pln), (⟨(⟨(-1), 0, 0⟩ : V3), t1.Q1⟩ : Pln), (⟨(⟨0, 1, 0⟩ : V3), t1.Q3⟩ : Pln), (⟨(⟨0, (-1), 0⟩ : V3), t1.Q4⟩ : Pln), (⟨(⟨0, 0, 1⟩ : V3), t1.Q5⟩ : Pln), (⟨(⟨0, 0, (-1)⟩ : V3), t1.Q6⟩ : Pln)] (⟨1, 0, 0⟩ : V3)) (sl (!t10) (some ((b false), [])) (sl (Da1 [(⟨(⟨1, 0, 0⟩ : V3), t1.d9⟩ : Pln), (⟨(⟨(-1), 0, 0⟩ : V3), t1.Q1⟩ : Pln), (⟨(⟨0, 1, 0⟩ : V3), t1.Q3⟩ : Pln), (⟨(⟨0, (-1), 0⟩ : V3), t1.Q4⟩ : Pln), (⟨(⟨0, 0, 1⟩ : V3), t1.Q5⟩ : Pln), (⟨(⟨0, 0, (-1)⟩ : V3), t1.Q6⟩ : Pln)] (⟨2, 0, 0⟩ : V3)) (sl t11 (some ((b false), [])) (sl (ib2 [(⟨(⟨(-1), 0, 0⟩ : V3), 0⟩ : Pln), (⟨(⟨0, (-1), 0⟩ : V3), 0⟩ : Pln), (⟨(⟨0, 0, (-1)⟩ : V3), 0⟩ : Pln), (⟨(⟨2, 3, 4⟩ : V3), 1⟩ : Pln)]) (sl (!((t12.1.x == 0) && ((t12.1.y == 0) && ((t12.1.z == 0) && true)))) (some ((b false), [])) (sl (!((t12.2.1.x == 1) && ((t12.2.1.y == 1) && ((t12.2.1.z == 1) && true)))) (some ((b false), [])) (sl (!t12.2.2) (some ((b false), [])) (sl (Ta1 [(⟨(⟨1, 0, 0⟩ : V3), t1.d9⟩ : Pln), (⟨(⟨(-1), 0, 0⟩ : V3), t1.Q1⟩ : Pln), (⟨(⟨0, 1, 0⟩ : V3), t1.Q3⟩ : Pln), (⟨(⟨0, (-1), 0⟩ : V3), t1.Q4⟩ : Pln), (⟨(⟨0, 0, 1⟩ : V3), t1.Q5⟩ : Pln), (⟨(⟨0, 0, (-1)⟩ : V3), t1.Q6⟩ : Pln)] [(⟨(⟨(-1), 0, 0⟩ : V3), (-1)⟩ : Pln)]) (sl t13 (sl (Ta1 [(⟨(⟨1, 0, 0⟩ : V3), t1.d9⟩ : Pln), (⟨(⟨(-1), 0, 0⟩ : V3), t1.Q1⟩ : Pln), (⟨(⟨0, 1, 0⟩ : V3), t1.Q3⟩ : Pln), (⟨(⟨0, (-1), 0⟩ : V3), t1.Q4⟩ : Pln), (⟨(⟨0, 0, 1⟩ : V3), t1.Q5⟩ : Pln), (⟨(⟨0, 0, (-1)⟩ : V3), t1.Q6⟩ : Pln)] [(⟨(⟨(-1), (-1), 0⟩ : V3), (-1)⟩ : Pln)]) (sl (!t14) (sl (Ja2 [(⟨(⟨1, 0, 0⟩ : V3), t1.d9⟩ : Pln), (⟨(⟨(-1), 0, 0⟩ : V3), t1.Q1⟩ : Pln), (⟨(⟨0, 1, 0⟩ : V3), t1.Q3⟩ : Pln), (⟨(⟨0, (-1), 0⟩ : V3), t1.Q4⟩ : Pln), (⟨(⟨0, 0, 1⟩ : V3), t1.Q5⟩ : Pln), (⟨(⟨0, 0, (-1)⟩ : V3), t1.Q6⟩ : Pln)] [(⟨(⟨1, 1, 1⟩ : V3), 3⟩ : Pln)]) (sl t15 (sl (Ja2 [(⟨(⟨1, 0, 0⟩ : V3), t1.d9⟩ : Pln), (⟨(⟨(-1), 0, 0⟩ : V3), t1.Q1⟩ : Pln), (⟨(⟨0, 1, 0⟩ : V3), t1.Q3⟩ : Pln), (⟨(⟨0, (-1), 0⟩ : V3), t1.Q4⟩ : Pln), (⟨(⟨0, 0, 1⟩ : V3), t1.Q5⟩ : Pln), (⟨(⟨0, 0, (-1)⟩ : V3), t1.Q6⟩ : Pln)] [(⟨(⟨1, 1, 1⟩ : V3), 2⟩ : Pln)]) (sl (!t16) (sl (Ra1 [(⟨(⟨0, 0, 0⟩ : V3), 0⟩ : Pln)]) (some ((b (t17 == 12)), [])) none) (some ((b false), []))) none) (some ((b false), []))) none) (some ((b false), []))) none) (some ((b false), []))) none)))) none)) none)) none)) none)) none)) none) none) none)) none) none)) none) none) none) none)
noncomputable def Ta3  : Bool := K5 (one r1B) Da3
noncomputable def Ta4  : Bool := okO (one r1B) Da3
noncomputable def Tb5 : Sum := xd5  (.guard Ta4 (.ret ((one r1B).enc Ta3, [])))
theorem Fc1 : g9 prog G 13 Tb5 := af0 (bd b13 wc9) (one r1B) (o := Da3) (r9 (by kernel_rfl))
end Go.Ev.Ce
end
namespace Go.Ev.Ce
open Go Go.Ev Go.Ev.L Go.Proofs
noncomputable def onc (X : List Pt) (p : Pln) : Nat := X.countP fun x => rm p x == 0
noncomputable def keep (X : List Pt) (p : Pln) : Bool := !decide ((onc X p : Int) < 3)
theorem Uc0 (p : Pln) (X : List Pt) (hX : X.length ≤ 1000000000) : oa8 ⟨p.n.x, p.n.y, p.n.z, p.b, X⟩ = ⟨1, !keep X p, X⟩ := by
 have h := Vb5 (step := ra8 ⟨X, (X.length : Int), X, p.n.x, p.n.y, p.n.z, p.b⟩) (mk := fun j (n : Nat) => (⟨(n : Int), (j : Int)⟩ : N9)) (f := fun n x => if rm p x == 0 then n + 1 else n) (fin := 1) tX X (fun j n => n ≤ j) hX
  (fun j n hj hi => by
   have hW : W ((n : Int) + 1) = ((n + 1 : Nat) : Int) := by rw [Ga0 (by omega) (by omega)]; omega
   refine ⟨?_, by show (if rm p (gL tX X j) == 0 then n + 1 else n) ≤ j + 1; split <;> omega⟩
   simp only [ra8, ma9, Int.toNat_natCast, pd8, hW, o9 hj (show X.length ≤ 4611686018427387904 by omega)]
   rw [btD (n9 hj), bt (f0 hj)]
   cases rm p (gL tX X j) == 0 <;> rfl)
  (fun n _ => by simp only [ra8, ma9]; rw [bfD (P1 (Nat.lt_irrefl _))]) 0 (Nat.zero_le _) 0 (Nat.le_refl _)
 have h := h.1
 have e : ∀ (l : List Pt) (n : Nat), l.foldl (fun n x => if rm p x == 0 then n + 1 else n) n = n + l.countP fun x => rm p x == 0 := by
  intro l
  induction l with
  | nil => intro n; rfl
  | cons x l ih =>
   intro n
   rw [List.foldl_cons, ih, List.countP_cons]
   split <;> omega
 rw [List.drop_zero, e, Nat.zero_add] at h
 unfold oa8 xa6 keep onc
 simp only [m0, m8]
 rw [show (⟨0, 0⟩ : N9) = ⟨((0 : Nat) : Int), ((0 : Nat) : Int)⟩ from rfl, h]
 show xa5.mk 1 (decide _) X = xa5.mk 1 (!(!(decide _))) X
 rw [Bool.not_not]
theorem Be9 (l : List Pln) (X : List Pt) (hl : l.length ≤ 1000000000) (hX : X.length ≤ 1000000000) : V7 ⟨l.length, bL tP l, X⟩ = ⟨1, if l.any (fun p => !keep X p) then ((l.findIdx (fun p => !keep X p) : Nat) : Int) else -1, X⟩ := by
 have h := gb6 (step := F6 ⟨l.length, (l.length : Int), bL tP l⟩) (mk := fun j => (⟨(j : Int), X⟩ : o5)) (c := fun p => !keep X p) (u := 1) (fin := 2) tP l hl
  (fun j hj => by
   simp only [F6, C9, Int.toNat_natCast, m0, m8, pc3 hj, Xb1 hj, Uc0 _ _ hX, o9 hj (show l.length ≤ 4611686018427387904 by omega)]
   rw [btD (n9 hj), bt (f0 hj)]
   rfl)
  (by simp only [F6, C9]; rw [bfD (P1 (Nat.lt_irrefl _))]) 0 (Nat.zero_le _)
 rw [List.drop_zero] at h
 unfold V7 D6
 simp only [m0, m8]
 rw [show (⟨0, X⟩ : o5) = ⟨((0 : Nat) : Int), X⟩ from rfl, h]
 cases ha : l.any fun p => !keep X p with
 | false => rfl
 | true =>
  have hf : l.findIdx (fun p => !keep X p) < l.length := by
   rw [List.any_eq_true] at ha
   obtain ⟨p, hp, hc⟩ := ha
   exact List.findIdx_lt_length_of_exists ⟨p, hp, hc⟩
  simp only [if_true, Nat.zero_add, Int.toNat_natCast, Xb1 hf, Uc0 _ _ hX, m0]
  rfl
theorem qc0 {α : Type} (c : α → Bool) : ∀ l : List α, (l.take (l.findIdx c)).filter (fun x => !c x) = l.take (l.findIdx c)
 | [] => rfl
 | x :: l => by
  rw [List.findIdx_cons]
  cases h : c x with
  | true => rfl
  | false =>
   simp only [cond_false, List.take_succ_cons, List.filter_cons, h, Bool.not_false, if_true]
   rw [qc0 c l]
theorem Pd3 {α : Type} (l : List α) (j : Nat) (h : j < l.length) : l.take (j + 1) = l.take j ++ [l[j]] := by rw [List.take_succ_eq_append_getElem h]
theorem Hc0 {α : Type} (t : Ty α) {l : List α} {j : Nat} (h : j < l.length) : l.take (j + 1) = l.take j ++ [gL t l j] := by rw [Pd3 l j h, Ya8 t h]
theorem xc0 {α : Type} (t : Ty α) {l r : List α} {j : Nat} (h : l.drop j = r.drop j) : gL t l j = gL t r j := by
 have h1 := oc1 t l j 0
 have h2 := oc1 t r j 0
 rw [Nat.add_zero] at h1 h2
 rw [← h1, ← h2, h]
theorem qc1 {α : Type} {l r : List α} {j : Nat} (h : l.drop j = r.drop j) (k : Nat) : l.drop (j + k) = r.drop (j + k) := by rw [← List.drop_drop, ← List.drop_drop, h]
structure Del (l : List Pln) (f : Pln → Bool) (cur : List Pln) (m j : Nat) : Prop where
 len : cur.length = l.length
 t : cur.take m = (l.take j).filter f
 d : cur.drop j = l.drop j
 le : m ≤ j
 lm : m ≤ l.length
theorem Fd8 (l : List Pln) (X : List Pt) (hl : l.length ≤ 1000000000) (hX : X.length ≤ 1000000000) (m j : Nat) (cur : List Pln) (hd : Del l (keep X) cur m j) :
  ∃ t s, lp (A2 ⟨l.length⟩) ⟨(m : Int), (j : Int), bL tP cur, X⟩ = (t, s) ∧ (t = 1 ∧ ∃ m' cur' k, s = ⟨((m' : Nat) : Int), ((k : Nat) : Int), bL tP cur', X⟩ ∧ Del l (keep X) cur' m' k ∧ l.length ≤ k) := by
 refine ua0 (step := A2 ⟨l.length⟩) (mk := fun j (x : Nat × List Pln) => (⟨(x.1 : Int), (j : Int), bL tP x.2, X⟩ : q9)) l.length (fun j x => Del l (keep X) x.2 x.1 j) (fun t s => t = 1 ∧ ∃ m' cur' k, s = ⟨((m' : Nat) : Int), ((k : Nat) : Int), bL tP cur', X⟩ ∧ Del l (keep X) cur' m' k ∧ l.length ≤ k) hl (fun j x hj hx => ?_) (fun j x hj hx => ?_) j (m, cur) hd
 ·obtain ⟨m, cur⟩ := x
  obtain ⟨h1, h2, h3, h4, h5⟩ := hx
  simp only at h1 h2 h3 h4 h5
  have hjc : j < cur.length := by omega
  have hmc : m < cur.length := by omega
  have hg : gL tP cur j = gL tP l j := xc0 tP h3
  have hWm : W ((m : Int) + 1) = ((m + 1 : Nat) : Int) := by rw [Ga0 (by omega) (by omega)]; omega
  have hb : Nat.blt m cur.length = true := by rw [Nat.blt_eq]; exact hmc
  have hrow : f7 (bL tP cur) m = tP.row (gL tP cur m) := X5 tP hmc
  have sp : ∀ (v : Pln) (x1 x2 x3 x4 : Int), M4 (tP.row v) 0 [i x1, i x2, i x3, i x4] = tP.row ⟨⟨x1, x2, x3⟩, x4⟩ := fun _ _ _ _ _ => rfl
  have rl : ∀ v : Pln, Nat.ble (0 + 4) (len (tP.row v)) = true := fun _ => rfl
  simp only [A2, D0, Int.toNat_natCast, m0, m8, pc3 hjc, Xb1 hjc, Uc0 _ _ hX, o9 hj (show l.length ≤ 4611686018427387904 by omega), hWm]
  rw [btD (n9 hj), bt (f0 hj)]
  simp only [Nat.zero_add, hrow, O5, hb, sp, Ab0, f0 (show m < l.length by omega), hg]
  have ht := Hc0 tP hj
  have hd1 : cur.drop (j + 1) = l.drop (j + 1) := qc1 h3 1
  cases hk : keep X (gL tP l j) with
  | true =>
   refine .nx ⟨(m + 1, cur.set m (gL tP l j)), rfl, ⟨by rw [List.length_set]; exact h1, ?_, ?_, by omega, by show m + 1 ≤ l.length; omega⟩⟩
   ·show (cur.set m (gL tP l j)).take (m + 1) = _
    rw [ht, List.filter_append, List.take_succ_eq_append_getElem (by rw [List.length_set]; exact hmc), List.getElem_set_self, List.take_set_of_le (Nat.le_refl _), h2, List.filter_cons, hk, if_pos rfl, List.filter_nil]
   ·show (cur.set m (gL tP l j)).drop (j + 1) = _
    rw [List.drop_set_of_lt (by omega), hd1]
  | false =>
   refine .nx ⟨(m, cur), rfl, ⟨h1, ?_, hd1, by omega, h5⟩⟩
   show cur.take m = _
   rw [ht, List.filter_append, h2, List.filter_cons, hk, if_neg (by simp), List.filter_nil, List.append_nil]
 ·obtain ⟨m, cur⟩ := x
  refine ⟨1, ?_, rfl, m, cur, j, rfl, hx, hj⟩
  simp only [A2, D0]
  rw [bfD (by omega)]
theorem Ud4 (l : List Pln) (n : Nat) : G6 (bL tP l) n = bL tP (l.take n) := by unfold bL; rw [E4, n8, n8, List.map_take]
theorem sd9 (l : List Pln) (n : Nat) : e7 (bL tP l) n = bL tP (l.drop n) := by unfold bL; rw [E5, n8, n8, List.map_drop]
theorem Ud5 (n : Nat) : List.replicate n [i 0, i 0, i 0, i 0] = bL tP (List.replicate n ⟨⟨0, 0, 0⟩, 0⟩) := by unfold bL; rw [n8, List.map_replicate]; rfl
theorem jd3 (l : List Pln) (X : List Pt) (hl : l.length ≤ 1000000000) (hX : X.length ≤ 1000000000) :
  ∃ m r, D8 ⟨l.length, bL tP l, X⟩ = ⟨1, m, bL tP r, X⟩ ∧ m ≤ r.length ∧ r.take m = l.filter (keep X) ∧ r.length = l.length := by
 unfold D8 D7
 simp only [m0, m8, Be9 l X hl hX]
 cases ha : l.any fun p => !keep X p with
 | false =>
  refine ⟨l.length, l, rfl, Nat.le_refl _, ?_, rfl⟩
  rw [List.take_length]
  symm
  rw [List.filter_eq_self]
  intro p hp
  have := List.any_eq_false.1 ha p hp
  simpa using this
 | true =>
  have hf : l.findIdx (fun p => !keep X p) < l.length := by
   rw [List.any_eq_true] at ha
   obtain ⟨p, hp, hc⟩ := ha
   exact List.findIdx_lt_length_of_exists ⟨p, hp, hc⟩
  have hk : keep X (gL tP l (l.findIdx fun p => !keep X p)) = false := by
   have := List.findIdx_getElem (xs := l) (p := fun p => !keep X p) (w := hf)
   rw [Ya8 tP hf]
   simpa using this
  have ht := qc0 (fun p => !keep X p) l
  simp only [Bool.not_not] at ht
  generalize hF : l.findIdx (fun p => !keep X p) = F at *
  have hW : W ((F : Int) + 1) = ((F + 1 : Nat) : Int) := o9 hf (by omega)
  have hne : ((F : Int) == -1) = false := by rw [beq_eq_false_iff_ne]; omega
  obtain ⟨t, s, e1, rfl, m, cur, k, e2, e3, e4⟩ := Fd8 l X hl hX F (F + 1) l ⟨rfl, by rw [Hc0 tP hf, List.filter_append, ht, List.filter_cons, hk, if_neg (by simp), List.filter_nil, List.append_nil], rfl, by omega, by omega⟩
  have hm : m ≤ l.length := e3.lm
  have hin : inB (m : Int) (l.length + 1) = true := f0 (by omega)
  have hfin : cur.take m = l.filter (keep X) := by rw [e3.t, List.take_of_length_le e4]
  simp only [if_true, hW, hne, e1, e2, Int.toNat_natCast, hin, Nat.zero_add, Nat.sub_zero]
  refine ⟨m, cur.take m ++ (List.replicate (l.length - m) ⟨⟨0, 0, 0⟩, 0⟩ ++ cur.drop (m + (l.length - m))), ?_, ?_, ?_, ?_⟩
  ·rw [Ud4, Ud5, sd9, La7, La7]
   rfl
  ·rw [List.length_append, List.length_append, List.length_take, List.length_replicate, e3.len]; omega
  ·rw [List.take_append_of_le_length (by rw [List.length_take, e3.len]; omega), List.take_take, Nat.min_self, hfin]
  ·rw [List.length_append, List.length_append, List.length_take, List.length_replicate, List.length_drop, e3.len]; omega
def eqP (x y : Pln) : Bool := x.n.x == y.n.x && (x.n.y == y.n.y && (x.n.z == y.n.z && (x.b == y.b && true)))
theorem vb4 (x y : Pln) : eqP x y = true ↔ x = y := by
 unfold eqP
 simp only [Bool.and_true, Bool.and_eq_true, beq_iff_eq]
 refine ⟨fun ⟨h1, h2, h3, h4⟩ => ?_, fun h => by subst h; exact ⟨rfl, rfl, rfl, rfl⟩⟩
 obtain ⟨⟨x1, x2, x3⟩, x4⟩ := x
 obtain ⟨⟨y1, y2, y3⟩, y4⟩ := y
 simp only at h1 h2 h3 h4
 subst h1 h2 h3 h4
 rfl
def ddF : Pln → List Pln → List Pln
 | _, [] => []
 | a, x :: l => if eqP x a then ddF x l else x :: ddF x l
def dd : List Pln → List Pln
 | [] => []
 | x :: l => x :: ddF x l
theorem Ud6 : ∀ (a : Pln) (l : List Pln), (ddF a l).length ≤ l.length
 | _, [] => Nat.le_refl _
 | a, x :: l => by
  have := Ud6 x l
  unfold ddF
  split <;> simp only [List.length_cons] <;> omega
structure Cmp (l : List Pln) (n : Nat) (cur : List Pln) (m j : Nat) (R : List Pln) : Prop where
 len : cur.length = l.length
 t : cur.take m ++ ddF (gL tP l (j - 1)) ((l.take n).drop j) = R
 d : cur.drop (j - 1) = l.drop (j - 1)
 le : m + 1 ≤ j
theorem td0 (l : List Pln) (n o : Nat) (hn : n ≤ l.length) (hl : l.length ≤ 1000000000) (ho : o < n) (m : Nat) (cur : List Pln) (R : List Pln) (hd : Cmp l n cur m (o + 1) R) :
  ∃ t s, lp (q8 ⟨n, 0 + o, n - o⟩) ⟨(m : Int), ((1 : Nat) : Int), bL tP cur⟩ = (t, s) ∧ (t = 1 ∧ ∃ m' cur' k, s = ⟨((m' : Nat) : Int), k, bL tP cur'⟩ ∧ cur'.length = l.length ∧ cur'.take m' = R ∧ m' ≤ n) := by
 refine ua0 (step := q8 ⟨n, 0 + o, n - o⟩) (mk := fun j (x : Nat × List Pln) => (⟨(x.1 : Int), (j : Int), bL tP x.2⟩ : o8)) (n - o) (fun j x => Cmp l n x.2 x.1 (o + j) R ∧ 1 ≤ j ∧ x.1 ≤ n) (fun t s => t = 1 ∧ ∃ m' cur' k, s = ⟨((m' : Nat) : Int), k, bL tP cur'⟩ ∧ cur'.length = l.length ∧ cur'.take m' = R ∧ m' ≤ n) (by omega) (fun j x hj hx => ?_) (fun j x hj hx => ?_) 1 (m, cur) ⟨hd, Nat.le_refl _, by have := hd.le; show m ≤ n; omega⟩
 ·obtain ⟨m, cur⟩ := x
  obtain ⟨⟨h1, h2, h3, h4⟩, hj1, hmn⟩ := hx
  simp only at h1 h2 h3 h4 hmn
  have hoj : o + j < n := by omega
  have hjc : o + j < cur.length := by omega
  have hjc' : o + (j - 1) < cur.length := by omega
  have hmc : m < cur.length := by omega
  have hg' : gL tP cur (o + (j - 1)) = gL tP l (o + j - 1) := by rw [show o + (j - 1) = o + j - 1 by omega]; exact xc0 tP h3
  have hd1 : cur.drop (o + j) = l.drop (o + j) := by have := qc1 h3 1; rw [show o + j - 1 + 1 = o + j by omega] at this; exact this
  have hg : gL tP cur (o + j) = gL tP l (o + j) := xc0 tP hd1
  have hWm : W ((m : Int) + 1) = ((m + 1 : Nat) : Int) := by rw [Ga0 (by omega) (by omega)]; omega
  have hWj : W ((j : Int) - 1) = ((j - 1 : Nat) : Int) := by rw [Ga0 (by omega) (by omega)]; omega
  have hb : Nat.blt m cur.length = true := by rw [Nat.blt_eq]; exact hmc
  have hrow : f7 (bL tP cur) m = tP.row (gL tP cur m) := X5 tP hmc
  have sp : ∀ (v : Pln) (x1 x2 x3 x4 : Int), M4 (tP.row v) 0 [i x1, i x2, i x3, i x4] = tP.row ⟨⟨x1, x2, x3⟩, x4⟩ := fun _ _ _ _ _ => rfl
  have rl : ∀ v : Pln, Nat.ble 4 (len (tP.row v)) = true := fun _ => rfl
  simp only [q8, K1, Int.toNat_natCast, Nat.zero_add, hWj, md9 tP hjc, md9 tP hjc', md8 tP hjc, md8 tP hjc', o9 hj (show n - o ≤ 4611686018427387904 by omega), hWm, hg, hg', hrow, O5, hb, sp, rl, Ab0, f0 (show m < n by omega)]
  rw [btD (n9 hj)]
  simp only [f0 hj, f0 (show j - 1 < n - o by omega), q7, Bool.and_self]
  rw [show ((gL tP l (o + j)).n.x == (gL tP l (o + j - 1)).n.x && ((gL tP l (o + j)).n.y == (gL tP l (o + j - 1)).n.y && ((gL tP l (o + j)).n.z == (gL tP l (o + j - 1)).n.z && ((gL tP l (o + j)).b == (gL tP l (o + j - 1)).b && true)))) = eqP (gL tP l (o + j)) (gL tP l (o + j - 1)) from rfl]
  have hcons : (l.take n).drop (o + j) = gL tP l (o + j) :: (l.take n).drop (o + (j + 1)) := by
   rw [List.drop_eq_getElem_cons (by rw [List.length_take]; omega), List.getElem_take, Ya8 tP (by omega)]
   rfl
  rw [hcons] at h2
  have hlast : o + (j + 1) - 1 = o + j := by omega
  unfold ddF at h2
  cases he : eqP (gL tP l (o + j)) (gL tP l (o + j - 1)) with
  | true =>
   rw [he] at h2
   simp only [if_true] at h2
   refine .nx ⟨(m, cur), rfl, ⟨⟨h1, ?_, ?_, by show m + 1 ≤ o + (j + 1); omega⟩, by omega, hmn⟩⟩
   ·rw [hlast]; exact h2
   ·rw [hlast]; exact hd1
  | false =>
   rw [he] at h2
   simp only [Bool.false_eq_true, if_false] at h2
   refine .nx ⟨(m + 1, cur.set m (gL tP l (o + j))), rfl, ⟨⟨by rw [List.length_set]; exact h1, ?_, ?_, by show m + 1 + 1 ≤ o + (j + 1); omega⟩, by omega, by show m + 1 ≤ n; omega⟩⟩
   ·rw [hlast]
    show (cur.set m (gL tP l (o + j))).take (m + 1) ++ _ = R
    rw [List.take_succ_eq_append_getElem (by rw [List.length_set]; exact hmc), List.getElem_set_self, List.take_set_of_le (Nat.le_refl _), List.append_assoc]
    exact h2
   ·rw [hlast]
    show (cur.set m (gL tP l (o + j))).drop (o + j) = _
    rw [List.drop_set_of_lt (by omega), hd1]
 ·obtain ⟨m, cur⟩ := x
  obtain ⟨⟨h1, h2, h3, h4⟩, hj1, hmn⟩ := hx
  simp only at h1 h2 h3 h4 hmn
  refine ⟨1, ?_, rfl, m, cur, _, rfl, h1, ?_, hmn⟩
  ·simp only [q8, K1]
   rw [bfD (by omega)]
  ·rw [List.drop_eq_nil_of_le (by rw [List.length_take]; omega)] at h2
   unfold ddF at h2
   rw [List.append_nil] at h2
   exact h2
theorem Uc1 (l : List Pln) (n : Nat) (hn : n ≤ l.length) (hl : l.length ≤ 1000000000) :
  ∃ m r, T1 ⟨n, bL tP l⟩ = ⟨1, m, bL tP r⟩ ∧ m ≤ r.length ∧ r.take m = dd (l.take n) := by
 unfold T1 L0
 simp only
 by_cases h2 : (n : Int) < 2
 ·rw [btD h2]
  refine ⟨n, l, rfl, hn, ?_⟩
  have : n = 0 ∨ n = 1 := by omega
  rcases this with rfl | rfl
  ·rfl
  ·cases l with
   | nil => rfl
   | cons x l => rfl
 ·rw [bfD h2]
  have h1n : 1 ≤ n := by omega
  have hI : ∀ j, j < n → 1 ≤ j → l.take j ++ ddF (gL tP l (j - 1)) ((l.take n).drop j) = dd (l.take n) →
    (eqP (gL tP l j) (gL tP l (j - 1)) = true → Cmp l n l j (j + 1) (dd (l.take n))) ∧ (eqP (gL tP l j) (gL tP l (j - 1)) = false → l.take (j + 1) ++ ddF (gL tP l (j + 1 - 1)) ((l.take n).drop (j + 1)) = dd (l.take n)) := by
   intro j hj hj1 hR
   have hcons : (l.take n).drop j = gL tP l j :: (l.take n).drop (j + 1) := by
    rw [List.drop_eq_getElem_cons (by rw [List.length_take]; omega), List.getElem_take, Ya8 tP (by omega)]
   rw [hcons] at hR
   unfold ddF at hR
   constructor
   ·intro he
    rw [he] at hR
    simp only [if_true] at hR
    exact ⟨rfl, hR, rfl, Nat.le_refl _⟩
   ·intro he
    rw [he] at hR
    simp only [Bool.false_eq_true, if_false] at hR
    rw [Hc0 tP (show j < l.length by omega), List.append_assoc]
    exact hR
  have inner : ∀ k, k < n → 1 ≤ k → Cmp l n l k (k + 1) (dd (l.take n)) → ∃ m' cur' k', lp (q8 ⟨n, 0 + k, n - k⟩) ⟨(k : Int), 1, bL tP l⟩ = (1, ⟨((m' : Nat) : Int), k', bL tP cur'⟩) ∧ cur'.length = l.length ∧ cur'.take m' = dd (l.take n) ∧ m' ≤ n := by
   intro k hk hk1 hc
   obtain ⟨t, s, e1, rfl, m', cur', k', rfl, e2, e3, e4⟩ := td0 l n k hn hl hk k l _ hc
   exact ⟨m', cur', k', e1, e2, e3, e4⟩
  have key := ua0 (step := L9 ⟨n, bL tP l⟩) (mk := fun j (_ : Unit) => (⟨(j : Int)⟩ : r6)) n (fun j _ => 1 ≤ j ∧ j ≤ n ∧ l.take j ++ ddF (gL tP l (j - 1)) ((l.take n).drop j) = dd (l.take n))
   (fun t s => (t = 1 ∧ ∃ k : Nat, s = ⟨(k : Int)⟩ ∧ k < n ∧ 1 ≤ k ∧ Cmp l n l k (k + 1) (dd (l.take n))) ∨ (t = 2 ∧ l.take n = dd (l.take n))) (by omega) (fun j x hj hx => ?_) (fun j x hj hx => ?_) 1 () ⟨Nat.le_refl _, h1n, by
    cases l with
    | nil => simp only [List.length_nil] at hn; omega
    | cons x l =>
     cases n with
     | zero => omega
     | succ n => rfl⟩
  ·obtain ⟨t, s, e1, e2⟩ := key
   rw [show (⟨1⟩ : r6) = ⟨((1 : Nat) : Int)⟩ from rfl, e1]
   rcases e2 with ⟨rfl, k, rfl, hk, hk1, hc⟩ | ⟨rfl, he⟩
   ·obtain ⟨m', cur', k', e2, e3, e4, e5⟩ := inner k hk hk1 hc
    simp only [Int.toNat_natCast, e2]
    simp only [Nat.zero_add, Nat.sub_zero]
    refine ⟨m', cur'.take m' ++ (List.replicate (n - m') ⟨⟨0, 0, 0⟩, 0⟩ ++ cur'.drop (m' + (n - m'))), ?_, ?_, ?_⟩
    ·rw [Ud4, Ud5, sd9, La7, La7]
     rfl
    ·rw [List.length_append, List.length_take, e3]; omega
    ·rw [List.take_append_of_le_length (by rw [List.length_take, e3]; omega), List.take_take, Nat.min_self, e4]
   ·exact ⟨n, l, rfl, hn, he⟩
  ·obtain ⟨hj1, hjn, hR⟩ := hx
   obtain ⟨i1, i2⟩ := hI j hj hj1 hR
   have hWj : W ((j : Int) - 1) = ((j - 1 : Nat) : Int) := by rw [Ga0 (by omega) (by omega)]; omega
   have hjl : j < l.length := by omega
   have hjl' : j - 1 < l.length := by omega
   simp only [L9, K2, Int.toNat_natCast, hWj, pc3 hjl, pc3 hjl', Xb1 hjl, Xb1 hjl', o9 hj (show n ≤ 4611686018427387904 by omega)]
   rw [btD (n9 hj), bt (f0 hj), bt (f0 (show j - 1 < n by omega)), bt (f0 (show j < n + 1 by omega))]
   simp only [q7]
   rw [show ((gL tP l j).n.x == (gL tP l (j - 1)).n.x && ((gL tP l j).n.y == (gL tP l (j - 1)).n.y && ((gL tP l j).n.z == (gL tP l (j - 1)).n.z && ((gL tP l j).b == (gL tP l (j - 1)).b && true)))) = eqP (gL tP l j) (gL tP l (j - 1)) from rfl]
   cases he : eqP (gL tP l j) (gL tP l (j - 1)) with
   | false => exact .nx ⟨(), rfl, by omega, by omega, i2 he⟩
   | true =>
    obtain ⟨m', cur', k', e2, e3, e4, e5⟩ := inner j hj hj1 (i1 he)
    rw [e2]
    simp only [f0 (show m' < n + 1 by omega)]
    exact .ex (.inl ⟨rfl, j, rfl, hj, hj1, i1 he⟩)
  ·obtain ⟨hj1, hjn, hR⟩ := hx
   refine ⟨2, ?_, .inr ⟨rfl, ?_⟩⟩
   ·simp only [L9, K2]
    rw [bfD (by omega)]
   ·have : j = n := by omega
    subst this
    rw [List.drop_eq_nil_of_le (by rw [List.length_take]; omega)] at hR
    unfold ddF at hR
    rw [List.append_nil] at hR
    exact hR
theorem pe5 (l : List Pln) (n : Nat) (hn : n ≤ l.length) : slR tP (bL tP l) 0 n = l.take n := Lc0 tP (by rw [List.length_take]; omega) fun k hk => by
 rw [Nat.zero_add, X5 tP (by omega)]
 congr 1
 simp [gL, List.getD_eq_getElem?_getD, List.getElem?_take, hk]
theorem pe6 (l : List Pln) (n : Nat) (hn : n ≤ l.length) : okS tP (bL tP l) 0 n = true := Eb6 tP (f := fun k => gL tP l k) fun k hk => by rw [Nat.zero_add, X5 tP (by omega)]
noncomputable def lean (c : List Pln) : List Pln := if ful c then dd (Ja3 (c.filter (keep (pts c)))) else []
theorem Ud7 (p : Pln) (c : List Pln) (hc : c.length ≤ 1000000) : Rd (one (r1L tP)) (cb0 (p, c)) (fun r => r = lean (p :: c)) := by
 have hl : (p :: c).length ≤ 1000000000 := by simp only [List.length_cons]; omega
 have hX := oc9 (p :: c)
 unfold cb0 lean
 simp only [m0, J9, m8, Re5, Re6, Rb6 hl, Rb7 hl, ob0 hl, ob1 hl]
 cases hf : ful (p :: c) with
 | false => exact ⟨_, [], rfl, rfl, rfl⟩
 | true =>
  have ec : o7 (fun k => tP.row (gL tP (p :: c) k)) (List.range (c.length + 1)) = bL tP (p :: c) := lb3 tP (p :: c)
  have hcl : na1 (p, c) = ⟨1, (p :: c).length, bL tP (p :: c)⟩ := by
   unfold na1 P4
   simp only [ec, O5]
   have z : Nat.beq (p :: c).length 0 = false := rfl
   have r : Nat.ble ((0 + (p :: c).length) * 32) room = true := da8 (by simp only [List.length_cons]; omega)
   rw [z, r, Nat.zero_add]
   rfl
  obtain ⟨m, r, e1, e2, e3, e4⟩ := jd3 (p :: c) (pts (p :: c)) hl (by omega)
  have hm : m ≤ (p :: c).length := by
   have h1 := congrArg List.length e3
   have h2 := List.length_filter_le (keep (pts (p :: c))) (p :: c)
   rw [List.length_take] at h1
   omega
  have hs : (Ja3 (r.take m)).length = m := by rw [Xb2, List.length_take]; omega
  have hrows : app (bL tP (Ja3 (r.take m))) (e7 (bL tP r) m) = bL tP (Ja3 (r.take m) ++ r.drop m) := by rw [sd9, La7]
  have hok : okL tP (c.length + 1) (fun k => tP.row (gL tP (p :: c) k)) = true := Eb6 tP (f := fun k => gL tP (p :: c) k) fun _ _ => rfl
  simp only [hcl, e1, pe5 r m e2, pe6 r m e2, hrows, hok]
  obtain ⟨m2, r2, k1, k2, k3⟩ := Uc1 (Ja3 (r.take m) ++ r.drop m) m (by rw [List.length_append, hs]; omega) (by rw [List.length_append, hs, List.length_drop, e4]; omega)
  rw [k1, O5]
  have q1 : Nat.ble m room = true := by rw [Nat.ble_eq]; unfold room; simp only [List.length_cons] at hm; omega
  have q2 : Nat.ble m r.length = true := by rw [Nat.ble_eq]; exact e2
  rw [q1, q2]
  have hfin : r2.take m2 = dd (Ja3 ((p :: c).filter (keep (pts (p :: c))))) := by
   rw [k3, List.take_append_of_le_length (by rw [hs]; omega), List.take_of_length_le (by rw [hs]; omega), e3]
  exact Pd0 k2 rfl hfin
theorem pe7 (p : Pln) (c : List Pln) (hc : c.length ≤ 1000000) : Tb3 (p, c) = lean (p :: c) := (Ud7 p c hc).p
theorem pe8 (p : Pln) (c : List Pln) (hc : c.length ≤ 1000000) : Tb4 (p, c) = true := (Ud7 p c hc).g
end Go.Ev.Ce
namespace Go.Ev.Ce
open Go Go.Ev Go.Ev.L Go.Proofs Go.Sort
theorem gc3 (l : List Pln) : List.Perm (Ja3 l) l := List.mergeSort_perm l _
theorem ce6 (x y z : Pln) (h1 : (!ltOf ja6 y x) = true) (h2 : (!ltOf ja6 z y) = true) : (!ltOf ja6 z x) = true := by
 simp only [Bool.not_eq_true', Wa8, decide_eq_false_iff_not] at *
 unfold LtP at *
 omega
theorem ce7 (x y : Pln) : ((!ltOf ja6 y x) || !ltOf ja6 x y) = true := by
 simp only [Bool.or_eq_true, Bool.not_eq_true', Wa8, decide_eq_false_iff_not]
 unfold LtP
 omega
theorem qc2 (l : List Pln) : (Ja3 l).Pairwise fun x y => (!ltOf ja6 y x) = true := List.pairwise_mergeSort ce6 ce7 l
theorem td1 {l r : List Pln} (hp : List.Perm r l) (hs : r.Pairwise fun x y => (!ltOf ja6 y x) = true) : Ja3 l = r :=
 List.Perm.eq_of_pairwise (fun x y _ _ h1 h2 => Ye3 x y (by simpa using h2) (by simpa using h1)) (qc2 l) hs ((gc3 l).trans hp.symm)
instance : DecidableEq Pln := fun x y => decidable_of_iff _ (vb4 x y)
def U6 : List Pln := [⟨⟨1, 0, 0⟩, 1⟩, ⟨⟨-1, 0, 0⟩, 0⟩, ⟨⟨0, 1, 0⟩, 1⟩, ⟨⟨0, -1, 0⟩, 0⟩, ⟨⟨0, 0, 1⟩, 1⟩, ⟨⟨0, 0, -1⟩, 0⟩]
def U8 : List Pln := [⟨⟨-1, 0, 0⟩, 0⟩, ⟨⟨0, 1, 0⟩, 1⟩, ⟨⟨0, -1, 0⟩, 0⟩, ⟨⟨0, 0, 1⟩, 1⟩, ⟨⟨0, 0, -1⟩, 0⟩, ⟨⟨1, 0, 0⟩, 1⟩, ⟨⟨1, 1, 1⟩, 3⟩, ⟨⟨1, 0, 0⟩, 7⟩]
def C4 : List Pln := [⟨⟨-1, 0, 0⟩, 0⟩, ⟨⟨0, -1, 0⟩, 0⟩, ⟨⟨0, 0, -1⟩, 0⟩, ⟨⟨2, 3, 4⟩, 1⟩]
def U7 : List Pln := [⟨⟨1, 0, 0⟩, 1⟩, ⟨⟨-1, 0, 0⟩, 0⟩, ⟨⟨0, 1, 0⟩, 1⟩, ⟨⟨0, -1, 0⟩, 0⟩, ⟨⟨0, 0, 1⟩, 1⟩, ⟨⟨0, 0, -1⟩, 0⟩, ⟨⟨-1, 0, 0⟩, -1⟩]
def LU : List Pln := [⟨⟨-1, 0, 0⟩, 0⟩, ⟨⟨0, -1, 0⟩, 0⟩, ⟨⟨0, 0, -1⟩, 0⟩, ⟨⟨0, 0, 1⟩, 1⟩, ⟨⟨0, 1, 0⟩, 1⟩, ⟨⟨1, 0, 0⟩, 1⟩]
def PU : List Pt := [⟨1, 1, 1, 1⟩, ⟨1, 1, 0, 1⟩, ⟨1, 0, 1, 1⟩, ⟨1, 0, 0, 1⟩, ⟨0, 1, 1, 1⟩, ⟨0, 1, 0, 1⟩, ⟨0, 0, 1, 1⟩, ⟨0, 0, 0, 1⟩]
def PC : List Pt := [⟨0, 0, 0, 1⟩, ⟨0, 0, 1, 4⟩, ⟨0, 1, 0, 3⟩, ⟨1, 0, 0, 2⟩]
theorem Ne8 : pts U6 = PU := by kernel_rfl
theorem Ne9 : pts C4 = PC := by kernel_rfl
theorem td2 : ful [] = true := by kernel_rfl
theorem Oe0 : ful U7 = false := by kernel_rfl
theorem Oe1 : has U6 ⟨1, 0, 0⟩ = true := by kernel_rfl
theorem Oe2 : has U6 ⟨2, 0, 0⟩ = false := by kernel_rfl
theorem Ye7 : bnd C4 = (⟨0, 0, 0⟩, ⟨1, 1, 1⟩, true) := by kernel_rfl
theorem Ye8 : apart U6 [⟨⟨-1, 0, 0⟩, -1⟩] = true := by kernel_rfl
theorem Ye9 : apart U6 [⟨⟨-1, -1, 0⟩, -1⟩] = false := by kernel_rfl
theorem Ze0 : ce5 U6 [⟨⟨1, 1, 1⟩, 3⟩] = true := by kernel_rfl
theorem Ze1 : ce5 U6 [⟨⟨1, 1, 1⟩, 2⟩] = false := by kernel_rfl
theorem Ze2 : chk [⟨⟨0, 0, 0⟩, 0⟩] = 12 := by kernel_rfl
theorem Ze3 : (⟨⟨1, 0, 0⟩, 1⟩ :: U8).filter (keep (pts (⟨⟨1, 0, 0⟩, 1⟩ :: U8))) = [⟨⟨1, 0, 0⟩, 1⟩, ⟨⟨-1, 0, 0⟩, 0⟩, ⟨⟨0, 1, 0⟩, 1⟩, ⟨⟨0, -1, 0⟩, 0⟩, ⟨⟨0, 0, 1⟩, 1⟩, ⟨⟨0, 0, -1⟩, 0⟩, ⟨⟨1, 0, 0⟩, 1⟩] := by kernel_rfl
theorem Oe3 : ful (⟨⟨1, 0, 0⟩, 1⟩ :: U8) = true := by kernel_rfl
theorem Oe4 : lean (⟨⟨1, 0, 0⟩, 1⟩ :: U8) = LU := by
 unfold lean
 rw [Oe3, if_pos rfl, Ze3, td1 (r := [⟨⟨-1, 0, 0⟩, 0⟩, ⟨⟨0, -1, 0⟩, 0⟩, ⟨⟨0, 0, -1⟩, 0⟩, ⟨⟨0, 0, 1⟩, 1⟩, ⟨⟨0, 1, 0⟩, 1⟩, ⟨⟨1, 0, 0⟩, 1⟩, ⟨⟨1, 0, 0⟩, 1⟩])]
 ·rfl
 ·exact List.isPerm_iff.1 (by kernel_rfl)
 ·exact of_decide_eq_true (by kernel_rfl)
theorem Ce0 : Ib3 = ⟨1, 0, 1, 0, 1, 0⟩ := by kernel_rfl
theorem jd4 : Da3 = some (b true, []) := by
 have le : ∀ {c : List Pln}, c.length ≤ 100 → c.length ≤ 1000000000 := fun h => by omega
 have le' : ∀ {c : List Pln}, c.length ≤ 100 → c.length ≤ 100000000 := fun h => by omega
 have u : U6.length ≤ 100 := by decide
 have u7 : U7.length ≤ 100 := by decide
 have u8 : U8.length ≤ 1000000 := by decide
 have c4 : C4.length ≤ 100 := by decide
 have n0 : ([] : List Pln).length ≤ 100 := by decide
 have o1 : ∀ p : Pln, [p].length ≤ 100 := fun _ => (by decide : 1 ≤ 100)
 unfold Da3
 rw [Ce0]
 simp only [m0, J9]
 rw [show ([⟨⟨1, 0, 0⟩, 1⟩, ⟨⟨-1, 0, 0⟩, 0⟩, ⟨⟨0, 1, 0⟩, 1⟩, ⟨⟨0, -1, 0⟩, 0⟩, ⟨⟨0, 0, 1⟩, 1⟩, ⟨⟨0, 0, -1⟩, 0⟩, ⟨⟨-1, 0, 0⟩, -1⟩] : List Pln) = U7 from rfl,
  show ([⟨⟨-1, 0, 0⟩, 0⟩, ⟨⟨0, 1, 0⟩, 1⟩, ⟨⟨0, -1, 0⟩, 0⟩, ⟨⟨0, 0, 1⟩, 1⟩, ⟨⟨0, 0, -1⟩, 0⟩, ⟨⟨1, 0, 0⟩, 1⟩, ⟨⟨1, 1, 1⟩, 3⟩, ⟨⟨1, 0, 0⟩, 7⟩] : List Pln) = U8 from rfl,
  show ([⟨⟨1, 0, 0⟩, 1⟩, ⟨⟨-1, 0, 0⟩, 0⟩, ⟨⟨0, 1, 0⟩, 1⟩, ⟨⟨0, -1, 0⟩, 0⟩, ⟨⟨0, 0, 1⟩, 1⟩, ⟨⟨0, 0, -1⟩, 0⟩] : List Pln) = U6 from rfl,
  show ([⟨⟨-1, 0, 0⟩, 0⟩, ⟨⟨0, -1, 0⟩, 0⟩, ⟨⟨0, 0, -1⟩, 0⟩, ⟨⟨2, 3, 4⟩, 1⟩] : List Pln) = C4 from rfl,
  show ([⟨⟨-1, 0, 0⟩, 0⟩, ⟨⟨0, -1, 0⟩, 0⟩, ⟨⟨0, 0, -1⟩, 0⟩, ⟨⟨0, 0, 1⟩, 1⟩, ⟨⟨0, 1, 0⟩, 1⟩, ⟨⟨1, 0, 0⟩, 1⟩] : List Pln) = LU from rfl]
 simp only [ob0 (le u), ob1 (le u), ob0 (le c4), ob1 (le c4), Ne8, Ne9, pe7 _ U8 u8, pe8 _ U8 u8, Oe4, Rb6 (le n0), Rb7 (le n0), td2, Rb6 (le u7), Rb7 (le u7), Oe0,
  oe8 (le u), oe9 (le u), Oe1, Oe2, ze8 (le c4), ze9 (le c4), Ye7, Be3 (le' u) (le' (o1 _)), Be4 (le' u) (le' (o1 _)), Ye8, Ye9, pe1 (le u) (le (o1 _)), pe2 (le u) (le (o1 _)), Ze0, Ze1,
  Sd7 _ (le (o1 _)), Sd8 _ (le (o1 _)), Ze2]
 rw [show ([⟨1, 1, 1, 1⟩, ⟨1, 1, 0, 1⟩, ⟨1, 0, 1, 1⟩, ⟨1, 0, 0, 1⟩, ⟨0, 1, 1, 1⟩, ⟨0, 1, 0, 1⟩, ⟨0, 0, 1, 1⟩, ⟨0, 0, 0, 1⟩] : List Pt) = PU from rfl,
  show ([⟨0, 0, 0, 1⟩, ⟨0, 0, 1, 4⟩, ⟨0, 1, 0, 3⟩, ⟨1, 0, 0, 2⟩] : List Pt) = PC from rfl]
 simp only [pc1 PU (by decide), pc2 PU (by decide), pc1 PC (by decide), pc2 PC (by decide), me6 LU (by decide), me7 LU (by decide)]
 rfl
theorem pe9 : Ta3 = true := by unfold Ta3; rw [jd4]; rfl
theorem qe0 : Ta4 = true := by unfold Ta4; rw [jd4]; rfl
end Go.Ev.Ce
section
namespace Go.Ev.Ce
open Go Go.Ev Go.Ev.L Go.Proofs
set_option maxRecDepth 100000
noncomputable def Pd4 : List (Nat × Sum) := [(16, ub8), (109, Rb9), (110, Mc8)]
theorem Fd9 : i6 prog G Pd4 := ⟨Fb3, Wb6, gd9, trivial⟩
noncomputable def Cb3 (x : List Pln) (y : V3) : Option (b7 × List b8) := let t1 := (Na3 (rt tP x)); let t2 := (Ra9 y); let t3 := (mb3 (rt tP x) (⟨y.x, y.y, y.z, 1⟩ : Pt)); (sl (okE tP x) (sl (Na4 (rt tP x)) (sl (t1 == 0) (sl (Sa0 y) (sl t2 (sl (okE tP x) (sl (mb4 (rt tP x) (⟨y.x, y.y, y.z, 1⟩ : Pt)) (some ((b t3), [])) none) none) (some ((b false), []))) none) (some ((b false), []))) none) none)
noncomputable def Xb3 (x : List Pln) (y : V3) : Bool := K5 (one r1B) (Cb3 x y)
noncomputable def Xb4 (x : List Pln) (y : V3) : Bool := okO (one r1B) (Cb3 x y)
noncomputable def jd5 : Sum := oa1 (W7 tP) (R4 tV) (fun x y => .guard (Xb4 x y) (.ret ((one r1B).enc (Xb3 x y), [])))
theorem Pd5 : g9 prog G 29 jd5 := gb5 (bd b29 Fd9) (one r1B) (o := Cb3) fun x y => r9 (by kernel_rfl)
noncomputable def Uc2 : List (Nat × Sum) := [(180, yb1)]
theorem Gd0 : i6 prog G Uc2 := ⟨Sb1, trivial⟩
structure cb1 where
 c7 : List Pln
 f9 : Int
 b9 : Int
 g7 : Int
 d9 : Int
structure na2 where
 is5 : Int
noncomputable def td3 (p : cb1) (s : na2) : St := ⟨((eL tP p.c7) :: (.unk :: (.unk :: ((.ptr 0 0 0 0) :: (.unk :: ((i s.is5) :: (ra 43 []))))))), [⟨0, 4, [[(i p.f9), (i p.b9), (i p.g7), (i p.d9)]], true, false, 0⟩]⟩
noncomputable def Ja5 {α : Type} (k : na2 → α) (e : Nat → α) (z : α) (p : cb1) (s : na2) : α := let t1 := (Y7 (gL tP p.c7 s.is5.toNat) (⟨(⟨p.f9, p.b9, p.g7⟩ : V3), p.d9⟩ : Pln)); (sl (decide (s.is5 < (↑(List.length p.c7) : Int))) (sl (inB s.is5 (List.length p.c7)) (sl (Xa8 (gL tP p.c7 s.is5.toNat) (⟨(⟨p.f9, p.b9, p.g7⟩ : V3), p.d9⟩ : Pln)) (sl (decide (t1 < 0)) (k ⟨(W (s.is5 + 1))⟩) (e 1)) z) z) (e 2))
noncomputable def Ea9 (p : cb1) (s : na2) : Stp na2 := Ja5 .next .exit .fail p s
noncomputable def Tb6 : Lo cb1 na2 := ⟨En Uc2, 0, Ee4, [1, 1, 0, 4, 4], [0, 3, 5], .p, [⟨((.s (.c 4 (nL tP))) :: ((.s (.o .unk)) :: ((.s (.o .unk)) :: ((.s (.o (.ptr 0 0 0 0))) :: ((.s (.o .unk)) :: ((.s (.o (.int .i64))) :: (ru2 43 []))))))), [⟨0, 4, true, (some [[(.o (.int .i64)), (.o (.int .i64)), (.o (.int .i64)), (.o (.int .i64))]])⟩], fun a H => (⟨(rL tP (slT a 0)), (toI (slT (rwT (elT H 0) 0) 0)), (toI (slT (rwT (elT H 0) 0) 1)), (toI (slT (rwT (elT H 0) 0) 2)), (toI (slT (rwT (elT H 0) 0) 3))⟩, ⟨(toI (slT a 5))⟩)⟩], Ea9, [(some 0, fun p s => let t1 := (Y7 (gL tP p.c7 s.is5.toNat) (⟨(⟨p.f9, p.b9, p.g7⟩ : V3), p.d9⟩ : Pln)); ⟨((eL tP p.c7) :: (.unk :: (.unk :: ((.ptr 0 0 0 0) :: (.unk :: ((i s.is5) :: (.unk :: ((i s.is5) :: ((eL tP p.c7) :: ((i (↑(List.length p.c7) : Int)) :: ((b (decide (s.is5 < (↑(List.length p.c7) : Int)))) :: ((b true) :: ((eL tP p.c7) :: ((i s.is5) :: ((.tptr [(i (gL tP p.c7 s.is5.toNat).n.x), (i (gL tP p.c7 s.is5.toNat).n.y), (i (gL tP p.c7 s.is5.toNat).n.z), (i (gL tP p.c7 s.is5.toNat).b)]) :: ((.agg [(i (gL tP p.c7 s.is5.toNat).n.x), (i (gL tP p.c7 s.is5.toNat).n.y), (i (gL tP p.c7 s.is5.toNat).n.z), (i (gL tP p.c7 s.is5.toNat).b)]) :: ((.agg [(i p.f9), (i p.b9), (i p.g7), (i p.d9)]) :: ((i t1) :: ((b (decide (t1 < 0))) :: ((b (decide (t1 < 0))) :: (ra 29 []))))))))))))))))))))), [⟨0, 4, [[(i p.f9), (i p.b9), (i p.g7), (i p.d9)]], true, false, 0⟩]⟩), (some 0, fun p s => ⟨((eL tP p.c7) :: (.unk :: (.unk :: ((.ptr 0 0 0 0) :: (.unk :: ((i s.is5) :: (.unk :: ((i s.is5) :: ((eL tP p.c7) :: ((i (↑(List.length p.c7) : Int)) :: ((b (decide (s.is5 < (↑(List.length p.c7) : Int)))) :: ((b false) :: (u :: (u :: (u :: (u :: (u :: (u :: (u :: ((b false) :: (ra 29 []))))))))))))))))))))), [⟨0, 4, [[(i p.f9), (i p.b9), (i p.g7), (i p.d9)]], true, false, 0⟩]⟩)], td3⟩
theorem td4 : Tb6.Ok := Lo.ok [] (by kernel_rfl) .nil rfl (.cons (fun a H => by kernel_rfl) .nil) fun p s => (.of @Ja5 (fun F _ _ _ _ _ => by unfold Ja5; (repeat' apply k9 (f := F)) <;> rfl) (by kernel_rfl))
noncomputable def Cb4 (x : List Pln) (y : Pln) : Option (b7 × List b8) := let t1 := (lp (Ea9 (⟨(rt tP x), y.n.x, y.n.y, y.n.z, y.b⟩ : cb1)) (⟨0⟩ : na2)); let a0 := (o7 (fun k => (fun k => (tP).row (gL tP (rt tP x) k)) (0 + k)) (List.range (t1.2.is5.toNat - 0))); let a1 := (o7 (fun k => (fun k => (tP).row (gL tP (rt tP x) k)) (t1.2.is5.toNat + k)) (List.range ((List.length (rt tP x)) - t1.2.is5.toNat))); let a2 := (inB t1.2.is5 ((List.length (rt tP x)) + 1)); let a3 := (Nat.beq (0 + (len a0)) (len (app [] a0)) && Nat.ble (((0 + (len a0)) + 1) * 32) room); let a4 := (((0 + (len a0)) + 1) + (len a1)); let a5 := (gL tP (rt tP x) t1.2.is5.toNat); let a6 := (Nat.beq 1 1 && Nat.ble ((1 + (len a1)) * 32) room); let a7 := (Nat.beq 0 0 && Nat.ble ((0 + (len a0)) * 32) room); (sl ((cnE tP x) && true) (sl (Nat.beq t1.1 1) (sl (decide (t1.2.is5 < (↑(List.length (rt tP x)) : Int))) (sl (inB t1.2.is5 (List.length (rt tP x))) (sl ((a5.n.x == y.n.x) && ((a5.n.y == y.n.y) && ((a5.n.z == y.n.z) && ((a5.b == y.b) && true)))) (some ((eL tP (rt tP x)), [])) (sl a2 (sl (Nat.beq (len a0) 0) (sl a2 (sl (Nat.beq (len a1) 0) (some ((.sl 0 0 1 0), [⟨50, 4, [[(i y.n.x), (i y.n.y), (i y.n.z), (i y.b)]], true, false, 0⟩])) (sl a6 (some ((.sl 0 0 (1 + (len a1)) 0), [⟨50, 4, (app [[(i y.n.x), (i y.n.y), (i y.n.z), (i y.b)]] a1), true, false, 0⟩])) none)) none) (sl a7 (sl a3 (sl a2 (sl (Nat.beq (len a1) 0) (some ((.sl 0 0 ((0 + (len a0)) + 1) 0), [⟨50, 4, (app (app [] a0) [[(i y.n.x), (i y.n.y), (i y.n.z), (i y.b)]]), true, false, 0⟩])) (sl (Nat.beq ((0 + (len a0)) + 1) (len (app (app [] a0) [[(i y.n.x), (i y.n.y), (i y.n.z), (i y.b)]])) && Nat.ble (a4 * 32) room) (some ((.sl 0 0 a4 0), [⟨50, 4, (app (app (app [] a0) [[(i y.n.x), (i y.n.y), (i y.n.z), (i y.b)]]) a1), true, false, 0⟩])) none)) none) none) none)) none)) none) (sl a2 (sl (Nat.beq (len a0) 0) (sl a2 (sl (Nat.beq (len a1) 0) (some ((.sl 0 0 1 0), [⟨50, 4, [[(i y.n.x), (i y.n.y), (i y.n.z), (i y.b)]], true, false, 0⟩])) (sl a6 (some ((.sl 0 0 (1 + (len a1)) 0), [⟨50, 4, (app [[(i y.n.x), (i y.n.y), (i y.n.z), (i y.b)]] a1), true, false, 0⟩])) none)) none) (sl a7 (sl a3 (sl a2 (sl (Nat.beq (len a1) 0) (some ((.sl 0 0 ((0 + (len a0)) + 1) 0), [⟨50, 4, (app (app [] a0) [[(i y.n.x), (i y.n.y), (i y.n.z), (i y.b)]]), true, false, 0⟩])) (sl (Nat.beq ((0 + (len a0)) + 1) (len (app (app [] a0) [[(i y.n.x), (i y.n.y), (i y.n.z), (i y.b)]])) && Nat.ble (a4 * 32) room) (some ((.sl 0 0 a4 0), [⟨50, 4, (app (app (app [] a0) [[(i y.n.x), (i y.n.y), (i y.n.z), (i y.b)]]) a1), true, false, 0⟩])) none)) none) none) none)) none)) (sl (Nat.beq t1.1 2) (sl (decide (t1.2.is5 < (↑(List.length (rt tP x)) : Int))) (sl (inB t1.2.is5 (List.length (rt tP x))) (sl ((a5.n.x == y.n.x) && ((a5.n.y == y.n.y) && ((a5.n.z == y.n.z) && ((a5.b == y.b) && true)))) (some ((eL tP (rt tP x)), [])) (sl a2 (sl (Nat.beq (len a0) 0) (sl a2 (sl (Nat.beq (len a1) 0) (some ((.sl 0 0 1 0), [⟨50, 4, [[(i y.n.x), (i y.n.y), (i y.n.z), (i y.b)]], true, false, 0⟩])) (sl a6 (some ((.sl 0 0 (1 + (len a1)) 0), [⟨50, 4, (app [[(i y.n.x), (i y.n.y), (i y.n.z), (i y.b)]] a1), true, false, 0⟩])) none)) none) (sl a7 (sl a3 (sl a2 (sl (Nat.beq (len a1) 0) (some ((.sl 0 0 ((0 + (len a0)) + 1) 0), [⟨50, 4, (app (app [] a0) [[(i y.n.x), (i y.n.y), (i y.n.z), (i y.b)]]), true, false, 0⟩])) (sl (Nat.beq ((0 + (len a0)) + 1) (len (app (app [] a0) [[(i y.n.x), (i y.n.y), (i y.n.z), (i y.b)]])) && Nat.ble (a4 * 32) room) (some ((.sl 0 0 a4 0), [⟨50, 4, (app (app (app [] a0) [[(i y.n.x), (i y.n.y), (i y.n.z), (i y.b)]]) a1), true, false, 0⟩])) none)) none) none) none)) none)) none) (sl a2 (sl (Nat.beq (len a0) 0) (sl a2 (sl (Nat.beq (len a1) 0) (some ((.sl 0 0 1 0), [⟨50, 4, [[(i y.n.x), (i y.n.y), (i y.n.z), (i y.b)]], true, false, 0⟩])) (sl a6 (some ((.sl 0 0 (1 + (len a1)) 0), [⟨50, 4, (app [[(i y.n.x), (i y.n.y), (i y.n.z), (i y.b)]] a1), true, false, 0⟩])) none)) none) (sl a7 (sl a3 (sl a2 (sl (Nat.beq (len a1) 0) (some ((.sl 0 0 ((0 + (len a0)) + 1) 0), [⟨50, 4, (app (app [] a0) [[(i y.n.x), (i y.n.y), (i y.n.z), (i y.b)]]), true, false, 0⟩])) (sl (Nat.beq ((0 + (len a0)) + 1) (len (app (app [] a0) [[(i y.n.x), (i y.n.y), (i y.n.z), (i y.b)]])) && Nat.ble (a4 * 32) room) (some ((.sl 0 0 a4 0), [⟨50, 4, (app (app (app [] a0) [[(i y.n.x), (i y.n.y), (i y.n.z), (i y.b)]]) a1), true, false, 0⟩])) none)) none) none) none)) none)) none)) none)
noncomputable def kb2 (x : List Pln) (y : Pln) : List Pln := K5 (one (r1L tP)) (Cb4 x y)
noncomputable def kb3 (x : List Pln) (y : Pln) : Bool := okO (one (r1L tP)) (Cb4 x y)
noncomputable def jd6 : Sum := oa1 (W7 tP) (R4 tP) (fun x y => .guard (kb3 x y) (.ret ((one (r1L tP)).enc (kb2 x y), [])))
theorem Pd6 : g9 prog G 106 jd6 := gb5 (bd df9 Gd0) (one (r1L tP)) (o := Cb4) fun x y => sa6 (.s .p (.s .p (.s (.b (.u Tb6.ls)) .p))) [Tb6.pr] (by kernel_rfl) (.cons td4 .nil) (by kernel_rfl)
structure qe1 where
 Bc1 : List Pln
 Ze9 : List Pt
structure qe2 where
 is6 : Int
end Go.Ev.Ce
end
namespace Go.Ev.L
open Go Go.Ev
noncomputable def Oe5 : Cod Unit where
 enc _ := .v (.slice none 0 0)
 dec x := match x with
  | .v (.slice none 0 0) => some ()
  | _ => none
 grd _ := true
 ok x a hx _ := by
  split at hx
  ·exact .refl _
  ·cases hx
noncomputable def cE0 : Cod (Addr × Nat) where
 enc z := .v (.slice (some z.1) 0 z.2)
 dec x := match x with
  | .v (.slice (some a) 0 c) => some (a, c)
  | _ => none
 grd _ := true
 ok x a hx _ := by
  split at hx
  ·cases hx; exact .refl _
  ·cases hx
section
variable {α : Type} {t : Ty α} {P : Program} {G : Nat → List Value} {f : FuncId}
theorem td5 {β : Type} {c : Cod β} {k k' : β → DT (b7 × List b8)} (h : g9 P G f (R3 c k)) (hk : ∀ a r, (k' a).run = some r → (k a).run = some r) : g9 P G f (R3 c k') := h.le fun args blks r hr => by
 unfold R3 at hr ⊢
 split at hr
 ·obtain ⟨a, h1, hr⟩ := L7 hr
  obtain ⟨g, hr⟩ := DT.run_guard_some hr
  simp only [h1, onO, g]
  exact hk a r hr
 ·cases hr
theorem Oe6 {k : List α → DT (b7 × List b8)} (hA : g9 P G f (R3 (ge2 t) fun z => k (z.1 :: z.2))) (hN : g9 P G f (R3 Oe5 fun _ => k [])) (hE : g9 P G f (R3 cE0 fun _ => k [])) : g9 P G f (R3 (W7 t) k) := by
 intro args blks r out he W ρ F w args' hH hlen hargs hG
 unfold R3 at he
 split at he
 ·rename_i x
  obtain ⟨a, h1, he⟩ := L7 he
  obtain ⟨g1, hk⟩ := DT.run_guard_some he
  have nilCase : ∀ v', args'[0]? = some v' → v' = .slice none 0 0 → a = [] → kb8 P f ∧ Calls P f args'.toArray w fun e w' => ∃ r', e = .returned r' ∧ O3 W ρ [] F w r out r' w' := fun v' hv e ha => by
   subst ha
   refine hN [.v (.slice none 0 0)] [] r out ?_ W ρ F w args' hH hlen (fun i x' y' hx hy => ?_) hG
   ·exact hk
   ·match i with
    | 0 => cases hx; rw [hv] at hy; cases hy; rw [e]; exact .val (.cell (.v _))
    | i + 1 => cases hx
  have emptyCase : ∀ v' ad c, args'[0]? = some v' → v' = .slice (some ad) 0 c → a = [] → kb8 P f ∧ Calls P f args'.toArray w fun e w' => ∃ r', e = .returned r' ∧ O3 W ρ [] F w r out r' w' := fun v' ad c hv e ha => by
   subst ha
   refine hE [.v (.slice (some ad) 0 c)] [] r out ?_ W ρ F w args' hH hlen (fun i x' y' hx hy => ?_) hG
   ·exact hk
   ·match i with
    | 0 => cases hx; rw [hv] at hy; cases hy; rw [e]; exact .val (.cell (.v _))
    | i + 1 => cases hx
  obtain ⟨v', hv⟩ : ∃ v', args'[0]? = some v' := by
   cases args' with
   | nil => simp at hlen
   | cons v' r' => exact ⟨v', rfl⟩
  cases x with
  | tree e n get =>
   have hb : Nat.beq e t.es = true ∧ a = lsL t n get := by
    have h1 : (Bool.rec none (some (lsL t n get)) (Nat.beq e t.es) : Option (List α)) = some a := h1
    cases hb : Nat.beq e t.es with
    | false => rw [hb] at h1; cases h1
    | true =>
     rw [hb] at h1
     have h1 : some (lsL t n get) = some a := h1
     injection h1 with h1
     exact ⟨rfl, h1.symm⟩
   cases n with
   | zero =>
    have ha : a = [] := hb.2
    have hm := ua6 (hargs 0 _ v' rfl hv)
    cases hm with
    | tree _ _ _ ad cap cs hs hcap hes hF hw hr => exact emptyCase _ ad cap hv rfl ha
    | nil => exact nilCase _ hv rfl ha
   | succ m =>
    have ha : a = hC t get :: tC t m get := hb.2.trans (xd9 t m get)
    subst ha
    refine hA [.tree e (m + 1) get] [] r out ?_ W ρ F w args' hH hlen hargs hG
    have hc : (ge2 t).dec (.tree e (m + 1) get) = some (hC t get, tC t m get) := by
     show (Bool.rec none (some (hC t get, tC t m get)) (Nat.beq e t.es) : Option (α × List α)) = _
     rw [hb.1]
    have hg : (ge2 t).grd (.tree e (m + 1) get) = true := g1
    simp only [R3, hc, onO, hg]
    exact hk
  | v q =>
   have hq := da0 (hargs 0 _ v' rfl hv)
   unfold W7 at h1
   simp only at h1
   split at h1
   ·rename_i heq; cases heq
   ·rename_i heq
    injection heq with heq
    injection h1 with h1
    exact nilCase v' hv (hq.trans heq) h1.symm
   ·rename_i ad c heq
    injection heq with heq
    injection h1 with h1
    exact emptyCase v' _ _ hv (hq.trans heq) h1.symm
   ·cases h1
  | _ => cases h1
 ·cases he
end
end Go.Ev.L
section
namespace Go.Ev.Ce
open Go Go.Ev Go.Ev.L Go.Proofs
set_option maxRecDepth 100000
noncomputable def pb9 : List (Nat × Sum) := []
theorem Zb2 : i6 prog G pb9 := trivial
@[reducible] noncomputable def vb5 : Sum := i8 (En pb9) Ge3
theorem gc4 : g9 prog G 231 vb5 := bd jf0 Zb2
noncomputable def qb0 : List (Nat × Sum) := []
theorem Zb3 : i6 prog G qb0 := trivial
@[reducible] noncomputable def vb6 : Sum := i8 (En qb0) Ge2
theorem gc5 : g9 prog G 230 vb6 := bd if9 Zb3
noncomputable def Cb5 : List (Nat × Sum) := [(230, vb6), (231, vb5)]
theorem qc3 : i6 prog G Cb5 := ⟨gc5, gc4, trivial⟩
@[reducible] noncomputable def Kb4 : Sum := i8 (En Cb5) Fe2
theorem xc1 : g9 prog G 178 Kb4 := bd gf8 qc3
structure B4 where
noncomputable def ba2 : List (Nat × Sum) := []
theorem Da4 : i6 prog G ba2 := trivial
structure r7 where
structure m9 where
noncomputable def za2 (p : r7) (s : m9) : St := ⟨((.v (.slice none 0 0)) :: ((i 0) :: ((i 0) :: ((.fn 104 []) :: (ra 4 ((i 1) :: (ra 44 []))))))), []⟩
noncomputable def H4 {α : Type} (k : m9 → α) (e : Nat → α) (z : α) (p : r7) (s : m9) : α := (e 1)
noncomputable def J3 (p : r7) (s : m9) : Stp m9 := H4 .next .exit .fail p s
noncomputable def K3 : Lo r7 m9 := ⟨En ba2, 0, Ge1, [1, 4, 4], [0, 1, 2, 3, 8], .p, [⟨((.s (.o .nil)) :: ((.s (.o (.lit .i64 0))) :: ((.s (.o (.lit .i64 0))) :: ((.s (.o (.fn 104))) :: (ru2 4 ((.s (.o (.lit .i64 1))) :: (ru2 44 []))))))), [], fun a H => (⟨⟩, ⟨⟩)⟩], J3, [(some 0, fun p s => ⟨((.v (.slice none 0 0)) :: ((i 0) :: ((i 0) :: ((.fn 104 []) :: (ra 4 ((i 1) :: (ra 3 ((i 1) :: ((i 0) :: ((b false) :: (ra 38 []))))))))))), []⟩)], za2⟩
theorem za3 : K3.Ok := Lo.ok [] (by kernel_rfl) .nil rfl (.cons (fun a H => by kernel_rfl) .nil) fun p s => (.of @H4 (fun F _ _ _ _ _ => by unfold H4; (repeat' apply k9 (f := F)) <;> rfl) (by kernel_rfl))
structure B5 where
 alt : Nat
noncomputable def p6 {α : Type} (kk : B5 → α) (x : B4) : α := let t1 := (lp (J3 (⟨⟩ : r7)) (⟨⟩ : m9)); (sl (Nat.beq t1.1 1) (kk ⟨1⟩) (kk ⟨0⟩))
noncomputable def B6 (x : B4) : B5 := p6 (fun r => r) x
noncomputable def L1 (x : B4) (r : B5) : DT (b7 × List b8) := (.ite (Nat.beq r.alt 1) (.ret ((.tup []), [])) .fail)
theorem Ga2 {α β : Type} (F : α → β) (kk : B5 → α) (x : B4) : F (p6 kk x) = p6 (fun r => F (kk r)) x := by unfold p6; (repeat' apply k9 (f := F)) <;> rfl
noncomputable def da4 : Sum := Pa4 ⟨[(.s (.o .nil)), (.s (.o (.lit .i64 0))), (.s (.o (.lit .i64 0))), (.s (.o (.fn 104)))], [], fun a H => (⟨⟩, ())⟩ (fun x => L1 x (B6 x))
theorem Fa0 : g9 prog G 222 da4 := J5 (enc := fun x => ⟨[(.v (.slice none 0 0)), (i 0), (i 0), (.fn 104 [])], []⟩) (fun a H => by kernel_rfl) (bd if8 Da4) fun x => sa6 (.s .p (.b (.u K3.ls))) [K3.pr] (by kernel_rfl) (.cons za3 .nil) (Eq.trans (b := p6 (fun r => (L1 x r).run) x) (by kernel_rfl) (Ga2 (fun r => (L1 x r).run) (fun r => r) x).symm)
structure L2 where
noncomputable def pa4 : List (Nat × Sum) := [(222, da4)]
theorem Ta5 : i6 prog G pa4 := ⟨Fa0, trivial⟩
structure A6 where
structure p5 where
noncomputable def Oa2 (p : A6) (s : p5) : St := ⟨((.v (.slice none 0 0)) :: ((i 0) :: ((i 0) :: ((i 0) :: ((.fn 104 []) :: (ra 5 ((b true) :: ((b true) :: (ra 136 []))))))))), []⟩
noncomputable def E2 {α : Type} (k : p5 → α) (e : Nat → α) (z : α) (p : A6) (s : p5) : α := let t1 := (B6 ⟨⟩); (sl (Nat.beq t1.alt 1) (e 1) z)
noncomputable def F8 (p : A6) (s : p5) : Stp p5 := E2 .next .exit .fail p s
noncomputable def T2 : Lo A6 p5 := ⟨En pa4, 0, Fe1, [1, 1, 4, 4], [0, 1, 2, 3, 4, 10, 11], .p, [⟨((.s (.o .nil)) :: ((.s (.o (.lit .i64 0))) :: ((.s (.o (.lit .i64 0))) :: ((.s (.o (.lit .i64 0))) :: ((.s (.o (.fn 104))) :: (ru2 5 ((.s (.o (.blit true))) :: ((.s (.o (.blit true))) :: (ru2 136 []))))))))), [], fun a H => (⟨⟩, ⟨⟩)⟩], F8, [(none, fun p s => ⟨[(.tup [])], []⟩)], Oa2⟩
theorem Oa3 : T2.Ok := Lo.ok [] (by kernel_rfl) .nil rfl (.cons (fun a H => by kernel_rfl) .nil) fun p s => (.of @E2 (fun F _ _ _ _ _ => by unfold E2; (repeat' apply k9 (f := F)) <;> rfl) (by kernel_rfl))
structure L3 where
 alt : Nat
noncomputable def w7 {α : Type} (kk : L3 → α) (x : L2) : α := let t1 := (lp (F8 (⟨⟩ : A6)) (⟨⟩ : p5)); (sl (Nat.beq t1.1 1) (kk ⟨1⟩) (kk ⟨0⟩))
noncomputable def L4 (x : L2) : L3 := w7 (fun r => r) x
noncomputable def U1 (x : L2) (r : L3) : DT (b7 × List b8) := (.ite (Nat.beq r.alt 1) (.ret ((.tup []), [])) .fail)
theorem Wa9 {α β : Type} (F : α → β) (kk : L3 → α) (x : L2) : F (w7 kk x) = w7 (fun r => F (kk r)) x := by unfold w7; (repeat' apply k9 (f := F)) <;> rfl
noncomputable def sa2 : Sum := Pa4 ⟨[(.s (.o .nil)), (.s (.o (.lit .i64 0))), (.s (.o (.lit .i64 0))), (.s (.o (.lit .i64 0))), (.s (.o (.fn 104)))], [], fun a H => (⟨⟩, ())⟩ (fun x => U1 x (L4 x))
theorem Ua0 : g9 prog G 177 sa2 := J5 (enc := fun x => ⟨[(.v (.slice none 0 0)), (i 0), (i 0), (i 0), (.fn 104 [])], []⟩) (fun a H => by kernel_rfl) (bd gf7 Ta5) fun x => sa6 (.s .p (.s .p (.b (.u T2.ls)))) [T2.pr] (by kernel_rfl) (.cons Oa3 .nil) (Eq.trans (b := w7 (fun r => (U1 x r).run) x) (by kernel_rfl) (Wa9 (fun r => (U1 x r).run) (fun r => r) x).symm)
structure Z2 where
noncomputable def tb1 : List (Nat × Sum) := [(177, sa2), (178, Kb4)]
theorem qb1 : i6 prog G tb1 := ⟨Ua0, xc1, trivial⟩
structure Z3 where
 alt : Nat
noncomputable def G5 {α : Type} (kk : Z3 → α) (x : Z2) : α := let t1 := (L4 ⟨⟩); (sl (Nat.beq t1.alt 1) (kk ⟨1⟩) (kk ⟨0⟩))
noncomputable def Z4 (x : Z2) : Z3 := G5 (fun r => r) x
noncomputable def ka3 (x : Z2) (r : Z3) : DT (b7 × List b8) := (.ite (Nat.beq r.alt 1) (.ret ((.tup []), [])) .fail)
theorem zb3 {α β : Type} (F : α → β) (kk : Z3 → α) (x : Z2) : F (G5 kk x) = G5 (fun r => F (kk r)) x := by unfold G5; (repeat' apply k9 (f := F)) <;> rfl
noncomputable def Ja6 : Sum := Pa4 ⟨[(.s (.o .nil)), (.s (.o (.fn 104)))], [], fun a H => (⟨⟩, ())⟩ (fun x => ka3 x (Z4 x))
theorem tb2 : g9 prog G 103 Ja6 := J5 (enc := fun x => ⟨[(.v (.slice none 0 0)), (.fn 104 [])], []⟩) (fun a H => by kernel_rfl) (bd df7 qb1) fun x => r9 (Eq.trans (b := G5 (fun r => (ka3 x r).run) x) (by kernel_rfl) (zb3 (fun r => (ka3 x r).run) (fun r => r) x).symm)
structure W5 where
 g8 : List Pt
noncomputable def Da5 : List (Nat × Sum) := []
theorem ib8 : i6 prog G Da5 := trivial
structure I6 where
 g8 : List Pt
structure v7 where
noncomputable def fb5 (p : I6) (s : v7) : St := ⟨((.v (.slice none 0 0)) :: ((.fn 101 [(.ptr 0 0 0 0)]) :: (ra 5 ((i 0) :: ((i 0) :: (ra 10 [])))))), [⟨0, 1, [[(eL tX p.g8)]], true, false, 0⟩]⟩
noncomputable def aa8 {α : Type} (k : v7 → α) (e : Nat → α) (z : α) (p : I6) (s : v7) : α := (e 1)
noncomputable def ca9 (p : I6) (s : v7) : Stp v7 := aa8 .next .exit .fail p s
noncomputable def fa7 : Lo I6 v7 := ⟨En Da5, 1, Ad4, [1, 0, 1, 4, 4], [0, 1, 7, 8], .p, [⟨((.s (.o .nil)) :: ((.fn 101 [(.o (.ptr 0 0 0 0))]) :: (ru2 5 ((.s (.o (.lit .i64 0))) :: ((.s (.o (.lit .i64 0))) :: (ru2 10 [])))))), [⟨0, 1, true, (some [[(.c 4 (nL tX))]])⟩], fun a H => (⟨(rL tX (slT (rwT (elT H 0) 0) 0))⟩, ⟨⟩)⟩], ca9, [(some 0, fun p s => ⟨((.v (.slice none 0 0)) :: ((.fn 101 [(.ptr 0 0 0 0)]) :: (ra 5 ((i 0) :: ((i 0) :: ((b false) :: (ra 9 []))))))), [⟨0, 1, [[(eL tX p.g8)]], true, false, 0⟩]⟩)], fb5⟩
theorem fb6 : fa7.Ok := Lo.ok [] (by kernel_rfl) .nil rfl (.cons (fun a H => by kernel_rfl) .nil) fun p s => (.of @aa8 (fun F _ _ _ _ _ => by unfold aa8; (repeat' apply k9 (f := F)) <;> rfl) (by kernel_rfl))
structure W6 where
 alt : Nat
 g8 : List Pt
noncomputable def E0 {α : Type} (kk : W6 → α) (x : W5) : α := let t1 := (lp (ca9 (⟨(rt tX x.g8)⟩ : I6)) (⟨⟩ : v7)); (sl ((cnE tX x.g8) && true) (sl (Nat.beq t1.1 1) (kk ⟨1, (rt tX x.g8)⟩) (kk ⟨0, []⟩)) (kk ⟨0, []⟩))
noncomputable def ka4 (x : W5) : W6 := E0 (fun r => r) x
noncomputable def ia4 (x : W5) (r : W6) : DT (b7 × List b8) := (.ite (Nat.beq r.alt 1) (.ret ((i (-1)), [⟨0, 1, [[(eL tX r.g8)]], true, false, 0⟩])) .fail)
theorem tb3 {α β : Type} (F : α → β) (kk : W6 → α) (x : W5) : F (E0 kk x) = E0 (fun r => F (kk r)) x := by unfold E0; (repeat' apply k9 (f := F)) <;> rfl
noncomputable def Fa8 : Sum := Pa4 ⟨[(.s (.o .nil)), (.fn 101 [(.o (.ptr 0 0 0 0))])], [⟨0, 1, true, (some [[(.c 4 (nL tX))]])⟩], fun a H => (⟨(rL tX (slT (rwT (elT H 0) 0) 0))⟩, ())⟩ (fun x => ia4 x (ka4 x))
theorem qb2 : g9 prog G 163 Fa8 := J5 (enc := fun x => ⟨[(.v (.slice none 0 0)), (.fn 101 [(.ptr 0 0 0 0)])], [⟨0, 1, [[(eL tX x.g8)]], true, false, 0⟩]⟩) (fun a H => by kernel_rfl) (bd xe5 ib8) fun x => sa6 (.s .p (.s (.s .p (.b (.u fa7.ls))) .p)) [fa7.pr] (by kernel_rfl) (.cons fb6 .nil) (Eq.trans (b := E0 (fun r => (ia4 x r).run) x) (by kernel_rfl) (tb3 (fun r => (ia4 x r).run) (fun r => r) x).symm)
structure T3 where
 g8 : List Pt
noncomputable def ib9 : List (Nat × Sum) := [(163, Fa8)]
theorem fb7 : i6 prog G ib9 := ⟨qb2, trivial⟩
structure T4 where
 alt : Nat
 g8 : List Pt
noncomputable def B8 {α : Type} (kk : T4 → α) (x : T3) : α := let t1 := (ka4 ⟨(rt tX x.g8)⟩); (sl ((cnE tX x.g8) && true) (sl (Nat.beq t1.alt 1) (kk ⟨1, t1.g8⟩) (kk ⟨0, []⟩)) (kk ⟨0, []⟩))
noncomputable def T5 (x : T3) : T4 := B8 (fun r => r) x
noncomputable def fa8 (x : T3) (r : T4) : DT (b7 × List b8) := (.ite (Nat.beq r.alt 1) (.ret ((.v (.slice none 0 0)), [⟨0, 1, [[(eL tX r.g8)]], true, false, 0⟩])) .fail)
theorem qb3 {α β : Type} (F : α → β) (kk : T4 → α) (x : T3) : F (B8 kk x) = B8 (fun r => F (kk r)) x := by unfold B8; (repeat' apply k9 (f := F)) <;> rfl
noncomputable def Da6 : Sum := Pa4 ⟨[(.s (.o .nil)), (.fn 101 [(.o (.ptr 0 0 0 0))])], [⟨0, 1, true, (some [[(.c 4 (nL tX))]])⟩], fun a H => (⟨(rL tX (slT (rwT (elT H 0) 0) 0))⟩, ())⟩ (fun x => fa8 x (T5 x))
theorem jb0 : g9 prog G 99 Da6 := J5 (enc := fun x => ⟨[(.v (.slice none 0 0)), (.fn 101 [(.ptr 0 0 0 0)])], [⟨0, 1, [[(eL tX x.g8)]], true, false, 0⟩]⟩) (fun a H => by kernel_rfl) (bd b99 fb7) fun x => sa6 .p [] (by kernel_rfl) .nil (Eq.trans (b := B8 (fun r => (fa8 x r).run) x) (by kernel_rfl) (qb3 (fun r => (fa8 x r).run) (fun r => r) x).symm)
structure ba3 where
noncomputable def zb4 : List (Nat × Sum) := []
theorem tb4 : i6 prog G zb4 := trivial
structure ba4 where
noncomputable def P5 {α : Type} (kk : ba4 → α) (x : ba3) : α := (kk ⟨⟩)
noncomputable def Cb6 (x : ba3) : ba4 := P5 (fun r => r) x
noncomputable def pa3 (x : ba3) (r : ba4) : DT (b7 × List b8) := .ret ((.v (.slice none 0 0)), [])
theorem Cb7 {α β : Type} (F : α → β) (kk : ba4 → α) (x : ba3) : F (P5 kk x) = P5 (fun r => F (kk r)) x := by unfold P5; (repeat' apply k9 (f := F)) <;> rfl
noncomputable def Oa0 : Sum := Pa4 ⟨[(.s (.o .nil))], [], fun a H => (⟨⟩, ())⟩ (fun x => pa3 x (Cb6 x))
theorem zb5 : g9 prog G 105 Oa0 := J5 (enc := fun x => ⟨[(.v (.slice none 0 0))], []⟩) (fun a H => by kernel_rfl) (bd We4 tb4) fun x => sa6 .p [] (by kernel_rfl) .nil (Eq.trans (b := P5 (fun r => (pa3 x r).run) x) (by kernel_rfl) (Cb7 (fun r => (pa3 x r).run) (fun r => r) x).symm)
noncomputable def Ib5 : List (Nat × Sum) := []
theorem Cb8 : i6 prog G Ib5 := trivial
structure ja4 where
noncomputable def X1 {α : Type} (kk : ja4 → α) (x : Unit) : α := (kk ⟨⟩)
noncomputable def Lb3 (x : Unit) : ja4 := X1 (fun r => r) x
noncomputable def ua3 (r : ja4) : DT (b7 × List b8) := .ret ((.v (.slice none 0 0)), [])
theorem Lb4 {α β : Type} (F : α → β) (kk : ja4 → α) (x : Unit) : F (X1 kk x) = X1 (fun r => F (kk r)) x := by unfold X1; (repeat' apply k9 (f := F)) <;> rfl
noncomputable def Ua4 : Sum := R3 Oe5 (fun x => ua3 (Lb3 x))
theorem Ib6 : g9 prog G 100 Ua4 := Eb5 (bd Le6 Cb8) fun x => r9 (Eq.trans (b := X1 (fun r => (ua3 r).run) x) (by kernel_rfl) (Lb4 (fun r => (ua3 r).run) (fun r => r) x).symm)
noncomputable def cd3 : List (Nat × Sum) := [(20, sa9), (18, oa4), (100, Ua4), (99, Da6), (103, Ja6), (105, Oa0)]
theorem Uc3 : i6 prog G cd3 := ⟨ta7, ra1, Ib6, jb0, tb2, zb5, trivial⟩
noncomputable def Ta6 (x : Unit) : Option (b7 × List b8) := let t1 := (aa2 []); let t2 := (Q9 []); let t4 := (T5 ⟨(rt tX t2)⟩); let t5 := (Z4 ⟨⟩); (sl (aa3 []) (sl (!t1) (some ((.v (.slice none 0 0)), [])) (sl (R2 []) (sl ((cnE tX t2) && true) (sl (Nat.beq t4.alt 1) (sl (Nat.beq t5.alt 1) (some ((.v (.slice none 0 0)), [])) none) none) none) none)) none)
noncomputable def Ib7 (x : Unit) : List Pln := K5 (one (r1L tP)) (Ta6 x)
noncomputable def Ib8 (x : Unit) : Bool := okO (one (r1L tP)) (Ta6 x)
noncomputable def td6 : Sum := R3 Oe5 (fun x => .guard (Ib8 x) (.ret ((one (r1L tP)).enc (Ib7 x), [])))
theorem cd4 : g9 prog G 25 td6 := za1 (bd b25 Uc3) (one (r1L tP)) (o := Ta6) fun x => r9 (by kernel_rfl)
noncomputable def Ib9 : List (Nat × Sum) := []
theorem Cb9 : i6 prog G Ib9 := trivial
structure ja5 where
noncomputable def X2 {α : Type} (kk : ja5 → α) (x : Addr × Nat) : α := (kk ⟨⟩)
noncomputable def Lb5 (x : Addr × Nat) : ja5 := X2 (fun r => r) x
noncomputable def ua4 (r : ja5) : DT (b7 × List b8) := .ret ((.sl 0 0 0 0), [⟨50, 4, [], true, false, 0⟩])
theorem Lb6 {α β : Type} (F : α → β) (kk : ja5 → α) (x : Addr × Nat) : F (X2 kk x) = X2 (fun r => F (kk r)) x := by unfold X2; (repeat' apply k9 (f := F)) <;> rfl
noncomputable def Ua5 : Sum := R3 cE0 (fun x => ua4 (Lb5 x))
theorem Jb0 : g9 prog G 100 Ua5 := Eb5 (bd Le6 Cb9) fun x => r9 (Eq.trans (b := X2 (fun r => (ua4 r).run) x) (by kernel_rfl) (Lb6 (fun r => (ua4 r).run) (fun r => r) x).symm)
noncomputable def cd5 : List (Nat × Sum) := [(20, sa9), (18, oa4), (100, Ua5), (99, ka1), (103, sa1), (105, ua2)]
theorem Uc4 : i6 prog G cd5 := ⟨ta7, ra1, Jb0, Da0, Ja4, Na9, trivial⟩
noncomputable def Ta7 (x : Addr × Nat) : Option (b7 × List b8) := let t1 := (aa2 []); let t2 := (Q9 []); let t4 := (D8 ⟨0, [], (rt tX t2)⟩); let t5 := (T1 ⟨t4.ns0, (app (bL tP (Ja3 (slR tP t4.eh0 0 t4.ns0))) (e7 t4.eh0 t4.ns0))⟩); (sl (aa3 []) (sl (!t1) (some ((.v (.slice none 0 0)), [])) (sl (R2 []) (sl ((cnE tX t2) && true) (sl (Nat.beq t4.alt 1) (sl (Bool.and (Nat.ble t4.ns0 room) (Bool.and (Nat.ble t4.ns0 (len t4.eh0)) (okS tP t4.eh0 0 t4.ns0))) (sl (Nat.beq t5.alt 1) (some ((.sl 0 0 t5.ns0 0), [⟨50, 4, t5.eh0, true, false, 0⟩])) none) none) none) none) none)) none)
noncomputable def qc4 (x : Addr × Nat) : List Pln := K5 (one (r1L tP)) (Ta7 x)
noncomputable def qc5 (x : Addr × Nat) : Bool := okO (one (r1L tP)) (Ta7 x)
noncomputable def td7 : Sum := R3 cE0 (fun x => .guard (qc5 x) (.ret ((one (r1L tP)).enc (qc4 x), [])))
theorem cd6 : g9 prog G 25 td7 := za1 (bd b25 Uc4) (one (r1L tP)) (o := Ta7) fun x => r9 (by kernel_rfl)
end Go.Ev.Ce
end
section
namespace Go.Ev.Ce
open Go Go.Ev Go.Ev.L Go.Proofs
set_option maxRecDepth 100000
noncomputable def bc9 : List (Nat × Sum) := [(98, ka9), (97, Wb5)]
theorem Uc5 : i6 prog G bc9 := ⟨ra3, fc5, trivial⟩
structure aa9 where
 is1 : Int
structure s9 where
 ph : Nat
 is7 : Int
 e8 : List Int
 b9 : Int
 ns6 : Nat
 eh1 : List (List b7)
noncomputable def xc2 (p : aa9) (s : s9) : St := ⟨(.unk :: ((i p.is1) :: (ra 3 ((.ptr 0 0 0 0) :: ((.v (.slice none 0 0)) :: ((i s.is7) :: (ra 19 []))))))), [⟨0, 2, [[(eL tI s.e8), (i s.b9)]], true, false, 0⟩]⟩
noncomputable def xc3 (p : aa9) (s : s9) : St := ⟨(.unk :: ((i p.is1) :: (ra 3 ((.ptr 0 0 0 0) :: ((.sl 1 0 s.ns6 0) :: ((i s.is7) :: (ra 19 []))))))), [⟨0, 2, [[(eL tI s.e8), (i s.b9)]], true, false, 0⟩, ⟨36, 3, s.eh1, true, false, 0⟩]⟩
noncomputable def Fc2 (p : aa9) (s : s9) : St := (sel (Nat.beq s.ph 1) (xc3 p s) (xc2 p s))
noncomputable def sa3 {α : Type} (k : s9 → α) (e : Nat → α) (z : α) (p : aa9) (s : s9) : α := let t1 := (l4 ⟨4, (rt tI s.e8), s.b9⟩); let t2 := (Ea6 ⟨(toI (hdA (e7 (f7 [[(i 8)], [(i 8)], [(i 3)], [(i 24)]] (0 + t1.is0.toNat)) 0))), (rt tI (rt tI s.e8)), t1.b9⟩); (sl (decide (s.is7 < p.is1)) (sl ((cnE tI s.e8) && true) (sl (Nat.beq t1.alt 1) (sl (inB t1.is0 4) (sl (((Nat.blt (0 + t1.is0.toNat) (len [[(i 8)], [(i 8)], [(i 3)], [(i 24)]])) && (Nat.ble (0 + 1) (len (f7 [[(i 8)], [(i 8)], [(i 3)], [(i 24)]] (0 + t1.is0.toNat))))) && (J8 [(CK.int .i64)] (e7 (f7 [[(i 8)], [(i 8)], [(i 3)], [(i 24)]] (0 + t1.is0.toNat)) 0))) (sl ((cnE tI (rt tI s.e8)) && true) (sl (Nat.beq t2.alt 1) (k ⟨1, (W (s.is7 + 1)), t2.e8, t2.b9, 1, [[(i t2.na5), (i t2.na6), (i t2.na7)]]⟩) z) z) z) z) z) z) (e 1))
noncomputable def X7 {α : Type} (k : s9 → α) (e : Nat → α) (z : α) (p : aa9) (s : s9) : α := let t1 := (l4 ⟨4, (rt tI s.e8), s.b9⟩); let t2 := (Ea6 ⟨(toI (hdA (e7 (f7 [[(i 8)], [(i 8)], [(i 3)], [(i 24)]] (0 + t1.is0.toNat)) 0))), (rt tI (rt tI s.e8)), t1.b9⟩); (sl (decide (s.is7 < p.is1)) (sl ((cnE tI s.e8) && true) (sl (Nat.beq t1.alt 1) (sl (inB t1.is0 4) (sl (((Nat.blt (0 + t1.is0.toNat) (len [[(i 8)], [(i 8)], [(i 3)], [(i 24)]])) && (Nat.ble (0 + 1) (len (f7 [[(i 8)], [(i 8)], [(i 3)], [(i 24)]] (0 + t1.is0.toNat))))) && (J8 [(CK.int .i64)] (e7 (f7 [[(i 8)], [(i 8)], [(i 3)], [(i 24)]] (0 + t1.is0.toNat)) 0))) (sl ((cnE tI (rt tI s.e8)) && true) (sl (Nat.beq t2.alt 1) (sl (Nat.beq s.ns6 (len s.eh1) && Nat.ble ((s.ns6 + 1) * 24) room) (k ⟨1, (W (s.is7 + 1)), t2.e8, t2.b9, (s.ns6 + 1), (app s.eh1 [[(i t2.na5), (i t2.na6), (i t2.na7)]])⟩) z) z) z) z) z) z) z) (e 2))
noncomputable def La2 (p : aa9) (s : s9) : Stp s9 := (sel (Nat.beq s.ph 1) (X7 .next .exit .fail p s) (sa3 .next .exit .fail p s))
noncomputable def qb4 : Lo aa9 s9 := ⟨En bc9, 0, Se7, [1, 1, 1, 0, 1, 4, 4], [1, 5, 6, 7], .p, [⟨((.s (.o .unk)) :: ((.s (.o (.int .i64))) :: (ru2 3 ((.s (.o (.ptr 0 0 0 0))) :: ((.s (.o .nil)) :: ((.s (.o (.int .i64))) :: (ru2 19 []))))))), [⟨0, 2, true, (some [[(.c 1 (nL tI)), (.o (.int .i64))]])⟩], fun a H => (⟨(toI (slT a 1))⟩, ⟨0, (toI (slT a 7)), (rL tI (slT (rwT (elT H 0) 0) 0)), (toI (slT (rwT (elT H 0) 0) 1)), 0, []⟩)⟩, ⟨((.s (.o .unk)) :: ((.s (.o (.int .i64))) :: (ru2 3 ((.s (.o (.ptr 0 0 0 0))) :: ((.s (.o (.sl 1 0 (some 0) none))) :: ((.s (.o (.int .i64))) :: (ru2 19 []))))))), [⟨0, 2, true, (some [[(.c 1 (nL tI)), (.o (.int .i64))]])⟩, ⟨36, 3, true, none⟩], fun a H => (⟨(toI (slT a 1))⟩, ⟨1, (toI (slT a 7)), (rL tI (slT (rwT (elT H 0) 0) 0)), (toI (slT (rwT (elT H 0) 0) 1)), (slN (slT a 6)), (elT H 1)⟩)⟩], La2, [(some 0, fun p s => ⟨(.unk :: ((i p.is1) :: (ra 3 ((.ptr 0 0 0 0) :: ((.v (.slice none 0 0)) :: ((i s.is7) :: (ra 3 ((i s.is7) :: ((i p.is1) :: ((b (decide (s.is7 < p.is1))) :: (ra 13 []))))))))))), [⟨0, 2, [[(eL tI s.e8), (i s.b9)]], true, false, 0⟩]⟩), (some 0, fun p s => ⟨(.unk :: ((i p.is1) :: (ra 3 ((.ptr 0 0 0 0) :: ((.sl 1 0 s.ns6 0) :: ((i s.is7) :: (ra 3 ((i s.is7) :: ((i p.is1) :: ((b (decide (s.is7 < p.is1))) :: (ra 13 []))))))))))), [⟨0, 2, [[(eL tI s.e8), (i s.b9)]], true, false, 0⟩, ⟨36, 3, s.eh1, true, false, 0⟩]⟩)], Fc2⟩
theorem Fc3 : qb4.Ok := Lo.ok [] (by kernel_rfl) .nil rfl (.cons (fun a H => by kernel_rfl) (.cons (fun a H => by kernel_rfl) .nil)) fun p s => (.sel (Nat.beq s.ph 1) (.of @X7 (fun F _ _ _ _ _ => by unfold X7; (repeat' apply k9 (f := F)) <;> rfl) (by kernel_rfl)) (.of @sa3 (fun F _ _ _ _ _ => by unfold sa3; (repeat' apply k9 (f := F)) <;> rfl) (by kernel_rfl)))
noncomputable def Ta8 (x : List Int) (y : Int) : Option (b7 × List b8) := let t1 := (lp (La2 (⟨y⟩ : aa9)) (⟨0, 0, (rt tI x), 0, 0, []⟩ : s9)); (sl ((cnE tI x) && true) (sl (Nat.beq t1.1 1) (some ((.v (.slice none 0 0)), [])) (sl (Nat.beq t1.1 2) (some ((.sl 0 0 t1.2.ns6 0), [⟨36, 3, t1.2.eh1, true, false, 0⟩])) none)) none)
noncomputable def jb1 (x : List Int) (y : Int) : List V3 := K5 (one (r1L tV)) (Ta8 x y)
noncomputable def Jb1 (x : List Int) (y : Int) : Bool := okO (one (r1L tV)) (Ta8 x y)
noncomputable def qc6 : Sum := oa1 (W7 tI) cI (fun x y => .guard (Jb1 x y) (.ret ((one (r1L tV)).enc (jb1 x y), [])))
theorem cd7 : g9 prog G 24 qc6 := gb5 (bd b24 Uc5) (one (r1L tV)) (o := Ta8) fun x y => sa6 (.s .p (.s .p (.s .p (.s (.s .p (.b (.u qb4.ls))) .p)))) [qb4.pr] (by kernel_rfl) (.cons Fc3 .nil) (by kernel_rfl)
noncomputable def Tb7 : List (Nat × Sum) := [(21, ec4), (19, mc6), (37, Fb1), (106, jd6)]
theorem td8 : i6 prog G Tb7 := ⟨zc2, Xc6, Pb9, Pd6, trivial⟩
structure fa9 where
 c7 : List Pln
 J4 : List Pt
 is5 : Int
 qb9 : List Pln
structure L5 where
 ph : Nat
 is6 : Int
 is7 : Int
noncomputable def Uc6 (p : fa9) (s : L5) : St := ⟨((eL tP p.c7) :: (.unk :: (.unk :: ((eL tX p.J4) :: ((.v (.slice none 0 0)) :: ((i p.is5) :: ((i s.is6) :: ((i s.is7) :: (ra 38 []))))))))), []⟩
noncomputable def Uc7 (p : fa9) (s : L5) : St := ⟨((eL tP p.c7) :: (.unk :: (.unk :: ((eL tX p.J4) :: ((eL tP p.qb9) :: ((i p.is5) :: ((i s.is6) :: ((i s.is7) :: (ra 38 []))))))))), []⟩
noncomputable def cd8 (p : fa9) (s : L5) : St := (sel (Nat.beq s.ph 1) (Uc7 p s) (Uc6 p s))
noncomputable def ia5 {α : Type} (k : L5 → α) (e : Nat → α) (z : α) (p : fa9) (s : L5) : α := let t1 := (La8 (gL tP p.c7 p.is5.toNat) (gL tX p.J4 s.is7.toNat)); (sl (decide (s.is7 < (↑(List.length p.J4) : Int))) (sl (inB p.is5 (List.length p.c7)) (sl (inB s.is7 (List.length p.J4)) (sl (t1 == 0) (k ⟨0, (W (s.is6 + 1)), (W (s.is7 + 1))⟩) (k ⟨0, s.is6, (W (s.is7 + 1))⟩)) z) z) (e 1))
noncomputable def ia6 {α : Type} (k : L5 → α) (e : Nat → α) (z : α) (p : fa9) (s : L5) : α := let t1 := (La8 (gL tP p.c7 p.is5.toNat) (gL tX p.J4 s.is7.toNat)); (sl (decide (s.is7 < (↑(List.length p.J4) : Int))) (sl (inB p.is5 (List.length p.c7)) (sl (inB s.is7 (List.length p.J4)) (sl (t1 == 0) (k ⟨1, (W (s.is6 + 1)), (W (s.is7 + 1))⟩) (k ⟨1, s.is6, (W (s.is7 + 1))⟩)) z) z) (e 2))
noncomputable def Ja7 (p : fa9) (s : L5) : Stp L5 := (sel (Nat.beq s.ph 1) (ia6 .next .exit .fail p s) (ia5 .next .exit .fail p s))
noncomputable def Jb2 : Lo fa9 L5 := ⟨En Tb7, 0, Le4, [1, 1, 1, 1, 0, 1, 4, 4, 1, 0, 4, 1, 0, 1, 4, 4], [0, 3, 4, 5, 6, 7], .p, [⟨((.s (.c 4 (nL tP))) :: ((.s (.o .unk)) :: ((.s (.o .unk)) :: ((.s (.c 4 (nL tX))) :: ((.s (.o .nil)) :: ((.s (.o (.int .i64))) :: ((.s (.o (.int .i64))) :: ((.s (.o (.int .i64))) :: (ru2 38 []))))))))), [], fun a H => (⟨(rL tP (slT a 0)), (rL tX (slT a 3)), (toI (slT a 5)), []⟩, ⟨0, (toI (slT a 6)), (toI (slT a 7))⟩)⟩, ⟨((.s (.c 4 (nL tP))) :: ((.s (.o .unk)) :: ((.s (.o .unk)) :: ((.s (.c 4 (nL tX))) :: ((.s (.c 4 (nL tP))) :: ((.s (.o (.int .i64))) :: ((.s (.o (.int .i64))) :: ((.s (.o (.int .i64))) :: (ru2 38 []))))))))), [], fun a H => (⟨(rL tP (slT a 0)), (rL tX (slT a 3)), (toI (slT a 5)), (rL tP (slT a 4))⟩, ⟨1, (toI (slT a 6)), (toI (slT a 7))⟩)⟩], Ja7, [(some 2, fun p s => ⟨((eL tP p.c7) :: (.unk :: (.unk :: ((eL tX p.J4) :: ((.v (.slice none 0 0)) :: ((i p.is5) :: ((i s.is6) :: ((i s.is7) :: (ra 11 ((i s.is7) :: ((eL tX p.J4) :: ((i (↑(List.length p.J4) : Int)) :: ((b (decide (s.is7 < (↑(List.length p.J4) : Int)))) :: (ra 23 [])))))))))))))), []⟩), (some 2, fun p s => ⟨((eL tP p.c7) :: (.unk :: (.unk :: ((eL tX p.J4) :: ((eL tP p.qb9) :: ((i p.is5) :: ((i s.is6) :: ((i s.is7) :: (ra 11 ((i s.is7) :: ((eL tX p.J4) :: ((i (↑(List.length p.J4) : Int)) :: ((b (decide (s.is7 < (↑(List.length p.J4) : Int)))) :: (ra 23 [])))))))))))))), []⟩)], cd8⟩
theorem cd9 : Jb2.Ok := Lo.ok [] (by kernel_rfl) .nil rfl (.cons (fun a H => by kernel_rfl) (.cons (fun a H => by kernel_rfl) .nil)) fun p s => (.sel (Nat.beq s.ph 1) (.of @ia6 (fun F _ _ _ _ _ => by unfold ia6; (repeat' apply k9 (f := F)) <;> rfl) (by kernel_rfl)) (.of @ia5 (fun F _ _ _ _ _ => by unfold ia5; (repeat' apply k9 (f := F)) <;> rfl) (by kernel_rfl)))
structure na3 where
structure E3 where
 ph : Nat
 c7 : List Pln
 J4 : List Pt
 is5 : Int
 qb9 : List Pln
noncomputable def Uc8 (p : na3) (s : E3) : St := ⟨((eL tP s.c7) :: (.unk :: (.unk :: ((eL tX s.J4) :: ((.v (.slice none 0 0)) :: ((i s.is5) :: (ra 40 []))))))), []⟩
noncomputable def Uc9 (p : na3) (s : E3) : St := ⟨((eL tP s.c7) :: (.unk :: (.unk :: ((eL tX s.J4) :: ((eL tP s.qb9) :: ((i s.is5) :: (ra 40 []))))))), []⟩
noncomputable def dd0 (p : na3) (s : E3) : St := (sel (Nat.beq s.ph 1) (Uc9 p s) (Uc8 p s))
noncomputable def ia7 {α : Type} (k : E3 → α) (e : Nat → α) (z : α) (p : na3) (s : E3) : α := let t1 := (lp (Ja7 (⟨(rt tP s.c7), (rt tX s.J4), s.is5, []⟩ : fa9)) (⟨0, 0, 0⟩ : L5)); let t2 := (kb2 [] (gL tP (rt tP s.c7) s.is5.toNat)); let t3 := (kb2 (rt tP []) (gL tP (rt tP s.c7) s.is5.toNat)); (sl (decide (s.is5 < (↑(List.length s.c7) : Int))) (sl ((cnE tP s.c7) && ((cnE tX s.J4) && true)) (sl (Nat.beq t1.1 1) (sl (decide (t1.2.is6 ≥ 3)) (sl (inB s.is5 (List.length (rt tP s.c7))) (sl (kb3 [] (gL tP (rt tP s.c7) s.is5.toNat)) (k ⟨1, (rt tP s.c7), (rt tX s.J4), (W (s.is5 + 1)), t2⟩) z) z) (k ⟨0, (rt tP s.c7), (rt tX s.J4), (W (s.is5 + 1)), []⟩)) (sl (Nat.beq t1.1 2) (sl (decide (t1.2.is6 ≥ 3)) (sl (inB s.is5 (List.length (rt tP s.c7))) (sl (okE tP []) (sl (kb3 (rt tP []) (gL tP (rt tP s.c7) s.is5.toNat)) (k ⟨1, (rt tP s.c7), (rt tX s.J4), (W (s.is5 + 1)), t3⟩) z) z) z) (k ⟨1, (rt tP s.c7), (rt tX s.J4), (W (s.is5 + 1)), []⟩)) z)) z) (e 1))
noncomputable def ia8 {α : Type} (k : E3 → α) (e : Nat → α) (z : α) (p : na3) (s : E3) : α := let t1 := (lp (Ja7 (⟨(rt tP s.c7), (rt tX s.J4), s.is5, (rt tP s.qb9)⟩ : fa9)) (⟨1, 0, 0⟩ : L5)); let t2 := (kb2 [] (gL tP (rt tP s.c7) s.is5.toNat)); let t3 := (kb2 (rt tP (rt tP s.qb9)) (gL tP (rt tP s.c7) s.is5.toNat)); (sl (decide (s.is5 < (↑(List.length s.c7) : Int))) (sl ((cnE tP s.c7) && ((cnE tX s.J4) && ((cnE tP s.qb9) && true))) (sl (Nat.beq t1.1 1) (sl (decide (t1.2.is6 ≥ 3)) (sl (inB s.is5 (List.length (rt tP s.c7))) (sl (kb3 [] (gL tP (rt tP s.c7) s.is5.toNat)) (k ⟨1, (rt tP s.c7), (rt tX s.J4), (W (s.is5 + 1)), t2⟩) z) z) (k ⟨0, (rt tP s.c7), (rt tX s.J4), (W (s.is5 + 1)), []⟩)) (sl (Nat.beq t1.1 2) (sl (decide (t1.2.is6 ≥ 3)) (sl (inB s.is5 (List.length (rt tP s.c7))) (sl (okE tP (rt tP s.qb9)) (sl (kb3 (rt tP (rt tP s.qb9)) (gL tP (rt tP s.c7) s.is5.toNat)) (k ⟨1, (rt tP s.c7), (rt tX s.J4), (W (s.is5 + 1)), t3⟩) z) z) z) (k ⟨1, (rt tP s.c7), (rt tX s.J4), (W (s.is5 + 1)), (rt tP s.qb9)⟩)) z)) z) (e 2))
noncomputable def Ya1 (p : na3) (s : E3) : Stp E3 := (sel (Nat.beq s.ph 1) (ia8 .next .exit .fail p s) (ia7 .next .exit .fail p s))
noncomputable def Jb3 : Lo na3 E3 := ⟨En Tb7, 0, Le4, [1, 1, 1, 1, 0, 1, 4, 4], [0, 3, 4, 5], (.s .p (.s (.b (.s .p (.s (.s .p (.b (.u Jb2.ls))) .p))) .p)), [⟨((.s (.c 4 (nL tP))) :: ((.s (.o .unk)) :: ((.s (.o .unk)) :: ((.s (.c 4 (nL tX))) :: ((.s (.o .nil)) :: ((.s (.o (.int .i64))) :: (ru2 40 []))))))), [], fun a H => (⟨⟩, ⟨0, (rL tP (slT a 0)), (rL tX (slT a 3)), (toI (slT a 5)), []⟩)⟩, ⟨((.s (.c 4 (nL tP))) :: ((.s (.o .unk)) :: ((.s (.o .unk)) :: ((.s (.c 4 (nL tX))) :: ((.s (.c 4 (nL tP))) :: ((.s (.o (.int .i64))) :: (ru2 40 []))))))), [], fun a H => (⟨⟩, ⟨1, (rL tP (slT a 0)), (rL tX (slT a 3)), (toI (slT a 5)), (rL tP (slT a 4))⟩)⟩], Ya1, [(some 0, fun p s => ⟨((eL tP s.c7) :: (.unk :: (.unk :: ((eL tX s.J4) :: ((.v (.slice none 0 0)) :: ((i s.is5) :: (ra 7 ((i s.is5) :: ((eL tP s.c7) :: ((i (↑(List.length s.c7) : Int)) :: ((b (decide (s.is5 < (↑(List.length s.c7) : Int)))) :: (ra 29 [])))))))))))), []⟩), (some 0, fun p s => ⟨((eL tP s.c7) :: (.unk :: (.unk :: ((eL tX s.J4) :: ((eL tP s.qb9) :: ((i s.is5) :: (ra 7 ((i s.is5) :: ((eL tP s.c7) :: ((i (↑(List.length s.c7) : Int)) :: ((b (decide (s.is5 < (↑(List.length s.c7) : Int)))) :: (ra 29 [])))))))))))), []⟩)], dd0⟩
theorem dd1 : Jb3.Ok := Lo.ok [Jb2.pr] (by kernel_rfl) (.cons cd9 .nil) rfl (.cons (fun a H => by kernel_rfl) (.cons (fun a H => by kernel_rfl) .nil)) fun p s => (.sel (Nat.beq s.ph 1) (.of @ia8 (fun F _ _ _ _ _ => by unfold ia8; (repeat' apply k9 (f := F)) <;> rfl) (by kernel_rfl)) (.of @ia7 (fun F _ _ _ _ _ => by unfold ia7; (repeat' apply k9 (f := F)) <;> rfl) (by kernel_rfl)))
noncomputable def qb5 (x : List Pln) : Option (b7 × List b8) := let t1 := (Va4 (rt tP x)); let t2 := (gb7 (rt tP x)); let t3 := (lp (Ya1 (⟨⟩ : na3)) (⟨0, (rt tP x), (rt tX t2), 0, []⟩ : E3)); (sl (okE tP x) (sl (Ma0 (rt tP x)) (sl (!t1) (some ((.v (.slice none 0 0)), [])) (sl (okE tP x) (sl (gb8 (rt tP x)) (sl ((cnE tP x) && ((cnE tX t2) && true)) (sl (Nat.beq t3.1 1) (some ((.v (.slice none 0 0)), [])) (sl (Nat.beq t3.1 2) (some ((eL tP t3.2.qb9), [])) none)) none) none) none)) none) none)
noncomputable def gc6 (x : List Pln) : List Pln := K5 (one (r1L tP)) (qb5 x)
noncomputable def gc7 (x : List Pln) : Bool := okO (one (r1L tP)) (qb5 x)
noncomputable def Vc0 : Sum := R3 (W7 tP) (fun x => .guard (gc7 x) (.ret ((one (r1L tP)).enc (gc6 x), [])))
theorem Gd1 : g9 prog G 27 Vc0 := za1 (bd b27 td8) (one (r1L tP)) (o := qb5) fun x => sa6 (.s .p (.s .p (.s .p (.s .p (.s (.s .p (.b (.u Jb3.ls))) .p))))) [Jb3.pr] (by kernel_rfl) (.cons dd1 .nil) (by kernel_rfl)
end Go.Ev.Ce
end
