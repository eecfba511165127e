/- Own work: a part of the proof. -/
import Derived.Test.YtlccibobknidjaaGreatEvD2
import Derived.Test.YtlccibobknidjaaGreatEvE1
import Derived.Test.YtlccibobknidjaaGreatEvE8
import Derived.Shelf.SlSortCmp.WholeK
import Derived.Test.YtlccibobknidjaaGreatEvLt
import Derived.KernelRfl
set_option linter.unusedVariables false
set_option linter.unusedSimpArgs false
set_option linter.unnecessarySimpa false
set_option linter.unusedSectionVars false
section
namespace Go.Ev.Ce
open Go Go.Ev Go.Ev.L Go.Proofs
set_option maxRecDepth 100000
structure Ma4 where
 ja2 : Int
 ja3 : Int
 ja4 : Int
 cb3 : Int
 j6 : List Pt
noncomputable def Db0 : List (Nat × Sum) := [(102, gb3)]
theorem lc2 : i7 prog G Db0 := ⟨rb5, trivial⟩
structure ma5 where
 wd7 : List Pt
 is8 : Int
 j6 : List Pt
 E2 : Int
 E3 : Int
 E4 : Int
 E5 : Int
structure I8 where
 is4 : Int
 is9 : Int
noncomputable def dc3 (p : ma5) (s : I8) : St := ⟨(.unk :: (.unk :: ((.ptr 1 0 0 0) :: (.unk :: ((i s.is4) :: (.unk :: (.unk :: ((eL tX p.wd7) :: ((i p.is8) :: ((i s.is9) :: (ra 12 []))))))))))), [⟨0, 1, [[(eL tX p.j6)]], true, false, 0⟩, ⟨0, 4, [[(i p.E2), (i p.E3), (i p.E4), (i p.E5)]], true, false, 0⟩]⟩
noncomputable def fa0 {α : Type} (k : I8 → α) (e : Nat → α) (z : α) (p : ma5) (s : I8) : α := let t1 := (ja7 (⟨(⟨p.E2, p.E3, p.E4⟩ : V3), p.E5⟩ : Pln) (gL tX p.wd7 s.is9.toNat)); (sl (decide (s.is9 < p.is8)) (sl (inB s.is9 (List.length p.wd7)) (sl (t1 == 0) (k ⟨(W (s.is4 + 1)), (W (s.is9 + 1))⟩) (k ⟨s.is4, (W (s.is9 + 1))⟩)) z) (e 1))
noncomputable def ia8 (p : ma5) (s : I8) : Stp I8 := fa0 .next .exit .fail p s
noncomputable def Ta1 : Lo ma5 I8 := ⟨En Db0, 1, ae1, [1, 1, 0, 1, 4, 4], [2, 4, 7, 8, 9], .p, [⟨((.s (.o .unk)) :: ((.s (.o .unk)) :: ((.s (.o (.ptr 1 0 0 0))) :: ((.s (.o .unk)) :: ((.s (.o (.int .i64))) :: ((.s (.o .unk)) :: ((.s (.o .unk)) :: ((.s (.c 4 (nL tX))) :: ((.s (.o (.int .i64))) :: ((.s (.o (.int .i64))) :: (ru2 12 []))))))))))), [⟨0, 1, true, (some [[(.c 4 (nL tX))]])⟩, ⟨0, 4, true, (some [[(.o (.int .i64)), (.o (.int .i64)), (.o (.int .i64)), (.o (.int .i64))]])⟩], fun a H => (⟨(rL tX (slT a 7)), (toI (slT a 8)), (rL tX (slT (rwT (elT H 0) 0) 0)), (toI (slT (rwT (elT H 1) 0) 0)), (toI (slT (rwT (elT H 1) 0) 1)), (toI (slT (rwT (elT H 1) 0) 2)), (toI (slT (rwT (elT H 1) 0) 3))⟩, ⟨(toI (slT a 4)), (toI (slT a 9))⟩)⟩], ia8, [(some 0, fun p s => ⟨(.unk :: (.unk :: ((.ptr 1 0 0 0) :: (.unk :: ((i s.is4) :: (.unk :: (.unk :: ((eL tX p.wd7) :: ((i p.is8) :: ((i s.is9) :: ((b (decide (s.is9 < p.is8))) :: (ra 11 [])))))))))))), [⟨0, 1, [[(eL tX p.j6)]], true, false, 0⟩, ⟨0, 4, [[(i p.E2), (i p.E3), (i p.E4), (i p.E5)]], true, false, 0⟩]⟩)], dc3⟩
theorem dc4 : Ta1.Ok := Lo.ok [] (by kernel_rfl) .nil rfl (.cons (fun a H => by kernel_rfl) .nil) fun p s => (.of @fa0 (fun F _ _ _ _ _ => by unfold fa0; (repeat' apply k9 (f := F)) <;> rfl) (by kernel_rfl))
structure na9 where
 alt : Nat
 bs0 : Bool
 j6 : List Pt
noncomputable def oa0 {α : Type} (kk : na9 → α) (x : Ma4) : α := let t1 := (lp (ia8 (⟨(rt tX x.j6), (↑(List.length x.j6) : Int), (rt tX x.j6), x.ja2, x.ja3, x.ja4, x.cb3⟩ : ma5)) (⟨0, 0⟩ : I8)); (sl ((cnE tX x.j6) && ((cnE tX x.j6) && true)) (sl (Nat.beq t1.1 1) (kk ⟨1, (decide (t1.2.is4 < 3)), (rt tX x.j6)⟩) (kk ⟨0, false, []⟩)) (kk ⟨0, false, []⟩))
noncomputable def ga0 (x : Ma4) : na9 := oa0 (fun r => r) x
noncomputable def bb2 (x : Ma4) (r : na9) : DT (b7 × List b8) := (.ite (Nat.beq r.alt 1) (.ret ((b r.bs0), [⟨0, 1, [[(eL tX r.j6)]], true, false, 0⟩])) .fail)
theorem Fc8 {α β : Type} (F : α → β) (kk : na9 → α) (x : Ma4) : F (oa0 kk x) = oa0 (fun r => F (kk r)) x := by unfold oa0; (repeat' apply k9 (f := F)) <;> rfl
noncomputable def kb9 : Sum := Ya0 ⟨[(.agg [(.o (.int .i64)), (.o (.int .i64)), (.o (.int .i64)), (.o (.int .i64))]), (.s (.o (.ptr 0 0 0 0)))], [⟨0, 1, true, (some [[(.c 4 (nL tX))]])⟩], fun a H => (⟨(toI (slT (cellsOf (slT a 0)) 0)), (toI (slT (cellsOf (slT a 0)) 1)), (toI (slT (cellsOf (slT a 0)) 2)), (toI (slT (cellsOf (slT a 0)) 3)), (rL tX (slT (rwT (elT H 0) 0) 0))⟩, ())⟩ (fun x => bb2 x (ga0 x))
theorem Db1 : f6 prog G 101 kb9 := N7 (enc := fun x => ⟨[(.agg [(i x.ja2), (i x.ja3), (i x.ja4), (i x.cb3)]), (.ptr 0 0 0 0)], [⟨0, 1, [[(eL tX x.j6)]], true, false, 0⟩]⟩) (fun a H => by kernel_rfl) (bd we9 lc2) fun x => wa0 (.s .p (.s .p (.s (.s .p (.b (.u Ta1.ls))) .p))) [Ta1.pr] (by kernel_rfl) (.cons dc4 .nil) (Eq.trans (b := oa0 (fun r => (bb2 x r).run) x) (by kernel_rfl) (Fc8 (fun r => (bb2 x r).run) (fun r => r) x).symm)
structure O7 where
 ns0 : Nat
 eh0 : List (List b7)
 p5 : List Pt
noncomputable def ta2 : List (Nat × Sum) := [(101, kb9)]
theorem Va6 : i7 prog G ta2 := ⟨Db1, trivial⟩
structure D8 where
 ns0 : Nat
 is7 : Int
 eh0 : List (List b7)
structure l9 where
 is8 : Int
 p5 : List Pt
noncomputable def Ta2 (p : D8) (s : l9) : St := ⟨((.sl 0 0 p.ns0 0) :: ((.fn 101 [(.ptr 1 0 0 0)]) :: (ra 5 ((i p.is7) :: ((i s.is8) :: (ra 10 [])))))), [⟨50, 4, p.eh0, true, false, 0⟩, ⟨0, 1, [[(eL tX s.p5)]], true, false, 0⟩]⟩
noncomputable def z9 {α : Type} (k : l9 → α) (e : Nat → α) (z : α) (p : D8) (s : l9) : α := let t1 := (ga0 ⟨(rdR tP p.eh0 (0 + s.is8.toNat)).n.x, (rdR tP p.eh0 (0 + s.is8.toNat)).n.y, (rdR tP p.eh0 (0 + s.is8.toNat)).n.z, (rdR tP p.eh0 (0 + s.is8.toNat)).b, (rt tX s.p5)⟩); (sl (decide (s.is8 < p.is7)) (sl (inB s.is8 p.ns0) (sl (ldR tP p.eh0 (0 + s.is8.toNat)) (sl ((cnE tX s.p5) && true) (sl (Nat.beq t1.alt 1) (sl t1.bs0 (e 1) (k ⟨(W (s.is8 + 1)), t1.j6⟩)) z) z) z) z) (e 2))
noncomputable def B9 (p : D8) (s : l9) : Stp l9 := z9 .next .exit .fail p s
noncomputable def X9 : Lo D8 l9 := ⟨En ta2, 2, ud3, [1, 0, 1, 4, 4], [0, 1, 7, 8], .p, [⟨((.s (.o (.sl 0 0 (some 0) none))) :: ((.fn 101 [(.o (.ptr 1 0 0 0))]) :: (ru2 5 ((.s (.o (.int .i64))) :: ((.s (.o (.int .i64))) :: (ru2 10 [])))))), [⟨50, 4, true, none⟩, ⟨0, 1, true, (some [[(.c 4 (nL tX))]])⟩], fun a H => (⟨(slN (slT a 0)), (toI (slT a 7)), (elT H 0)⟩, ⟨(toI (slT a 8)), (rL tX (slT (rwT (elT H 1) 0) 0))⟩)⟩], B9, [(none, fun p s => let t1 := (ga0 ⟨(rdR tP p.eh0 (0 + s.is8.toNat)).n.x, (rdR tP p.eh0 (0 + s.is8.toNat)).n.y, (rdR tP p.eh0 (0 + s.is8.toNat)).n.z, (rdR tP p.eh0 (0 + s.is8.toNat)).b, (rt tX s.p5)⟩); ⟨[(i s.is8)], [⟨50, 4, p.eh0, true, false, 0⟩, ⟨0, 1, [[(eL tX t1.j6)]], true, false, 0⟩]⟩), (some 0, fun p s => ⟨((.sl 0 0 p.ns0 0) :: ((.fn 101 [(.ptr 1 0 0 0)]) :: (ra 5 ((i p.is7) :: ((i s.is8) :: ((b (decide (s.is8 < p.is7))) :: (ra 9 []))))))), [⟨50, 4, p.eh0, true, false, 0⟩, ⟨0, 1, [[(eL tX s.p5)]], true, false, 0⟩]⟩)], Ta2⟩
theorem Ta3 : X9.Ok := Lo.ok [] (by kernel_rfl) .nil rfl (.cons (fun a H => by kernel_rfl) .nil) fun p s => (.of @z9 (fun F _ _ _ _ _ => by unfold z9; (repeat' apply k9 (f := F)) <;> rfl) (by kernel_rfl))
structure O8 where
 alt : Nat
 is0 : Int
 p5 : List Pt
noncomputable def A6 {α : Type} (kk : O8 → α) (x : O7) : α := let t1 := (lp (B9 (⟨x.ns0, (↑x.ns0 : Int), x.eh0⟩ : D8)) (⟨0, (rt tX x.p5)⟩ : l9)); let t2 := (ga0 ⟨(rdR tP x.eh0 (0 + t1.2.is8.toNat)).n.x, (rdR tP x.eh0 (0 + t1.2.is8.toNat)).n.y, (rdR tP x.eh0 (0 + t1.2.is8.toNat)).n.z, (rdR tP x.eh0 (0 + t1.2.is8.toNat)).b, (rt tX t1.2.p5)⟩); (sl ((cnE tX x.p5) && true) (sl (Nat.beq t1.1 1) (kk ⟨1, t1.2.is8, t2.j6⟩) (sl (Nat.beq t1.1 2) (kk ⟨1, (-1), t1.2.p5⟩) (kk ⟨0, 0, []⟩))) (kk ⟨0, 0, []⟩))
noncomputable def O9 (x : O7) : O8 := A6 (fun r => r) x
noncomputable def aa6 (x : O7) (r : O8) : DT (b7 × List b8) := (.ite (Nat.beq r.alt 1) (.ret ((i r.is0), [⟨50, 4, x.eh0, true, false, 0⟩, ⟨0, 1, [[(eL tX r.p5)]], true, false, 0⟩])) .fail)
theorem db9 {α β : Type} (F : α → β) (kk : O8 → α) (x : O7) : F (A6 kk x) = A6 (fun r => F (kk r)) x := by unfold A6; (repeat' apply k9 (f := F)) <;> rfl
noncomputable def va5 : Sum := Ya0 ⟨[(.s (.o (.sl 0 0 (some 0) none))), (.fn 101 [(.o (.ptr 1 0 0 0))])], [⟨50, 4, true, none⟩, ⟨0, 1, true, (some [[(.c 4 (nL tX))]])⟩], fun a H => (⟨(slN (slT a 0)), (elT H 0), (rL tX (slT (rwT (elT H 1) 0) 0))⟩, ())⟩ (fun x => aa6 x (O9 x))
theorem bb3 : f6 prog G 163 va5 := N7 (enc := fun x => ⟨[(.sl 0 0 x.ns0 0), (.fn 101 [(.ptr 1 0 0 0)])], [⟨50, 4, x.eh0, true, false, 0⟩, ⟨0, 1, [[(eL tX x.p5)]], true, false, 0⟩]⟩) (fun a H => by kernel_rfl) (bd ge4 Va6) fun x => wa0 (.s .p (.s (.s .p (.b (.u X9.ls))) .p)) [X9.pr] (by kernel_rfl) (.cons Ta3 .nil) (Eq.trans (b := A6 (fun r => (aa6 x r).run) x) (by kernel_rfl) (db9 (fun r => (aa6 x r).run) (fun r => r) x).symm)
structure P0 where
 ns0 : Nat
 eh0 : List (List b7)
 p5 : List Pt
noncomputable def ta3 : List (Nat × Sum) := [(163, va5), (101, kb9)]
theorem Va7 : i7 prog G ta3 := ⟨bb3, Db1, trivial⟩
structure D9 where
 ns0 : Nat
structure o2 where
 is5 : Int
 is6 : Int
 eh0 : List (List b7)
 p5 : List Pt
noncomputable def Ta4 (p : D9) (s : o2) : St := ⟨((.sl 0 0 p.ns0 0) :: ((.fn 101 [(.ptr 1 0 0 0)]) :: (ra 3 ((i s.is5) :: ((i s.is6) :: (ra 35 [])))))), [⟨50, 4, s.eh0, true, false, 0⟩, ⟨0, 1, [[(eL tX s.p5)]], true, false, 0⟩]⟩
noncomputable def A0 {α : Type} (k : o2 → α) (e : Nat → α) (z : α) (p : D9) (s : o2) : α := let t1 := (ga0 ⟨(rdR tP s.eh0 (0 + s.is6.toNat)).n.x, (rdR tP s.eh0 (0 + s.is6.toNat)).n.y, (rdR tP s.eh0 (0 + s.is6.toNat)).n.z, (rdR tP s.eh0 (0 + s.is6.toNat)).b, (rt tX s.p5)⟩); (sl (decide (s.is6 < (↑p.ns0 : Int))) (sl (inB s.is6 p.ns0) (sl (ldR tP s.eh0 (0 + s.is6.toNat)) (sl ((cnE tX s.p5) && true) (sl (Nat.beq t1.alt 1) (sl (!t1.bs0) (sl (inB s.is5 p.ns0) (sl ((Nat.blt (0 + s.is5.toNat) (len s.eh0)) && (Nat.ble (0 + 4) (len (i5 s.eh0 (0 + s.is5.toNat))))) (k ⟨(W (s.is5 + 1)), (W (s.is6 + 1)), (setAt s.eh0 (0 + s.is5.toNat) (G8 (i5 s.eh0 (0 + s.is5.toNat)) 0 [(i (rdR tP s.eh0 (0 + s.is6.toNat)).n.x), (i (rdR tP s.eh0 (0 + s.is6.toNat)).n.y), (i (rdR tP s.eh0 (0 + s.is6.toNat)).n.z), (i (rdR tP s.eh0 (0 + s.is6.toNat)).b)])), t1.j6⟩) z) z) (k ⟨s.is5, (W (s.is6 + 1)), s.eh0, t1.j6⟩)) z) z) z) z) (e 1))
noncomputable def v8 (p : D9) (s : o2) : Stp o2 := A0 .next .exit .fail p s
noncomputable def Y0 : Lo D9 o2 := ⟨En ta3, 2, ne2, [1, 1, 1, 0, 1, 4, 4], [0, 1, 5, 6], .p, [⟨((.s (.o (.sl 0 0 (some 0) none))) :: ((.fn 101 [(.o (.ptr 1 0 0 0))]) :: (ru2 3 ((.s (.o (.int .i64))) :: ((.s (.o (.int .i64))) :: (ru2 35 [])))))), [⟨50, 4, true, none⟩, ⟨0, 1, true, (some [[(.c 4 (nL tX))]])⟩], fun a H => (⟨(slN (slT a 0))⟩, ⟨(toI (slT a 5)), (toI (slT a 6)), (elT H 0), (rL tX (slT (rwT (elT H 1) 0) 0))⟩)⟩], v8, [(some 0, fun p s => ⟨((.sl 0 0 p.ns0 0) :: ((.fn 101 [(.ptr 1 0 0 0)]) :: (ra 3 ((i s.is5) :: ((i s.is6) :: (ra 9 ((i s.is6) :: ((.sl 0 0 p.ns0 0) :: ((i (↑p.ns0 : Int)) :: ((b (decide (s.is6 < (↑p.ns0 : Int)))) :: (ra 22 []))))))))))), [⟨50, 4, s.eh0, true, false, 0⟩, ⟨0, 1, [[(eL tX s.p5)]], true, false, 0⟩]⟩)], Ta4⟩
theorem Ta5 : Y0.Ok := Lo.ok [] (by kernel_rfl) .nil rfl (.cons (fun a H => by kernel_rfl) .nil) fun p s => (.of @A0 (fun F _ _ _ _ _ => by unfold A0; (repeat' apply k9 (f := F)) <;> rfl) (by kernel_rfl))
structure P1 where
 alt : Nat
 ns0 : Nat
 eh0 : List (List b7)
 p5 : List Pt
noncomputable def A7 {α : Type} (kk : P1 → α) (x : P0) : α := let t1 := (O9 ⟨x.ns0, x.eh0, (rt tX x.p5)⟩); let t2 := (lp (v8 (⟨x.ns0⟩ : D9)) (⟨t1.is0, (W (t1.is0 + 1)), x.eh0, (rt tX t1.p5)⟩ : o2)); (sl ((cnE tX x.p5) && true) (sl (Nat.beq t1.alt 1) (sl (t1.is0 == (-1)) (kk ⟨1, x.ns0, x.eh0, t1.p5⟩) (sl ((cnE tX t1.p5) && true) (sl (Nat.beq t2.1 1) (sl (inB t2.2.is5 (x.ns0 + 1)) (sl (inB t2.2.is5 (x.ns0 + 1)) (kk ⟨1, (t2.2.is5.toNat - 0), (app (C9 t2.2.eh0 (0 + t2.2.is5.toNat)) (app (List.replicate (x.ns0 - t2.2.is5.toNat) [(i 0), (i 0), (i 0), (i 0)]) (e7 t2.2.eh0 ((0 + t2.2.is5.toNat) + (x.ns0 - t2.2.is5.toNat))))), t2.2.p5⟩) (kk ⟨0, 0, [], []⟩)) (kk ⟨0, 0, [], []⟩)) (kk ⟨0, 0, [], []⟩)) (kk ⟨0, 0, [], []⟩))) (kk ⟨0, 0, [], []⟩)) (kk ⟨0, 0, [], []⟩))
noncomputable def P4 (x : P0) : P1 := A7 (fun r => r) x
noncomputable def aa7 (x : P0) (r : P1) : DT (b7 × List b8) := (.ite (Nat.beq r.alt 1) (.ret ((.sl 0 0 r.ns0 0), [⟨50, 4, r.eh0, true, false, 0⟩, ⟨0, 1, [[(eL tX r.p5)]], true, false, 0⟩])) .fail)
theorem eb0 {α β : Type} (F : α → β) (kk : P1 → α) (x : P0) : F (A7 kk x) = A7 (fun r => F (kk r)) x := by unfold A7; (repeat' apply k9 (f := F)) <;> rfl
noncomputable def va6 : Sum := Ya0 ⟨[(.s (.o (.sl 0 0 (some 0) none))), (.fn 101 [(.o (.ptr 1 0 0 0))])], [⟨50, 4, true, none⟩, ⟨0, 1, true, (some [[(.c 4 (nL tX))]])⟩], fun a H => (⟨(slN (slT a 0)), (elT H 0), (rL tX (slT (rwT (elT H 1) 0) 0))⟩, ())⟩ (fun x => aa7 x (P4 x))
theorem bb4 : f6 prog G 99 va6 := N7 (enc := fun x => ⟨[(.sl 0 0 x.ns0 0), (.fn 101 [(.ptr 1 0 0 0)])], [⟨50, 4, x.eh0, true, false, 0⟩, ⟨0, 1, [[(eL tX x.p5)]], true, false, 0⟩]⟩) (fun a H => by kernel_rfl) (bd b99 Va7) fun x => wa0 (.s .p (.s .p (.s .p (.s (.s .p (.b (.u Y0.ls))) .p)))) [Y0.pr] (by kernel_rfl) (.cons Ta5 .nil) (Eq.trans (b := A7 (fun r => (aa7 x r).run) x) (by kernel_rfl) (eb0 (fun r => (aa7 x r).run) (fun r => r) x).symm)
structure Y1 where
 ns0 : Nat
 eh0 : List (List b7)
noncomputable def ia9 : List (Nat × Sum) := []
theorem lb0 : i7 prog G ia9 := trivial
structure w8 where
 ns0 : Nat
 os4 : Nat
 ns4 : Nat
structure n5 where
 is3 : Int
 is5 : Int
 eh0 : List (List b7)
noncomputable def eb1 (p : w8) (s : n5) : St := ⟨((.sl 0 0 p.ns0 0) :: (.unk :: (.unk :: ((i s.is3) :: ((.sl 0 p.os4 p.ns4 0) :: ((i s.is5) :: (ra 55 []))))))), [⟨50, 4, s.eh0, true, false, 0⟩]⟩
noncomputable def E7 {α : Type} (k : n5 → α) (e : Nat → α) (z : α) (p : w8) (s : n5) : α := (sl (decide (s.is5 < (↑p.ns4 : Int))) (sl (inB s.is5 p.ns4) (sl (ldR tP s.eh0 (p.os4 + s.is5.toNat)) (sl (inB (W (s.is5 - 1)) p.ns4) (sl (ldR tP s.eh0 (p.os4 + (W (s.is5 - 1)).toNat)) (sl (!(((rdR tP s.eh0 (p.os4 + s.is5.toNat)).n.x == (rdR tP s.eh0 (p.os4 + (W (s.is5 - 1)).toNat)).n.x) && (((rdR tP s.eh0 (p.os4 + s.is5.toNat)).n.y == (rdR tP s.eh0 (p.os4 + (W (s.is5 - 1)).toNat)).n.y) && (((rdR tP s.eh0 (p.os4 + s.is5.toNat)).n.z == (rdR tP s.eh0 (p.os4 + (W (s.is5 - 1)).toNat)).n.z) && (((rdR tP s.eh0 (p.os4 + s.is5.toNat)).b == (rdR tP s.eh0 (p.os4 + (W (s.is5 - 1)).toNat)).b) && true))))) (sl (inB s.is5 p.ns4) (sl (ldR tP s.eh0 (p.os4 + s.is5.toNat)) (sl (inB s.is3 p.ns0) (sl ((Nat.blt (0 + s.is3.toNat) (len s.eh0)) && (Nat.ble (0 + 4) (len (i5 s.eh0 (0 + s.is3.toNat))))) (k ⟨(W (s.is3 + 1)), (W (s.is5 + 1)), (setAt s.eh0 (0 + s.is3.toNat) (G8 (i5 s.eh0 (0 + s.is3.toNat)) 0 [(i (rdR tP s.eh0 (p.os4 + s.is5.toNat)).n.x), (i (rdR tP s.eh0 (p.os4 + s.is5.toNat)).n.y), (i (rdR tP s.eh0 (p.os4 + s.is5.toNat)).n.z), (i (rdR tP s.eh0 (p.os4 + s.is5.toNat)).b)]))⟩) z) z) z) z) (k ⟨s.is3, (W (s.is5 + 1)), s.eh0⟩)) z) z) z) z) (e 1))
noncomputable def o0 (p : w8) (s : n5) : Stp n5 := E7 .next .exit .fail p s
noncomputable def ga1 : Lo w8 n5 := ⟨En ia9, 1, Jd3, [1, 1, 0, 1, 4, 4, 1, 0, 4, 1, 2, 1, 0, 1, 4, 4], [0, 3, 4, 5], .p, [⟨((.s (.o (.sl 0 0 (some 0) none))) :: ((.s (.o .unk)) :: ((.s (.o .unk)) :: ((.s (.o (.int .i64))) :: ((.s (.o (.sl 0 0 none none))) :: ((.s (.o (.int .i64))) :: (ru2 55 []))))))), [⟨50, 4, true, none⟩], fun a H => (⟨(slN (slT a 0)), (slO (slT a 4)), (slN (slT a 4))⟩, ⟨(toI (slT a 3)), (toI (slT a 5)), (elT H 0)⟩)⟩], o0, [(some 2, fun p s => ⟨((.sl 0 0 p.ns0 0) :: (.unk :: (.unk :: ((i s.is3) :: ((.sl 0 p.os4 p.ns4 0) :: ((i s.is5) :: (ra 23 ((i s.is5) :: ((.sl 0 p.os4 p.ns4 0) :: ((i (↑p.ns4 : Int)) :: ((b (decide (s.is5 < (↑p.ns4 : Int)))) :: (ra 28 [])))))))))))), [⟨50, 4, s.eh0, true, false, 0⟩]⟩)], eb1⟩
theorem eb2 : ga1.Ok := Lo.ok [] (by kernel_rfl) .nil rfl (.cons (fun a H => by kernel_rfl) .nil) fun p s => (.of @E7 (fun F _ _ _ _ _ => by unfold E7; (repeat' apply k9 (f := F)) <;> rfl) (by kernel_rfl))
structure H4 where
 ns0 : Nat
 eh0 : List (List b7)
structure o4 where
 is3 : Int
noncomputable def eb3 (p : H4) (s : o4) : St := ⟨((.sl 0 0 p.ns0 0) :: (.unk :: (.unk :: ((i s.is3) :: (ra 57 []))))), [⟨50, 4, p.eh0, true, false, 0⟩]⟩
noncomputable def E8 {α : Type} (k : o4 → α) (e : Nat → α) (z : α) (p : H4) (s : o4) : α := let t1 := (lp (o0 (⟨p.ns0, (0 + s.is3.toNat), (p.ns0 - s.is3.toNat)⟩ : w8)) (⟨s.is3, 1, p.eh0⟩ : n5)); (sl (decide (s.is3 < (↑p.ns0 : Int))) (sl (inB s.is3 p.ns0) (sl (ldR tP p.eh0 (0 + s.is3.toNat)) (sl (inB (W (s.is3 - 1)) p.ns0) (sl (ldR tP p.eh0 (0 + (W (s.is3 - 1)).toNat)) (sl (((rdR tP p.eh0 (0 + s.is3.toNat)).n.x == (rdR tP p.eh0 (0 + (W (s.is3 - 1)).toNat)).n.x) && (((rdR tP p.eh0 (0 + s.is3.toNat)).n.y == (rdR tP p.eh0 (0 + (W (s.is3 - 1)).toNat)).n.y) && (((rdR tP p.eh0 (0 + s.is3.toNat)).n.z == (rdR tP p.eh0 (0 + (W (s.is3 - 1)).toNat)).n.z) && (((rdR tP p.eh0 (0 + s.is3.toNat)).b == (rdR tP p.eh0 (0 + (W (s.is3 - 1)).toNat)).b) && true)))) (sl (inB s.is3 (p.ns0 + 1)) (sl (Nat.beq t1.1 1) (sl (inB t1.2.is3 (p.ns0 + 1)) (sl (inB t1.2.is3 (p.ns0 + 1)) (e 1) z) z) z) z) (k ⟨(W (s.is3 + 1))⟩)) z) z) z) z) (e 2))
noncomputable def G2 (p : H4) (s : o4) : Stp o4 := E8 .next .exit .fail p s
noncomputable def ga2 : Lo H4 o4 := ⟨En ia9, 1, Jd3, [1, 1, 0, 1, 4, 4], [0, 3], (.s .p (.s (.b (.s .p (.c (.s .p (.s (.s .p (.b (.u ga1.ls))) .p)) .p))) .p)), [⟨((.s (.o (.sl 0 0 (some 0) none))) :: ((.s (.o .unk)) :: ((.s (.o .unk)) :: ((.s (.o (.int .i64))) :: (ru2 57 []))))), [⟨50, 4, true, none⟩], fun a H => (⟨(slN (slT a 0)), (elT H 0)⟩, ⟨(toI (slT a 3))⟩)⟩], G2, [(none, fun p s => let t1 := (lp (o0 (⟨p.ns0, (0 + s.is3.toNat), (p.ns0 - s.is3.toNat)⟩ : w8)) (⟨s.is3, 1, p.eh0⟩ : n5)); ⟨[(.sl 0 0 (t1.2.is3.toNat - 0) 0)], [⟨50, 4, (app (C9 t1.2.eh0 (0 + t1.2.is3.toNat)) (app (List.replicate (p.ns0 - t1.2.is3.toNat) [(i 0), (i 0), (i 0), (i 0)]) (e7 t1.2.eh0 ((0 + t1.2.is3.toNat) + (p.ns0 - t1.2.is3.toNat))))), true, false, 0⟩]⟩), (some 0, fun p s => ⟨((.sl 0 0 p.ns0 0) :: (.unk :: (.unk :: ((i s.is3) :: (ra 6 ((i s.is3) :: ((.sl 0 0 p.ns0 0) :: ((i (↑p.ns0 : Int)) :: ((b (decide (s.is3 < (↑p.ns0 : Int)))) :: (ra 47 [])))))))))), [⟨50, 4, p.eh0, true, false, 0⟩]⟩)], eb3⟩
theorem eb4 : ga2.Ok := Lo.ok [ga1.pr] (by kernel_rfl) (.cons eb2 .nil) rfl (.cons (fun a H => by kernel_rfl) .nil) fun p s => (.of @E8 (fun F _ _ _ _ _ => by unfold E8; (repeat' apply k9 (f := F)) <;> rfl) (by kernel_rfl))
structure Y2 where
 alt : Nat
 ns0 : Nat
 eh0 : List (List b7)
noncomputable def F8 {α : Type} (kk : Y2 → α) (x : Y1) : α := let t1 := (lp (G2 (⟨x.ns0, x.eh0⟩ : H4)) (⟨1⟩ : o4)); let t2 := (lp (o0 (⟨x.ns0, (0 + t1.2.is3.toNat), (x.ns0 - t1.2.is3.toNat)⟩ : w8)) (⟨t1.2.is3, 1, x.eh0⟩ : n5)); (sl (decide ((↑x.ns0 : Int) < 2)) (kk ⟨1, x.ns0, x.eh0⟩) (sl (Nat.beq t1.1 1) (kk ⟨1, (t2.2.is3.toNat - 0), (app (C9 t2.2.eh0 (0 + t2.2.is3.toNat)) (app (List.replicate (x.ns0 - t2.2.is3.toNat) [(i 0), (i 0), (i 0), (i 0)]) (e7 t2.2.eh0 ((0 + t2.2.is3.toNat) + (x.ns0 - t2.2.is3.toNat)))))⟩) (sl (Nat.beq t1.1 2) (kk ⟨1, x.ns0, x.eh0⟩) (kk ⟨0, 0, []⟩))))
noncomputable def Y3 (x : Y1) : Y2 := F8 (fun r => r) x
noncomputable def ja0 (x : Y1) (r : Y2) : DT (b7 × List b8) := (.ite (Nat.beq r.alt 1) (.ret ((.sl 0 0 r.ns0 0), [⟨50, 4, r.eh0, true, false, 0⟩])) .fail)
theorem ub1 {α β : Type} (F : α → β) (kk : Y2 → α) (x : Y1) : F (F8 kk x) = F8 (fun r => F (kk r)) x := by unfold F8; (repeat' apply k9 (f := F)) <;> rfl
noncomputable def Ha8 : Sum := Ya0 ⟨[(.s (.o (.sl 0 0 (some 0) none)))], [⟨50, 4, true, none⟩], fun a H => (⟨(slN (slT a 0)), (elT H 0)⟩, ())⟩ (fun x => ja0 x (Y3 x))
theorem ob5 : f6 prog G 105 Ha8 := N7 (enc := fun x => ⟨[(.sl 0 0 x.ns0 0)], [⟨50, 4, x.eh0, true, false, 0⟩]⟩) (fun a H => by kernel_rfl) (bd xe2 lb0) fun x => wa0 (.s .p (.s .p (.s (.s .p (.b (.u ga2.ls))) .p))) [ga2.pr] (by kernel_rfl) (.cons eb4 .nil) (Eq.trans (b := F8 (fun r => (ja0 x r).run) x) (by kernel_rfl) (ub1 (fun r => (ja0 x r).run) (fun r => r) x).symm)
noncomputable def yc7 : List (Nat × Sum) := []
theorem lc3 : i7 prog G yc7 := trivial
noncomputable def ya9 (x : Int) (y : Int) : Option (b7 × List b8) := (sl (decide (x < y)) (some ((i (-1)), [])) (sl (decide (x > y)) (some ((i 1), [])) (some ((i 0), []))))
noncomputable def ga3 (x : Int) (y : Int) : Int := G6 (one r1I) (ya9 x y)
noncomputable def ga4 (x : Int) (y : Int) : Bool := okO (one r1I) (ya9 x y)
noncomputable def Kb2 : Sum := ga8 cI cI (fun x y => .guard (ga4 x y) (.ret ((one r1I).enc (ga3 x y), [])))
theorem yc8 : f6 prog G 179 Kb2 := cb4 (bd Ae0 lc3) (one r1I) (o := ya9) fun x y => p7 (by kernel_rfl)
noncomputable def dc5 : List (Nat × Sum) := [(179, Kb2)]
theorem Wb4 : i7 prog G dc5 := ⟨yc8, trivial⟩
noncomputable def ma6 (x : Pln) (y : Pln) : Option (b7 × List b8) := let t1 := (ga3 x.n.x y.n.x); let t2 := (ga3 x.n.y y.n.y); let t3 := (ga3 x.n.z y.n.z); let t4 := (ga3 x.b y.b); (sl (ga4 x.n.x y.n.x) (sl (t1 == 0) (sl (ga4 x.n.y y.n.y) (sl (t2 == 0) (sl (ga4 x.n.z y.n.z) (sl (t3 == 0) (sl (ga4 x.b y.b) (sl (t4 == 0) (some ((i t4), [])) (some ((i t4), []))) none) (some ((i t3), []))) none) (some ((i t2), []))) none) (some ((i t1), []))) none)
noncomputable def Aa3 (x : Pln) (y : Pln) : Int := G6 (one r1I) (ma6 x y)
noncomputable def Aa4 (x : Pln) (y : Pln) : Bool := okO (one r1I) (ma6 x y)
noncomputable def Ta6 : Sum := ga8 (P7 tP) (P7 tP) (fun x y => .guard (Aa4 x y) (.ret ((one r1I).enc (Aa3 x y), [])))
theorem dc6 : f6 prog G 104 Ta6 := cb4 (bd xe1 Wb4) (one r1I) (o := ma6) fun x y => p7 (by kernel_rfl)
noncomputable def id5 : List (Nat × Sum) := [(164, Za8)]
theorem Vc3 : i7 prog G id5 := ⟨vb1, trivial⟩
noncomputable def bb5 (x : V3) : Option (b7 × List b8) := let t1 := (ia0 24 [x.x, x.y, x.z]); (sl (ia1 24 [x.x, x.y, x.z]) (some ((b t1), [])) none)
noncomputable def ub2 (x : V3) : Bool := G6 (one r1B) (bb5 x)
noncomputable def ub3 (x : V3) : Bool := okO (one r1B) (bb5 x)
noncomputable def yc9 : Sum := ba5 (P7 tV) (fun x => .guard (ub3 x) (.ret ((one r1B).enc (ub2 x), [])))
theorem id6 : f6 prog G 107 yc9 := ua0 (bd xe3 Vc3) (one r1B) (o := bb5) fun x => p7 (by kernel_rfl)
noncomputable def id7 : List (Nat × Sum) := [(87, ua6), (107, yc9), (108, La9)]
theorem Vc4 : i7 prog G id7 := ⟨xa7, id6, Za7, trivial⟩
noncomputable def bb6 (x : List Pln) (y : V3) : Option (b7 × List b8) := let t1 := (X1 [(rt tP x)]); let t2 := (ub2 y); let t3 := (Q9 (rt tP x) (⟨y.x, y.y, y.z, 1⟩ : Pt)); (sl ((okE tP x) && true) (sl (X2 [(rt tP x)]) (sl t1 (sl (ub3 y) (sl t2 (sl (okE tP x) (sl (R2 (rt tP x) (⟨y.x, y.y, y.z, 1⟩ : Pt)) (some ((b t3), [])) none) none) (some ((b false), []))) none) (some ((b false), []))) none) none)
noncomputable def bb7 (x : List Pln) (y : V3) : Bool := G6 (one r1B) (bb6 x y)
noncomputable def bb8 (x : List Pln) (y : V3) : Bool := okO (one r1B) (bb6 x y)
noncomputable def zc0 : Sum := ga8 (T5 tP) (P7 tV) (fun x y => .guard (bb8 x y) (.ret ((one r1B).enc (bb7 x y), [])))
theorem id8 : f6 prog G 28 zc0 := cb4 (bd b28 Vc4) (one r1B) (o := bb6) fun x y => p7 (by kernel_rfl)
noncomputable def Fc9 : List (Nat × Sum) := [(87, ua6), (88, Fb9), (92, Ba3)]
theorem zc1 : i7 prog G Fc9 := ⟨xa7, Nb2, Ua1, trivial⟩
noncomputable def Ha9 (x : List Pln) (y : List Pln) : Option (b7 × List b8) := let t1 := (X1 [(rt tP x), (rt tP y)]); let t2 := (Ka6 [(rt tP x), (rt tP y)]); let t3 := (aa2 (rt tP t2)); (sl ((okE tP x) && ((okE tP y) && true)) (sl (X2 [(rt tP x), (rt tP y)]) (sl (!t1) (some ((b true), [])) (sl ((okE tP x) && ((okE tP y) && true)) (sl (Ka7 [(rt tP x), (rt tP y)]) (sl (okE tP t2) (sl (aa3 (rt tP t2)) (some ((b (!t3)), [])) none) none) none) none)) none) none)
noncomputable def Ia0 (x : List Pln) (y : List Pln) : Bool := G6 (one r1B) (Ha9 x y)
noncomputable def Ia1 (x : List Pln) (y : List Pln) : Bool := okO (one r1B) (Ha9 x y)
noncomputable def Wb5 : Sum := ga8 (T5 tP) (T5 tP) (fun x y => .guard (Ia1 x y) (.ret ((one r1B).enc (Ia0 x y), [])))
theorem Gc0 : f6 prog G 31 Wb5 := cb4 (bd b31 zc1) (one r1B) (o := Ha9) fun x y => p7 (by kernel_rfl)
structure Aa5 where
 ja2 : Int
 ja3 : Int
 ja4 : Int
 cb3 : Int
 d7 : List Pln
noncomputable def dc7 : List (Nat × Sum) := [(108, La9)]
theorem Wb6 : i7 prog G dc7 := ⟨Za7, trivial⟩
structure ma7 where
 alt : Nat
 bs0 : Bool
noncomputable def ca6 {α : Type} (kk : ma7 → α) (x : Aa5) : α := let t1 := (Q9 (rt tP x.d7) (⟨x.ja2, x.ja3, x.ja4, x.cb3⟩ : Pt)); (sl (okE tP x.d7) (sl (R2 (rt tP x.d7) (⟨x.ja2, x.ja3, x.ja4, x.cb3⟩ : Pt)) (kk ⟨1, (!t1)⟩) (kk ⟨0, false⟩)) (kk ⟨0, false⟩))
noncomputable def Aa6 (x : Aa5) : ma7 := ca6 (fun r => r) x
noncomputable def La4 (x : Aa5) (r : ma7) : DT (b7 × List b8) := (.ite (Nat.beq r.alt 1) (.ret ((b r.bs0), [⟨0, 1, [[(eL tP x.d7)]], true, false, 0⟩])) .fail)
theorem lc4 {α β : Type} (F : α → β) (kk : ma7 → α) (x : Aa5) : F (ca6 kk x) = ca6 (fun r => F (kk r)) x := by unfold ca6; (repeat' apply k9 (f := F)) <;> rfl
noncomputable def vb4 : Sum := Ya0 ⟨[(.agg [(.o (.int .i64)), (.o (.int .i64)), (.o (.int .i64)), (.o (.int .i64))]), (.s (.o (.ptr 0 0 0 0)))], [⟨0, 1, true, (some [[(.c 4 (nL tP))]])⟩], fun a H => (⟨(toI (slT (cellsOf (slT a 0)) 0)), (toI (slT (cellsOf (slT a 0)) 1)), (toI (slT (cellsOf (slT a 0)) 2)), (toI (slT (cellsOf (slT a 0)) 3)), (rL tP (slT (rwT (elT H 0) 0) 0))⟩, ())⟩ (fun x => La4 x (Aa6 x))
theorem dc8 : f6 prog G 114 vb4 := N7 (enc := fun x => ⟨[(.agg [(i x.ja2), (i x.ja3), (i x.ja4), (i x.cb3)]), (.ptr 0 0 0 0)], [⟨0, 1, [[(eL tP x.d7)]], true, false, 0⟩]⟩) (fun a H => by kernel_rfl) (bd xe8 Wb6) fun x => p7 (Eq.trans (b := ca6 (fun r => (La4 x r).run) x) (by kernel_rfl) (lc4 (fun r => (La4 x r).run) (fun r => r) x).symm)
structure P5 where
 y6 : List Pt
 d7 : List Pln
noncomputable def ta4 : List (Nat × Sum) := [(114, vb4)]
theorem Va8 : i7 prog G ta4 := ⟨dc8, trivial⟩
structure E0 where
 y6 : List Pt
 is7 : Int
structure m0 where
 is8 : Int
 d7 : List Pln
noncomputable def Ta7 (p : E0) (s : m0) : St := ⟨((eL tX p.y6) :: ((.fn 114 [(.ptr 0 0 0 0)]) :: (ra 5 ((i p.is7) :: ((i s.is8) :: (ra 10 [])))))), [⟨0, 1, [[(eL tP s.d7)]], true, false, 0⟩]⟩
noncomputable def A1 {α : Type} (k : m0 → α) (e : Nat → α) (z : α) (p : E0) (s : m0) : α := let t1 := (Aa6 ⟨(gL tX p.y6 s.is8.toNat).px, (gL tX p.y6 s.is8.toNat).py, (gL tX p.y6 s.is8.toNat).pz, (gL tX p.y6 s.is8.toNat).pw, (rt tP s.d7)⟩); (sl (decide (s.is8 < p.is7)) (sl (inB s.is8 (List.length p.y6)) (sl ((cnE tP s.d7) && true) (sl (Nat.beq t1.alt 1) (sl t1.bs0 (e 1) (k ⟨(W (s.is8 + 1)), (rt tP s.d7)⟩)) z) z) z) (e 2))
noncomputable def C0 (p : E0) (s : m0) : Stp m0 := A1 .next .exit .fail p s
noncomputable def Y4 : Lo E0 m0 := ⟨En ta4, 1, Jd6, [1, 0, 1, 4, 4], [0, 1, 7, 8], .p, [⟨((.s (.c 4 (nL tX))) :: ((.fn 114 [(.o (.ptr 0 0 0 0))]) :: (ru2 5 ((.s (.o (.int .i64))) :: ((.s (.o (.int .i64))) :: (ru2 10 [])))))), [⟨0, 1, true, (some [[(.c 4 (nL tP))]])⟩], fun a H => (⟨(rL tX (slT a 0)), (toI (slT a 7))⟩, ⟨(toI (slT a 8)), (rL tP (slT (rwT (elT H 0) 0) 0))⟩)⟩], C0, [(none, fun p s => ⟨[(i s.is8)], [⟨0, 1, [[(eL tP (rt tP s.d7))]], true, false, 0⟩]⟩), (some 0, fun p s => ⟨((eL tX p.y6) :: ((.fn 114 [(.ptr 0 0 0 0)]) :: (ra 5 ((i p.is7) :: ((i s.is8) :: ((b (decide (s.is8 < p.is7))) :: (ra 9 []))))))), [⟨0, 1, [[(eL tP s.d7)]], true, false, 0⟩]⟩)], Ta7⟩
theorem Ta8 : Y4.Ok := Lo.ok [] (by kernel_rfl) .nil rfl (.cons (fun a H => by kernel_rfl) .nil) fun p s => (.of @A1 (fun F _ _ _ _ _ => by unfold A1; (repeat' apply k9 (f := F)) <;> rfl) (by kernel_rfl))
structure P6 where
 alt : Nat
 is0 : Int
 d7 : List Pln
noncomputable def A8 {α : Type} (kk : P6 → α) (x : P5) : α := let t1 := (lp (C0 (⟨(rt tX x.y6), (↑(List.length x.y6) : Int)⟩ : E0)) (⟨0, (rt tP x.d7)⟩ : m0)); (sl ((cnE tX x.y6) && ((cnE tP x.d7) && true)) (sl (Nat.beq t1.1 1) (kk ⟨1, t1.2.is8, (rt tP t1.2.d7)⟩) (sl (Nat.beq t1.1 2) (kk ⟨1, (-1), t1.2.d7⟩) (kk ⟨0, 0, []⟩))) (kk ⟨0, 0, []⟩))
noncomputable def ca0 (x : P5) : P6 := A8 (fun r => r) x
noncomputable def aa8 (x : P5) (r : P6) : DT (b7 × List b8) := (.ite (Nat.beq r.alt 1) (.ret ((i r.is0), [⟨0, 1, [[(eL tP r.d7)]], true, false, 0⟩])) .fail)
theorem eb5 {α β : Type} (F : α → β) (kk : P6 → α) (x : P5) : F (A8 kk x) = A8 (fun r => F (kk r)) x := by unfold A8; (repeat' apply k9 (f := F)) <;> rfl
noncomputable def va7 : Sum := Ya0 ⟨[(.s (.c 4 (nL tX))), (.fn 114 [(.o (.ptr 0 0 0 0))])], [⟨0, 1, true, (some [[(.c 4 (nL tP))]])⟩], fun a H => (⟨(rL tX (slT a 0)), (rL tP (slT (rwT (elT H 0) 0) 0))⟩, ())⟩ (fun x => aa8 x (ca0 x))
theorem bb9 : f6 prog G 185 va7 := N7 (enc := fun x => ⟨[(eL tX x.y6), (.fn 114 [(.ptr 0 0 0 0)])], [⟨0, 1, [[(eL tP x.d7)]], true, false, 0⟩]⟩) (fun a H => by kernel_rfl) (bd qe6 Va8) fun x => wa0 (.s .p (.s (.s .p (.b (.u Y4.ls))) .p)) [Y4.pr] (by kernel_rfl) (.cons Ta8 .nil) (Eq.trans (b := A8 (fun r => (aa8 x r).run) x) (by kernel_rfl) (eb5 (fun r => (aa8 x r).run) (fun r => r) x).symm)
structure I9 where
 y6 : List Pt
 d7 : List Pln
noncomputable def Qa3 : List (Nat × Sum) := [(185, va7)]
theorem La5 : i7 prog G Qa3 := ⟨bb9, trivial⟩
structure J0 where
 alt : Nat
 bs0 : Bool
 d7 : List Pln
noncomputable def v9 {α : Type} (kk : J0 → α) (x : I9) : α := let t1 := (ca0 ⟨(rt tX x.y6), (rt tP x.d7)⟩); (sl ((cnE tX x.y6) && ((cnE tP x.d7) && true)) (sl (Nat.beq t1.alt 1) (kk ⟨1, (decide (t1.is0 ≥ 0)), t1.d7⟩) (kk ⟨0, false, []⟩)) (kk ⟨0, false, []⟩))
noncomputable def V6 (x : I9) : J0 := v9 (fun r => r) x
noncomputable def T4 (x : I9) (r : J0) : DT (b7 × List b8) := (.ite (Nat.beq r.alt 1) (.ret ((b r.bs0), [⟨0, 1, [[(eL tP r.d7)]], true, false, 0⟩])) .fail)
theorem Ta9 {α β : Type} (F : α → β) (kk : J0 → α) (x : I9) : F (v9 kk x) = v9 (fun r => F (kk r)) x := by unfold v9; (repeat' apply k9 (f := F)) <;> rfl
noncomputable def ma8 : Sum := Ya0 ⟨[(.s (.c 4 (nL tX))), (.fn 114 [(.o (.ptr 0 0 0 0))])], [⟨0, 1, true, (some [[(.c 4 (nL tP))]])⟩], fun a H => (⟨(rL tX (slT a 0)), (rL tP (slT (rwT (elT H 0) 0) 0))⟩, ())⟩ (fun x => T4 x (V6 x))
theorem Qa4 : f6 prog G 113 ma8 := N7 (enc := fun x => ⟨[(eL tX x.y6), (.fn 114 [(.ptr 0 0 0 0)])], [⟨0, 1, [[(eL tP x.d7)]], true, false, 0⟩]⟩) (fun a H => by kernel_rfl) (bd qe5 La5) fun x => p7 (Eq.trans (b := v9 (fun r => (T4 x r).run) x) (by kernel_rfl) (Ta9 (fun r => (T4 x r).run) (fun r => r) x).symm)
noncomputable def zc2 : List (Nat × Sum) := [(20, Ca6), (87, ua6), (18, na2), (113, ma8)]
theorem lc5 : i7 prog G zc2 := ⟨Ga4, xa7, sa0, Qa4, trivial⟩
noncomputable def za0 (x : List Pln) (y : List Pln) : Option (b7 × List b8) := let t1 := (ea1 (rt tP x)); let t2 := (X1 [(rt tP y)]); let t3 := (R5 (rt tP x)); let t4 := (V6 ⟨(rt tX t3), (rt tP y)⟩); (sl (okE tP x) (sl (ea2 (rt tP x)) (sl t1 (sl ((okE tP y) && true) (sl (X2 [(rt tP y)]) (sl t2 (sl (okE tP x) (sl (R6 (rt tP x)) (sl ((cnE tX t3) && ((cnE tP y) && true)) (sl (Nat.beq t4.alt 1) (some ((b (!t4.bs0)), [])) none) none) none) none) (some ((b false), []))) none) none) (some ((b false), []))) none) none)
noncomputable def za1 (x : List Pln) (y : List Pln) : Bool := G6 (one r1B) (za0 x y)
noncomputable def za2 (x : List Pln) (y : List Pln) : Bool := okO (one r1B) (za0 x y)
noncomputable def Kb3 : Sum := ga8 (T5 tP) (T5 tP) (fun x y => .guard (za2 x y) (.ret ((one r1B).enc (za1 x y), [])))
theorem zc3 : f6 prog G 33 Kb3 := cb4 (bd b33 lc5) (one r1B) (o := za0) fun x y => p7 (by kernel_rfl)
noncomputable def id9 : List (Nat × Sum) := []
theorem Vc5 : i7 prog G id9 := trivial
structure ub4 where
 d8 : Int
 K9 : Int
 L0 : Int
 L1 : Int
 L2 : Int
 L3 : Int
noncomputable def cb0 {α : Type} (kk : ub4 → α) (x : V3) (y : V3) : α := (kk ⟨y.x, (W (0 - x.x)), y.y, (W (0 - x.y)), y.z, (W (0 - x.z))⟩)
noncomputable def zc4 (x : V3) (y : V3) : ub4 := cb0 (fun r => r) x y
noncomputable def Db2 (r : ub4) : DT (b7 × List b8) := .ret ((.sl 0 0 6 0), [⟨50, 4, [[(i 1), (i 0), (i 0), (i r.d8)], [(i (-1)), (i 0), (i 0), (i r.K9)], [(i 0), (i 1), (i 0), (i r.L0)], [(i 0), (i (-1)), (i 0), (i r.L1)], [(i 0), (i 0), (i 1), (i r.L2)], [(i 0), (i 0), (i (-1)), (i r.L3)]], true, false, 0⟩])
theorem rd0 {α β : Type} (F : α → β) (kk : ub4 → α) (x : V3) (y : V3) : F (cb0 kk x y) = cb0 (fun r => F (kk r)) x y := by unfold cb0; (repeat' apply k9 (f := F)) <;> rfl
noncomputable def zc5 : Sum := ga8 (P7 tV) (P7 tV) (fun x y => Db2 (zc4 x y))
theorem jd0 : f6 prog G 111 zc5 := ta9 (bd qe4 Vc5) fun x y => p7 (Eq.trans (b := cb0 (fun r => (Db2 r).run) x y) (by kernel_rfl) (rd0 (fun r => (Db2 r).run) (fun r => r) x y).symm)
noncomputable def Gc1 : List (Nat × Sum) := [(111, zc5)]
theorem zc6 : i7 prog G Gc1 := ⟨jd0, trivial⟩
structure Va9 where
 d8 : Int
 K9 : Int
 L0 : Int
 L1 : Int
 L2 : Int
 L3 : Int
noncomputable def Ia2 {α : Type} (kk : Va9 → α)  : α := let t1 := (zc4 (⟨0, 0, 0⟩ : V3) (⟨1, 1, 1⟩ : V3)); (kk ⟨t1.d8, t1.K9, t1.L0, t1.L1, t1.L2, t1.L3⟩)
noncomputable def ub5  : Va9 := Ia2 (fun r => r)
noncomputable def lb1 (r : Va9) : DT (b7 × List b8) := .ret ((.sl 0 0 6 0), [⟨50, 4, [[(i 1), (i 0), (i 0), (i r.d8)], [(i (-1)), (i 0), (i 0), (i r.K9)], [(i 0), (i 1), (i 0), (i r.L0)], [(i 0), (i (-1)), (i 0), (i r.L1)], [(i 0), (i 0), (i 1), (i r.L2)], [(i 0), (i 0), (i (-1)), (i r.L3)]], true, false, 0⟩])
theorem Vc6 {α β : Type} (F : α → β) (kk : Va9 → α)  : F (Ia2 kk ) = Ia2 (fun r => F (kk r))  := by unfold Ia2; (repeat' apply k9 (f := F)) <;> rfl
noncomputable def Wb7 : Sum := Zc7  (lb1 (ub5 ))
theorem Gc2 : f6 prog G 81 Wb7 := sd7 (bd b81 zc6) (p7 (Eq.trans (b := Ia2 (fun r => (lb1 r).run) ) (by kernel_rfl) (Vc6 (fun r => (lb1 r).run) (fun r => r) ).symm))
end Go.Ev.Ce
end
namespace Go.Ev.Ce
open Go Go.Ev Go.Ev.L Go.Proofs
theorem Nd7 (v : V3) : ub2 v = inV v ∧ ub3 v = true := by
 have h3 : [v.x, v.y, v.z].length ≤ 1000000000 := by simp
 have : bb5 v = some (b (inV v), []) := by
  unfold bb5 inV
  simp only [bc6 24 _ (by omega) h3, bc7 24 _ (by omega) h3, o6]
  simp only [List.all_cons, List.all_nil, Bool.and_true]
 unfold ub2 ub3
 rw [this]
 exact ⟨rfl, rfl⟩
noncomputable def has (c : List Pln) (v : V3) : Bool := (chk c == 0) && (inV v && inn c ⟨v.x, v.y, v.z, 1⟩)
theorem Nd8 {c : List Pln} (hc : c.length ≤ 1000000000) (v : V3) : bb6 c v = some (b (has c v), []) := by
 unfold bb6 has
 simp only [l4, J4, Vb4 c hc, Vb5 c hc, (Nd7 v).1, (Nd7 v).2, vc2 c _ hc, vc3 c _ hc]
 cases chk c == 0 with
 | false => rfl
 | true => cases inV v <;> rfl
theorem re9 {c : List Pln} (hc : c.length ≤ 1000000000) (v : V3) : bb7 c v = has c v := by unfold bb7; rw [Nd8 hc]; rfl
theorem se0 {c : List Pln} (hc : c.length ≤ 1000000000) (v : V3) : bb8 c v = true := by unfold bb8; rw [Nd8 hc]; rfl
theorem Nd9 {a c : List Pln} (ha : (chk a == 0) = true) (hc : (chk c == 0) = true) : Bds (a ++ c ++ ws) ∧ (a ++ c ++ ws).length ≤ 200 := by
 rw [beq_iff_eq, ed7] at ha hc
 refine ⟨fun p hp => ?_, by rw [List.length_append, List.length_append, show ws.length = 6 from rfl]; omega⟩
 rcases List.mem_append.1 hp with hp | hp
 ·rcases List.mem_append.1 hp with hp | hp
  ·exact Sc6 (ha.2 p hp)
  ·exact Sc6 (hc.2 p hp)
 ·exact be8 p hp
noncomputable def apart (a c : List Pln) : Bool := !((chk a == 0) && (chk c == 0)) || !fd3 (a ++ c ++ ws)
theorem jd1 {a c : List Pln} (ha : a.length ≤ 100000000) (hc : c.length ≤ 100000000) : Ha9 a c = some (b (apart a c), []) := by
 have hn : [a, c].length ≤ 1000000000 := by simp
 have hl : ∀ x ∈ [a, c], x.length ≤ 1000000000 := by
  intro x hx
  simp only [List.mem_cons, List.not_mem_nil, or_false] at hx
  rcases hx with rfl | rfl <;> omega
 have hf : [a, c].flatten = a ++ c := by simp
 have hfl : [a, c].flatten.length ≤ 1000000000 := by rw [hf, List.length_append]; omega
 unfold Ha9 apart
 simp only [l4, J4, fd1 _ hn hl, fd2 _ hn hl, qe9 _ hn hfl, re0 _ hn hfl, hf, List.all_cons, List.all_nil, Bool.and_true]
 cases h1 : chk a == 0 with
 | false => rfl
 | true =>
  cases h2 : chk c == 0 with
  | false => rfl
  | true =>
   obtain ⟨q1, q2⟩ := Nd9 h1 h2
   rw [Ld4 _ q1 q2, Ld5 _ q1 q2]
   rfl
theorem Xd3 {a c : List Pln} (ha : a.length ≤ 100000000) (hc : c.length ≤ 100000000) : Ia0 a c = apart a c := by unfold Ia0; rw [jd1 ha hc]; rfl
theorem Xd4 {a c : List Pln} (ha : a.length ≤ 100000000) (hc : c.length ≤ 100000000) : Ia1 a c = true := by unfold Ia1; rw [jd1 ha hc]; rfl
noncomputable def Od0 (a c : List Pln) : Bool := ful a && ((chk c == 0) && (pts a).all (inn c))
theorem rd1 (x : Pt) (c : List Pln) (hc : c.length ≤ 1000000000) : Aa6 ⟨x.px, x.py, x.pz, x.pw, c⟩ = ⟨1, !inn c x⟩ := by
 unfold Aa6 ca6
 simp only [l4, J4, o6]
 show sl (R2 c x) (ma7.mk 1 (!Q9 c x)) _ = _
 rw [vc2 c x hc, vc3 c x hc]
 rfl
theorem Lc9 {a c : List Pln} (ha : a.length ≤ 1000000000) (hc : c.length ≤ 1000000000) : za0 a c = some (b (Od0 a c), []) := by
 have hX := Wb1 a
 have h := fb7 (step := C0 ⟨pts a, ((pts a).length : Int)⟩) (mk := fun j => (⟨(j : Int), c⟩ : m0)) (c := fun x => !inn c x) (u := 1) (fin := 2) tX (pts a) (by omega)
  (fun j hj => by
   simp only [C0, A1, Int.toNat_natCast, l4, m8, rd1 _ _ hc, o5 hj (show (pts a).length ≤ 4611686018427387904 by omega)]
   rw [btD (m9 hj), bt (e8 hj)]
   rfl)
  (by simp only [C0, A1]; rw [bfD (T1 (Nat.lt_irrefl _))]) 0 (Nat.zero_le _)
 rw [List.drop_zero] at h
 have e : ((pts a).any fun x => !inn c x) = !(pts a).all (inn c) := by rw [List.not_all_eq_any_not]
 unfold za0 V6 v9 ca0 A8 Od0
 simp only [l4, m8, J4, cc2 ha, cc3 ha, Vb4 c hc, Vb5 c hc, nb7 ha, nb8 ha]
 rw [show (⟨0, c⟩ : m0) = ⟨((0 : Nat) : Int), c⟩ from rfl, h, e]
 cases ful a with
 | false => rfl
 | true =>
  cases chk c == 0 with
  | false => rfl
  | true =>
   cases (pts a).all (inn c) with
   | true => rfl
   | false =>
    simp only [Bool.not_false, if_true, Nat.zero_add]
    show some (b (!(decide ((((pts a).findIdx fun x => !inn c x : Nat) : Int) ≥ 0))), []) = _
    rw [show decide ((((pts a).findIdx fun x => !inn c x : Nat) : Int) ≥ 0) = true from decide_eq_true (by omega)]
    rfl
theorem Od1 {a c : List Pln} (ha : a.length ≤ 1000000000) (hc : c.length ≤ 1000000000) : za1 a c = Od0 a c := by unfold za1; rw [Lc9 ha hc]; rfl
theorem Od2 {a c : List Pln} (ha : a.length ≤ 1000000000) (hc : c.length ≤ 1000000000) : za2 a c = true := by unfold za2; rw [Lc9 ha hc]; rfl
end Go.Ev.Ce
namespace Go.Ev.L
open Go Go.Ev Go.Sort Go.Proofs
section
variable {α : Type} [Inhabited α] {P : Program} {G : Nat → List Value} {g : FuncId} {S : Sum} {t : Ty α} {enc : α → List Value} {cf : α → α → Int}
theorem Xd5 (hc : f6 P G g S) (hS : ∀ x y, (S [.agg (t.row x), .agg (t.row y)] []).run = some (i (cf x y), [])) (hG : ∀ n, G n = []) (he : ∀ x, t.row x = (enc x).map .v) (k blk off size : Nat) (w : World) :
  CmpLays P g #[] enc k cf blk off size w := by
 intro m os dk _ x y
 generalize sortWorldK enc k w blk off m dk os = w0
 have hrow : ∀ (z : α), W4 (fun _ => ⟨0, 0, 0⟩) [] (fun _ _ => False) w0 (.agg (t.row z)) (.agg (enc z).toArray) := fun z => by
  refine .agg _ _ (by rw [he]; simp) fun i u u' hu hu' => ?_
  rw [he, List.getElem?_map] at hu
  have hu' : (enc z)[i]? = some u' := by simpa using hu'
  rw [hu'] at hu
  injection hu with hu
  subst hu
  exact .v _
 obtain ⟨_, h⟩ := hc _ _ _ _ (hS x y) (fun k => w0.heap.size ≤ k) (fun _ => ⟨0, 0, 0⟩) (fun _ _ => False) w0 [.agg (enc x).toArray, .agg (enc y).toArray]
  ⟨fun id b hb => by simp at hb, fun id id' b b' hb => by simp at hb, fun b o hf => hf.elim, fun k hk => hk⟩ rfl
  (fun i u u' hu hu' => by
   match i, hu, hu' with
   | 0, hu, hu' => cases hu; cases hu'; exact .val (hrow x)
   | 1, hu, hu' => cases hu; cases hu'; exact .val (hrow y))
  (fun n c v hv => by rw [hG] at hv; simp at hv)
 refine h.mono fun e w' ⟨r', h1, ρ', F', h2, h3, h4⟩ => ?_
 have h5 := Y5 h4
 subst h5
 refine ⟨h1, w'.drawn - w0.drawn, w'.heap.extract w0.heap.size w'.heap.size, ?_⟩
 have hd := h2.ext.drawn
 have hs := h2.ext.size
 have hheap : w'.heap = w0.heap ++ w'.heap.extract w0.heap.size w'.heap.size := by
  apply Array.ext_getElem?
  intro j
  rcases Nat.lt_or_ge j w0.heap.size with hj | hj
  ·rw [Array.getElem?_append_left hj, h2.ext.block j hj (by omega)]
  ·rw [Array.getElem?_append_right hj, Array.getElem?_extract]
   have e : w0.heap.size + (j - w0.heap.size) = j := by omega
   rw [e]
   split
   ·rfl
   ·rw [Array.getElem?_eq_none (by omega)]
 obtain ⟨hp, tp, dr, os', out⟩ := w'
 have e1 := h2.ext.os; have e2 := h2.ext.tape; have e3 := h2.ext.output
 simp only at e1 e2 e3 hd hheap
 subst e1 e2 e3
 unfold grow World.drewN
 simp only
 congr 1
 omega
noncomputable def Od3 (t : Ty α) (g : Nat) (et : Nat) (srt : List α → List α) : Sum := fun args blks => match args, blks with
 | [.sl 0 0 n 0, .fn g' []], [⟨et', es', el, true, false, 0⟩] =>
  Bool.rec (motive := fun _ => DT (b7 × List b8)) .fail (.guard (Bool.and (Nat.ble n room) (Bool.and (Nat.ble n (len el)) (okS t el 0 n))) (.ret (.v (.tuple #[]), [⟨et', es', app (bL t (srt (slR t el 0 n))) (e7 el n), true, false, 0⟩])))
   (Bool.and (Nat.beq g' g) (Bool.and (Nat.beq et' et) (Nat.beq es' t.es)))
 | _, _ => .fail
theorem Wb8 (l : List α) (j : Nat) (h : j < l.length) : l.toArray[j]! = l[j] := by
 rw [getElem!_pos l.toArray j (by simpa using h)]
 simp
theorem Xd6 {f : FuncId} {et : Nat} {srt : List α → List α} (hcall : yb1 P f) (hes : 0 < t.es) (he : ∀ x, t.row x = (enc x).map .v) (hx : ∀ r, t.ok r = true → r = t.row (t.rd r)) (h1 : ∀ x, ∀ v ∈ enc x, v.oneCell' = true)
  (hlen : ∀ l, (srt l).length = l.length) (hcl : ∀ blk off size w, CmpLays P g #[] enc t.es cf blk off size w)
  (hcon : ∀ (blk cap : Nat) (d : Array α) (w : World), (∀ off size, CmpLays P g #[] enc t.es cf blk off size w) → HoldsK enc t.es w blk 0 d → blk < w.heap.size → d.size < 4611686018427387904 →
   Calls P f #[.slice (some ⟨blk, 0, none⟩) d.size cap, .func (.func g) #[] #[]] w fun e w' => e = .returned (.tuple #[]) ∧ ∃ n os, w' = sortWorldK enc t.es w blk 0 n (srt d.toList).toArray os) :
  f6 P G f (Od3 t g et srt) := by
 intro args blks r out hr W ρ F w args' hH hl hargs hG
 refine ⟨hcall, ?_⟩
 unfold Od3 at hr
 split at hr
 case h_2 => cases hr
 rename_i n g' et' es' el
 cases hb0 : Bool.and (Nat.beq g' g) (Bool.and (Nat.beq et' et) (Nat.beq es' t.es)) with
 | false => rw [hb0] at hr; cases hr
 | true =>
 rw [hb0] at hr
 rw [Bool.and_eq_true, Bool.and_eq_true] at hb0
 have q1 := Nat.eq_of_beq_eq_true hb0.1; have q2 := Nat.eq_of_beq_eq_true hb0.2.1; have q3 := Nat.eq_of_beq_eq_true hb0.2.2
 subst q1 q2 q3
 obtain ⟨hg0, hr⟩ := DT.run_guard_some hr
 rw [Bool.and_eq_true, Bool.and_eq_true] at hg0
 have hroom : n ≤ room := Nat.le_of_ble_eq_true hg0.1
 have hn := Nat.le_of_ble_eq_true hg0.2.1
 rw [j9] at hn
 have hok := hg0.2.2
 injection hr with hr; injection hr with p1 p2; subst p1 p2
 match args', hl with
 | [v0, v1], _ =>
 obtain ⟨a, cap, b, rfl, hb, hd, _, hncap, hspot, hcap, hq⟩ := Aa9 (hargs 0 _ _ rfl rfl)
 obtain ⟨vs1, rfl, hvs1, _⟩ := pb1 (hargs 1 _ _ rfl rfl)
 have hvs1 : vs1 = #[] := Array.eq_empty_of_size_eq_zero (by simpa using hvs1.symm)
 subst hvs1
 have hb : b = ⟨et', t.es, el, true, false, 0⟩ := by simpa using hb.symm
 subst hb
 obtain ⟨ha, hsz, hne⟩ := hq rfl
 have ha : a = ⟨(ρ 0).blk, (ρ 0).off + 0 * t.es, none⟩ := ha.resolve_left fun h => by omega
 obtain ⟨cc, tt, fr, hB⟩ := hH.blk 0 _ rfl rfl
 obtain ⟨hfr, hW, hoff, hsize, hnF, het⟩ := hB.own rfl
 subst hfr
 rw [hoff, Nat.zero_mul, Nat.add_zero] at ha
 subst ha
 generalize hbk : (ρ 0).blk = blk at *
 -- the rows as data
 have hrow : ∀ j, j < n → i5 el j = (enc (gL t (slR t el 0 n) j)).map .v := fun j hj => by
  have h2 : t.ok (i5 el (0 + j)) = true := List.all_eq_true.1 hok j (by simpa using hj)
  rw [Nat.zero_add] at h2
  rw [← he, slR, sd9 t _ hj, Nat.zero_add]
  exact hx _ h2
 have hld : (slR t el 0 n).length = n := Oc9 ..
 have hk : ∀ x, (enc x).length = t.es := fun x => by have := t.h0 x; rw [j9, he] at this; simpa using this
 have hlt : blk < w.heap.size := by
  have := hB.obj
  rcases Nat.lt_or_ge blk w.heap.size with h | h
  ·exact h
  ·rw [hbk, Array.getElem?_eq_none h] at this; cases this
 have hobj : w.heap[blk]? = some (.cells cc tt (0, 0)) := by rw [← hbk]; exact hB.obj
 have hgd : ∀ (l : List α) (j : Nat) (h : j < l.length), gL t l j = l[j] := fun l j h => by simp [gL, List.getD_eq_getElem?_getD, List.getElem?_eq_getElem h]
 have hdm : ∀ q, q < n * t.es → q / t.es < n ∧ q % t.es < t.es ∧ (q / t.es) * t.es + q % t.es = q := fun q hq => ⟨Nat.div_lt_of_lt_mul (by rw [Nat.mul_comm]; exact hq), Nat.mod_lt _ hes, Nat.div_add_mod' q t.es⟩
 have hrowAt : ∀ j, j < el.length → el[j]? = some (i5 el j) := fun j hj => by
  unfold i5; rw [w4, List.getElem?_eq_getElem hj]
 have hH0 : HoldsK enc t.es w blk 0 (slR t el 0 n).toArray := by
  intro q hq
  have hq : q < n * t.es := by rw [size_flatK] at hq; simpa [hld] using hq
  obtain ⟨e1, e2, e3⟩ := hdm q hq
  rw [get_flatK _ _ _ _ (by simpa [hld] using hq), Wb8 _ _ (by rw [hld]; exact e1), ← hgd _ _ (by rw [hld]; exact e1)]
  have hcx : (i5 el (q / t.es))[q % t.es]? = some (.v ((enc (gL t (slR t el 0 n) (q / t.es)))[q % t.es]!)) := by
   rw [hrow _ e1, List.getElem?_map, List.getElem?_eq_getElem (by rw [hk]; exact e2), getElem!_pos _ _ (by rw [hk]; exact e2)]
   rfl
  obtain ⟨x', h5, h6⟩ := hB.cell (q / t.es) _ (q % t.es) _ (hrowAt _ (by omega)) hcx
  have h6 : x' = (enc (gL t (slR t el 0 n) (q / t.es)))[q % t.es]! := by cases h6; rfl
  subst h6
  rw [hoff] at h5
  simp only [e3, Nat.zero_add] at h5
  constructor
  ·simp only [World.cell?, hobj, Nat.zero_add]
   simpa using h5
  ·simp [World.frozen?, hobj]
 have hds : (slR t el 0 n).toArray.size = n := by simpa using hld
 have hmax : n < 4611686018427387904 := by unfold room at hroom; omega
 have hcalls := hcon blk cap (slR t el 0 n).toArray w (fun off size => hcl blk off size w) hH0 hlt (by rw [hds]; exact hmax)
 rw [hds] at hcalls
 refine hcalls.mono fun e w' ⟨h5, m, os, h6⟩ => ⟨_, h5, ρ, F, ?_⟩
 generalize hsd : srt (slR t el 0 n) = sd at *
 have hsl : sd.length = n := by rw [← hsd, hlen, hld]
 have h6 : w' = grow (mapBlock (Sort.ahead w m) blk (putCells id 0 (flatK enc t.es sd.toArray))) os := h6
 have hw'size : w'.heap.size = w.heap.size + os.size := by rw [h6]; simp [mapBlock]
 have hold : ∀ k, k < w.heap.size → k ≠ blk → w'.heap[k]? = w.heap[k]? := fun k h7 h8 => by
  rw [h6]
  simp only [grow, mapBlock]
  rw [Array.getElem?_append_left (by simpa using h7), Array.getElem?_modify]
  simp [Ne.symm h8]
 have hnew : w'.heap[blk]? = some (.cells (putCells id 0 (flatK enc t.es sd.toArray) cc) tt (0, 0)) := by
  rw [h6]
  simp only [grow, mapBlock]
  rw [Array.getElem?_append_left (by simpa using hlt), Array.getElem?_modify]
  simp [hobj, onCells]
 have hcells : ∀ b o, F b o → w'.cell? ⟨b, o, none⟩ = w.cell? ⟨b, o, none⟩ := fun b o hf => by
  have h7 : b ≠ blk := fun h8 => hnF o (h8 ▸ hf)
  have := ob8 (hH.frz b o hf)
  simp only [World.cell?, hold b this h7]
 have hpc : ∀ q, q < cc.size → (putCells id 0 (flatK enc t.es sd.toArray) cc)[q]? = if q < n * t.es then some ((enc sd.toArray[q / t.es]!)[q % t.es]!) else cc[q]? := fun q hq => by
  simp only [putCells, Array.getElem?_mapIdx, Array.getElem?_eq_getElem hq, Option.map_some, size_flatK, Nat.zero_le, true_and, Nat.zero_add, Nat.sub_zero, id]
  have : sd.toArray.size = n := by simpa using hsl
  rw [this]
  split
  ·next h7 => rw [get_flatK _ _ _ _ (by rw [this]; exact h7)]
  ·rfl
 have hel : (app (bL t sd) (e7 el n)).length = el.length := by
  rw [B3, List.length_append, ← j9 (bL t sd), N6, hsl, B1, List.length_drop]
  omega
 have hnrow : ∀ (j : Nat) r, (app (bL t sd) (e7 el n))[j]? = some r → (j < n ∧ r = t.row (gL t sd j)) ∨ (n ≤ j ∧ el[j]? = some r) := fun j r hr => by
  have hlb : (bL t sd).length = n := by rw [← j9, N6, hsl]
  rw [B3] at hr
  rcases Nat.lt_or_ge j n with h7 | h7
  ·rw [List.getElem?_append_left (by omega)] at hr
   left
   refine ⟨h7, ?_⟩
   unfold bL at hr
   rw [k8, List.getElem?_map, List.getElem?_eq_getElem (by omega)] at hr
   injection hr with hr
   rw [← hr, hgd sd j (by omega)]
  ·rw [List.getElem?_append_right (by omega), hlb, B1, List.getElem?_drop] at hr
   right
   exact ⟨h7, by rw [← hr]; congr 1; omega⟩
 have hcs : el.length * t.es ≤ cc.size := by have := hB.len; rw [hsize] at this; exact this
 refine ⟨⟨⟨?_, ?_, ?_, by omega, fun k h7 h8 => hold k h7 fun h9 => h8 (h9 ▸ hW), hcells, ?_⟩, fun id b hb => ?_, fun _ _ h => h, fun _ _ h => .inl h, fun id b' hb' hn' => ?_⟩, ⟨fun id b hb hd' => ?_, fun id id' b b' hb hb' h7 h8 h9 h10 => ?_, fun b o hf => by rw [hcells b o hf]; exact hH.frz b o hf, fun k hk' => hH.new k (by omega)⟩, .ofv _⟩
 ·rw [h6]; rfl
 ·rw [h6]; rfl
 ·rw [h6]; rfl
 ·rw [h6]; exact Nat.le_add_right _ _
 ·match id, hb with
  | 0, hb =>
   cases hb
   exact ⟨_, rfl, rfl, Nat.le_refl _, fun _ => ⟨rfl, rfl, by simp only [hel]; exact Nat.le_refl _⟩⟩
 ·match id, hb' with
  | 0, hb' => cases hb'; exact absurd rfl (hn' ⟨et', t.es, el, true, false, 0⟩ rfl)
 ·match id, hb with
  | 0, hb =>
   cases hb
   refine ⟨_, tt, (0, 0), by rw [hbk]; exact hnew, ?_, ?_, ?_, ?_, fun _ => ⟨rfl, by rw [hbk]; exact hW, hoff, ?_, by rw [hbk]; exact hnF, het⟩, fun h => by cases h⟩
   ·rw [hoff, hsize]; simp [putCells]
   ·simp only [hel]; exact hB.len
   ·intro j r hr
    rcases hnrow j r hr with ⟨_, h8⟩ | ⟨_, h8⟩
    ·rw [h8, ← j9]; exact t.h0 _
    ·exact hB.rows j r h8
   ·intro j r c x hr hc
    rw [hoff, Nat.zero_add]
    rcases hnrow j r hr with ⟨h7, h8⟩ | ⟨h7, h8⟩
    ·subst h8
     have hclt : c < t.es := by
      have := (List.getElem?_eq_some_iff.1 hc).1
      rw [← j9, t.h0] at this
      exact this
     have hq : j * t.es + c < n * t.es := by
      have := Nat.mul_le_mul_right t.es (show j + 1 ≤ n from h7)
      rw [Nat.add_mul, Nat.one_mul] at this
      omega
     have hqn : n * t.es ≤ el.length * t.es := Nat.mul_le_mul_right _ hn
     have e1 : (j * t.es + c) / t.es = j := by rw [Nat.mul_comm, Nat.mul_add_div hes, Nat.div_eq_of_lt hclt, Nat.add_zero]
     have e2 : (j * t.es + c) % t.es = c := by rw [Nat.mul_comm, Nat.mul_add_mod, Nat.mod_eq_of_lt hclt]
     rw [he, List.getElem?_map, List.getElem?_eq_getElem (by rw [hk]; exact hclt)] at hc
     injection hc with hc
     subst hc
     refine ⟨(enc (gL t sd j))[c]'(by rw [hk]; exact hclt), ?_, .v _ (h1 _ _ (List.getElem_mem _))⟩
     rw [hpc _ (Nat.lt_of_lt_of_le hq (Nat.le_trans hqn hcs)), if_pos hq, e1, e2, Wb8 _ _ (by omega), hgd sd j (by omega), getElem!_pos _ _ (by rw [hk]; exact hclt)]
    ·obtain ⟨x', h9, h10⟩ := hB.cell j r c x h8 hc
     rw [hoff, Nat.zero_add] at h9
     have hq : ¬ j * t.es + c < n * t.es := by
      have := Nat.mul_le_mul_right t.es h7
      omega
     have hlt' : j * t.es + c < cc.size := (Array.getElem?_eq_some_iff.1 h9).1
     exact ⟨x', by rw [hpc _ hlt', if_neg hq]; exact h9, h10.adv (fun _ _ h => h) hcells⟩
   ·rw [hsize]; simp [putCells]
 ·match id, hb, id', hb' with
  | 0, hb, 0, hb' => exact absurd rfl h10
end
end Go.Ev.L
namespace Go.Proofs
open Go.Shelf
shelf_lay_g SlLaysF0.n6 Slsf 6 at Tryz 103 as Ce.sortLay
end Go.Proofs
namespace Go.Ev.Ce
open Go Go.Ev Go.Ev.L Go.Proofs Go.Sort
def Wb9 (x y : Int) : Int := if x < y then -1 else if x > y then 1 else 0
def lb2 (x y : Pln) : Int :=
 if Wb9 x.n.x y.n.x = 0 then if Wb9 x.n.y y.n.y = 0 then if Wb9 x.n.z y.n.z = 0 then Wb9 x.b y.b else Wb9 x.n.z y.n.z else Wb9 x.n.y y.n.y else Wb9 x.n.x y.n.x
theorem nc3 (x y : Int) : Wb9 x y < 0 ↔ x < y := by unfold Wb9; split <;> (try split) <;> omega
theorem Vc7 (x y : Int) : Wb9 x y = 0 ↔ x = y := by unfold Wb9; split <;> (try split) <;> omega
def LtP (x y : Pln) : Prop := x.n.x < y.n.x ∨ x.n.x = y.n.x ∧ (x.n.y < y.n.y ∨ x.n.y = y.n.y ∧ (x.n.z < y.n.z ∨ x.n.z = y.n.z ∧ x.b < y.b))
instance (x y : Pln) : Decidable (LtP x y) := by unfold LtP; exact inferInstance
theorem Xd7 (x y : Pln) : lb2 x y < 0 ↔ LtP x y := by
 have h1 := nc3 x.n.x y.n.x; have h2 := Vc7 x.n.x y.n.x
 have h3 := nc3 x.n.y y.n.y; have h4 := Vc7 x.n.y y.n.y
 have h5 := nc3 x.n.z y.n.z; have h6 := Vc7 x.n.z y.n.z
 have h7 := nc3 x.b y.b
 unfold lb2 LtP
 split
 ·split
  ·split <;> omega
  ·omega
 ·omega
theorem Xa0 (x y : Pln) : ltOf lb2 x y = decide (LtP x y) := by
 unfold ltOf
 rw [decide_eq_decide]
 exact Xd7 x y
theorem se1 : SWO (ltOf lb2) where
 irrefl x := by rw [Xa0]; simp [LtP]
 trans x y z h1 h2 := by rw [Xa0, decide_eq_true_eq] at *; unfold LtP at *; omega
 ntrans x y z h1 h2 := by rw [Xa0, decide_eq_false_iff_not] at *; unfold LtP at *; omega
theorem se2 (x y : Pln) (h1 : ltOf lb2 x y = false) (h2 : ltOf lb2 y x = false) : x = y := by
 rw [Xa0, decide_eq_false_iff_not] at *
 unfold LtP at *
 obtain ⟨⟨a, b, c⟩, d⟩ := x; obtain ⟨⟨a', b', c'⟩, d'⟩ := y
 simp only at *
 have : a = a' ∧ b = b' ∧ c = c' ∧ d = d' := by omega
 obtain ⟨rfl, rfl, rfl, rfl⟩ := this
 rfl
theorem jd2 (x y : Int) : ya9 x y = some (i (Wb9 x y), []) := by
 unfold ya9 Wb9
 simp only [Xa8, decide_eq_true_eq]
 split <;> (try split) <;> rfl
theorem Xd8 (x y : Int) : ga3 x y = Wb9 x y := by unfold ga3; rw [jd2]; rfl
theorem Xd9 (x y : Int) : ga4 x y = true := by unfold ga4; rw [jd2]; rfl
theorem zc7 (x y : Pln) : ma6 x y = some (i (lb2 x y), []) := by
 unfold ma6 lb2
 simp only [Xd8, Xd9, Xa8, beq_iff_eq, if_true]
 repeat' (first | rfl | split)
theorem se3 (x y : Pln) : Aa3 x y = lb2 x y := by unfold Aa3; rw [zc7]; rfl
theorem se4 (x y : Pln) : Aa4 x y = true := by unfold Aa4; rw [zc7]; rfl
theorem se5 (x y : Pln) : (Ta6 [.agg (tP.row x), .agg (tP.row y)] []).run = some (i (lb2 x y), []) := by
 have : (Ta6 [.agg (tP.row x), .agg (tP.row y)] []).run = sel (Aa4 x y) (some (i (Aa3 x y), [])) none := by kernel_rfl
 rw [this, se4, se3]
def Zb6 (p : Pln) : List Value := [.int .i64 p.n.x, .int .i64 p.n.y, .int .i64 p.n.z, .int .i64 p.b]
instance : Inhabited Pln := ⟨⟨⟨0, 0, 0⟩, 0⟩⟩
def vb5 (l : List Pln) : List Pln := l.mergeSort fun x y => !ltOf lb2 y x
theorem Mc0 (l : List Pln) : (vb5 l).length = l.length := List.length_mergeSort l
noncomputable def Ca9 : Sum := Od3 tP 104 50 vb5
theorem Od4 : Ce.sortLay_ren.f 6 = 103 := by kernel_rfl
theorem Mc1 : Ce.sortLay_ren.t 24 = 50 := by kernel_rfl
set_option maxRecDepth 100000 in
theorem lb3 : f6 prog G 103 Ca9 := by
 refine Xd6 (enc := Zb6) (cf := lb2) ⟨_, Tryz.func103, by kernel_rfl, of_decide_eq_true (by kernel_rfl)⟩ (by decide) (fun _ => rfl) (fun r h => Ba7 (n := 4) h) (fun x v hv => ?_) Mc0
  (fun blk off size w => Xd5 dc6 se5 (fun _ => rfl) (fun _ => rfl) _ _ _ _ _) (fun blk cap d w hcl hH hb hs => ?_)
 ·simp [Zb6] at hv
  rcases hv with rfl | rfl | rfl | rfl <;> rfl
 ·have eg : ∀ args w, (callFunc 104 args).run Tryz.prog w = .ok (.enter 104 args) w := enters_of Tryz.func104 (by kernel_rfl) rfl
  have := AnyQ.slices_SortFunc Ce.sortLay 4 (by rw [Mc1]; exact Tryz.isAgg50) (by rw [Mc1]; exact Tryz.sizeOf50) Zb6 (fun _ => rfl) (fun x v hv => by simp [Zb6] at hv; rcases hv with rfl | rfl | rfl | rfl <;> rfl) lb2 se1 104 #[] blk 0 cap d w eg (hcl 0 d.size) hH hb hs
  rw [Od4] at this
  refine this.mono fun e w' ⟨h1, d', n, os, h2, h3, h4⟩ => ⟨h1, n, os, ?_⟩
  have h5 := sorted_unique_holds se1 se2 d d' h2 h3
  rw [h4]
  show _ = sortWorldK Zb6 4 w blk 0 n (d.toList.mergeSort fun x y => !ltOf lb2 y x).toArray os
  rw [← h5]
end Go.Ev.Ce
