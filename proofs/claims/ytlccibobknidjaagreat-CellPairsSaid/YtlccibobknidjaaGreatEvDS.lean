/- Own work: a part of the proof. -/
import Derived.Test.YtlccibobknidjaaGreatEvD2
import Derived.Test.YtlccibobknidjaaGreatEvE1
import Derived.Test.YtlccibobknidjaaGreatEvE8
import Derived.Shelf.SlSortCmp.WholeK
import Derived.Test.YtlccibobknidjaaGreatEvLt
import Derived.KernelRfl
set_option linter.unusedVariables false
set_option linter.unusedSimpArgs false
set_option linter.unnecessarySimpa false
set_option linter.unusedSectionVars false
section
namespace Go.Ev.Ce
open Go Go.Ev Go.Ev.L Go.Proofs
set_option maxRecDepth 100000
structure Ma7 where
 ja8 : Int
 ja9 : Int
 ka0 : Int
 db8 : Int
 k9 : List Pt
noncomputable def Cb9 : List (Nat × Sum) := [(102, hb9)]
theorem mc0 : j8 prog G Cb9 := ⟨rb0, trivial⟩
structure na6 where
 yd4 : List Pt
 is8 : Int
 k9 : List Pt
 F5 : Int
 F6 : Int
 F7 : Int
 F8 : Int
structure J9 where
 is4 : Int
 is9 : Int
noncomputable def ec1 (p : na6) (s : J9) : St := ⟨(.unk :: (.unk :: ((.ptr 1 0 0 0) :: (.unk :: ((i s.is4) :: (.unk :: (.unk :: ((eL tX p.yd4) :: ((i p.is8) :: ((i s.is9) :: (ra 12 []))))))))))), [⟨0, 1, [[(eL tX p.k9)]], true, false, 0⟩, ⟨0, 4, [[(i p.F5), (i p.F6), (i p.F7), (i p.F8)]], true, false, 0⟩]⟩
noncomputable def fa1 {α : Type} (k : J9 → α) (e : Nat → α) (z : α) (p : na6) (s : J9) : α := let t1 := (ka6 (⟨(⟨p.F5, p.F6, p.F7⟩ : V3), p.F8⟩ : Pln) (gL tX p.yd4 s.is9.toNat)); (sl (decide (s.is9 < p.is8)) (sl (inB s.is9 (List.length p.yd4)) (sl (t1 == 0) (k ⟨(W (s.is4 + 1)), (W (s.is9 + 1))⟩) (k ⟨s.is4, (W (s.is9 + 1))⟩)) z) (e 1))
noncomputable def ja3 (p : na6) (s : J9) : Stp J9 := fa1 .next .exit .fail p s
noncomputable def Ta9 : Lo na6 J9 := ⟨En Cb9, 1, be8, [1, 1, 0, 1, 4, 4], [2, 4, 7, 8, 9], .p, [⟨((.s (.o .unk)) :: ((.s (.o .unk)) :: ((.s (.o (.ptr 1 0 0 0))) :: ((.s (.o .unk)) :: ((.s (.o (.int .i64))) :: ((.s (.o .unk)) :: ((.s (.o .unk)) :: ((.s (.c 4 (nL tX))) :: ((.s (.o (.int .i64))) :: ((.s (.o (.int .i64))) :: (ru2 12 []))))))))))), [⟨0, 1, true, (some [[(.c 4 (nL tX))]])⟩, ⟨0, 4, true, (some [[(.o (.int .i64)), (.o (.int .i64)), (.o (.int .i64)), (.o (.int .i64))]])⟩], fun a H => (⟨(rL tX (slT a 7)), (toI (slT a 8)), (rL tX (slT (rwT (elT H 0) 0) 0)), (toI (slT (rwT (elT H 1) 0) 0)), (toI (slT (rwT (elT H 1) 0) 1)), (toI (slT (rwT (elT H 1) 0) 2)), (toI (slT (rwT (elT H 1) 0) 3))⟩, ⟨(toI (slT a 4)), (toI (slT a 9))⟩)⟩], ja3, [(some 0, fun p s => ⟨(.unk :: (.unk :: ((.ptr 1 0 0 0) :: (.unk :: ((i s.is4) :: (.unk :: (.unk :: ((eL tX p.yd4) :: ((i p.is8) :: ((i s.is9) :: ((b (decide (s.is9 < p.is8))) :: (ra 11 [])))))))))))), [⟨0, 1, [[(eL tX p.k9)]], true, false, 0⟩, ⟨0, 4, [[(i p.F5), (i p.F6), (i p.F7), (i p.F8)]], true, false, 0⟩]⟩)], ec1⟩
theorem ec2 : Ta9.Ok := Lo.ok [] (by kernel_rfl) .nil rfl (.cons (fun a H => by kernel_rfl) .nil) fun p s => (.of @fa1 (fun F _ _ _ _ _ => by unfold fa1; (repeat' apply m8 (f := F)) <;> rfl) (by kernel_rfl))
structure pa0 where
 alt : Nat
 bs0 : Bool
 k9 : List Pt
noncomputable def pa1 {α : Type} (kk : pa0 → α) (x : Ma7) : α := let t1 := (lp (ja3 (⟨(rt tX x.k9), (↑(List.length x.k9) : Int), (rt tX x.k9), x.ja8, x.ja9, x.ka0, x.db8⟩ : na6)) (⟨0, 0⟩ : J9)); (sl ((cnE tX x.k9) && ((cnE tX x.k9) && true)) (sl (Nat.beq t1.1 1) (kk ⟨1, (decide (t1.2.is4 < 3)), (rt tX x.k9)⟩) (kk ⟨0, false, []⟩)) (kk ⟨0, false, []⟩))
noncomputable def ga2 (x : Ma7) : pa0 := pa1 (fun r => r) x
noncomputable def cb6 (x : Ma7) (r : pa0) : DT (b7 × List b8) := (.ite (Nat.beq r.alt 1) (.ret ((b r.bs0), [⟨0, 1, [[(eL tX r.k9)]], true, false, 0⟩])) .fail)
theorem Hc1 {α β : Type} (F : α → β) (kk : pa0 → α) (x : Ma7) : F (pa1 kk x) = pa1 (fun r => F (kk r)) x := by unfold pa1; (repeat' apply m8 (f := F)) <;> rfl
noncomputable def lb4 : Sum := Za2 ⟨[(.agg [(.o (.int .i64)), (.o (.int .i64)), (.o (.int .i64)), (.o (.int .i64))]), (.s (.o (.ptr 0 0 0 0)))], [⟨0, 1, true, (some [[(.c 4 (nL tX))]])⟩], fun a H => (⟨(toI (slT (cellsOf (slT a 0)) 0)), (toI (slT (cellsOf (slT a 0)) 1)), (toI (slT (cellsOf (slT a 0)) 2)), (toI (slT (cellsOf (slT a 0)) 3)), (rL tX (slT (rwT (elT H 0) 0) 0))⟩, ())⟩ (fun x => cb6 x (ga2 x))
theorem Db0 : i5 prog G 101 lb4 := O4 (enc := fun x => ⟨[(.agg [(i x.ja8), (i x.ja9), (i x.ka0), (i x.db8)]), (.ptr 0 0 0 0)], [⟨0, 1, [[(eL tX x.k9)]], true, false, 0⟩]⟩) (fun a H => by kernel_rfl) (bd ye6 mc0) fun x => xa1 (.s .p (.s .p (.s (.s .p (.b (.u Ta9.ls))) .p))) [Ta9.pr] (by kernel_rfl) (.cons ec2 .nil) (Eq.trans (b := pa1 (fun r => (cb6 x r).run) x) (by kernel_rfl) (Hc1 (fun r => (cb6 x r).run) (fun r => r) x).symm)
structure P6 where
 ns0 : Nat
 eh0 : List (List b7)
 q9 : List Pt
noncomputable def ua3 : List (Nat × Sum) := [(101, lb4)]
theorem Wa9 : j8 prog G ua3 := ⟨Db0, trivial⟩
structure E7 where
 ns0 : Nat
 is7 : Int
 eh0 : List (List b7)
structure n9 where
 is8 : Int
 q9 : List Pt
noncomputable def Ua0 (p : E7) (s : n9) : St := ⟨((.sl 0 0 p.ns0 0) :: ((.fn 101 [(.ptr 1 0 0 0)]) :: (ra 5 ((i p.is7) :: ((i s.is8) :: (ra 10 [])))))), [⟨50, 4, p.eh0, true, false, 0⟩, ⟨0, 1, [[(eL tX s.q9)]], true, false, 0⟩]⟩
noncomputable def A6 {α : Type} (k : n9 → α) (e : Nat → α) (z : α) (p : E7) (s : n9) : α := let t1 := (ga2 ⟨(rdR tP p.eh0 (0 + s.is8.toNat)).n.x, (rdR tP p.eh0 (0 + s.is8.toNat)).n.y, (rdR tP p.eh0 (0 + s.is8.toNat)).n.z, (rdR tP p.eh0 (0 + s.is8.toNat)).b, (rt tX s.q9)⟩); (sl (decide (s.is8 < p.is7)) (sl (inB s.is8 p.ns0) (sl (ldR tP p.eh0 (0 + s.is8.toNat)) (sl ((cnE tX s.q9) && true) (sl (Nat.beq t1.alt 1) (sl t1.bs0 (e 1) (k ⟨(W (s.is8 + 1)), t1.k9⟩)) z) z) z) z) (e 2))
noncomputable def C9 (p : E7) (s : n9) : Stp n9 := A6 .next .exit .fail p s
noncomputable def Y2 : Lo E7 n9 := ⟨En ua3, 2, vd6, [1, 0, 1, 4, 4], [0, 1, 7, 8], .p, [⟨((.s (.o (.sl 0 0 (some 0) none))) :: ((.fn 101 [(.o (.ptr 1 0 0 0))]) :: (ru2 5 ((.s (.o (.int .i64))) :: ((.s (.o (.int .i64))) :: (ru2 10 [])))))), [⟨50, 4, true, none⟩, ⟨0, 1, true, (some [[(.c 4 (nL tX))]])⟩], fun a H => (⟨(slN (slT a 0)), (toI (slT a 7)), (elT H 0)⟩, ⟨(toI (slT a 8)), (rL tX (slT (rwT (elT H 1) 0) 0))⟩)⟩], C9, [(none, fun p s => let t1 := (ga2 ⟨(rdR tP p.eh0 (0 + s.is8.toNat)).n.x, (rdR tP p.eh0 (0 + s.is8.toNat)).n.y, (rdR tP p.eh0 (0 + s.is8.toNat)).n.z, (rdR tP p.eh0 (0 + s.is8.toNat)).b, (rt tX s.q9)⟩); ⟨[(i s.is8)], [⟨50, 4, p.eh0, true, false, 0⟩, ⟨0, 1, [[(eL tX t1.k9)]], true, false, 0⟩]⟩), (some 0, fun p s => ⟨((.sl 0 0 p.ns0 0) :: ((.fn 101 [(.ptr 1 0 0 0)]) :: (ra 5 ((i p.is7) :: ((i s.is8) :: ((b (decide (s.is8 < p.is7))) :: (ra 9 []))))))), [⟨50, 4, p.eh0, true, false, 0⟩, ⟨0, 1, [[(eL tX s.q9)]], true, false, 0⟩]⟩)], Ua0⟩
theorem Ua1 : Y2.Ok := Lo.ok [] (by kernel_rfl) .nil rfl (.cons (fun a H => by kernel_rfl) .nil) fun p s => (.of @A6 (fun F _ _ _ _ _ => by unfold A6; (repeat' apply m8 (f := F)) <;> rfl) (by kernel_rfl))
structure P7 where
 alt : Nat
 is0 : Int
 q9 : List Pt
noncomputable def B4 {α : Type} (kk : P7 → α) (x : P6) : α := let t1 := (lp (C9 (⟨x.ns0, (↑x.ns0 : Int), x.eh0⟩ : E7)) (⟨0, (rt tX x.q9)⟩ : n9)); let t2 := (ga2 ⟨(rdR tP x.eh0 (0 + t1.2.is8.toNat)).n.x, (rdR tP x.eh0 (0 + t1.2.is8.toNat)).n.y, (rdR tP x.eh0 (0 + t1.2.is8.toNat)).n.z, (rdR tP x.eh0 (0 + t1.2.is8.toNat)).b, (rt tX t1.2.q9)⟩); (sl ((cnE tX x.q9) && true) (sl (Nat.beq t1.1 1) (kk ⟨1, t1.2.is8, t2.k9⟩) (sl (Nat.beq t1.1 2) (kk ⟨1, (-1), t1.2.q9⟩) (kk ⟨0, 0, []⟩))) (kk ⟨0, 0, []⟩))
noncomputable def P8 (x : P6) : P7 := B4 (fun r => r) x
noncomputable def ba0 (x : P6) (r : P7) : DT (b7 × List b8) := (.ite (Nat.beq r.alt 1) (.ret ((i r.is0), [⟨50, 4, x.eh0, true, false, 0⟩, ⟨0, 1, [[(eL tX r.q9)]], true, false, 0⟩])) .fail)
theorem fb3 {α β : Type} (F : α → β) (kk : P7 → α) (x : P6) : F (B4 kk x) = B4 (fun r => F (kk r)) x := by unfold B4; (repeat' apply m8 (f := F)) <;> rfl
noncomputable def wa6 : Sum := Za2 ⟨[(.s (.o (.sl 0 0 (some 0) none))), (.fn 101 [(.o (.ptr 1 0 0 0))])], [⟨50, 4, true, none⟩, ⟨0, 1, true, (some [[(.c 4 (nL tX))]])⟩], fun a H => (⟨(slN (slT a 0)), (elT H 0), (rL tX (slT (rwT (elT H 1) 0) 0))⟩, ())⟩ (fun x => ba0 x (P8 x))
theorem cb7 : i5 prog G 163 wa6 := O4 (enc := fun x => ⟨[(.sl 0 0 x.ns0 0), (.fn 101 [(.ptr 1 0 0 0)])], [⟨50, 4, x.eh0, true, false, 0⟩, ⟨0, 1, [[(eL tX x.q9)]], true, false, 0⟩]⟩) (fun a H => by kernel_rfl) (bd ie3 Wa9) fun x => xa1 (.s .p (.s (.s .p (.b (.u Y2.ls))) .p)) [Y2.pr] (by kernel_rfl) (.cons Ua1 .nil) (Eq.trans (b := B4 (fun r => (ba0 x r).run) x) (by kernel_rfl) (fb3 (fun r => (ba0 x r).run) (fun r => r) x).symm)
structure P9 where
 ns0 : Nat
 eh0 : List (List b7)
 q9 : List Pt
noncomputable def ua4 : List (Nat × Sum) := [(163, wa6), (101, lb4)]
theorem Xa0 : j8 prog G ua4 := ⟨cb7, Db0, trivial⟩
structure E8 where
 ns0 : Nat
structure p0 where
 is5 : Int
 is6 : Int
 eh0 : List (List b7)
 q9 : List Pt
noncomputable def Ua2 (p : E8) (s : p0) : St := ⟨((.sl 0 0 p.ns0 0) :: ((.fn 101 [(.ptr 1 0 0 0)]) :: (ra 3 ((i s.is5) :: ((i s.is6) :: (ra 35 [])))))), [⟨50, 4, s.eh0, true, false, 0⟩, ⟨0, 1, [[(eL tX s.q9)]], true, false, 0⟩]⟩
noncomputable def A7 {α : Type} (k : p0 → α) (e : Nat → α) (z : α) (p : E8) (s : p0) : α := let t1 := (ga2 ⟨(rdR tP s.eh0 (0 + s.is6.toNat)).n.x, (rdR tP s.eh0 (0 + s.is6.toNat)).n.y, (rdR tP s.eh0 (0 + s.is6.toNat)).n.z, (rdR tP s.eh0 (0 + s.is6.toNat)).b, (rt tX s.q9)⟩); (sl (decide (s.is6 < (↑p.ns0 : Int))) (sl (inB s.is6 p.ns0) (sl (ldR tP s.eh0 (0 + s.is6.toNat)) (sl ((cnE tX s.q9) && true) (sl (Nat.beq t1.alt 1) (sl (!t1.bs0) (sl (inB s.is5 p.ns0) (sl ((Nat.blt (0 + s.is5.toNat) (len s.eh0)) && (Nat.ble (0 + 4) (len (d9 s.eh0 (0 + s.is5.toNat))))) (k ⟨(W (s.is5 + 1)), (W (s.is6 + 1)), (setAt s.eh0 (0 + s.is5.toNat) (I1 (d9 s.eh0 (0 + s.is5.toNat)) 0 [(i (rdR tP s.eh0 (0 + s.is6.toNat)).n.x), (i (rdR tP s.eh0 (0 + s.is6.toNat)).n.y), (i (rdR tP s.eh0 (0 + s.is6.toNat)).n.z), (i (rdR tP s.eh0 (0 + s.is6.toNat)).b)])), t1.k9⟩) z) z) (k ⟨s.is5, (W (s.is6 + 1)), s.eh0, t1.k9⟩)) z) z) z) z) (e 1))
noncomputable def w9 (p : E8) (s : p0) : Stp p0 := A7 .next .exit .fail p s
noncomputable def Y3 : Lo E8 p0 := ⟨En ua4, 2, oe6, [1, 1, 1, 0, 1, 4, 4], [0, 1, 5, 6], .p, [⟨((.s (.o (.sl 0 0 (some 0) none))) :: ((.fn 101 [(.o (.ptr 1 0 0 0))]) :: (ru2 3 ((.s (.o (.int .i64))) :: ((.s (.o (.int .i64))) :: (ru2 35 [])))))), [⟨50, 4, true, none⟩, ⟨0, 1, true, (some [[(.c 4 (nL tX))]])⟩], fun a H => (⟨(slN (slT a 0))⟩, ⟨(toI (slT a 5)), (toI (slT a 6)), (elT H 0), (rL tX (slT (rwT (elT H 1) 0) 0))⟩)⟩], w9, [(some 0, fun p s => ⟨((.sl 0 0 p.ns0 0) :: ((.fn 101 [(.ptr 1 0 0 0)]) :: (ra 3 ((i s.is5) :: ((i s.is6) :: (ra 9 ((i s.is6) :: ((.sl 0 0 p.ns0 0) :: ((i (↑p.ns0 : Int)) :: ((b (decide (s.is6 < (↑p.ns0 : Int)))) :: (ra 22 []))))))))))), [⟨50, 4, s.eh0, true, false, 0⟩, ⟨0, 1, [[(eL tX s.q9)]], true, false, 0⟩]⟩)], Ua2⟩
theorem Ua3 : Y3.Ok := Lo.ok [] (by kernel_rfl) .nil rfl (.cons (fun a H => by kernel_rfl) .nil) fun p s => (.of @A7 (fun F _ _ _ _ _ => by unfold A7; (repeat' apply m8 (f := F)) <;> rfl) (by kernel_rfl))
structure Q0 where
 alt : Nat
 ns0 : Nat
 eh0 : List (List b7)
 q9 : List Pt
noncomputable def B5 {α : Type} (kk : Q0 → α) (x : P9) : α := let t1 := (P8 ⟨x.ns0, x.eh0, (rt tX x.q9)⟩); let t2 := (lp (w9 (⟨x.ns0⟩ : E8)) (⟨t1.is0, (W (t1.is0 + 1)), x.eh0, (rt tX t1.q9)⟩ : p0)); (sl ((cnE tX x.q9) && true) (sl (Nat.beq t1.alt 1) (sl (t1.is0 == (-1)) (kk ⟨1, x.ns0, x.eh0, t1.q9⟩) (sl ((cnE tX t1.q9) && true) (sl (Nat.beq t2.1 1) (sl (inB t2.2.is5 (x.ns0 + 1)) (sl (inB t2.2.is5 (x.ns0 + 1)) (kk ⟨1, (t2.2.is5.toNat - 0), (app (D6 t2.2.eh0 (0 + t2.2.is5.toNat)) (app (List.replicate (x.ns0 - t2.2.is5.toNat) [(i 0), (i 0), (i 0), (i 0)]) (d8 t2.2.eh0 ((0 + t2.2.is5.toNat) + (x.ns0 - t2.2.is5.toNat))))), t2.2.q9⟩) (kk ⟨0, 0, [], []⟩)) (kk ⟨0, 0, [], []⟩)) (kk ⟨0, 0, [], []⟩)) (kk ⟨0, 0, [], []⟩))) (kk ⟨0, 0, [], []⟩)) (kk ⟨0, 0, [], []⟩))
noncomputable def Q1 (x : P9) : Q0 := B5 (fun r => r) x
noncomputable def ba1 (x : P9) (r : Q0) : DT (b7 × List b8) := (.ite (Nat.beq r.alt 1) (.ret ((.sl 0 0 r.ns0 0), [⟨50, 4, r.eh0, true, false, 0⟩, ⟨0, 1, [[(eL tX r.q9)]], true, false, 0⟩])) .fail)
theorem fb4 {α β : Type} (F : α → β) (kk : Q0 → α) (x : P9) : F (B5 kk x) = B5 (fun r => F (kk r)) x := by unfold B5; (repeat' apply m8 (f := F)) <;> rfl
noncomputable def wa7 : Sum := Za2 ⟨[(.s (.o (.sl 0 0 (some 0) none))), (.fn 101 [(.o (.ptr 1 0 0 0))])], [⟨50, 4, true, none⟩, ⟨0, 1, true, (some [[(.c 4 (nL tX))]])⟩], fun a H => (⟨(slN (slT a 0)), (elT H 0), (rL tX (slT (rwT (elT H 1) 0) 0))⟩, ())⟩ (fun x => ba1 x (Q1 x))
theorem cb8 : i5 prog G 99 wa7 := O4 (enc := fun x => ⟨[(.sl 0 0 x.ns0 0), (.fn 101 [(.ptr 1 0 0 0)])], [⟨50, 4, x.eh0, true, false, 0⟩, ⟨0, 1, [[(eL tX x.q9)]], true, false, 0⟩]⟩) (fun a H => by kernel_rfl) (bd b99 Xa0) fun x => xa1 (.s .p (.s .p (.s .p (.s (.s .p (.b (.u Y3.ls))) .p)))) [Y3.pr] (by kernel_rfl) (.cons Ua3 .nil) (Eq.trans (b := B5 (fun r => (ba1 x r).run) x) (by kernel_rfl) (fb4 (fun r => (ba1 x r).run) (fun r => r) x).symm)
structure Y4 where
 ns0 : Nat
 eh0 : List (List b7)
noncomputable def ja4 : List (Nat × Sum) := []
theorem lb5 : j8 prog G ja4 := trivial
structure z4 where
 ns0 : Nat
 os4 : Nat
 ns4 : Nat
structure o3 where
 is3 : Int
 is5 : Int
 eh0 : List (List b7)
noncomputable def fb5 (p : z4) (s : o3) : St := ⟨((.sl 0 0 p.ns0 0) :: (.unk :: (.unk :: ((i s.is3) :: ((.sl 0 p.os4 p.ns4 0) :: ((i s.is5) :: (ra 55 []))))))), [⟨50, 4, s.eh0, true, false, 0⟩]⟩
noncomputable def G0 {α : Type} (k : o3 → α) (e : Nat → α) (z : α) (p : z4) (s : o3) : α := (sl (decide (s.is5 < (↑p.ns4 : Int))) (sl (inB s.is5 p.ns4) (sl (ldR tP s.eh0 (p.os4 + s.is5.toNat)) (sl (inB (W (s.is5 - 1)) p.ns4) (sl (ldR tP s.eh0 (p.os4 + (W (s.is5 - 1)).toNat)) (sl (!(((rdR tP s.eh0 (p.os4 + s.is5.toNat)).n.x == (rdR tP s.eh0 (p.os4 + (W (s.is5 - 1)).toNat)).n.x) && (((rdR tP s.eh0 (p.os4 + s.is5.toNat)).n.y == (rdR tP s.eh0 (p.os4 + (W (s.is5 - 1)).toNat)).n.y) && (((rdR tP s.eh0 (p.os4 + s.is5.toNat)).n.z == (rdR tP s.eh0 (p.os4 + (W (s.is5 - 1)).toNat)).n.z) && (((rdR tP s.eh0 (p.os4 + s.is5.toNat)).b == (rdR tP s.eh0 (p.os4 + (W (s.is5 - 1)).toNat)).b) && true))))) (sl (inB s.is5 p.ns4) (sl (ldR tP s.eh0 (p.os4 + s.is5.toNat)) (sl (inB s.is3 p.ns0) (sl ((Nat.blt (0 + s.is3.toNat) (len s.eh0)) && (Nat.ble (0 + 4) (len (d9 s.eh0 (0 + s.is3.toNat))))) (k ⟨(W (s.is3 + 1)), (W (s.is5 + 1)), (setAt s.eh0 (0 + s.is3.toNat) (I1 (d9 s.eh0 (0 + s.is3.toNat)) 0 [(i (rdR tP s.eh0 (p.os4 + s.is5.toNat)).n.x), (i (rdR tP s.eh0 (p.os4 + s.is5.toNat)).n.y), (i (rdR tP s.eh0 (p.os4 + s.is5.toNat)).n.z), (i (rdR tP s.eh0 (p.os4 + s.is5.toNat)).b)]))⟩) z) z) z) z) (k ⟨s.is3, (W (s.is5 + 1)), s.eh0⟩)) z) z) z) z) (e 1))
noncomputable def o9 (p : z4) (s : o3) : Stp o3 := G0 .next .exit .fail p s
noncomputable def ga3 : Lo z4 o3 := ⟨En ja4, 1, Ld2, [1, 1, 0, 1, 4, 4, 1, 0, 4, 1, 2, 1, 0, 1, 4, 4], [0, 3, 4, 5], .p, [⟨((.s (.o (.sl 0 0 (some 0) none))) :: ((.s (.o .unk)) :: ((.s (.o .unk)) :: ((.s (.o (.int .i64))) :: ((.s (.o (.sl 0 0 none none))) :: ((.s (.o (.int .i64))) :: (ru2 55 []))))))), [⟨50, 4, true, none⟩], fun a H => (⟨(slN (slT a 0)), (slO (slT a 4)), (slN (slT a 4))⟩, ⟨(toI (slT a 3)), (toI (slT a 5)), (elT H 0)⟩)⟩], o9, [(some 2, fun p s => ⟨((.sl 0 0 p.ns0 0) :: (.unk :: (.unk :: ((i s.is3) :: ((.sl 0 p.os4 p.ns4 0) :: ((i s.is5) :: (ra 23 ((i s.is5) :: ((.sl 0 p.os4 p.ns4 0) :: ((i (↑p.ns4 : Int)) :: ((b (decide (s.is5 < (↑p.ns4 : Int)))) :: (ra 28 [])))))))))))), [⟨50, 4, s.eh0, true, false, 0⟩]⟩)], fb5⟩
theorem fb6 : ga3.Ok := Lo.ok [] (by kernel_rfl) .nil rfl (.cons (fun a H => by kernel_rfl) .nil) fun p s => (.of @G0 (fun F _ _ _ _ _ => by unfold G0; (repeat' apply m8 (f := F)) <;> rfl) (by kernel_rfl))
structure I7 where
 ns0 : Nat
 eh0 : List (List b7)
structure p5 where
 is3 : Int
noncomputable def fb7 (p : I7) (s : p5) : St := ⟨((.sl 0 0 p.ns0 0) :: (.unk :: (.unk :: ((i s.is3) :: (ra 57 []))))), [⟨50, 4, p.eh0, true, false, 0⟩]⟩
noncomputable def G1 {α : Type} (k : p5 → α) (e : Nat → α) (z : α) (p : I7) (s : p5) : α := let t1 := (lp (o9 (⟨p.ns0, (0 + s.is3.toNat), (p.ns0 - s.is3.toNat)⟩ : z4)) (⟨s.is3, 1, p.eh0⟩ : o3)); (sl (decide (s.is3 < (↑p.ns0 : Int))) (sl (inB s.is3 p.ns0) (sl (ldR tP p.eh0 (0 + s.is3.toNat)) (sl (inB (W (s.is3 - 1)) p.ns0) (sl (ldR tP p.eh0 (0 + (W (s.is3 - 1)).toNat)) (sl (((rdR tP p.eh0 (0 + s.is3.toNat)).n.x == (rdR tP p.eh0 (0 + (W (s.is3 - 1)).toNat)).n.x) && (((rdR tP p.eh0 (0 + s.is3.toNat)).n.y == (rdR tP p.eh0 (0 + (W (s.is3 - 1)).toNat)).n.y) && (((rdR tP p.eh0 (0 + s.is3.toNat)).n.z == (rdR tP p.eh0 (0 + (W (s.is3 - 1)).toNat)).n.z) && (((rdR tP p.eh0 (0 + s.is3.toNat)).b == (rdR tP p.eh0 (0 + (W (s.is3 - 1)).toNat)).b) && true)))) (sl (inB s.is3 (p.ns0 + 1)) (sl (Nat.beq t1.1 1) (sl (inB t1.2.is3 (p.ns0 + 1)) (sl (inB t1.2.is3 (p.ns0 + 1)) (e 1) z) z) z) z) (k ⟨(W (s.is3 + 1))⟩)) z) z) z) z) (e 2))
noncomputable def H5 (p : I7) (s : p5) : Stp p5 := G1 .next .exit .fail p s
noncomputable def ga4 : Lo I7 p5 := ⟨En ja4, 1, Ld2, [1, 1, 0, 1, 4, 4], [0, 3], (.s .p (.s (.b (.s .p (.c (.s .p (.s (.s .p (.b (.u ga3.ls))) .p)) .p))) .p)), [⟨((.s (.o (.sl 0 0 (some 0) none))) :: ((.s (.o .unk)) :: ((.s (.o .unk)) :: ((.s (.o (.int .i64))) :: (ru2 57 []))))), [⟨50, 4, true, none⟩], fun a H => (⟨(slN (slT a 0)), (elT H 0)⟩, ⟨(toI (slT a 3))⟩)⟩], H5, [(none, fun p s => let t1 := (lp (o9 (⟨p.ns0, (0 + s.is3.toNat), (p.ns0 - s.is3.toNat)⟩ : z4)) (⟨s.is3, 1, p.eh0⟩ : o3)); ⟨[(.sl 0 0 (t1.2.is3.toNat - 0) 0)], [⟨50, 4, (app (D6 t1.2.eh0 (0 + t1.2.is3.toNat)) (app (List.replicate (p.ns0 - t1.2.is3.toNat) [(i 0), (i 0), (i 0), (i 0)]) (d8 t1.2.eh0 ((0 + t1.2.is3.toNat) + (p.ns0 - t1.2.is3.toNat))))), true, false, 0⟩]⟩), (some 0, fun p s => ⟨((.sl 0 0 p.ns0 0) :: (.unk :: (.unk :: ((i s.is3) :: (ra 6 ((i s.is3) :: ((.sl 0 0 p.ns0 0) :: ((i (↑p.ns0 : Int)) :: ((b (decide (s.is3 < (↑p.ns0 : Int)))) :: (ra 47 [])))))))))), [⟨50, 4, p.eh0, true, false, 0⟩]⟩)], fb7⟩
theorem fb8 : ga4.Ok := Lo.ok [ga3.pr] (by kernel_rfl) (.cons fb6 .nil) rfl (.cons (fun a H => by kernel_rfl) .nil) fun p s => (.of @G1 (fun F _ _ _ _ _ => by unfold G1; (repeat' apply m8 (f := F)) <;> rfl) (by kernel_rfl))
structure Y5 where
 alt : Nat
 ns0 : Nat
 eh0 : List (List b7)
noncomputable def G8 {α : Type} (kk : Y5 → α) (x : Y4) : α := let t1 := (lp (H5 (⟨x.ns0, x.eh0⟩ : I7)) (⟨1⟩ : p5)); let t2 := (lp (o9 (⟨x.ns0, (0 + t1.2.is3.toNat), (x.ns0 - t1.2.is3.toNat)⟩ : z4)) (⟨t1.2.is3, 1, x.eh0⟩ : o3)); (sl (decide ((↑x.ns0 : Int) < 2)) (kk ⟨1, x.ns0, x.eh0⟩) (sl (Nat.beq t1.1 1) (kk ⟨1, (t2.2.is3.toNat - 0), (app (D6 t2.2.eh0 (0 + t2.2.is3.toNat)) (app (List.replicate (x.ns0 - t2.2.is3.toNat) [(i 0), (i 0), (i 0), (i 0)]) (d8 t2.2.eh0 ((0 + t2.2.is3.toNat) + (x.ns0 - t2.2.is3.toNat)))))⟩) (sl (Nat.beq t1.1 2) (kk ⟨1, x.ns0, x.eh0⟩) (kk ⟨0, 0, []⟩))))
noncomputable def Y6 (x : Y4) : Y5 := G8 (fun r => r) x
noncomputable def ja5 (x : Y4) (r : Y5) : DT (b7 × List b8) := (.ite (Nat.beq r.alt 1) (.ret ((.sl 0 0 r.ns0 0), [⟨50, 4, r.eh0, true, false, 0⟩])) .fail)
theorem tb5 {α β : Type} (F : α → β) (kk : Y5 → α) (x : Y4) : F (G8 kk x) = G8 (fun r => F (kk r)) x := by unfold G8; (repeat' apply m8 (f := F)) <;> rfl
noncomputable def Ia2 : Sum := Za2 ⟨[(.s (.o (.sl 0 0 (some 0) none)))], [⟨50, 4, true, none⟩], fun a H => (⟨(slN (slT a 0)), (elT H 0)⟩, ())⟩ (fun x => ja5 x (Y6 x))
theorem ob4 : i5 prog G 105 Ia2 := O4 (enc := fun x => ⟨[(.sl 0 0 x.ns0 0)], [⟨50, 4, x.eh0, true, false, 0⟩]⟩) (fun a H => by kernel_rfl) (bd ye9 lb5) fun x => xa1 (.s .p (.s .p (.s (.s .p (.b (.u ga4.ls))) .p))) [ga4.pr] (by kernel_rfl) (.cons fb8 .nil) (Eq.trans (b := G8 (fun r => (ja5 x r).run) x) (by kernel_rfl) (tb5 (fun r => (ja5 x r).run) (fun r => r) x).symm)
noncomputable def zc7 : List (Nat × Sum) := []
theorem mc1 : j8 prog G zc7 := trivial
noncomputable def za9 (x : Int) (y : Int) : Option (b7 × List b8) := (sl (decide (x < y)) (some ((i (-1)), [])) (sl (decide (x > y)) (some ((i 1), [])) (some ((i 0), []))))
noncomputable def ga5 (x : Int) (y : Int) : Int := I6 (one r1I) (za9 x y)
noncomputable def ga6 (x : Int) (y : Int) : Bool := okO (one r1I) (za9 x y)
noncomputable def Kb4 : Sum := ga9 cI cI (fun x y => .guard (ga6 x y) (.ret ((one r1I).enc (ga5 x y), [])))
theorem zc8 : i5 prog G 179 Kb4 := Za1 (bd Be7 mc1) (one r1I) (o := za9) fun x y => r5 (by kernel_rfl)
noncomputable def ec3 : List (Nat × Sum) := [(179, Kb4)]
theorem Xb4 : j8 prog G ec3 := ⟨zc8, trivial⟩
noncomputable def na7 (x : Pln) (y : Pln) : Option (b7 × List b8) := let t1 := (ga5 x.n.x y.n.x); let t2 := (ga5 x.n.y y.n.y); let t3 := (ga5 x.n.z y.n.z); let t4 := (ga5 x.b y.b); (sl (ga6 x.n.x y.n.x) (sl (t1 == 0) (sl (ga6 x.n.y y.n.y) (sl (t2 == 0) (sl (ga6 x.n.z y.n.z) (sl (t3 == 0) (sl (ga6 x.b y.b) (sl (t4 == 0) (some ((i t4), [])) (some ((i t4), []))) none) (some ((i t3), []))) none) (some ((i t2), []))) none) (some ((i t1), []))) none)
noncomputable def Ba1 (x : Pln) (y : Pln) : Int := I6 (one r1I) (na7 x y)
noncomputable def Ba2 (x : Pln) (y : Pln) : Bool := okO (one r1I) (na7 x y)
noncomputable def Ua4 : Sum := ga9 (N8 tP) (N8 tP) (fun x y => .guard (Ba2 x y) (.ret ((one r1I).enc (Ba1 x y), [])))
theorem ec4 : i5 prog G 104 Ua4 := Za1 (bd ye8 Xb4) (one r1I) (o := na7) fun x y => r5 (by kernel_rfl)
noncomputable def jd3 : List (Nat × Sum) := [(164, bb2)]
theorem Wc2 : j8 prog G jd3 := ⟨ub6, trivial⟩
noncomputable def cb9 (x : V3) : Option (b7 × List b8) := let t1 := (ia3 24 [x.x, x.y, x.z]); (sl (ia4 24 [x.x, x.y, x.z]) (some ((b t1), [])) none)
noncomputable def tb6 (x : V3) : Bool := I6 (one r1B) (cb9 x)
noncomputable def tb7 (x : V3) : Bool := okO (one r1B) (cb9 x)
noncomputable def zc9 : Sum := da4 (N8 tV) (fun x => .guard (tb7 x) (.ret ((one r1B).enc (tb6 x), [])))
theorem jd4 : i5 prog G 107 zc9 := xa0 (bd ze0 Wc2) (one r1B) (o := cb9) fun x => r5 (by kernel_rfl)
noncomputable def jd5 : List (Nat × Sum) := [(87, va7), (107, zc9), (108, Ma2)]
theorem Wc3 : j8 prog G jd5 := ⟨ya8, jd4, bb1, trivial⟩
noncomputable def db0 (x : List Pln) (y : V3) : Option (b7 × List b8) := let t1 := (X4 [(rt tP x)]); let t2 := (tb6 y); let t3 := (R8 (rt tP x) (⟨y.x, y.y, y.z, 1⟩ : Pt)); (sl ((okE tP x) && true) (sl (X5 [(rt tP x)]) (sl t1 (sl (tb7 y) (sl t2 (sl (okE tP x) (sl (R9 (rt tP x) (⟨y.x, y.y, y.z, 1⟩ : Pt)) (some ((b t3), [])) none) none) (some ((b false), []))) none) (some ((b false), []))) none) none)
noncomputable def db1 (x : List Pln) (y : V3) : Bool := I6 (one r1B) (db0 x y)
noncomputable def db2 (x : List Pln) (y : V3) : Bool := okO (one r1B) (db0 x y)
noncomputable def Ac0 : Sum := ga9 (U3 tP) (N8 tV) (fun x y => .guard (db2 x y) (.ret ((one r1B).enc (db1 x y), [])))
theorem jd6 : i5 prog G 28 Ac0 := Za1 (bd b28 Wc3) (one r1B) (o := db0) fun x y => r5 (by kernel_rfl)
noncomputable def Hc2 : List (Nat × Sum) := [(87, va7), (88, Gb0), (92, Ca3)]
theorem Ac1 : j8 prog G Hc2 := ⟨ya8, Nb8, Va0, trivial⟩
noncomputable def Ia3 (x : List Pln) (y : List Pln) : Option (b7 × List b8) := let t1 := (X4 [(rt tP x), (rt tP y)]); let t2 := (La0 [(rt tP x), (rt tP y)]); let t3 := (aa7 (rt tP t2)); (sl ((okE tP x) && ((okE tP y) && true)) (sl (X5 [(rt tP x), (rt tP y)]) (sl (!t1) (some ((b true), [])) (sl ((okE tP x) && ((okE tP y) && true)) (sl (La1 [(rt tP x), (rt tP y)]) (sl (okE tP t2) (sl (aa8 (rt tP t2)) (some ((b (!t3)), [])) none) none) none) none)) none) none)
noncomputable def la8 (x : List Pln) (y : List Pln) : Bool := I6 (one r1B) (Ia3 x y)
noncomputable def la9 (x : List Pln) (y : List Pln) : Bool := okO (one r1B) (Ia3 x y)
noncomputable def tb8 : Sum := ga9 (U3 tP) (U3 tP) (fun x y => .guard (la9 x y) (.ret ((one r1B).enc (la8 x y), [])))
theorem Kb5 : i5 prog G 31 tb8 := Za1 (bd b31 Ac1) (one r1B) (o := Ia3) fun x y => r5 (by kernel_rfl)
structure Ba3 where
 ja8 : Int
 ja9 : Int
 ka0 : Int
 db8 : Int
 b9 : List Pln
noncomputable def ec5 : List (Nat × Sum) := [(108, Ma2)]
theorem Xb5 : j8 prog G ec5 := ⟨bb1, trivial⟩
structure na8 where
 alt : Nat
 bs0 : Bool
noncomputable def da0 {α : Type} (kk : na8 → α) (x : Ba3) : α := let t1 := (R8 (rt tP x.b9) (⟨x.ja8, x.ja9, x.ka0, x.db8⟩ : Pt)); (sl (okE tP x.b9) (sl (R9 (rt tP x.b9) (⟨x.ja8, x.ja9, x.ka0, x.db8⟩ : Pt)) (kk ⟨1, (!t1)⟩) (kk ⟨0, false⟩)) (kk ⟨0, false⟩))
noncomputable def Ba4 (x : Ba3) : na8 := da0 (fun r => r) x
noncomputable def La7 (x : Ba3) (r : na8) : DT (b7 × List b8) := (.ite (Nat.beq r.alt 1) (.ret ((b r.bs0), [⟨0, 1, [[(eL tP x.b9)]], true, false, 0⟩])) .fail)
theorem mc2 {α β : Type} (F : α → β) (kk : na8 → α) (x : Ba3) : F (da0 kk x) = da0 (fun r => F (kk r)) x := by unfold da0; (repeat' apply m8 (f := F)) <;> rfl
noncomputable def ub9 : Sum := Za2 ⟨[(.agg [(.o (.int .i64)), (.o (.int .i64)), (.o (.int .i64)), (.o (.int .i64))]), (.s (.o (.ptr 0 0 0 0)))], [⟨0, 1, true, (some [[(.c 4 (nL tP))]])⟩], fun a H => (⟨(toI (slT (cellsOf (slT a 0)) 0)), (toI (slT (cellsOf (slT a 0)) 1)), (toI (slT (cellsOf (slT a 0)) 2)), (toI (slT (cellsOf (slT a 0)) 3)), (rL tP (slT (rwT (elT H 0) 0) 0))⟩, ())⟩ (fun x => La7 x (Ba4 x))
theorem ec6 : i5 prog G 114 ub9 := O4 (enc := fun x => ⟨[(.agg [(i x.ja8), (i x.ja9), (i x.ka0), (i x.db8)]), (.ptr 0 0 0 0)], [⟨0, 1, [[(eL tP x.b9)]], true, false, 0⟩]⟩) (fun a H => by kernel_rfl) (bd ze5 Xb5) fun x => r5 (Eq.trans (b := da0 (fun r => (La7 x r).run) x) (by kernel_rfl) (mc2 (fun r => (La7 x r).run) (fun r => r) x).symm)
structure Q3 where
 z7 : List Pt
 b9 : List Pln
noncomputable def ua5 : List (Nat × Sum) := [(114, ub9)]
theorem Xa1 : j8 prog G ua5 := ⟨ec6, trivial⟩
structure E9 where
 z7 : List Pt
 is7 : Int
structure o0 where
 is8 : Int
 b9 : List Pln
noncomputable def Ua5 (p : E9) (s : o0) : St := ⟨((eL tX p.z7) :: ((.fn 114 [(.ptr 0 0 0 0)]) :: (ra 5 ((i p.is7) :: ((i s.is8) :: (ra 10 [])))))), [⟨0, 1, [[(eL tP s.b9)]], true, false, 0⟩]⟩
noncomputable def A8 {α : Type} (k : o0 → α) (e : Nat → α) (z : α) (p : E9) (s : o0) : α := let t1 := (Ba4 ⟨(gL tX p.z7 s.is8.toNat).px, (gL tX p.z7 s.is8.toNat).py, (gL tX p.z7 s.is8.toNat).pz, (gL tX p.z7 s.is8.toNat).pw, (rt tP s.b9)⟩); (sl (decide (s.is8 < p.is7)) (sl (inB s.is8 (List.length p.z7)) (sl ((cnE tP s.b9) && true) (sl (Nat.beq t1.alt 1) (sl t1.bs0 (e 1) (k ⟨(W (s.is8 + 1)), (rt tP s.b9)⟩)) z) z) z) (e 2))
noncomputable def D0 (p : E9) (s : o0) : Stp o0 := A8 .next .exit .fail p s
noncomputable def Y7 : Lo E9 o0 := ⟨En ua5, 1, Ld5, [1, 0, 1, 4, 4], [0, 1, 7, 8], .p, [⟨((.s (.c 4 (nL tX))) :: ((.fn 114 [(.o (.ptr 0 0 0 0))]) :: (ru2 5 ((.s (.o (.int .i64))) :: ((.s (.o (.int .i64))) :: (ru2 10 [])))))), [⟨0, 1, true, (some [[(.c 4 (nL tP))]])⟩], fun a H => (⟨(rL tX (slT a 0)), (toI (slT a 7))⟩, ⟨(toI (slT a 8)), (rL tP (slT (rwT (elT H 0) 0) 0))⟩)⟩], D0, [(none, fun p s => ⟨[(i s.is8)], [⟨0, 1, [[(eL tP (rt tP s.b9))]], true, false, 0⟩]⟩), (some 0, fun p s => ⟨((eL tX p.z7) :: ((.fn 114 [(.ptr 0 0 0 0)]) :: (ra 5 ((i p.is7) :: ((i s.is8) :: ((b (decide (s.is8 < p.is7))) :: (ra 9 []))))))), [⟨0, 1, [[(eL tP s.b9)]], true, false, 0⟩]⟩)], Ua5⟩
theorem Ua6 : Y7.Ok := Lo.ok [] (by kernel_rfl) .nil rfl (.cons (fun a H => by kernel_rfl) .nil) fun p s => (.of @A8 (fun F _ _ _ _ _ => by unfold A8; (repeat' apply m8 (f := F)) <;> rfl) (by kernel_rfl))
structure Q4 where
 alt : Nat
 is0 : Int
 b9 : List Pln
noncomputable def B6 {α : Type} (kk : Q4 → α) (x : Q3) : α := let t1 := (lp (D0 (⟨(rt tX x.z7), (↑(List.length x.z7) : Int)⟩ : E9)) (⟨0, (rt tP x.b9)⟩ : o0)); (sl ((cnE tX x.z7) && ((cnE tP x.b9) && true)) (sl (Nat.beq t1.1 1) (kk ⟨1, t1.2.is8, (rt tP t1.2.b9)⟩) (sl (Nat.beq t1.1 2) (kk ⟨1, (-1), t1.2.b9⟩) (kk ⟨0, 0, []⟩))) (kk ⟨0, 0, []⟩))
noncomputable def ca4 (x : Q3) : Q4 := B6 (fun r => r) x
noncomputable def ba2 (x : Q3) (r : Q4) : DT (b7 × List b8) := (.ite (Nat.beq r.alt 1) (.ret ((i r.is0), [⟨0, 1, [[(eL tP r.b9)]], true, false, 0⟩])) .fail)
theorem fb9 {α β : Type} (F : α → β) (kk : Q4 → α) (x : Q3) : F (B6 kk x) = B6 (fun r => F (kk r)) x := by unfold B6; (repeat' apply m8 (f := F)) <;> rfl
noncomputable def wa8 : Sum := Za2 ⟨[(.s (.c 4 (nL tX))), (.fn 114 [(.o (.ptr 0 0 0 0))])], [⟨0, 1, true, (some [[(.c 4 (nL tP))]])⟩], fun a H => (⟨(rL tX (slT a 0)), (rL tP (slT (rwT (elT H 0) 0) 0))⟩, ())⟩ (fun x => ba2 x (ca4 x))
theorem db3 : i5 prog G 185 wa8 := O4 (enc := fun x => ⟨[(eL tX x.z7), (.fn 114 [(.ptr 0 0 0 0)])], [⟨0, 1, [[(eL tP x.b9)]], true, false, 0⟩]⟩) (fun a H => by kernel_rfl) (bd se0 Xa1) fun x => xa1 (.s .p (.s (.s .p (.b (.u Y7.ls))) .p)) [Y7.pr] (by kernel_rfl) (.cons Ua6 .nil) (Eq.trans (b := B6 (fun r => (ba2 x r).run) x) (by kernel_rfl) (fb9 (fun r => (ba2 x r).run) (fun r => r) x).symm)
structure K0 where
 z7 : List Pt
 b9 : List Pln
noncomputable def Qa8 : List (Nat × Sum) := [(185, wa8)]
theorem La8 : j8 prog G Qa8 := ⟨db3, trivial⟩
structure K1 where
 alt : Nat
 bs0 : Bool
 b9 : List Pln
noncomputable def y5 {α : Type} (kk : K1 → α) (x : K0) : α := let t1 := (ca4 ⟨(rt tX x.z7), (rt tP x.b9)⟩); (sl ((cnE tX x.z7) && ((cnE tP x.b9) && true)) (sl (Nat.beq t1.alt 1) (kk ⟨1, (decide (t1.is0 ≥ 0)), t1.b9⟩) (kk ⟨0, false, []⟩)) (kk ⟨0, false, []⟩))
noncomputable def V9 (x : K0) : K1 := y5 (fun r => r) x
noncomputable def T9 (x : K0) (r : K1) : DT (b7 × List b8) := (.ite (Nat.beq r.alt 1) (.ret ((b r.bs0), [⟨0, 1, [[(eL tP r.b9)]], true, false, 0⟩])) .fail)
theorem Ua7 {α β : Type} (F : α → β) (kk : K1 → α) (x : K0) : F (y5 kk x) = y5 (fun r => F (kk r)) x := by unfold y5; (repeat' apply m8 (f := F)) <;> rfl
noncomputable def na9 : Sum := Za2 ⟨[(.s (.c 4 (nL tX))), (.fn 114 [(.o (.ptr 0 0 0 0))])], [⟨0, 1, true, (some [[(.c 4 (nL tP))]])⟩], fun a H => (⟨(rL tX (slT a 0)), (rL tP (slT (rwT (elT H 0) 0) 0))⟩, ())⟩ (fun x => T9 x (V9 x))
theorem Qa9 : i5 prog G 113 na9 := O4 (enc := fun x => ⟨[(eL tX x.z7), (.fn 114 [(.ptr 0 0 0 0)])], [⟨0, 1, [[(eL tP x.b9)]], true, false, 0⟩]⟩) (fun a H => by kernel_rfl) (bd re9 La8) fun x => r5 (Eq.trans (b := y5 (fun r => (T9 x r).run) x) (by kernel_rfl) (Ua7 (fun r => (T9 x r).run) (fun r => r) x).symm)
noncomputable def Ac2 : List (Nat × Sum) := [(20, Pa5), (87, va7), (18, za1), (113, na9)]
theorem mc3 : j8 prog G Ac2 := ⟨Wa5, ya8, Ga9, Qa9, trivial⟩
noncomputable def Aa0 (x : List Pln) (y : List Pln) : Option (b7 × List b8) := let t1 := (ka7 (rt tP x)); let t2 := (X4 [(rt tP y)]); let t3 := (Z4 (rt tP x)); let t4 := (V9 ⟨(rt tX t3), (rt tP y)⟩); (sl (okE tP x) (sl (ka8 (rt tP x)) (sl t1 (sl ((okE tP y) && true) (sl (X5 [(rt tP y)]) (sl t2 (sl (okE tP x) (sl (Z5 (rt tP x)) (sl ((cnE tX t3) && ((cnE tP y) && true)) (sl (Nat.beq t4.alt 1) (some ((b (!t4.bs0)), [])) none) none) none) none) (some ((b false), []))) none) none) (some ((b false), []))) none) none)
noncomputable def ga7 (x : List Pln) (y : List Pln) : Bool := I6 (one r1B) (Aa0 x y)
noncomputable def ga8 (x : List Pln) (y : List Pln) : Bool := okO (one r1B) (Aa0 x y)
noncomputable def lb6 : Sum := ga9 (U3 tP) (U3 tP) (fun x y => .guard (ga8 x y) (.ret ((one r1B).enc (ga7 x y), [])))
theorem Db1 : i5 prog G 33 lb6 := Za1 (bd b33 mc3) (one r1B) (o := Aa0) fun x y => r5 (by kernel_rfl)
noncomputable def jd7 : List (Nat × Sum) := []
theorem Wc4 : j8 prog G jd7 := trivial
structure tb9 where
 e7 : Int
 L4 : Int
 L5 : Int
 L6 : Int
 L7 : Int
 L8 : Int
noncomputable def db4 {α : Type} (kk : tb9 → α) (x : V3) (y : V3) : α := (kk ⟨y.x, (W (0 - x.x)), y.y, (W (0 - x.y)), y.z, (W (0 - x.z))⟩)
noncomputable def Ac3 (x : V3) (y : V3) : tb9 := db4 (fun r => r) x y
noncomputable def Db2 (r : tb9) : DT (b7 × List b8) := .ret ((.sl 0 0 6 0), [⟨50, 4, [[(i 1), (i 0), (i 0), (i r.e7)], [(i (-1)), (i 0), (i 0), (i r.L4)], [(i 0), (i 1), (i 0), (i r.L5)], [(i 0), (i (-1)), (i 0), (i r.L6)], [(i 0), (i 0), (i 1), (i r.L7)], [(i 0), (i 0), (i (-1)), (i r.L8)]], true, false, 0⟩])
theorem sd2 {α β : Type} (F : α → β) (kk : tb9 → α) (x : V3) (y : V3) : F (db4 kk x y) = db4 (fun r => F (kk r)) x y := by unfold db4; (repeat' apply m8 (f := F)) <;> rfl
noncomputable def Ac4 : Sum := ga9 (N8 tV) (N8 tV) (fun x y => Db2 (Ac3 x y))
theorem jd8 : i5 prog G 111 Ac4 := va1 (bd re8 Wc4) fun x y => r5 (Eq.trans (b := db4 (fun r => (Db2 r).run) x y) (by kernel_rfl) (sd2 (fun r => (Db2 r).run) (fun r => r) x y).symm)
noncomputable def Hc3 : List (Nat × Sum) := [(111, Ac4)]
theorem Ac5 : j8 prog G Hc3 := ⟨jd8, trivial⟩
structure Xa2 where
 e7 : Int
 L4 : Int
 L5 : Int
 L6 : Int
 L7 : Int
 L8 : Int
noncomputable def Ia4 {α : Type} (kk : Xa2 → α)  : α := let t1 := (Ac3 (⟨0, 0, 0⟩ : V3) (⟨1, 1, 1⟩ : V3)); (kk ⟨t1.e7, t1.L4, t1.L5, t1.L6, t1.L7, t1.L8⟩)
noncomputable def ub0  : Xa2 := Ia4 (fun r => r)
noncomputable def lb7 (r : Xa2) : DT (b7 × List b8) := .ret ((.sl 0 0 6 0), [⟨50, 4, [[(i 1), (i 0), (i 0), (i r.e7)], [(i (-1)), (i 0), (i 0), (i r.L4)], [(i 0), (i 1), (i 0), (i r.L5)], [(i 0), (i (-1)), (i 0), (i r.L6)], [(i 0), (i 0), (i 1), (i r.L7)], [(i 0), (i 0), (i (-1)), (i r.L8)]], true, false, 0⟩])
theorem Wc5 {α β : Type} (F : α → β) (kk : Xa2 → α)  : F (Ia4 kk ) = Ia4 (fun r => F (kk r))  := by unfold Ia4; (repeat' apply m8 (f := F)) <;> rfl
noncomputable def Xb6 : Sum := bd1  (lb7 (ub0 ))
theorem Hc4 : i5 prog G 81 Xb6 := td9 (bd b81 Ac5) (r5 (Eq.trans (b := Ia4 (fun r => (lb7 r).run) ) (by kernel_rfl) (Wc5 (fun r => (lb7 r).run) (fun r => r) ).symm))
end Go.Ev.Ce
end
namespace Go.Ev.Ce
open Go Go.Ev Go.Ev.L Go.Proofs
theorem Pd5 (v : V3) : tb6 v = inV v ∧ tb7 v = true := by
 have h3 : [v.x, v.y, v.z].length ≤ 1000000000 := by simp
 have : cb9 v = some (b (inV v), []) := by
  unfold cb9 inV
  simp only [cc8 24 _ (by omega) h3, cc9 24 _ (by omega) h3, o8]
  simp only [List.all_cons, List.all_nil, Bool.and_true]
 unfold tb6 tb7
 rw [this]
 exact ⟨rfl, rfl⟩
noncomputable def has (c : List Pln) (v : V3) : Bool := (chk c == 0) && (inV v && inn c ⟨v.x, v.y, v.z, 1⟩)
theorem Pd6 {c : List Pln} (hc : c.length ≤ 1000000000) (v : V3) : db0 c v = some (b (has c v), []) := by
 unfold db0 has
 simp only [l9, G3, Wb1 c hc, Wb2 c hc, (Pd5 v).1, (Pd5 v).2, wc2 c _ hc, wc3 c _ hc]
 cases chk c == 0 with
 | false => rfl
 | true => cases inV v <;> rfl
theorem te6 {c : List Pln} (hc : c.length ≤ 1000000000) (v : V3) : db1 c v = has c v := by unfold db1; rw [Pd6 hc]; rfl
theorem te7 {c : List Pln} (hc : c.length ≤ 1000000000) (v : V3) : db2 c v = true := by unfold db2; rw [Pd6 hc]; rfl
theorem jd9 {a c : List Pln} (ha : (chk a == 0) = true) (hc : (chk c == 0) = true) : Bds (a ++ c ++ ws) ∧ (a ++ c ++ ws).length ≤ 200 := by
 rw [beq_iff_eq, fd9] at ha hc
 refine ⟨fun p hp => ?_, by rw [List.length_append, List.length_append, show ws.length = 6 from rfl]; omega⟩
 rcases List.mem_append.1 hp with hp | hp
 ·rcases List.mem_append.1 hp with hp | hp
  ·exact Tc8 (ha.2 p hp)
  ·exact Tc8 (hc.2 p hp)
 ·exact de5 p hp
noncomputable def apart (a c : List Pln) : Bool := !((chk a == 0) && (chk c == 0)) || !gd5 (a ++ c ++ ws)
theorem kd0 {a c : List Pln} (ha : a.length ≤ 100000000) (hc : c.length ≤ 100000000) : Ia3 a c = some (b (apart a c), []) := by
 have hn : [a, c].length ≤ 1000000000 := by simp
 have hl : ∀ x ∈ [a, c], x.length ≤ 1000000000 := by
  intro x hx
  simp only [List.mem_cons, List.not_mem_nil, or_false] at hx
  rcases hx with rfl | rfl <;> omega
 have hf : [a, c].flatten = a ++ c := by simp
 have hfl : [a, c].flatten.length ≤ 1000000000 := by rw [hf, List.length_append]; omega
 unfold Ia3 apart
 simp only [l9, G3, gd3 _ hn hl, gd4 _ hn hl, se5 _ hn hfl, se6 _ hn hfl, hf, List.all_cons, List.all_nil, Bool.and_true]
 cases h1 : chk a == 0 with
 | false => rfl
 | true =>
  cases h2 : chk c == 0 with
  | false => rfl
  | true =>
   obtain ⟨q1, q2⟩ := jd9 h1 h2
   rw [Nd3 _ q1 q2, Nd4 _ q1 q2]
   rfl
theorem Wc6 {a c : List Pln} (ha : a.length ≤ 100000000) (hc : c.length ≤ 100000000) : la8 a c = apart a c := by unfold la8; rw [kd0 ha hc]; rfl
theorem Wc7 {a c : List Pln} (ha : a.length ≤ 100000000) (hc : c.length ≤ 100000000) : la9 a c = true := by unfold la9; rw [kd0 ha hc]; rfl
noncomputable def kd1 (a c : List Pln) : Bool := ful a && ((chk c == 0) && (pts a).all (inn c))
theorem sd3 (x : Pt) (c : List Pln) (hc : c.length ≤ 1000000000) : Ba4 ⟨x.px, x.py, x.pz, x.pw, c⟩ = ⟨1, !inn c x⟩ := by
 unfold Ba4 da0
 simp only [l9, G3, o8]
 show sl (R9 c x) (na8.mk 1 (!R8 c x)) _ = _
 rw [wc2 c x hc, wc3 c x hc]
 rfl
theorem Nc2 {a c : List Pln} (ha : a.length ≤ 1000000000) (hc : c.length ≤ 1000000000) : Aa0 a c = some (b (kd1 a c), []) := by
 have hX := oc4 a
 have h := hb6 (step := D0 ⟨pts a, ((pts a).length : Int)⟩) (mk := fun j => (⟨(j : Int), c⟩ : o0)) (c := fun x => !inn c x) (u := 1) (fin := 2) tX (pts a) (by omega)
  (fun j hj => by
   simp only [D0, A8, Int.toNat_natCast, l9, o2, sd3 _ _ hc, p6 hj (show (pts a).length ≤ 4611686018427387904 by omega)]
   rw [btD (o5 hj), bt (f9 hj)]
   rfl)
  (by simp only [D0, A8]; rw [bfD (W6 (Nat.lt_irrefl _))]) 0 (Nat.zero_le _)
 rw [List.drop_zero] at h
 have e : ((pts a).any fun x => !inn c x) = !(pts a).all (inn c) := by rw [List.not_all_eq_any_not]
 unfold Aa0 V9 y5 ca4 B6 kd1
 simp only [l9, o2, G3, xc3 ha, xc4 ha, Wb1 c hc, Wb2 c hc, Cb0 ha, Cb1 ha]
 rw [show (⟨0, c⟩ : o0) = ⟨((0 : Nat) : Int), c⟩ from rfl, h, e]
 cases ful a with
 | false => rfl
 | true =>
  cases chk c == 0 with
  | false => rfl
  | true =>
   cases (pts a).all (inn c) with
   | true => rfl
   | false =>
    simp only [Bool.not_false, if_true, Nat.zero_add]
    show some (b (!(decide ((((pts a).findIdx fun x => !inn c x : Nat) : Int) ≥ 0))), []) = _
    rw [show decide ((((pts a).findIdx fun x => !inn c x : Nat) : Int) ≥ 0) = true from decide_eq_true (by omega)]
    rfl
theorem Ac6 {a c : List Pln} (ha : a.length ≤ 1000000000) (hc : c.length ≤ 1000000000) : ga7 a c = kd1 a c := by unfold ga7; rw [Nc2 ha hc]; rfl
theorem Ac7 {a c : List Pln} (ha : a.length ≤ 1000000000) (hc : c.length ≤ 1000000000) : ga8 a c = true := by unfold ga8; rw [Nc2 ha hc]; rfl
end Go.Ev.Ce
namespace Go.Ev.L
open Go Go.Ev Go.Sort Go.Proofs
section
variable {α : Type} [Inhabited α] {P : Program} {G : Nat → List Value} {g : FuncId} {S : Sum} {t : Ty α} {enc : α → List Value} {cf : α → α → Int}
theorem Yd9 (hc : i5 P G g S) (hS : ∀ x y, (S [.agg (t.row x), .agg (t.row y)] []).run = some (i (cf x y), [])) (hG : ∀ n, G n = []) (he : ∀ x, t.row x = (enc x).map .v) (k blk off size : Nat) (w : World) :
  CmpLays P g #[] enc k cf blk off size w := by
 intro m os dk _ x y
 generalize sortWorldK enc k w blk off m dk os = w0
 have hrow : ∀ (z : α), W0 (fun _ => ⟨0, 0, 0⟩) [] (fun _ _ => False) w0 (.agg (t.row z)) (.agg (enc z).toArray) := fun z => by
  refine .agg _ _ (by rw [he]; simp) fun i u u' hu hu' => ?_
  rw [he, List.getElem?_map] at hu
  have hu' : (enc z)[i]? = some u' := by simpa using hu'
  rw [hu'] at hu
  injection hu with hu
  subst hu
  exact .v _
 obtain ⟨_, h⟩ := hc _ _ _ _ (hS x y) (fun k => w0.heap.size ≤ k) (fun _ => ⟨0, 0, 0⟩) (fun _ _ => False) w0 [.agg (enc x).toArray, .agg (enc y).toArray]
  ⟨fun id b hb => by simp at hb, fun id id' b b' hb => by simp at hb, fun b o hf => hf.elim, fun k hk => hk⟩ rfl
  (fun i u u' hu hu' => by
   match i, hu, hu' with
   | 0, hu, hu' => cases hu; cases hu'; exact .val (hrow x)
   | 1, hu, hu' => cases hu; cases hu'; exact .val (hrow y))
  (fun n c v hv => by rw [hG] at hv; simp at hv)
 refine h.mono fun e w' ⟨r', h1, ρ', F', h2, h3, h4⟩ => ?_
 have h5 := Z1 h4
 subst h5
 refine ⟨h1, w'.drawn - w0.drawn, w'.heap.extract w0.heap.size w'.heap.size, ?_⟩
 have hd := h2.ext.drawn
 have hs := h2.ext.size
 have hheap : w'.heap = w0.heap ++ w'.heap.extract w0.heap.size w'.heap.size := by
  apply Array.ext_getElem?
  intro j
  rcases Nat.lt_or_ge j w0.heap.size with hj | hj
  ·rw [Array.getElem?_append_left hj, h2.ext.block j hj (by omega)]
  ·rw [Array.getElem?_append_right hj, Array.getElem?_extract]
   have e : w0.heap.size + (j - w0.heap.size) = j := by omega
   rw [e]
   split
   ·rfl
   ·rw [Array.getElem?_eq_none (by omega)]
 obtain ⟨hp, tp, dr, os', out⟩ := w'
 have e1 := h2.ext.os; have e2 := h2.ext.tape; have e3 := h2.ext.output
 simp only at e1 e2 e3 hd hheap
 subst e1 e2 e3
 unfold grow World.drewN
 simp only
 congr 1
 omega
noncomputable def Pd7 (t : Ty α) (g : Nat) (et : Nat) (srt : List α → List α) : Sum := fun args blks => match args, blks with
 | [.sl 0 0 n 0, .fn g' []], [⟨et', es', el, true, false, 0⟩] =>
  Bool.rec (motive := fun _ => DT (b7 × List b8)) .fail (.guard (Bool.and (Nat.ble n room) (Bool.and (Nat.ble n (len el)) (okS t el 0 n))) (.ret (.v (.tuple #[]), [⟨et', es', app (bL t (srt (slR t el 0 n))) (d8 el n), true, false, 0⟩])))
   (Bool.and (Nat.beq g' g) (Bool.and (Nat.beq et' et) (Nat.beq es' t.es)))
 | _, _ => .fail
theorem Xb7 (l : List α) (j : Nat) (h : j < l.length) : l.toArray[j]! = l[j] := by
 rw [getElem!_pos l.toArray j (by simpa using h)]
 simp
theorem Zd0 {f : FuncId} {et : Nat} {srt : List α → List α} (hcall : xb6 P f) (hes : 0 < t.es) (he : ∀ x, t.row x = (enc x).map .v) (hx : ∀ r, t.ok r = true → r = t.row (t.rd r)) (h1 : ∀ x, ∀ v ∈ enc x, v.oneCell' = true)
  (hlen : ∀ l, (srt l).length = l.length) (hcl : ∀ blk off size w, CmpLays P g #[] enc t.es cf blk off size w)
  (hcon : ∀ (blk cap : Nat) (d : Array α) (w : World), (∀ off size, CmpLays P g #[] enc t.es cf blk off size w) → HoldsK enc t.es w blk 0 d → blk < w.heap.size → d.size < 4611686018427387904 →
   Calls P f #[.slice (some ⟨blk, 0, none⟩) d.size cap, .func (.func g) #[] #[]] w fun e w' => e = .returned (.tuple #[]) ∧ ∃ n os, w' = sortWorldK enc t.es w blk 0 n (srt d.toList).toArray os) :
  i5 P G f (Pd7 t g et srt) := by
 intro args blks r out hr W ρ F w args' hH hl hargs hG
 refine ⟨hcall, ?_⟩
 unfold Pd7 at hr
 split at hr
 case h_2 => cases hr
 rename_i n g' et' es' el
 cases hb0 : Bool.and (Nat.beq g' g) (Bool.and (Nat.beq et' et) (Nat.beq es' t.es)) with
 | false => rw [hb0] at hr; cases hr
 | true =>
 rw [hb0] at hr
 rw [Bool.and_eq_true, Bool.and_eq_true] at hb0
 have q1 := Nat.eq_of_beq_eq_true hb0.1; have q2 := Nat.eq_of_beq_eq_true hb0.2.1; have q3 := Nat.eq_of_beq_eq_true hb0.2.2
 subst q1 q2 q3
 obtain ⟨hg0, hr⟩ := DT.run_guard_some hr
 rw [Bool.and_eq_true, Bool.and_eq_true] at hg0
 have hroom : n ≤ room := Nat.le_of_ble_eq_true hg0.1
 have hn := Nat.le_of_ble_eq_true hg0.2.1
 rw [l6] at hn
 have hok := hg0.2.2
 injection hr with hr; injection hr with p1 p2; subst p1 p2
 match args', hl with
 | [v0, v1], _ =>
 obtain ⟨a, cap, b, rfl, hb, hd, _, hncap, hspot, hcap, hq⟩ := Ba7 (hargs 0 _ _ rfl rfl)
 obtain ⟨vs1, rfl, hvs1, _⟩ := pb1 (hargs 1 _ _ rfl rfl)
 have hvs1 : vs1 = #[] := Array.eq_empty_of_size_eq_zero (by simpa using hvs1.symm)
 subst hvs1
 have hb : b = ⟨et', t.es, el, true, false, 0⟩ := by simpa using hb.symm
 subst hb
 obtain ⟨ha, hsz, hne⟩ := hq rfl
 have ha : a = ⟨(ρ 0).blk, (ρ 0).off + 0 * t.es, none⟩ := ha.resolve_left fun h => by omega
 obtain ⟨cc, tt, fr, hB⟩ := hH.blk 0 _ rfl rfl
 obtain ⟨hfr, hW, hoff, hsize, hnF, het⟩ := hB.own rfl
 subst hfr
 rw [hoff, Nat.zero_mul, Nat.add_zero] at ha
 subst ha
 generalize hbk : (ρ 0).blk = blk at *
 -- the rows as data
 have hrow : ∀ j, j < n → d9 el j = (enc (gL t (slR t el 0 n) j)).map .v := fun j hj => by
  have h2 : t.ok (d9 el (0 + j)) = true := List.all_eq_true.1 hok j (by simpa using hj)
  rw [Nat.zero_add] at h2
  rw [← he, slR, ud2 t _ hj, Nat.zero_add]
  exact hx _ h2
 have hld : (slR t el 0 n).length = n := Qc4 ..
 have hk : ∀ x, (enc x).length = t.es := fun x => by have := t.h0 x; rw [l6, he] at this; simpa using this
 have hlt : blk < w.heap.size := by
  have := hB.obj
  rcases Nat.lt_or_ge blk w.heap.size with h | h
  ·exact h
  ·rw [hbk, Array.getElem?_eq_none h] at this; cases this
 have hobj : w.heap[blk]? = some (.cells cc tt (0, 0)) := by rw [← hbk]; exact hB.obj
 have hgd : ∀ (l : List α) (j : Nat) (h : j < l.length), gL t l j = l[j] := fun l j h => by simp [gL, List.getD_eq_getElem?_getD, List.getElem?_eq_getElem h]
 have hdm : ∀ q, q < n * t.es → q / t.es < n ∧ q % t.es < t.es ∧ (q / t.es) * t.es + q % t.es = q := fun q hq => ⟨Nat.div_lt_of_lt_mul (by rw [Nat.mul_comm]; exact hq), Nat.mod_lt _ hes, Nat.div_add_mod' q t.es⟩
 have hrowAt : ∀ j, j < el.length → el[j]? = some (d9 el j) := fun j hj => by
  unfold d9; rw [y6, List.getElem?_eq_getElem hj]
 have hH0 : HoldsK enc t.es w blk 0 (slR t el 0 n).toArray := by
  intro q hq
  have hq : q < n * t.es := by rw [size_flatK] at hq; simpa [hld] using hq
  obtain ⟨e1, e2, e3⟩ := hdm q hq
  rw [get_flatK _ _ _ _ (by simpa [hld] using hq), Xb7 _ _ (by rw [hld]; exact e1), ← hgd _ _ (by rw [hld]; exact e1)]
  have hcx : (d9 el (q / t.es))[q % t.es]? = some (.v ((enc (gL t (slR t el 0 n) (q / t.es)))[q % t.es]!)) := by
   rw [hrow _ e1, List.getElem?_map, List.getElem?_eq_getElem (by rw [hk]; exact e2), getElem!_pos _ _ (by rw [hk]; exact e2)]
   rfl
  obtain ⟨x', h5, h6⟩ := hB.cell (q / t.es) _ (q % t.es) _ (hrowAt _ (by omega)) hcx
  have h6 : x' = (enc (gL t (slR t el 0 n) (q / t.es)))[q % t.es]! := by cases h6; rfl
  subst h6
  rw [hoff] at h5
  simp only [e3, Nat.zero_add] at h5
  constructor
  ·simp only [World.cell?, hobj, Nat.zero_add]
   simpa using h5
  ·simp [World.frozen?, hobj]
 have hds : (slR t el 0 n).toArray.size = n := by simpa using hld
 have hmax : n < 4611686018427387904 := by unfold room at hroom; omega
 have hcalls := hcon blk cap (slR t el 0 n).toArray w (fun off size => hcl blk off size w) hH0 hlt (by rw [hds]; exact hmax)
 rw [hds] at hcalls
 refine hcalls.mono fun e w' ⟨h5, m, os, h6⟩ => ⟨_, h5, ρ, F, ?_⟩
 generalize hsd : srt (slR t el 0 n) = sd at *
 have hsl : sd.length = n := by rw [← hsd, hlen, hld]
 have h6 : w' = grow (mapBlock (Sort.ahead w m) blk (putCells id 0 (flatK enc t.es sd.toArray))) os := h6
 have hw'size : w'.heap.size = w.heap.size + os.size := by rw [h6]; simp [mapBlock]
 have hold : ∀ k, k < w.heap.size → k ≠ blk → w'.heap[k]? = w.heap[k]? := fun k h7 h8 => by
  rw [h6]
  simp only [grow, mapBlock]
  rw [Array.getElem?_append_left (by simpa using h7), Array.getElem?_modify]
  simp [Ne.symm h8]
 have hnew : w'.heap[blk]? = some (.cells (putCells id 0 (flatK enc t.es sd.toArray) cc) tt (0, 0)) := by
  rw [h6]
  simp only [grow, mapBlock]
  rw [Array.getElem?_append_left (by simpa using hlt), Array.getElem?_modify]
  simp [hobj, onCells]
 have hcells : ∀ b o, F b o → w'.cell? ⟨b, o, none⟩ = w.cell? ⟨b, o, none⟩ := fun b o hf => by
  have h7 : b ≠ blk := fun h8 => hnF o (h8 ▸ hf)
  have := ob8 (hH.frz b o hf)
  simp only [World.cell?, hold b this h7]
 have hpc : ∀ q, q < cc.size → (putCells id 0 (flatK enc t.es sd.toArray) cc)[q]? = if q < n * t.es then some ((enc sd.toArray[q / t.es]!)[q % t.es]!) else cc[q]? := fun q hq => by
  simp only [putCells, Array.getElem?_mapIdx, Array.getElem?_eq_getElem hq, Option.map_some, size_flatK, Nat.zero_le, true_and, Nat.zero_add, Nat.sub_zero, id]
  have : sd.toArray.size = n := by simpa using hsl
  rw [this]
  split
  ·next h7 => rw [get_flatK _ _ _ _ (by rw [this]; exact h7)]
  ·rfl
 have hel : (app (bL t sd) (d8 el n)).length = el.length := by
  rw [C0, List.length_append, ← l6 (bL t sd), I5, hsl, B9, List.length_drop]
  omega
 have hnrow : ∀ (j : Nat) r, (app (bL t sd) (d8 el n))[j]? = some r → (j < n ∧ r = t.row (gL t sd j)) ∨ (n ≤ j ∧ el[j]? = some r) := fun j r hr => by
  have hlb : (bL t sd).length = n := by rw [← l6, I5, hsl]
  rw [C0] at hr
  rcases Nat.lt_or_ge j n with h7 | h7
  ·rw [List.getElem?_append_left (by omega)] at hr
   left
   refine ⟨h7, ?_⟩
   unfold bL at hr
   rw [l8, List.getElem?_map, List.getElem?_eq_getElem (by omega)] at hr
   injection hr with hr
   rw [← hr, hgd sd j (by omega)]
  ·rw [List.getElem?_append_right (by omega), hlb, B9, List.getElem?_drop] at hr
   right
   exact ⟨h7, by rw [← hr]; congr 1; omega⟩
 have hcs : el.length * t.es ≤ cc.size := by have := hB.len; rw [hsize] at this; exact this
 refine ⟨⟨⟨?_, ?_, ?_, by omega, fun k h7 h8 => hold k h7 fun h9 => h8 (h9 ▸ hW), hcells, ?_⟩, fun id b hb => ?_, fun _ _ h => h, fun _ _ h => .inl h, fun id b' hb' hn' => ?_⟩, ⟨fun id b hb hd' => ?_, fun id id' b b' hb hb' h7 h8 h9 h10 => ?_, fun b o hf => by rw [hcells b o hf]; exact hH.frz b o hf, fun k hk' => hH.new k (by omega)⟩, .ofv _⟩
 ·rw [h6]; rfl
 ·rw [h6]; rfl
 ·rw [h6]; rfl
 ·rw [h6]; exact Nat.le_add_right _ _
 ·match id, hb with
  | 0, hb =>
   cases hb
   exact ⟨_, rfl, rfl, Nat.le_refl _, fun _ => ⟨rfl, rfl, by simp only [hel]; exact Nat.le_refl _⟩⟩
 ·match id, hb' with
  | 0, hb' => cases hb'; exact absurd rfl (hn' ⟨et', t.es, el, true, false, 0⟩ rfl)
 ·match id, hb with
  | 0, hb =>
   cases hb
   refine ⟨_, tt, (0, 0), by rw [hbk]; exact hnew, ?_, ?_, ?_, ?_, fun _ => ⟨rfl, by rw [hbk]; exact hW, hoff, ?_, by rw [hbk]; exact hnF, het⟩, fun h => by cases h⟩
   ·rw [hoff, hsize]; simp [putCells]
   ·simp only [hel]; exact hB.len
   ·intro j r hr
    rcases hnrow j r hr with ⟨_, h8⟩ | ⟨_, h8⟩
    ·rw [h8, ← l6]; exact t.h0 _
    ·exact hB.rows j r h8
   ·intro j r c x hr hc
    rw [hoff, Nat.zero_add]
    rcases hnrow j r hr with ⟨h7, h8⟩ | ⟨h7, h8⟩
    ·subst h8
     have hclt : c < t.es := by
      have := (List.getElem?_eq_some_iff.1 hc).1
      rw [← l6, t.h0] at this
      exact this
     have hq : j * t.es + c < n * t.es := by
      have := Nat.mul_le_mul_right t.es (show j + 1 ≤ n from h7)
      rw [Nat.add_mul, Nat.one_mul] at this
      omega
     have hqn : n * t.es ≤ el.length * t.es := Nat.mul_le_mul_right _ hn
     have e1 : (j * t.es + c) / t.es = j := by rw [Nat.mul_comm, Nat.mul_add_div hes, Nat.div_eq_of_lt hclt, Nat.add_zero]
     have e2 : (j * t.es + c) % t.es = c := by rw [Nat.mul_comm, Nat.mul_add_mod, Nat.mod_eq_of_lt hclt]
     rw [he, List.getElem?_map, List.getElem?_eq_getElem (by rw [hk]; exact hclt)] at hc
     injection hc with hc
     subst hc
     refine ⟨(enc (gL t sd j))[c]'(by rw [hk]; exact hclt), ?_, .v _ (h1 _ _ (List.getElem_mem _))⟩
     rw [hpc _ (Nat.lt_of_lt_of_le hq (Nat.le_trans hqn hcs)), if_pos hq, e1, e2, Xb7 _ _ (by omega), hgd sd j (by omega), getElem!_pos _ _ (by rw [hk]; exact hclt)]
    ·obtain ⟨x', h9, h10⟩ := hB.cell j r c x h8 hc
     rw [hoff, Nat.zero_add] at h9
     have hq : ¬ j * t.es + c < n * t.es := by
      have := Nat.mul_le_mul_right t.es h7
      omega
     have hlt' : j * t.es + c < cc.size := (Array.getElem?_eq_some_iff.1 h9).1
     exact ⟨x', by rw [hpc _ hlt', if_neg hq]; exact h9, h10.adv (fun _ _ h => h) hcells⟩
   ·rw [hsize]; simp [putCells]
 ·match id, hb, id', hb' with
  | 0, hb, 0, hb' => exact absurd rfl h10
end
end Go.Ev.L
namespace Go.Proofs
open Go.Shelf
shelf_lay_g SlLaysF0.n6 Slsf 6 at Tryz 103 as Ce.sortLay
end Go.Proofs
namespace Go.Ev.Ce
open Go Go.Ev Go.Ev.L Go.Proofs Go.Sort
def Xb8 (x y : Int) : Int := if x < y then -1 else if x > y then 1 else 0
def lb8 (x y : Pln) : Int :=
 if Xb8 x.n.x y.n.x = 0 then if Xb8 x.n.y y.n.y = 0 then if Xb8 x.n.z y.n.z = 0 then Xb8 x.b y.b else Xb8 x.n.z y.n.z else Xb8 x.n.y y.n.y else Xb8 x.n.x y.n.x
theorem oc5 (x y : Int) : Xb8 x y < 0 ↔ x < y := by unfold Xb8; split <;> (try split) <;> omega
theorem Wc8 (x y : Int) : Xb8 x y = 0 ↔ x = y := by unfold Xb8; split <;> (try split) <;> omega
def LtP (x y : Pln) : Prop := x.n.x < y.n.x ∨ x.n.x = y.n.x ∧ (x.n.y < y.n.y ∨ x.n.y = y.n.y ∧ (x.n.z < y.n.z ∨ x.n.z = y.n.z ∧ x.b < y.b))
instance (x y : Pln) : Decidable (LtP x y) := by unfold LtP; exact inferInstance
theorem Zd1 (x y : Pln) : lb8 x y < 0 ↔ LtP x y := by
 have h1 := oc5 x.n.x y.n.x; have h2 := Wc8 x.n.x y.n.x
 have h3 := oc5 x.n.y y.n.y; have h4 := Wc8 x.n.y y.n.y
 have h5 := oc5 x.n.z y.n.z; have h6 := Wc8 x.n.z y.n.z
 have h7 := oc5 x.b y.b
 unfold lb8 LtP
 split
 ·split
  ·split <;> omega
  ·omega
 ·omega
theorem Ya2 (x y : Pln) : ltOf lb8 x y = decide (LtP x y) := by
 unfold ltOf
 rw [decide_eq_decide]
 exact Zd1 x y
theorem te8 : SWO (ltOf lb8) where
 irrefl x := by rw [Ya2]; simp [LtP]
 trans x y z h1 h2 := by rw [Ya2, decide_eq_true_eq] at *; unfold LtP at *; omega
 ntrans x y z h1 h2 := by rw [Ya2, decide_eq_false_iff_not] at *; unfold LtP at *; omega
theorem te9 (x y : Pln) (h1 : ltOf lb8 x y = false) (h2 : ltOf lb8 y x = false) : x = y := by
 rw [Ya2, decide_eq_false_iff_not] at *
 unfold LtP at *
 obtain ⟨⟨a, b, c⟩, d⟩ := x; obtain ⟨⟨a', b', c'⟩, d'⟩ := y
 simp only at *
 have : a = a' ∧ b = b' ∧ c = c' ∧ d = d' := by omega
 obtain ⟨rfl, rfl, rfl, rfl⟩ := this
 rfl
theorem kd2 (x y : Int) : za9 x y = some (i (Xb8 x y), []) := by
 unfold za9 Xb8
 simp only [Za0, decide_eq_true_eq]
 split <;> (try split) <;> rfl
theorem Zd2 (x y : Int) : ga5 x y = Xb8 x y := by unfold ga5; rw [kd2]; rfl
theorem Zd3 (x y : Int) : ga6 x y = true := by unfold ga6; rw [kd2]; rfl
theorem Ac8 (x y : Pln) : na7 x y = some (i (lb8 x y), []) := by
 unfold na7 lb8
 simp only [Zd2, Zd3, Za0, beq_iff_eq, if_true]
 repeat' (first | rfl | split)
theorem ue0 (x y : Pln) : Ba1 x y = lb8 x y := by unfold Ba1; rw [Ac8]; rfl
theorem ue1 (x y : Pln) : Ba2 x y = true := by unfold Ba2; rw [Ac8]; rfl
theorem ue2 (x y : Pln) : (Ua4 [.agg (tP.row x), .agg (tP.row y)] []).run = some (i (lb8 x y), []) := by
 have : (Ua4 [.agg (tP.row x), .agg (tP.row y)] []).run = sel (Ba2 x y) (some (i (Ba1 x y), [])) none := by kernel_rfl
 rw [this, ue1, ue0]
def bc0 (p : Pln) : List Value := [.int .i64 p.n.x, .int .i64 p.n.y, .int .i64 p.n.z, .int .i64 p.b]
instance : Inhabited Pln := ⟨⟨⟨0, 0, 0⟩, 0⟩⟩
def vb0 (l : List Pln) : List Pln := l.mergeSort fun x y => !ltOf lb8 y x
theorem Nc3 (l : List Pln) : (vb0 l).length = l.length := List.length_mergeSort l
noncomputable def Da6 : Sum := Pd7 tP 104 50 vb0
theorem Pd8 : Ce.sortLay_ren.f 6 = 103 := by kernel_rfl
theorem Nc4 : Ce.sortLay_ren.t 24 = 50 := by kernel_rfl
set_option maxRecDepth 100000 in
theorem lb9 : i5 prog G 103 Da6 := by
 refine Zd0 (enc := bc0) (cf := lb8) ⟨_, Tryz.func103, by kernel_rfl, of_decide_eq_true (by kernel_rfl)⟩ (by decide) (fun _ => rfl) (fun r h => Ca7 (n := 4) h) (fun x v hv => ?_) Nc3
  (fun blk off size w => Yd9 ec4 ue2 (fun _ => rfl) (fun _ => rfl) _ _ _ _ _) (fun blk cap d w hcl hH hb hs => ?_)
 ·simp [bc0] at hv
  rcases hv with rfl | rfl | rfl | rfl <;> rfl
 ·have eg : ∀ args w, (callFunc 104 args).run Tryz.prog w = .ok (.enter 104 args) w := enters_of Tryz.func104 (by kernel_rfl) rfl
  have := AnyQ.slices_SortFunc Ce.sortLay 4 (by rw [Nc4]; exact Tryz.isAgg50) (by rw [Nc4]; exact Tryz.sizeOf50) bc0 (fun _ => rfl) (fun x v hv => by simp [bc0] at hv; rcases hv with rfl | rfl | rfl | rfl <;> rfl) lb8 te8 104 #[] blk 0 cap d w eg (hcl 0 d.size) hH hb hs
  rw [Pd8] at this
  refine this.mono fun e w' ⟨h1, d', n, os, h2, h3, h4⟩ => ⟨h1, n, os, ?_⟩
  have h5 := sorted_unique_holds te8 te9 d d' h2 h3
  rw [h4]
  show _ = sortWorldK bc0 4 w blk 0 n (d.toList.mergeSort fun x y => !ltOf lb8 y x).toArray os
  rw [← h5]
end Go.Ev.Ce
