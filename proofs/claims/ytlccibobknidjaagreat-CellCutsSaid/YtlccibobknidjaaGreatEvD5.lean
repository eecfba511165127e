/- Own work: a part of the proof. -/
import Derived.Test.YtlccibobknidjaaGreatEvDG
import Derived.Test.YtlccibobknidjaaGreatEvSp7
set_option linter.unusedVariables false
set_option linter.unusedSimpArgs false
set_option linter.unnecessarySimpa false
set_option linter.unusedSectionVars false
section
namespace Go.Ev.Ce
open Go Go.Ev Go.Ev.L Go.Proofs
set_option maxRecDepth 100000
noncomputable def na6 : List (Nat × Sum) := [(216, xa3)]
theorem nb2 : l5 prog G na6 := ⟨Bb4, trivial⟩
structure M6 where
 ra3 : List (List Pln)
 Bc7 : List (List Pln)
 Ia6 : Int
structure q7 where
 is3 : Int
 T8 : Int
noncomputable def jb6 (p : M6) (s : q7) : St := ⟨((eL (tLs tP) p.ra3) :: (.unk :: (.unk :: ((i s.is3) :: (ra 5 ((eL (tLs tP) p.Bc7) :: ((i p.Ia6) :: ((i s.T8) :: (ra 24 []))))))))), []⟩
noncomputable def J3 {α : Type} (k : q7 → α) (e : Nat → α) (z : α) (p : M6) (s : q7) : α := (sl (decide (s.T8 < p.Ia6)) (sl (inB s.T8 (List.length p.Bc7)) (sl (decide ((W (s.is3 + (↑(List.length (gL (tLs tP) p.Bc7 s.T8.toNat)) : Int))) < 0)) z (k ⟨(W (s.is3 + (↑(List.length (gL (tLs tP) p.Bc7 s.T8.toNat)) : Int))), (W (s.T8 + 1))⟩)) z) (e 1))
noncomputable def F5 (p : M6) (s : q7) : Stp q7 := J3 .next .exit .fail p s
noncomputable def la2 : Lo M6 q7 := ⟨En na6, 0, Pd1, [1, 1, 0, 1, 4, 4], [0, 3, 9, 10, 11], .p, [⟨((.s (.c 1 (nL (tLs tP)))) :: ((.s (.o .unk)) :: ((.s (.o .unk)) :: ((.s (.o (.int .i64))) :: (ru2 5 ((.s (.c 1 (nL (tLs tP)))) :: ((.s (.o (.int .i64))) :: ((.s (.o (.int .i64))) :: (ru2 24 []))))))))), [], fun a H => (⟨(rL (tLs tP) (slT a 0)), (rL (tLs tP) (slT a 9)), (toI (slT a 10))⟩, ⟨(toI (slT a 3)), (toI (slT a 11))⟩)⟩], F5, [(some 0, fun p s => ⟨((eL (tLs tP) p.ra3) :: (.unk :: (.unk :: ((i s.is3) :: (ra 5 ((eL (tLs tP) p.Bc7) :: ((i p.Ia6) :: ((i s.T8) :: ((b (decide (s.T8 < p.Ia6))) :: (ra 23 [])))))))))), []⟩)], jb6⟩
theorem jb7 : la2.OkM := Lo.okM [] (by kernel_rfl) .nil rfl (.cons (fun a H => by kernel_rfl) .nil) fun p s => (.of @J3 (fun F _ _ _ _ _ => by unfold J3; (repeat' apply n7 (f := F)) <;> rfl) (by kernel_rfl))
structure q8 where
 ka1 : List (List Pln)
 md2 : Int
structure k9 where
 ph : Nat
 fb6 : Int
 ns6 : Nat
 eh0 : List (List b7)
noncomputable def eb3 (p : q8) (s : k9) : St := ⟨(ra 6 ((.v (.slice none 0 0)) :: (ra 18 ((eL (tLs tP) p.ka1) :: ((i p.md2) :: ((i s.fb6) :: (ra 8 []))))))), []⟩
noncomputable def eb4 (p : q8) (s : k9) : St := ⟨(ra 6 ((.sl 0 0 s.ns6 0) :: (ra 18 ((eL (tLs tP) p.ka1) :: ((i p.md2) :: ((i s.fb6) :: (ra 8 []))))))), [⟨50, 4, s.eh0, true, false, 0⟩]⟩
noncomputable def jb8 (p : q8) (s : k9) : St := (sel (Nat.beq s.ph 1) (eb4 p s) (eb3 p s))
noncomputable def y7 {α : Type} (k : k9 → α) (e : Nat → α) (z : α) (p : q8) (s : k9) : α := (sl (decide (s.fb6 < p.md2)) (sl (inB s.fb6 (List.length p.ka1)) (sl (Nat.beq (len (o7 (fun k => (tP).row (gL tP (gL (tLs tP) p.ka1 s.fb6.toNat) k)) (List.range (List.length (gL (tLs tP) p.ka1 s.fb6.toNat))))) 0) (k ⟨0, (W (s.fb6 + 1)), 0, []⟩) z) z) (e 1))
noncomputable def y8 {α : Type} (k : k9 → α) (e : Nat → α) (z : α) (p : q8) (s : k9) : α := (sl (decide (s.fb6 < p.md2)) (sl (inB s.fb6 (List.length p.ka1)) (sl (Nat.ble (s.ns6 + (len (o7 (fun k => (tP).row (gL tP (gL (tLs tP) p.ka1 s.fb6.toNat) k)) (List.range (List.length (gL (tLs tP) p.ka1 s.fb6.toNat)))))) (len s.eh0)) (k ⟨1, (W (s.fb6 + 1)), (s.ns6 + (len (o7 (fun k => (tP).row (gL tP (gL (tLs tP) p.ka1 s.fb6.toNat) k)) (List.range (List.length (gL (tLs tP) p.ka1 s.fb6.toNat)))))), (app (I6 s.eh0 s.ns6) (app (o7 (fun k => (tP).row (gL tP (gL (tLs tP) p.ka1 s.fb6.toNat) k)) (List.range (List.length (gL (tLs tP) p.ka1 s.fb6.toNat)))) (g9 s.eh0 (s.ns6 + (len (o7 (fun k => (tP).row (gL tP (gL (tLs tP) p.ka1 s.fb6.toNat) k)) (List.range (List.length (gL (tLs tP) p.ka1 s.fb6.toNat)))))))))⟩) z) z) (e 2))
noncomputable def A3 (p : q8) (s : k9) : Stp k9 := (sel (Nat.beq s.ph 1) (y8 .next .exit .fail p s) (y7 .next .exit .fail p s))
noncomputable def la3 : Lo q8 k9 := ⟨En na6, 0, Pd1, [1, 1, 1, 1, 0, 1, 4, 4], [6, 25, 26, 27], .p, [⟨(ru2 6 ((.s (.o .nil)) :: (ru2 18 ((.s (.c 1 (nL (tLs tP)))) :: ((.s (.o (.int .i64))) :: ((.s (.o (.int .i64))) :: (ru2 8 []))))))), [], fun a H => (⟨(rL (tLs tP) (slT a 25)), (toI (slT a 26))⟩, ⟨0, (toI (slT a 27)), 0, []⟩)⟩, ⟨(ru2 6 ((.s (.o (.sl 0 0 (some 0) none))) :: (ru2 18 ((.s (.c 1 (nL (tLs tP)))) :: ((.s (.o (.int .i64))) :: ((.s (.o (.int .i64))) :: (ru2 8 []))))))), [⟨50, 4, true, none⟩], fun a H => (⟨(rL (tLs tP) (slT a 25)), (toI (slT a 26))⟩, ⟨1, (toI (slT a 27)), (slN (slT a 6)), (elT H 0)⟩)⟩], A3, [(some 2, fun p s => ⟨(ra 6 ((.v (.slice none 0 0)) :: (ra 18 ((eL (tLs tP) p.ka1) :: ((i p.md2) :: ((i s.fb6) :: ((b (decide (s.fb6 < p.md2))) :: (ra 7 [])))))))), []⟩), (some 2, fun p s => ⟨(ra 6 ((.sl 0 0 s.ns6 0) :: (ra 18 ((eL (tLs tP) p.ka1) :: ((i p.md2) :: ((i s.fb6) :: ((b (decide (s.fb6 < p.md2))) :: (ra 7 [])))))))), [⟨50, 4, s.eh0, true, false, 0⟩]⟩)], jb8⟩
theorem jb9 : la3.OkM := Lo.okM [] (by kernel_rfl) .nil rfl (.cons (fun a H => by kernel_rfl) (.cons (fun a H => by kernel_rfl) .nil)) fun p s => (.sel (Nat.beq s.ph 1) (.of @y8 (fun F _ _ _ _ _ => by unfold y8; (repeat' apply n7 (f := F)) <;> rfl) (by kernel_rfl)) (.of @y7 (fun F _ _ _ _ _ => by unfold y7; (repeat' apply n7 (f := F)) <;> rfl) (by kernel_rfl)))
structure ea9 where
 alt : Nat
 ns0 : Nat
 eh0 : List (List b7)
noncomputable def J8 {α : Type} (kk : ea9 → α) (x : List (List Pln)) : α := let t1 := (lp (F5 (⟨(rt (tLs tP) x), (rt (tLs tP) x), (↑(List.length x) : Int)⟩ : M6)) (⟨0, 0⟩ : q7)); let t2 := (lp (A3 (⟨(rt (tLs tP) (rt (tLs tP) x)), (↑(List.length (rt (tLs tP) x)) : Int)⟩ : q8)) (⟨0, 0, 0, []⟩ : k9)); let t3 := (lp (A3 (⟨(rt (tLs tP) (rt (tLs tP) x)), (↑(List.length (rt (tLs tP) x)) : Int)⟩ : q8)) (⟨1, 0, 0, (List.replicate t1.2.is3.toNat Tc4)⟩ : k9)); (sl ((cnE (tLs tP) x) && ((cnE (tLs tP) x) && true)) (sl (Nat.beq t1.1 1) (sl (t1.2.is3 == 0) (sl ((cnE (tLs tP) (rt (tLs tP) x)) && true) (sl (Nat.beq t2.1 1) (kk ⟨1, 0, []⟩) (sl (Nat.beq t2.1 2) (kk ⟨2, t2.2.ns6, t2.2.eh0⟩) (kk ⟨0, 0, []⟩))) (kk ⟨0, 0, []⟩)) (sl (Bool.and (decide (0 < t1.2.is3)) (Nat.ble (t1.2.is3.toNat * 32) room)) (sl ((cnE (tLs tP) (rt (tLs tP) x)) && true) (sl (Nat.beq t3.1 1) (kk ⟨1, 0, []⟩) (sl (Nat.beq t3.1 2) (kk ⟨2, t3.2.ns6, t3.2.eh0⟩) (kk ⟨0, 0, []⟩))) (kk ⟨0, 0, []⟩)) (kk ⟨0, 0, []⟩))) (kk ⟨0, 0, []⟩)) (kk ⟨0, 0, []⟩))
noncomputable def fa0 (x : List (List Pln)) : ea9 := J8 (fun r => r) x
noncomputable def na7 (r : ea9) : DT (b7 × List b8) := (.ite (Nat.beq r.alt 1) (.ret ((.v (.slice none 0 0)), [])) (.ite (Nat.beq r.alt 2) (.ret ((.sl 0 0 r.ns0 0), [⟨50, 4, r.eh0, true, false, 0⟩])) .fail))
theorem vb2 {α β : Type} (F : α → β) (kk : ea9 → α) (x : List (List Pln)) : F (J8 kk x) = J8 (fun r => F (kk r)) x := by unfold J8; (repeat' apply n7 (f := F)) <;> rfl
noncomputable def Ja0 : Sum := ia6 (ga9 (tLs tP)) (fun x => na7 (fa0 x))
theorem rb8 : j7 prog G 169 Ja0 := Fb1 (bd Me9 nb2) fun x => ke5 (.s .p (.s .p (.s (.s .p (.b (.u la2.lsM))) (.s .p (.s (.s .p (.b (.u la3.lsM))) .p))))) [la2.prM, la3.prM] (by kernel_rfl) (.cons jb7 (.cons jb9 .nil)) (Eq.trans (b := J8 (fun r => (na7 r).run) x) (by kernel_rfl) (vb2 (fun r => (na7 r).run) (fun r => r) x).symm)
noncomputable def sd3 : List (Nat × Sum) := [(169, Ja0)]
theorem fd9 : l5 prog G sd3 := ⟨rb8, trivial⟩
noncomputable def nb3 (x : List (List Pln)) : Option (b7 × List b8) := let t1 := (fa0 (rt (tLs tP) x)); (sl (okE (tLs tP) x) (sl (Nat.beq t1.alt 1) (some ((.sl 0 0 6 0), [⟨50, 4, [[(i 1), (i 0), (i 0), (i 24)], [(i (-1)), (i 0), (i 0), (i 24)], [(i 0), (i 1), (i 0), (i 24)], [(i 0), (i (-1)), (i 0), (i 24)], [(i 0), (i 0), (i 1), (i 24)], [(i 0), (i 0), (i (-1)), (i 24)]], true, false, 0⟩])) (sl (Nat.beq t1.alt 2) (sl (Nat.beq t1.ns0 (len t1.eh0) && Nat.ble ((t1.ns0 + 1) * 32) room) (sl (Nat.beq (t1.ns0 + 1) (len (app t1.eh0 [[(i 1), (i 0), (i 0), (i 24)]])) && Nat.ble (((t1.ns0 + 1) + 1) * 32) room) (sl (Nat.beq ((t1.ns0 + 1) + 1) (len (app (app t1.eh0 [[(i 1), (i 0), (i 0), (i 24)]]) [[(i (-1)), (i 0), (i 0), (i 24)]])) && Nat.ble ((((t1.ns0 + 1) + 1) + 1) * 32) room) (sl (Nat.beq (((t1.ns0 + 1) + 1) + 1) (len (app (app (app t1.eh0 [[(i 1), (i 0), (i 0), (i 24)]]) [[(i (-1)), (i 0), (i 0), (i 24)]]) [[(i 0), (i 1), (i 0), (i 24)]])) && Nat.ble (((((t1.ns0 + 1) + 1) + 1) + 1) * 32) room) (sl (Nat.beq ((((t1.ns0 + 1) + 1) + 1) + 1) (len (app (app (app (app t1.eh0 [[(i 1), (i 0), (i 0), (i 24)]]) [[(i (-1)), (i 0), (i 0), (i 24)]]) [[(i 0), (i 1), (i 0), (i 24)]]) [[(i 0), (i (-1)), (i 0), (i 24)]])) && Nat.ble ((((((t1.ns0 + 1) + 1) + 1) + 1) + 1) * 32) room) (sl (Nat.beq (((((t1.ns0 + 1) + 1) + 1) + 1) + 1) (len (app (app (app (app (app t1.eh0 [[(i 1), (i 0), (i 0), (i 24)]]) [[(i (-1)), (i 0), (i 0), (i 24)]]) [[(i 0), (i 1), (i 0), (i 24)]]) [[(i 0), (i (-1)), (i 0), (i 24)]]) [[(i 0), (i 0), (i 1), (i 24)]])) && Nat.ble (((((((t1.ns0 + 1) + 1) + 1) + 1) + 1) + 1) * 32) room) (some ((.sl 0 0 ((((((t1.ns0 + 1) + 1) + 1) + 1) + 1) + 1) 0), [⟨50, 4, (app (app (app (app (app (app t1.eh0 [[(i 1), (i 0), (i 0), (i 24)]]) [[(i (-1)), (i 0), (i 0), (i 24)]]) [[(i 0), (i 1), (i 0), (i 24)]]) [[(i 0), (i (-1)), (i 0), (i 24)]]) [[(i 0), (i 0), (i 1), (i 24)]]) [[(i 0), (i 0), (i (-1)), (i 24)]]), true, false, 0⟩])) none) none) none) none) none) none) none)) none)
noncomputable def Ka8 (x : List (List Pln)) : List Pln := O4 (one (r1L tP)) (nb3 x)
noncomputable def Ka9 (x : List (List Pln)) : Bool := okO (one (r1L tP)) (nb3 x)
noncomputable def Gb2 : Sum := ia6 (ga9 (tLs tP)) (fun x => .guard (Ka9 x) (.ret ((one (r1L tP)).enc (Ka8 x), [])))
theorem Nb7 : j7 prog G 88 Gb2 := Ba4 (bd b88 fd9) (one (r1L tP)) (o := nb3) fun x => s9 (by kernel_rfl)
structure R9 where
 ra3 : List (List Pln)
noncomputable def ta9 : List (Nat × Sum) := [(168, Bb3)]
theorem Va5 : l5 prog G ta9 := ⟨kc6, trivial⟩
structure G3 where
 ra3 : List (List Pln)
 is7 : Int
structure o2 where
 is8 : Int
noncomputable def Sa7 (p : G3) (s : o2) : St := ⟨((eL (tLs tP) p.ra3) :: ((.fn 168 []) :: (ra 5 ((i p.is7) :: ((i s.is8) :: (ra 10 [])))))), []⟩
noncomputable def B8 {α : Type} (k : o2 → α) (e : Nat → α) (z : α) (p : G3) (s : o2) : α := let t1 := (Ga5 (rt tP (gL (tLs tP) p.ra3 s.is8.toNat))); (sl (decide (s.is8 < p.is7)) (sl (inB s.is8 (List.length p.ra3)) (sl (okE tP (gL (tLs tP) p.ra3 s.is8.toNat)) (sl (Ga6 (rt tP (gL (tLs tP) p.ra3 s.is8.toNat))) (sl t1 (e 1) (k ⟨(W (s.is8 + 1))⟩)) z) z) z) (e 2))
noncomputable def D9 (p : G3) (s : o2) : Stp o2 := B8 .next .exit .fail p s
noncomputable def Z8 : Lo G3 o2 := ⟨En ta9, 0, ke1, [1, 0, 1, 4, 4], [0, 1, 7, 8], .p, [⟨((.s (.c 1 (nL (tLs tP)))) :: ((.s (.o (.fn 168))) :: (ru2 5 ((.s (.o (.int .i64))) :: ((.s (.o (.int .i64))) :: (ru2 10 [])))))), [], fun a H => (⟨(rL (tLs tP) (slT a 0)), (toI (slT a 7))⟩, ⟨(toI (slT a 8))⟩)⟩], D9, [(none, fun p s => ⟨[(i s.is8)], []⟩), (some 0, fun p s => ⟨((eL (tLs tP) p.ra3) :: ((.fn 168 []) :: (ra 5 ((i p.is7) :: ((i s.is8) :: ((b (decide (s.is8 < p.is7))) :: (ra 9 []))))))), []⟩)], Sa7⟩
theorem Sa8 : Z8.Ok := Lo.ok [] (by kernel_rfl) .nil rfl (.cons (fun a H => by kernel_rfl) .nil) fun p s => (.of @B8 (fun F _ _ _ _ _ => by unfold B8; (repeat' apply n7 (f := F)) <;> rfl) (by kernel_rfl))
structure S1 where
 alt : Nat
 is0 : Int
noncomputable def C8 {α : Type} (kk : S1 → α) (x : R9) : α := let t1 := (lp (D9 (⟨(rt (tLs tP) x.ra3), (↑(List.length x.ra3) : Int)⟩ : G3)) (⟨0⟩ : o2)); (sl ((cnE (tLs tP) x.ra3) && true) (sl (Nat.beq t1.1 1) (kk ⟨1, t1.2.is8⟩) (sl (Nat.beq t1.1 2) (kk ⟨1, (-1)⟩) (kk ⟨0, 0⟩))) (kk ⟨0, 0⟩))
noncomputable def fa3 (x : R9) : S1 := C8 (fun r => r) x
noncomputable def da3 (x : R9) (r : S1) : DT (b7 × List b8) := (.ite (Nat.beq r.alt 1) (.ret ((i r.is0), [])) .fail)
theorem eb5 {α β : Type} (F : α → β) (kk : S1 → α) (x : R9) : F (C8 kk x) = C8 (fun r => F (kk r)) x := by unfold C8; (repeat' apply n7 (f := F)) <;> rfl
noncomputable def wa6 : Sum := Ya9 ⟨[(.s (.c 1 (nL (tLs tP)))), (.s (.o (.fn 168)))], [], fun a H => (⟨(rL (tLs tP) (slT a 0))⟩, ())⟩ (fun x => da3 x (fa3 x))
theorem ab8 : j7 prog G 207 wa6 := R3 (enc := fun x => ⟨[(eL (tLs tP) x.ra3), (.fn 168 [])], []⟩) (fun a H => by kernel_rfl) (bd Me1 Va5) fun x => Ba5 (.s .p (.s (.s .p (.b (.u Z8.ls))) .p)) [Z8.pr] (by kernel_rfl) (.cons Sa8 .nil) (Eq.trans (b := C8 (fun r => (da3 x r).run) x) (by kernel_rfl) (eb5 (fun r => (da3 x r).run) (fun r => r) x).symm)
structure L2 where
 ra3 : List (List Pln)
noncomputable def Pa3 : List (Nat × Sum) := [(207, wa6)]
theorem La0 : l5 prog G Pa3 := ⟨ab8, trivial⟩
structure L3 where
 alt : Nat
 bs0 : Bool
noncomputable def z6 {α : Type} (kk : L3 → α) (x : L2) : α := let t1 := (fa3 ⟨(rt (tLs tP) x.ra3)⟩); (sl ((cnE (tLs tP) x.ra3) && true) (sl (Nat.beq t1.alt 1) (kk ⟨1, (decide (t1.is0 ≥ 0))⟩) (kk ⟨0, false⟩)) (kk ⟨0, false⟩))
noncomputable def Y3 (x : L2) : L3 := z6 (fun r => r) x
noncomputable def W0 (x : L2) (r : L3) : DT (b7 × List b8) := (.ite (Nat.beq r.alt 1) (.ret ((b r.bs0), [])) .fail)
theorem Sa9 {α β : Type} (F : α → β) (kk : L3 → α) (x : L2) : F (z6 kk x) = z6 (fun r => F (kk r)) x := by unfold z6; (repeat' apply n7 (f := F)) <;> rfl
noncomputable def pa0 : Sum := Ya9 ⟨[(.s (.c 1 (nL (tLs tP)))), (.s (.o (.fn 168)))], [], fun a H => (⟨(rL (tLs tP) (slT a 0))⟩, ())⟩ (fun x => W0 x (Y3 x))
theorem Pa4 : j7 prog G 157 pa0 := R3 (enc := fun x => ⟨[(eL (tLs tP) x.ra3), (.fn 168 [])], []⟩) (fun a H => by kernel_rfl) (bd Je9 La0) fun x => s9 (Eq.trans (b := z6 (fun r => (W0 x r).run) x) (by kernel_rfl) (Sa9 (fun r => (W0 x r).run) (fun r => r) x).symm)
noncomputable def Fc0 : List (Nat × Sum) := [(157, pa0)]
theorem vc7 : l5 prog G Fc0 := ⟨Pa4, trivial⟩
noncomputable def Ga7 (x : List (List Pln)) : Option (b7 × List b8) := let t1 := (Y3 ⟨(rt (tLs tP) x)⟩); (sl ((cnE (tLs tP) x) && true) (sl (Nat.beq t1.alt 1) (some ((b (!t1.bs0)), [])) none) none)
noncomputable def Z9 (x : List (List Pln)) : Bool := O4 (one r1B) (Ga7 x)
noncomputable def aa0 (x : List (List Pln)) : Bool := okO (one r1B) (Ga7 x)
noncomputable def va9 : Sum := ia6 (ga9 (tLs tP)) (fun x => .guard (aa0 x) (.ret ((one r1B).enc (Z9 x), [])))
theorem ya5 : j7 prog G 87 va9 := Ba4 (bd b87 vc7) (one r1B) (o := Ga7) fun x => s9 (by kernel_rfl)
structure aa1 where
 ma5 : Int
 ma6 : Int
 ma7 : Int
 db2 : Int
 f9 : Int
 c7 : Int
 g7 : Int
 d9 : Int
noncomputable def nb4 : List (Nat × Sum) := [(102, hb6)]
theorem kb0 : l5 prog G nb4 := ⟨rb1, trivial⟩
structure P8 where
 bs0 : Bool
noncomputable def P9 {α : Type} (kk : P8 → α) (x : aa1) : α := let t1 := (na1 (⟨(⟨x.f9, x.c7, x.g7⟩ : V3), x.d9⟩ : Pln) (⟨x.ma5, x.ma6, x.ma7, x.db2⟩ : Pt)); (kk ⟨(decide (t1 > 0))⟩)
noncomputable def na8 (x : aa1) : P8 := P9 (fun r => r) x
noncomputable def la4 (x : aa1) (r : P8) : DT (b7 × List b8) := .ret ((b r.bs0), [⟨0, 4, [[(i x.f9), (i x.c7), (i x.g7), (i x.d9)]], true, false, 0⟩])
theorem rb9 {α β : Type} (F : α → β) (kk : P8 → α) (x : aa1) : F (P9 kk x) = P9 (fun r => F (kk r)) x := by unfold P9; (repeat' apply n7 (f := F)) <;> rfl
noncomputable def Ga8 : Sum := Ya9 ⟨[(.agg [(.o (.int .i64)), (.o (.int .i64)), (.o (.int .i64)), (.o (.int .i64))]), (.s (.o (.ptr 0 0 0 0)))], [⟨0, 4, true, (some [[(.o (.int .i64)), (.o (.int .i64)), (.o (.int .i64)), (.o (.int .i64))]])⟩], fun a H => (⟨(toI (slT (cellsOf (slT a 0)) 0)), (toI (slT (cellsOf (slT a 0)) 1)), (toI (slT (cellsOf (slT a 0)) 2)), (toI (slT (cellsOf (slT a 0)) 3)), (toI (slT (rwT (elT H 0) 0) 0)), (toI (slT (rwT (elT H 0) 0) 1)), (toI (slT (rwT (elT H 0) 0) 2)), (toI (slT (rwT (elT H 0) 0) 3))⟩, ())⟩ (fun x => la4 x (na8 x))
theorem nb5 : j7 prog G 176 Ga8 := R3 (enc := fun x => ⟨[(.agg [(i x.ma5), (i x.ma6), (i x.ma7), (i x.db2)]), (.ptr 0 0 0 0)], [⟨0, 4, [[(i x.f9), (i x.c7), (i x.g7), (i x.d9)]], true, false, 0⟩]⟩) (fun a H => by kernel_rfl) (bd Le1 kb0) fun x => s9 (Eq.trans (b := P9 (fun r => (la4 x r).run) x) (by kernel_rfl) (rb9 (fun r => (la4 x r).run) (fun r => r) x).symm)
structure U5 where
 A8 : List Pt
 f9 : Int
 c7 : Int
 g7 : Int
 d9 : Int
noncomputable def wa7 : List (Nat × Sum) := [(176, Ga8)]
theorem ab9 : l5 prog G wa7 := ⟨nb5, trivial⟩
structure H9 where
 A8 : List Pt
 is7 : Int
 f9 : Int
 c7 : Int
 g7 : Int
 d9 : Int
structure o9 where
 is8 : Int
noncomputable def Va6 (p : H9) (s : o9) : St := ⟨((eL tX p.A8) :: ((.fn 176 [(.ptr 0 0 0 0)]) :: (ra 5 ((i p.is7) :: ((i s.is8) :: (ra 10 [])))))), [⟨0, 4, [[(i p.f9), (i p.c7), (i p.g7), (i p.d9)]], true, false, 0⟩]⟩
noncomputable def E0 {α : Type} (k : o9 → α) (e : Nat → α) (z : α) (p : H9) (s : o9) : α := let t1 := (na8 ⟨(gL tX p.A8 s.is8.toNat).px, (gL tX p.A8 s.is8.toNat).py, (gL tX p.A8 s.is8.toNat).pz, (gL tX p.A8 s.is8.toNat).pw, p.f9, p.c7, p.g7, p.d9⟩); (sl (decide (s.is8 < p.is7)) (sl (inB s.is8 (List.length p.A8)) (sl t1.bs0 (e 1) (k ⟨(W (s.is8 + 1))⟩)) z) (e 2))
noncomputable def G4 (p : H9) (s : o9) : Stp o9 := E0 .next .exit .fail p s
noncomputable def da4 : Lo H9 o9 := ⟨En wa7, 1, Pd2, [1, 0, 1, 4, 4], [0, 1, 7, 8], .p, [⟨((.s (.c 4 (nL tX))) :: ((.fn 176 [(.o (.ptr 0 0 0 0))]) :: (ru2 5 ((.s (.o (.int .i64))) :: ((.s (.o (.int .i64))) :: (ru2 10 [])))))), [⟨0, 4, true, (some [[(.o (.int .i64)), (.o (.int .i64)), (.o (.int .i64)), (.o (.int .i64))]])⟩], fun a H => (⟨(rL tX (slT a 0)), (toI (slT a 7)), (toI (slT (rwT (elT H 0) 0) 0)), (toI (slT (rwT (elT H 0) 0) 1)), (toI (slT (rwT (elT H 0) 0) 2)), (toI (slT (rwT (elT H 0) 0) 3))⟩, ⟨(toI (slT a 8))⟩)⟩], G4, [(none, fun p s => ⟨[(i s.is8)], [⟨0, 4, [[(i p.f9), (i p.c7), (i p.g7), (i p.d9)]], true, false, 0⟩]⟩), (some 0, fun p s => ⟨((eL tX p.A8) :: ((.fn 176 [(.ptr 0 0 0 0)]) :: (ra 5 ((i p.is7) :: ((i s.is8) :: ((b (decide (s.is8 < p.is7))) :: (ra 9 []))))))), [⟨0, 4, [[(i p.f9), (i p.c7), (i p.g7), (i p.d9)]], true, false, 0⟩]⟩)], Va6⟩
theorem Va7 : da4.Ok := Lo.ok [] (by kernel_rfl) .nil rfl (.cons (fun a H => by kernel_rfl) .nil) fun p s => (.of @E0 (fun F _ _ _ _ _ => by unfold E0; (repeat' apply n7 (f := F)) <;> rfl) (by kernel_rfl))
structure U9 where
 alt : Nat
 is0 : Int
noncomputable def F6 {α : Type} (kk : U9 → α) (x : U5) : α := let t1 := (lp (G4 (⟨(rt tX x.A8), (↑(List.length x.A8) : Int), x.f9, x.c7, x.g7, x.d9⟩ : H9)) (⟨0⟩ : o9)); (sl ((cnE tX x.A8) && true) (sl (Nat.beq t1.1 1) (kk ⟨1, t1.2.is8⟩) (sl (Nat.beq t1.1 2) (kk ⟨1, (-1)⟩) (kk ⟨0, 0⟩))) (kk ⟨0, 0⟩))
noncomputable def ia8 (x : U5) : U9 := F6 (fun r => r) x
noncomputable def fa4 (x : U5) (r : U9) : DT (b7 × List b8) := (.ite (Nat.beq r.alt 1) (.ret ((i r.is0), [⟨0, 4, [[(i x.f9), (i x.c7), (i x.g7), (i x.d9)]], true, false, 0⟩])) .fail)
theorem kb1 {α β : Type} (F : α → β) (kk : U9 → α) (x : U5) : F (F6 kk x) = F6 (fun r => F (kk r)) x := by unfold F6; (repeat' apply n7 (f := F)) <;> rfl
noncomputable def ya6 : Sum := Ya9 ⟨[(.s (.c 4 (nL tX))), (.fn 176 [(.o (.ptr 0 0 0 0))])], [⟨0, 4, true, (some [[(.o (.int .i64)), (.o (.int .i64)), (.o (.int .i64)), (.o (.int .i64))]])⟩], fun a H => (⟨(rL tX (slT a 0)), (toI (slT (rwT (elT H 0) 0) 0)), (toI (slT (rwT (elT H 0) 0) 1)), (toI (slT (rwT (elT H 0) 0) 2)), (toI (slT (rwT (elT H 0) 0) 3))⟩, ())⟩ (fun x => fa4 x (ia8 x))
theorem eb6 : j7 prog G 185 ya6 := R3 (enc := fun x => ⟨[(eL tX x.A8), (.fn 176 [(.ptr 0 0 0 0)])], [⟨0, 4, [[(i x.f9), (i x.c7), (i x.g7), (i x.d9)]], true, false, 0⟩]⟩) (fun a H => by kernel_rfl) (bd Be2 ab9) fun x => Ba5 (.s .p (.s (.s .p (.b (.u da4.ls))) .p)) [da4.pr] (by kernel_rfl) (.cons Va7 .nil) (Eq.trans (b := F6 (fun r => (fa4 x r).run) x) (by kernel_rfl) (kb1 (fun r => (fa4 x r).run) (fun r => r) x).symm)
structure N0 where
 A8 : List Pt
 f9 : Int
 c7 : Int
 g7 : Int
 d9 : Int
noncomputable def Ta0 : List (Nat × Sum) := [(185, ya6)]
theorem Pa5 : l5 prog G Ta0 := ⟨eb6, trivial⟩
structure N1 where
 alt : Nat
 bs0 : Bool
noncomputable def A6 {α : Type} (kk : N1 → α) (x : N0) : α := let t1 := (ia8 ⟨(rt tX x.A8), x.f9, x.c7, x.g7, x.d9⟩); (sl ((cnE tX x.A8) && true) (sl (Nat.beq t1.alt 1) (kk ⟨1, (decide (t1.is0 ≥ 0))⟩) (kk ⟨0, false⟩)) (kk ⟨0, false⟩))
noncomputable def aa2 (x : N0) : N1 := A6 (fun r => r) x
noncomputable def Y4 (x : N0) (r : N1) : DT (b7 × List b8) := (.ite (Nat.beq r.alt 1) (.ret ((b r.bs0), [⟨0, 4, [[(i x.f9), (i x.c7), (i x.g7), (i x.d9)]], true, false, 0⟩])) .fail)
theorem Va8 {α β : Type} (F : α → β) (kk : N1 → α) (x : N0) : F (A6 kk x) = A6 (fun r => F (kk r)) x := by unfold A6; (repeat' apply n7 (f := F)) <;> rfl
noncomputable def ra7 : Sum := Ya9 ⟨[(.s (.c 4 (nL tX))), (.fn 176 [(.o (.ptr 0 0 0 0))])], [⟨0, 4, true, (some [[(.o (.int .i64)), (.o (.int .i64)), (.o (.int .i64)), (.o (.int .i64))]])⟩], fun a H => (⟨(rL tX (slT a 0)), (toI (slT (rwT (elT H 0) 0) 0)), (toI (slT (rwT (elT H 0) 0) 1)), (toI (slT (rwT (elT H 0) 0) 2)), (toI (slT (rwT (elT H 0) 0) 3))⟩, ())⟩ (fun x => Y4 x (aa2 x))
theorem Ta1 : j7 prog G 113 ra7 := R3 (enc := fun x => ⟨[(eL tX x.A8), (.fn 176 [(.ptr 0 0 0 0)])], [⟨0, 4, [[(i x.f9), (i x.c7), (i x.g7), (i x.d9)]], true, false, 0⟩]⟩) (fun a H => by kernel_rfl) (bd Be1 Pa5) fun x => s9 (Eq.trans (b := A6 (fun r => (Y4 x r).run) x) (by kernel_rfl) (Va8 (fun r => (Y4 x r).run) (fun r => r) x).symm)
structure ha8 where
 ma5 : Int
 ma6 : Int
 ma7 : Int
 db2 : Int
 j6 : List Pt
noncomputable def vb3 : List (Nat × Sum) := [(113, ra7)]
theorem sb0 : l5 prog G vb3 := ⟨Ta1, trivial⟩
structure W4 where
 alt : Nat
 bs0 : Bool
noncomputable def M7 {α : Type} (kk : W4 → α) (x : ha8) : α := let t1 := (aa2 ⟨(rt tX x.j6), x.ma5, x.ma6, x.ma7, x.db2⟩); (sl ((cnE tX x.j6) && true) (sl (Nat.beq t1.alt 1) (kk ⟨1, (!t1.bs0)⟩) (kk ⟨0, false⟩)) (kk ⟨0, false⟩))
noncomputable def ha9 (x : ha8) : W4 := M7 (fun r => r) x
noncomputable def ra1 (x : ha8) (r : W4) : DT (b7 × List b8) := (.ite (Nat.beq r.alt 1) (.ret ((b r.bs0), [⟨0, 1, [[(eL tX x.j6)]], true, false, 0⟩])) .fail)
theorem Bb5 {α β : Type} (F : α → β) (kk : W4 → α) (x : ha8) : F (M7 kk x) = M7 (fun r => F (kk r)) x := by unfold M7; (repeat' apply n7 (f := F)) <;> rfl
noncomputable def Pa6 : Sum := Ya9 ⟨[(.agg [(.o (.int .i64)), (.o (.int .i64)), (.o (.int .i64)), (.o (.int .i64))]), (.s (.o (.ptr 0 0 0 0)))], [⟨0, 1, true, (some [[(.c 4 (nL tX))]])⟩], fun a H => (⟨(toI (slT (cellsOf (slT a 0)) 0)), (toI (slT (cellsOf (slT a 0)) 1)), (toI (slT (cellsOf (slT a 0)) 2)), (toI (slT (cellsOf (slT a 0)) 3)), (rL tX (slT (rwT (elT H 0) 0) 0))⟩, ())⟩ (fun x => ra1 x (ha9 x))
theorem vb4 : j7 prog G 175 Pa6 := R3 (enc := fun x => ⟨[(.agg [(i x.ma5), (i x.ma6), (i x.ma7), (i x.db2)]), (.ptr 0 0 0 0)], [⟨0, 1, [[(eL tX x.j6)]], true, false, 0⟩]⟩) (fun a H => by kernel_rfl) (bd Le0 sb0) fun x => s9 (Eq.trans (b := M7 (fun r => (ra1 x r).run) x) (by kernel_rfl) (Bb5 (fun r => (ra1 x r).run) (fun r => r) x).symm)
structure S3 where
 c9 : List Pln
 j6 : List Pt
noncomputable def ua0 : List (Nat × Sum) := [(175, Pa6)]
theorem Va9 : l5 prog G ua0 := ⟨vb4, trivial⟩
structure G5 where
 c9 : List Pln
 is7 : Int
structure o3 where
 is8 : Int
 j6 : List Pt
noncomputable def Ta2 (p : G5) (s : o3) : St := ⟨((eL tP p.c9) :: ((.fn 175 [(.ptr 0 0 0 0)]) :: (ra 5 ((i p.is7) :: ((i s.is8) :: (ra 10 [])))))), [⟨0, 1, [[(eL tX s.j6)]], true, false, 0⟩]⟩
noncomputable def B9 {α : Type} (k : o3 → α) (e : Nat → α) (z : α) (p : G5) (s : o3) : α := let t1 := (ha9 ⟨(gL tP p.c9 s.is8.toNat).n.x, (gL tP p.c9 s.is8.toNat).n.y, (gL tP p.c9 s.is8.toNat).n.z, (gL tP p.c9 s.is8.toNat).b, (rt tX s.j6)⟩); (sl (decide (s.is8 < p.is7)) (sl (inB s.is8 (List.length p.c9)) (sl ((cnE tX s.j6) && true) (sl (Nat.beq t1.alt 1) (sl t1.bs0 (e 1) (k ⟨(W (s.is8 + 1)), (rt tX s.j6)⟩)) z) z) z) (e 2))
noncomputable def E1 (p : G5) (s : o3) : Stp o3 := B9 .next .exit .fail p s
noncomputable def aa3 : Lo G5 o3 := ⟨En ua0, 1, ke4, [1, 0, 1, 4, 4], [0, 1, 7, 8], .p, [⟨((.s (.c 4 (nL tP))) :: ((.fn 175 [(.o (.ptr 0 0 0 0))]) :: (ru2 5 ((.s (.o (.int .i64))) :: ((.s (.o (.int .i64))) :: (ru2 10 [])))))), [⟨0, 1, true, (some [[(.c 4 (nL tX))]])⟩], fun a H => (⟨(rL tP (slT a 0)), (toI (slT a 7))⟩, ⟨(toI (slT a 8)), (rL tX (slT (rwT (elT H 0) 0) 0))⟩)⟩], E1, [(none, fun p s => ⟨[(i s.is8)], [⟨0, 1, [[(eL tX (rt tX s.j6))]], true, false, 0⟩]⟩), (some 0, fun p s => ⟨((eL tP p.c9) :: ((.fn 175 [(.ptr 0 0 0 0)]) :: (ra 5 ((i p.is7) :: ((i s.is8) :: ((b (decide (s.is8 < p.is7))) :: (ra 9 []))))))), [⟨0, 1, [[(eL tX s.j6)]], true, false, 0⟩]⟩)], Ta2⟩
theorem Ta3 : aa3.Ok := Lo.ok [] (by kernel_rfl) .nil rfl (.cons (fun a H => by kernel_rfl) .nil) fun p s => (.of @B9 (fun F _ _ _ _ _ => by unfold B9; (repeat' apply n7 (f := F)) <;> rfl) (by kernel_rfl))
structure S4 where
 alt : Nat
 is0 : Int
 j6 : List Pt
noncomputable def C9 {α : Type} (kk : S4 → α) (x : S3) : α := let t1 := (lp (E1 (⟨(rt tP x.c9), (↑(List.length x.c9) : Int)⟩ : G5)) (⟨0, (rt tX x.j6)⟩ : o3)); (sl ((cnE tP x.c9) && ((cnE tX x.j6) && true)) (sl (Nat.beq t1.1 1) (kk ⟨1, t1.2.is8, (rt tX t1.2.j6)⟩) (sl (Nat.beq t1.1 2) (kk ⟨1, (-1), t1.2.j6⟩) (kk ⟨0, 0, []⟩))) (kk ⟨0, 0, []⟩))
noncomputable def fa5 (x : S3) : S4 := C9 (fun r => r) x
noncomputable def da5 (x : S3) (r : S4) : DT (b7 × List b8) := (.ite (Nat.beq r.alt 1) (.ret ((i r.is0), [⟨0, 1, [[(eL tX r.j6)]], true, false, 0⟩])) .fail)
theorem eb7 {α β : Type} (F : α → β) (kk : S4 → α) (x : S3) : F (C9 kk x) = C9 (fun r => F (kk r)) x := by unfold C9; (repeat' apply n7 (f := F)) <;> rfl
noncomputable def wa8 : Sum := Ya9 ⟨[(.s (.c 4 (nL tP))), (.fn 175 [(.o (.ptr 0 0 0 0))])], [⟨0, 1, true, (some [[(.c 4 (nL tX))]])⟩], fun a H => (⟨(rL tP (slT a 0)), (rL tX (slT (rwT (elT H 0) 0) 0))⟩, ())⟩ (fun x => da5 x (fa5 x))
theorem bb0 : j7 prog G 221 wa8 := R3 (enc := fun x => ⟨[(eL tP x.c9), (.fn 175 [(.ptr 0 0 0 0)])], [⟨0, 1, [[(eL tX x.j6)]], true, false, 0⟩]⟩) (fun a H => by kernel_rfl) (bd Me8 Va9) fun x => Ba5 (.s .p (.s (.s .p (.b (.u aa3.ls))) .p)) [aa3.pr] (by kernel_rfl) (.cons Ta3 .nil) (Eq.trans (b := C9 (fun r => (da5 x r).run) x) (by kernel_rfl) (eb7 (fun r => (da5 x r).run) (fun r => r) x).symm)
structure L4 where
 c9 : List Pln
 j6 : List Pt
noncomputable def Pa7 : List (Nat × Sum) := [(221, wa8)]
theorem La1 : l5 prog G Pa7 := ⟨bb0, trivial⟩
structure L5 where
 alt : Nat
 bs0 : Bool
 j6 : List Pt
noncomputable def z7 {α : Type} (kk : L5 → α) (x : L4) : α := let t1 := (fa5 ⟨(rt tP x.c9), (rt tX x.j6)⟩); (sl ((cnE tP x.c9) && ((cnE tX x.j6) && true)) (sl (Nat.beq t1.alt 1) (kk ⟨1, (decide (t1.is0 ≥ 0)), t1.j6⟩) (kk ⟨0, false, []⟩)) (kk ⟨0, false, []⟩))
noncomputable def Y5 (x : L4) : L5 := z7 (fun r => r) x
noncomputable def W5 (x : L4) (r : L5) : DT (b7 × List b8) := (.ite (Nat.beq r.alt 1) (.ret ((b r.bs0), [⟨0, 1, [[(eL tX r.j6)]], true, false, 0⟩])) .fail)
theorem Ta4 {α β : Type} (F : α → β) (kk : L5 → α) (x : L4) : F (z7 kk x) = z7 (fun r => F (kk r)) x := by unfold z7; (repeat' apply n7 (f := F)) <;> rfl
noncomputable def pa1 : Sum := Ya9 ⟨[(.s (.c 4 (nL tP))), (.fn 175 [(.o (.ptr 0 0 0 0))])], [⟨0, 1, true, (some [[(.c 4 (nL tX))]])⟩], fun a H => (⟨(rL tP (slT a 0)), (rL tX (slT (rwT (elT H 0) 0) 0))⟩, ())⟩ (fun x => W5 x (Y5 x))
theorem Pa8 : j7 prog G 174 pa1 := R3 (enc := fun x => ⟨[(eL tP x.c9), (.fn 175 [(.ptr 0 0 0 0)])], [⟨0, 1, [[(eL tX x.j6)]], true, false, 0⟩]⟩) (fun a H => by kernel_rfl) (bd Ke9 La1) fun x => s9 (Eq.trans (b := z7 (fun r => (W5 x r).run) x) (by kernel_rfl) (Ta4 (fun r => (W5 x r).run) (fun r => r) x).symm)
noncomputable def Hb8 : List (Nat × Sum) := [(89, ra0), (174, pa1)]
theorem Bb6 : l5 prog G Hb8 := ⟨Fa7, Pa8, trivial⟩
noncomputable def da6 (x : List Pln) : Option (b7 × List b8) := let t1 := (T4 (rt tP x)); let t2 := (Y5 ⟨(rt tP x), (rt tX t1)⟩); (sl (okE tP x) (sl (T5 (rt tP x)) (sl ((cnE tP x) && ((cnE tX t1) && true)) (sl (Nat.beq t2.alt 1) (some ((b (!t2.bs0)), [])) none) none) none) none)
noncomputable def da7 (x : List Pln) : Bool := O4 (one r1B) (da6 x)
noncomputable def da8 (x : List Pln) : Bool := okO (one r1B) (da6 x)
noncomputable def Ba8 : Sum := ia6 (ga9 tP) (fun x => .guard (da8 x) (.ret ((one r1B).enc (da7 x), [])))
theorem Ua6 : j7 prog G 92 Ba8 := Ba4 (bd b92 Bb6) (one r1B) (o := da6) fun x => s9 (by kernel_rfl)
noncomputable def vc8 : List (Nat × Sum) := [(87, va9), (88, Gb2), (89, ra0)]
theorem kc7 : l5 prog G vc8 := ⟨ya5, Nb7, Fa7, trivial⟩
noncomputable def ya7 (x : List Pln) : Option (b7 × List b8) := let t1 := (Z9 [(rt tP x)]); let t2 := (Ka8 [(rt tP x)]); let t3 := (T4 (rt tP t2)); (sl ((okE tP x) && true) (sl (aa0 [(rt tP x)]) (sl (!t1) (some ((.v (.slice none 0 0)), [])) (sl ((okE tP x) && true) (sl (Ka9 [(rt tP x)]) (sl (okE tP t2) (sl (T5 (rt tP t2)) (some ((eL tX t3), [])) none) none) none) none)) none) none)
noncomputable def V0 (x : List Pln) : List Pt := O4 (one (r1L tX)) (ya7 x)
noncomputable def I5 (x : List Pln) : Bool := okO (one (r1L tX)) (ya7 x)
noncomputable def qa2 : Sum := ia6 (ga9 tP) (fun x => .guard (I5 x) (.ret ((one (r1L tX)).enc (V0 x), [])))
theorem ua1 : j7 prog G 18 qa2 := Ba4 (bd b18 kc7) (one (r1L tX)) (o := ya7) fun x => s9 (by kernel_rfl)
noncomputable def Tc5 : List (Nat × Sum) := [(87, va9), (88, Gb2), (92, Ba8)]
theorem Fc1 : l5 prog G Tc5 := ⟨ya5, Nb7, Ua6, trivial⟩
noncomputable def Pa9 (x : List Pln) : Option (b7 × List b8) := let t1 := (Z9 [(rt tP x)]); let t2 := (Ka8 [(rt tP x)]); let t3 := (da7 (rt tP t2)); (sl ((okE tP x) && true) (sl (aa0 [(rt tP x)]) (sl t1 (sl ((okE tP x) && true) (sl (Ka9 [(rt tP x)]) (sl (okE tP t2) (sl (da8 (rt tP t2)) (some ((b t3), [])) none) none) none) none) (some ((b false), []))) none) none)
noncomputable def R2 (x : List Pln) : Bool := O4 (one r1B) (Pa9 x)
noncomputable def F9 (x : List Pln) : Bool := okO (one r1B) (Pa9 x)
noncomputable def Da4 : Sum := ia6 (ga9 tP) (fun x => .guard (F9 x) (.ret ((one r1B).enc (R2 x), [])))
theorem Ga9 : j7 prog G 20 Da4 := Ba4 (bd b20 Fc1) (one r1B) (o := Pa9) fun x => s9 (by kernel_rfl)
noncomputable def Fc2 : List (Nat × Sum) := []
theorem vc9 : l5 prog G Fc2 := trivial
noncomputable def Ha0 (x : Int) (y : Int) : Option (b7 × List b8) := (sl (y == 0) none (sl (y == 0) none (sl (decide ((Int.tmod x y) < 0)) (some ((i (W ((W (Int.tdiv x y)) - 1))), [])) (some ((i (W (Int.tdiv x y))), [])))))
noncomputable def aa4 (x : Int) (y : Int) : Int := O4 (one r1I) (Ha0 x y)
noncomputable def aa5 (x : Int) (y : Int) : Bool := okO (one r1I) (Ha0 x y)
noncomputable def Ub7 : Sum := ja9 cI cI (fun x y => .guard (aa5 x y) (.ret ((one r1I).enc (aa4 x y), [])))
theorem Fc3 : j7 prog G 95 Ub7 := lb8 (bd b95 vc9) (one r1I) (o := Ha0) fun x y => s9 (by kernel_rfl)
noncomputable def Kb5 : List (Nat × Sum) := [(20, Da4), (94, rb0), (18, qa2), (95, Ub7)]
theorem wc0 : l5 prog G Kb5 := ⟨Ga9, Kb1, ua1, Fc3, trivial⟩
structure ua2 where
 T9 : List Pt
 he9 : Int
structure W6 where
 ea6 : Int
 ba7 : Int
 ba8 : Int
 ba9 : Int
 Gb8 : Int
 Gb9 : Int
 Hb0 : Int
noncomputable def kc8 (p : ua2) (s : W6) : St := ⟨(.unk :: (.unk :: ((.ptr 0 0 0 0) :: ((.ptr 1 0 0 0) :: (.unk :: ((.ptr 2 0 0 0) :: ((.ptr 3 0 0 0) :: (ra 11 ((eL tX p.T9) :: ((i p.he9) :: ((i s.ea6) :: (ra 62 [])))))))))))), [⟨0, 3, [[(i 0), (i 0), (i 0)]], true, false, 0⟩, ⟨0, 3, [[(i 0), (i 0), (i 0)]], true, false, 0⟩, ⟨0, 3, [[(i s.ba7), (i s.ba8), (i s.ba9)]], true, false, 0⟩, ⟨0, 3, [[(i s.Gb8), (i s.Gb9), (i s.Hb0)]], true, false, 0⟩]⟩
noncomputable def la5 {α : Type} (k : W6 → α) (e : Nat → α) (z : α) (p : ua2) (s : W6) : α := let t1 := (aa4 (gL tX p.T9 s.ea6.toNat).px (gL tX p.T9 s.ea6.toNat).pw); let t2 := (aa4 (gL tX p.T9 s.ea6.toNat).py (gL tX p.T9 s.ea6.toNat).pw); let t3 := (aa4 (gL tX p.T9 s.ea6.toNat).pz (gL tX p.T9 s.ea6.toNat).pw); let t4 := (aa4 (W (0 - (gL tX p.T9 s.ea6.toNat).px)) (gL tX p.T9 s.ea6.toNat).pw); let t5 := (aa4 (W (0 - (gL tX p.T9 s.ea6.toNat).py)) (gL tX p.T9 s.ea6.toNat).pw); let t6 := (aa4 (W (0 - (gL tX p.T9 s.ea6.toNat).pz)) (gL tX p.T9 s.ea6.toNat).pw); (sl (decide (s.ea6 < p.he9)) (sl (inB s.ea6 (List.length p.T9)) (sl (aa5 (gL tX p.T9 s.ea6.toNat).px (gL tX p.T9 s.ea6.toNat).pw) (sl (aa5 (gL tX p.T9 s.ea6.toNat).py (gL tX p.T9 s.ea6.toNat).pw) (sl (aa5 (gL tX p.T9 s.ea6.toNat).pz (gL tX p.T9 s.ea6.toNat).pw) (sl (aa5 (W (0 - (gL tX p.T9 s.ea6.toNat).px)) (gL tX p.T9 s.ea6.toNat).pw) (sl (aa5 (W (0 - (gL tX p.T9 s.ea6.toNat).py)) (gL tX p.T9 s.ea6.toNat).pw) (sl (aa5 (W (0 - (gL tX p.T9 s.ea6.toNat).pz)) (gL tX p.T9 s.ea6.toNat).pw) (k ⟨(W (s.ea6 + 1)), (if t1 < s.ba7 then t1 else s.ba7), (if t2 < s.ba8 then t2 else s.ba8), (if t3 < s.ba9 then t3 else s.ba9), (if (W (0 - t4)) > s.Gb8 then (W (0 - t4)) else s.Gb8), (if (W (0 - t5)) > s.Gb9 then (W (0 - t5)) else s.Gb9), (if (W (0 - t6)) > s.Hb0 then (W (0 - t6)) else s.Hb0)⟩) z) z) z) z) z) z) z) (e 1))
noncomputable def ga1 (p : ua2) (s : W6) : Stp W6 := la5 .next .exit .fail p s
noncomputable def bb1 : Lo ua2 W6 := ⟨En Kb5, 0, xe5, [1, 1, 1, 1, 0, 1, 4, 4], [2, 3, 5, 6, 18, 19, 20], .p, [⟨((.s (.o .unk)) :: ((.s (.o .unk)) :: ((.s (.o (.ptr 0 0 0 0))) :: ((.s (.o (.ptr 1 0 0 0))) :: ((.s (.o .unk)) :: ((.s (.o (.ptr 2 0 0 0))) :: ((.s (.o (.ptr 3 0 0 0))) :: (ru2 11 ((.s (.c 4 (nL tX))) :: ((.s (.o (.int .i64))) :: ((.s (.o (.int .i64))) :: (ru2 62 [])))))))))))), [⟨0, 3, true, (some [[(.o (.lit .i64 0)), (.o (.lit .i64 0)), (.o (.lit .i64 0))]])⟩, ⟨0, 3, true, (some [[(.o (.lit .i64 0)), (.o (.lit .i64 0)), (.o (.lit .i64 0))]])⟩, ⟨0, 3, true, (some [[(.o (.int .i64)), (.o (.int .i64)), (.o (.int .i64))]])⟩, ⟨0, 3, true, (some [[(.o (.int .i64)), (.o (.int .i64)), (.o (.int .i64))]])⟩], fun a H => (⟨(rL tX (slT a 18)), (toI (slT a 19))⟩, ⟨(toI (slT a 20)), (toI (slT (rwT (elT H 2) 0) 0)), (toI (slT (rwT (elT H 2) 0) 1)), (toI (slT (rwT (elT H 2) 0) 2)), (toI (slT (rwT (elT H 3) 0) 0)), (toI (slT (rwT (elT H 3) 0) 1)), (toI (slT (rwT (elT H 3) 0) 2))⟩)⟩], ga1, [(some 0, fun p s => ⟨(.unk :: (.unk :: ((.ptr 0 0 0 0) :: ((.ptr 1 0 0 0) :: (.unk :: ((.ptr 2 0 0 0) :: ((.ptr 3 0 0 0) :: (ra 11 ((eL tX p.T9) :: ((i p.he9) :: ((i s.ea6) :: ((b (decide (s.ea6 < p.he9))) :: (ra 61 []))))))))))))), [⟨0, 3, [[(i 0), (i 0), (i 0)]], true, false, 0⟩, ⟨0, 3, [[(i 0), (i 0), (i 0)]], true, false, 0⟩, ⟨0, 3, [[(i s.ba7), (i s.ba8), (i s.ba9)]], true, false, 0⟩, ⟨0, 3, [[(i s.Gb8), (i s.Gb9), (i s.Hb0)]], true, false, 0⟩]⟩)], kc8⟩
theorem kc9 : bb1.Ok := Lo.ok [] (by kernel_rfl) .nil rfl (.cons (fun a H => by kernel_rfl) .nil) fun p s => (.of @la5 (fun F _ _ _ _ _ => by unfold la5; (repeat' apply n7 (f := F)) <;> rfl) (by kernel_rfl))
noncomputable def Ha1 (x : List Pln) : Option (b7 × List b8) := let t1 := (R2 (rt tP x)); let t2 := (P7 (⟨24, 24, 24⟩ : V3) (-1)); let t3 := (V0 (rt tP x)); let t4 := (lp (ga1 (⟨(rt tX t3), (↑(List.length t3) : Int)⟩ : ua2)) (⟨0, 24, 24, 24, t2.x, t2.y, t2.z⟩ : W6)); (sl (okE tP x) (sl (F9 (rt tP x)) (sl (!t1) (some ((.tup [(.agg [(i 0), (i 0), (i 0)]), (.agg [(i 0), (i 0), (i 0)]), (b false)]), [])) (sl (okE tP x) (sl (I5 (rt tP x)) (sl ((cnE tX t3) && true) (sl (Nat.beq t4.1 1) (some ((.tup [(.agg [(i t4.2.ba7), (i t4.2.ba8), (i t4.2.ba9)]), (.agg [(i t4.2.Gb8), (i t4.2.Gb9), (i t4.2.Hb0)]), (b true)]), [])) none) none) none) none)) none) none)
noncomputable def Wa0 (x : List Pln) : V3 × V3 × Bool := O4 (cd1 r1V r1V r1B) (Ha1 x)
noncomputable def Wa1 (x : List Pln) : Bool := okO (cd1 r1V r1V r1B) (Ha1 x)
noncomputable def Ub8 : Sum := ia6 (ga9 tP) (fun x => .guard (Wa1 x) (.ret ((cd1 r1V r1V r1B).enc (Wa0 x), [])))
theorem Fc4 : j7 prog G 22 Ub8 := Ba4 (bd b22 wc0) (cd1 r1V r1V r1B) (o := Ha1) fun x => Ba5 (.s .p (.s .p (.s .p (.s .p (.s (.s .p (.b (.u bb1.ls))) .p))))) [bb1.pr] (by kernel_rfl) (.cons kc9 .nil) (by kernel_rfl)
end Go.Ev.Ce
end
namespace Go.Ev.Ce
open Go Go.Ev Go.Ev.L Go.Proofs
theorem Gd4 (P : va7) (g n : Int) (hn : n.natAbs ≤ 9223372036854775808) : lp (ya1 P) ⟨g, n⟩ = (1, ⟨eu g n, 0⟩) :=
 xd1 (mk := fun g n => (⟨g, n⟩ : ha4)) (fun g n h => by simp [ya1, ta2, Ya8, h]) (fun g => by simp [ya1, ta2, Ya8]) g n hn
theorem Gd5 (l : List Int) (hl : l.length ≤ 1000000000) (hb : ∀ x ∈ l, x.natAbs ≤ 9223372036854775808) : lp (qa1 ⟨(l.length : Int)⟩) ⟨0, l, 0⟩ = (1, ⟨l.foldl eu 0, l, l.length⟩) := by
 have := Fb3 (step := qa1 ⟨(l.length : Int)⟩) (mk := fun j a => (⟨a, l, (j : Int)⟩ : ha5)) (f := eu) (fin := 1) tI l (fun _ _ => True) hl (fun j a hj _ => ⟨by
   simp only [qa1, ta3, Int.toNat_natCast, l8, l6, Gd4 _ _ _ (hb _ (sc7 tI hj)), n8 hj (by omega)]
   rw [bt (zb5 hj), bt (e8 hj)]
   rfl, trivial⟩) (fun a _ => by simp [qa1, ta3, Ya8]) 0 (Nat.zero_le _) 0 trivial
 simpa using this.1
theorem Ub9 : ∀ (l : List Int) (g : Int), (l.foldl eu g).natAbs = l.foldl (fun a x => Nat.gcd a x.natAbs) g.natAbs
 | [], _ => rfl
 | x :: l, g => by rw [List.foldl_cons, Ub9 l, List.foldl_cons, Md2]; rfl
theorem pe6 (l : List Int) (hl : l.length ≤ 1000000000) (hb : ∀ x ∈ l, x.natAbs ≤ 9223372036854775807) (h0 : (l.foldl eu 0).natAbs ≤ 9223372036854775807) : ab3 l = some (i ((l.foldl eu 0).natAbs : Int), []) := by
 unfold ab3
 simp only [l8, l6, Gd5 l hl (fun x hx => Nat.le_succ_of_le (hb x hx))]
 generalize l.foldl eu 0 = e at *
 have : W (0 - e) = -e := by rw [Y0 (by omega) (by omega)]; omega
 rw [this]
 show some (i (if -e > e then -e else e), []) = _
 congr 3
 split <;> omega
theorem Mc0 (x y : Int) (hx : 0 ≤ x) (hy : 0 ≤ y) (hb : y ≤ 9223372036854775807) : Ea9 x y = some (i (Int.gcd x y : Int), []) := by
 unfold Ea9
 have := xd1 (step := oa2 ⟨⟩) (mk := fun g n => (⟨g, n⟩ : V7)) (fun g n h => by simp [oa2, ka3, Ya8, h]) (fun g => by simp [oa2, ka3, Ya8]) x y (by omega)
 simp only [this, Md3 hx hy]
 rfl
theorem wc1 (x y : Int) (hx : 0 ≤ x) (hy : 0 ≤ y) (hb : y ≤ 9223372036854775807) : O6 x y = (Int.gcd x y : Int) := by unfold O6; rw [Mc0 x y hx hy hb]; rfl
theorem wc2 (x y : Int) (hx : 0 ≤ x) (hy : 0 ≤ y) (hb : y ≤ 9223372036854775807) : O7 x y = true := by unfold O7; rw [Mc0 x y hx hy hb]; rfl
noncomputable def rm (p : Pln) (x : Pt) : Int := W (p.b * x.pw - (p.n.x * x.px + p.n.y * x.py + p.n.z * x.pz))
theorem Tc6 (p : Pln) (x : Pt) : na1 p x = rm p x := by
 unfold na1 Da2 rm
 simp only [Za0, zb4, sc6, Qc9]
theorem Tc7 (p : Pln) (x : Pt) : Ka1 p x = rm p x := by
 unfold Ka1 rm
 simp only [Za0, zb4, sc6, Qc9]
 congr 1
 omega
structure Bd (p : Pln) : Prop where
 x1 : -4608 ≤ p.n.x
 x2 : p.n.x ≤ 4608
 y1 : -4608 ≤ p.n.y
 y2 : p.n.y ≤ 4608
 z1 : -4608 ≤ p.n.z
 z2 : p.n.z ≤ 4608
 b1 : -2097152 ≤ p.b
 b2 : p.b ≤ 2097152
def mv (p q r : Pln) : V3 :=
 ⟨(i6 q.n r.n).x * p.b + (i6 r.n p.n).x * q.b + (i6 p.n q.n).x * r.b,
  (i6 q.n r.n).y * p.b + (i6 r.n p.n).y * q.b + (i6 p.n q.n).y * r.b,
  (i6 q.n r.n).z * p.b + (i6 r.n p.n).z * q.b + (i6 p.n q.n).z * r.b⟩
def gc (v : V3) (w : Int) : Int := (Nat.gcd (Nat.gcd v.x.natAbs v.y.natAbs) (Nat.gcd v.z.natAbs w.natAbs) : Nat)
def mpt (p q r : Pln) : Pt × Bool :=
 if mw p q r = 0 then (⟨0, 0, 0, 0⟩, false)
 else if mw p q r < 0 then (⟨Int.tdiv (-(mv p q r).x) (gc (mv p q r) (mw p q r)), Int.tdiv (-(mv p q r).y) (gc (mv p q r) (mw p q r)), Int.tdiv (-(mv p q r).z) (gc (mv p q r) (mw p q r)), Int.tdiv (-(mw p q r)) (gc (mv p q r) (mw p q r))⟩, true)
 else (⟨Int.tdiv (mv p q r).x (gc (mv p q r) (mw p q r)), Int.tdiv (mv p q r).y (gc (mv p q r) (mw p q r)), Int.tdiv (mv p q r).z (gc (mv p q r) (mw p q r)), Int.tdiv (mw p q r) (gc (mv p q r) (mw p q r))⟩, true)
def Sm (n : Int) (x : Int) : Prop := -n ≤ x ∧ x ≤ n
theorem Vb0 {a b : V3} (ha : Sm 4608 a.x ∧ Sm 4608 a.y ∧ Sm 4608 a.z) (hb : Sm 4608 b.x ∧ Sm 4608 b.y ∧ Sm 4608 b.z) : Sm 42467328 (i6 a b).x ∧ Sm 42467328 (i6 a b).y ∧ Sm 42467328 (i6 a b).z := by
 obtain ⟨⟨a1, a2⟩, ⟨a3, a4⟩, a5, a6⟩ := ha
 obtain ⟨⟨b1, b2⟩, ⟨b3, b4⟩, b5, b6⟩ := hb
 have h1 := mb a3 a4 b5 b6; have h2 := mb a5 a6 b3 b4; have h3 := mb a5 a6 b1 b2; have h4 := mb a1 a2 b5 b6; have h5 := mb a1 a2 b3 b4; have h6 := mb a3 a4 b1 b2
 unfold Sm i6
 simp only
 omega
theorem Bd.n {p : Pln} (h : Bd p) : Sm 4608 p.n.x ∧ Sm 4608 p.n.y ∧ Sm 4608 p.n.z := ⟨⟨h.x1, h.x2⟩, ⟨h.y1, h.y2⟩, h.z1, h.z2⟩
theorem Pd4 {p q r : Pln} (hp : Bd p) (hq : Bd q) (hr : Bd r) : Sm 600000000000 (mw p q r) := by
 obtain ⟨⟨c1, c2⟩, ⟨c3, c4⟩, c5, c6⟩ := Vb0 hq.n hr.n
 have h1 := mb hp.x1 hp.x2 c1 c2; have h2 := mb hp.y1 hp.y2 c3 c4; have h3 := mb hp.z1 hp.z2 c5 c6
 unfold Sm mw dot
 omega
theorem Pd5 {p q r : Pln} (hp : Bd p) (hq : Bd q) (hr : Bd r) : Sm 300000000000000 (mv p q r).x ∧ Sm 300000000000000 (mv p q r).y ∧ Sm 300000000000000 (mv p q r).z := by
 obtain ⟨⟨c1, c2⟩, ⟨c3, c4⟩, c5, c6⟩ := Vb0 hq.n hr.n
 obtain ⟨⟨d1, d2⟩, ⟨d3, d4⟩, d5, d6⟩ := Vb0 hr.n hp.n
 obtain ⟨⟨e1, e2⟩, ⟨e3, e4⟩, e5, e6⟩ := Vb0 hp.n hq.n
 have a1 := mb c1 c2 hp.b1 hp.b2; have a2 := mb c3 c4 hp.b1 hp.b2; have a3 := mb c5 c6 hp.b1 hp.b2
 have b1 := mb d1 d2 hq.b1 hq.b2; have b2 := mb d3 d4 hq.b1 hq.b2; have b3 := mb d5 d6 hq.b1 hq.b2
 have f1 := mb e1 e2 hr.b1 hr.b2; have f2 := mb e3 e4 hr.b1 hr.b2; have f3 := mb e5 e6 hr.b1 hr.b2
 unfold Sm mv
 simp only
 omega
theorem nc8 (a b : V3) : O0 a b = ⟨W (i6 a b).x, W (i6 a b).y, W (i6 a b).z⟩ := by
 unfold O0 i6
 simp only [sc6, Qc9]
theorem Vb1 (a b : V3) : Q8 a b = ⟨W (i6 a b).x, W (i6 a b).y, W (i6 a b).z⟩ := by
 unfold Q8 i6
 simp only [sc6, Qc9]
theorem pe7 (p q r : Pln) : dot r.n (i6 p.n q.n) = mw p q r := by unfold mw dot i6; grind
theorem Ne0 (a b c d : Nat) : [a, b, c, d].foldl Nat.gcd 0 = Nat.gcd (Nat.gcd a b) (Nat.gcd c d) := by
 simp only [List.foldl_cons, List.foldl_nil, Nat.gcd_zero_left]
 rw [Nat.gcd_assoc]
theorem wc3 {v : V3} {w : Int} (h : w ≠ 0) : 0 < gc v w := by
 unfold gc
 have : 0 < Nat.gcd v.z.natAbs w.natAbs := Nat.gcd_pos_of_pos_right _ (by omega)
 have := Nat.gcd_pos_of_pos_right (Nat.gcd v.x.natAbs v.y.natAbs) this
 omega
theorem Pd6 {v : V3} {w : Int} (h : w ≠ 0) : gc v w ≤ w.natAbs := by
 unfold gc
 have h1 : Nat.gcd v.z.natAbs w.natAbs ≤ w.natAbs := Nat.gcd_le_right _ (by omega)
 have h2 : 0 < Nat.gcd v.z.natAbs w.natAbs := Nat.gcd_pos_of_pos_right _ (by omega)
 have h3 := Nat.gcd_le_right (m := Nat.gcd v.x.natAbs v.y.natAbs) (n := Nat.gcd v.z.natAbs w.natAbs) h2
 omega
theorem ra8 {x : Int} (h : Sm 1000000000000000000 x) : W x = x := Y0 (by have := h.1; omega) (by have := h.2; omega)
theorem Sm.mono {n m x : Int} (h : Sm n x) (hn : n ≤ m) : Sm m x := ⟨by have := h.1; omega, by have := h.2; omega⟩
theorem D4 {n x g : Int} (h : Sm n x) (hg : 0 < g) : Sm n (Int.tdiv x g) := by
 have h1 : (Int.tdiv x g).natAbs ≤ x.natAbs := by rw [Int.natAbs_tdiv]; exact Nat.div_le_self _ _
 have := h.1; have := h.2
 constructor <;> omega
theorem sd4 {p q r : Pln} (hp : Bd p) (hq : Bd q) (hr : Bd r) (h : (mpt p q r).2 = true) : 0 < (mpt p q r).1.pw ∧ Sm 300000000000000 (mpt p q r).1.px ∧ Sm 300000000000000 (mpt p q r).1.py ∧ Sm 300000000000000 (mpt p q r).1.pz ∧ (mpt p q r).1.pw ≤ 600000000000 := by
 have hw := Pd4 hp hq hr
 obtain ⟨v1, v2, v3⟩ := Pd5 hp hq hr
 have neg : ∀ {n x : Int}, Sm n x → Sm n (-x) := fun h => ⟨by have := h.2; omega, by have := h.1; omega⟩
 have pos : ∀ {x : Int}, 0 < x → x.natAbs = (mw p q r).natAbs → 0 < Int.tdiv x (gc (mv p q r) (mw p q r)) := fun {x} hx he => by
  have h0 : mw p q r ≠ 0 := by omega
  have h1 := wc3 (v := mv p q r) h0
  have h2 := Pd6 (v := mv p q r) h0
  rw [Int.tdiv_eq_ediv_of_nonneg (by omega)]
  exact Int.ediv_pos_of_pos_of_dvd hx (by omega) (by
   rw [← Int.dvd_natAbs, he]
   exact Int.natCast_dvd_natCast.2 (Nat.dvd_trans (Nat.gcd_dvd_right _ _) (Nat.gcd_dvd_right _ _)))
 unfold mpt at h ⊢
 by_cases h0 : mw p q r = 0
 ·rw [if_pos h0] at h; cases h
 ·rw [if_neg h0]
  have hg := wc3 (v := mv p q r) h0
  by_cases h1 : mw p q r < 0
  ·rw [if_pos h1]
   exact ⟨pos (by omega) (by omega), D4 (neg v1) hg, D4 (neg v2) hg, D4 (neg v3) hg, (D4 (neg hw) hg).2⟩
  ·rw [if_neg h1]
   exact ⟨pos (by omega) rfl, D4 v1 hg, D4 v2 hg, D4 v3 hg, (D4 hw hg).2⟩
theorem xd8 {p q r : Pln} (hp : Bd p) (hq : Bd q) (hr : Bd r) : Oa6 ⟨p, q, r⟩ = some (.tup [.agg (tX.row (mpt p q r).1), b (mpt p q r).2], []) := by
 have hw := Pd4 hp hq hr
 obtain ⟨v1, v2, v3⟩ := Pd5 hp hq hr
 have e1 : Da2 r.n (O0 p.n q.n) = mw p q r := by
  rw [nc8]
  unfold Da2
  simp only [Za0, zb4, Md0]
  show W (dot r.n (i6 p.n q.n)) = _
  rw [pe7, ra8 (hw.mono (by omega))]
 have e2 : na0 (na0 (na0 ⟨0, 0, 0⟩ (P7 (O0 q.n r.n) p.b)) (P7 (O0 r.n p.n) q.b)) (P7 (O0 p.n q.n) r.b) = mv p q r := by
  rw [nc8, nc8, nc8]
  unfold na0 P7
  simp only [Za0, zb4, qd5, Int.zero_add]
  show (⟨W (mv p q r).x, W (mv p q r).y, W (mv p q r).z⟩ : V3) = _
  rw [ra8 (v1.mono (by omega)), ra8 (v2.mono (by omega)), ra8 (v3.mono (by omega))]
 unfold Oa6
 simp only [e1, e2]
 have hb : ∀ x ∈ [(mv p q r).x, (mv p q r).y, (mv p q r).z, mw p q r], x.natAbs ≤ 9223372036854775807 := by
  intro x hx
  simp only [List.mem_cons, List.not_mem_nil, or_false] at hx
  unfold Sm at *
  rcases hx with rfl | rfl | rfl | rfl <;> omega
 have hf : ([(mv p q r).x, (mv p q r).y, (mv p q r).z, mw p q r].foldl eu 0).natAbs = Nat.gcd (Nat.gcd (mv p q r).x.natAbs (mv p q r).y.natAbs) (Nat.gcd (mv p q r).z.natAbs (mw p q r).natAbs) := by
  rw [Ub9, ← Ne0]; rfl
 unfold mpt
 by_cases h0 : mw p q r = 0
 ·rw [bt (by rw [h0]; rfl), if_pos h0]
  rfl
 ·have hz : (mw p q r == 0) = false := by simpa using h0
  rw [bf hz, if_neg h0]
  have hgp := wc3 (v := mv p q r) h0
  have hgl := Pd6 (v := mv p q r) h0
  have hge := pe6 _ (by simp) hb (by rw [hf]; unfold gc at hgl; unfold Sm at hw; omega)
  have hgv : rb4 [(mv p q r).x, (mv p q r).y, (mv p q r).z, mw p q r] = gc (mv p q r) (mw p q r) := by
   unfold rb4; rw [hge, hf]; rfl
  have hgg : rb5 [(mv p q r).x, (mv p q r).y, (mv p q r).z, mw p q r] = true := by
   unfold rb5; rw [hge]; rfl
  rw [hgv, bt hgg]
  generalize hG : gc (mv p q r) (mw p q r) = G at *
  have hGW : W (0 - G) = -G := by unfold Sm at hw; rw [Y0 (by omega) (by omega)]; omega
  have hGn : (-G == 0) = false := by simp; omega
  have hGp : (G == 0) = false := by simp; omega
  by_cases h1 : mw p q r < 0
  ·rw [bt (decide_eq_true h1), if_pos h1]
   simp only [hGW]
   rw [bf hGn, bf hGn, bf hGn, bf hGn]
   simp only [Int.tdiv_neg, ← Int.neg_tdiv]
   have neg : ∀ {n x : Int}, Sm n x → Sm n (-x) := fun h => ⟨by have := h.2; omega, by have := h.1; omega⟩
   rw [ra8 ((D4 (neg v1) hgp).mono (by omega)), ra8 ((D4 (neg v2) hgp).mono (by omega)), ra8 ((D4 (neg v3) hgp).mono (by omega)), ra8 ((D4 (neg hw) hgp).mono (by omega))]
   rfl
  ·rw [bf (decide_eq_false h1), if_neg h1, bf hGp, bf hGp, bf hGp, bf hGp]
   rw [ra8 ((D4 v1 hgp).mono (by omega)), ra8 ((D4 v2 hgp).mono (by omega)), ra8 ((D4 v3 hgp).mono (by omega)), ra8 ((D4 hw hgp).mono (by omega))]
   rfl
theorem pe8 {p q r : Pln} (hp : Bd p) (hq : Bd q) (hr : Bd r) : Oa7 ⟨p, q, r⟩ = mpt p q r := by unfold Oa7; rw [xd8 hp hq hr]; rfl
theorem pe9 {p q r : Pln} (hp : Bd p) (hq : Bd q) (hr : Bd r) : Oa8 ⟨p, q, r⟩ = true := by unfold Oa8; rw [xd8 hp hq hr]; rfl
theorem gd0 {p q r : Pln} (hp : Bd p) (hq : Bd q) (hr : Bd r) : Za5 p q r = some (.tup [.agg (tX.row (mpt p q r).1), b (mpt p q r).2], []) := by
 have hw := Pd4 hp hq hr
 obtain ⟨v1, v2, v3⟩ := Pd5 hp hq hr
 have e1 : pa9 p.n (Q8 q.n r.n) = mw p q r := by
  rw [Vb1]
  unfold pa9
  simp only [Za0, zb4, Md0]
  show W (dot p.n (i6 q.n r.n)) = _
  rw [show dot p.n (i6 q.n r.n) = mw p q r from rfl, ra8 (hw.mono (by omega))]
 have e2 : Xa6 (Xa6 (O5 (Q8 q.n r.n) p.b) (O5 (Q8 r.n p.n) q.b)) (O5 (Q8 p.n q.n) r.b) = mv p q r := by
  rw [Vb1, Vb1, Vb1]
  unfold Xa6 O5
  simp only [Za0, zb4, qd5]
  show (⟨W (mv p q r).x, W (mv p q r).y, W (mv p q r).z⟩ : V3) = _
  rw [ra8 (v1.mono (by omega)), ra8 (v2.mono (by omega)), ra8 (v3.mono (by omega))]
 have neg : ∀ {n x : Int}, Sm n x → Sm n (-x) := fun h => ⟨by have := h.2; omega, by have := h.1; omega⟩
 have e3 : O5 (mv p q r) (-1) = ⟨-(mv p q r).x, -(mv p q r).y, -(mv p q r).z⟩ := by
  unfold O5
  have : ∀ x : Int, x * -1 = -x := fun x => by omega
  simp only [this]
  rw [ra8 ((neg v1).mono (by omega)), ra8 ((neg v2).mono (by omega)), ra8 ((neg v3).mono (by omega))]
 have ab : ∀ {x : Int}, Sm 300000000000000 x → (if W (0 - x) > x then W (0 - x) else x) = (x.natAbs : Int) := fun {x} h => by
  have : W (0 - x) = -x := by rw [show 0 - x = -x by omega]; exact ra8 ((neg h).mono (by omega))
  rw [this]
  split <;> omega
 unfold Za5
 simp only [e1, e2, e3]
 rw [ab v1, ab v2, ab v3, ab (neg v1), ab (neg v2), ab (neg v3)]
 simp only [Int.natAbs_neg]
 unfold mpt
 by_cases h0 : mw p q r = 0
 ·rw [bt (by rw [h0]; rfl), if_pos h0]
  rfl
 ·have hz : (mw p q r == 0) = false := by simpa using h0
  rw [bf hz, if_neg h0]
  have hgp := wc3 (v := mv p q r) h0
  have hgl := Pd6 (v := mv p q r) h0
  have hw0 := hw
  unfold Sm at hw0
  have q1 : ((mv p q r).y.natAbs : Int) ≤ 9223372036854775807 := by unfold Sm at v2; omega
  have k1 := wc1 ((mv p q r).x.natAbs : Int) ((mv p q r).y.natAbs : Int) (by omega) (by omega) q1
  have k2 := wc2 ((mv p q r).x.natAbs : Int) ((mv p q r).y.natAbs : Int) (by omega) (by omega) q1
  have c1 : Int.gcd ((mv p q r).x.natAbs : Int) ((mv p q r).y.natAbs : Int) = Nat.gcd (mv p q r).x.natAbs (mv p q r).y.natAbs := by simp [Int.gcd]
  have fin : ∀ w : Int, 0 < w → w.natAbs = (mw p q r).natAbs → O6 ((mv p q r).z.natAbs : Int) w = (Nat.gcd (mv p q r).z.natAbs (mw p q r).natAbs : Nat) ∧ O7 ((mv p q r).z.natAbs : Int) w = true ∧
    O6 (Nat.gcd (mv p q r).x.natAbs (mv p q r).y.natAbs : Nat) (Nat.gcd (mv p q r).z.natAbs (mw p q r).natAbs : Nat) = gc (mv p q r) (mw p q r) ∧ O7 (Nat.gcd (mv p q r).x.natAbs (mv p q r).y.natAbs : Nat) (Nat.gcd (mv p q r).z.natAbs (mw p q r).natAbs : Nat) = true := by
   intro w hw1 hw2
   have l1 : Nat.gcd (mv p q r).z.natAbs (mw p q r).natAbs ≤ (mw p q r).natAbs := Nat.gcd_le_right _ (by omega)
   refine ⟨?_, wc2 _ _ (by omega) (by omega) (by omega), ?_, wc2 _ _ (by omega) (by omega) (by omega)⟩
   ·rw [wc1 _ _ (by omega) (by omega) (by omega)]
    have : Int.gcd ((mv p q r).z.natAbs : Int) w = Nat.gcd (mv p q r).z.natAbs (mw p q r).natAbs := by unfold Int.gcd; rw [hw2]; simp
    rw [this]
   ·rw [wc1 _ _ (by omega) (by omega) (by omega)]
    rfl
  by_cases h1 : mw p q r < 0
  ·rw [bt (decide_eq_true h1), if_pos h1]
   have hWw : W (0 - mw p q r) = -mw p q r := by rw [Y0 (by omega) (by omega)]; omega
   rw [hWw]
   obtain ⟨f1, f2, f3, f4⟩ := fin (-mw p q r) (by omega) (by omega)
   simp only [k1, k2, c1, f1, f2, f3, f4]
   generalize gc (mv p q r) (mw p q r) = G at *
   have hGp : (G == 0) = false := by simp; omega
   simp only [hGp]
   rw [ra8 ((D4 (neg v1) hgp).mono (by omega)), ra8 ((D4 (neg v2) hgp).mono (by omega)), ra8 ((D4 (neg v3) hgp).mono (by omega)), ra8 ((D4 (neg hw) hgp).mono (by omega))]
   rfl
  ·rw [bf (decide_eq_false h1), if_neg h1]
   obtain ⟨f1, f2, f3, f4⟩ := fin (mw p q r) (by omega) rfl
   simp only [k1, k2, c1, f1, f2, f3, f4]
   generalize gc (mv p q r) (mw p q r) = G at *
   have hGp : (G == 0) = false := by simp; omega
   simp only [hGp]
   rw [ra8 ((D4 v1 hgp).mono (by omega)), ra8 ((D4 v2 hgp).mono (by omega)), ra8 ((D4 v3 hgp).mono (by omega)), ra8 ((D4 hw hgp).mono (by omega))]
   rfl
theorem be9 {p q r : Pln} (hp : Bd p) (hq : Bd q) (hr : Bd r) : Za6 p q r = mpt p q r := by unfold Za6; rw [gd0 hp hq hr]; rfl
theorem ce0 {p q r : Pln} (hp : Bd p) (hq : Bd q) (hr : Bd r) : Za7 p q r = true := by unfold Za7; rw [gd0 hp hq hr]; rfl
end Go.Ev.Ce
namespace Go.Ev.Ce
open Go Go.Ev Go.Ev.L Go.Proofs
noncomputable def inn (l : List Pln) (x : Pt) : Bool := l.all fun p => !decide (rm p x < 0)
theorem xd9 (l : List Pln) (x : Pt) : inn l x = !l.any fun p => decide (rm p x < 0) := by unfold inn; rw [List.not_any_eq_all_not]
theorem Be4 (p : Pln) (x : Pt) : Sa0 ⟨p.n.x, p.n.y, p.n.z, p.b, x.px, x.py, x.pz, x.pw⟩ = ⟨decide (rm p x < 0)⟩ := by
 show oa5.mk (decide (na1 p x < 0)) = _
 rw [Tc6]
theorem ce1 (l : List Pln) (x : Pt) (hl : l.length ≤ 1000000000) : R6 ⟨l, x.px, x.py, x.pz, x.pw⟩ = ⟨1, if l.any (fun p => decide (rm p x < 0)) then ((l.findIdx (fun p => decide (rm p x < 0)) : Nat) : Int) else -1⟩ := by
 have h := Va2 (step := D7 ⟨l, (l.length : Int), x.px, x.py, x.pz, x.pw⟩) (mk := fun j => (⟨(j : Int)⟩ : n9)) (c := fun p => decide (rm p x < 0)) (u := 1) (fin := 2) tP l hl
  (fun j hj => by
   simp only [D7, B6, Int.toNat_natCast, Be4, n8 hj (by omega)]
   rw [bt (zb5 hj), bt (e8 hj)])
  (by simp only [D7, B6]; rw [bf (qb0 (Nat.lt_irrefl _))]) 0 (Nat.zero_le _)
 rw [List.drop_zero] at h
 unfold R6 C6
 simp only [l8, l6]
 rw [show (⟨0⟩ : n9) = ⟨((0 : Nat) : Int)⟩ from rfl, h]
 split
 ·simp only [Nat.zero_add]; rfl
 ·rfl
theorem Mc1 (l : List Pln) (x : Pt) (hl : l.length ≤ 1000000000) : ya2 l x = some (b (inn l x), []) := by
 unfold ya2 Y1 z4
 simp only [l8, l6, ce1 l x hl, xd9]
 split
 ·rename_i h
  rw [h, show decide (((l.findIdx (fun p => decide (rm p x < 0)) : Nat) : Int) ≥ 0) = true from decide_eq_true (by omega)]; rfl
 ·rename_i h
  rw [Bool.not_eq_true] at h
  rw [h]; rfl
theorem wc4 (l : List Pln) (x : Pt) (hl : l.length ≤ 1000000000) : U3 l x = inn l x := by unfold U3; rw [Mc1 l x hl]; rfl
theorem wc5 (l : List Pln) (x : Pt) (hl : l.length ≤ 1000000000) : U4 l x = true := by unfold U4; rw [Mc1 l x hl]; rfl
theorem ke6 (l : List Pln) (x : Pt) (hl : l.length ≤ 1000000000) : Ab6 l x = some (b (inn l x), []) := by
 have h := Ra6 (step := Oa0 ⟨l, x.px, x.py, x.pz, x.pw⟩) (mk := fun j => (⟨(j : Int)⟩ : na5)) (c := fun p => decide (rm p x < 0)) (u := 1) (fin := 2) tP l hl
  (fun j hj => by
   simp only [Oa0, Fa0, Int.toNat_natCast, Tc7, n8 hj (by omega)]
   rw [bt (zb5 hj), bt (e8 hj)])
  (by simp only [Oa0, Fa0]; rw [bf (qb0 (Nat.lt_irrefl _))]) 0 (Nat.zero_le _)
 rw [List.drop_zero] at h
 unfold Ab6
 simp only [l8, l6, xd9]
 rw [show (⟨0⟩ : na5) = ⟨((0 : Nat) : Int)⟩ from rfl, h]
 split
 ·rename_i h; rw [h]; rfl
 ·rename_i h; rw [Bool.not_eq_true] at h; rw [h]; rfl
theorem Ne1 (l : List Pln) (x : Pt) (hl : l.length ≤ 1000000000) : mb3 l x = inn l x := by unfold mb3; rw [ke6 l x hl]; rfl
theorem Ne2 (l : List Pln) (x : Pt) (hl : l.length ≤ 1000000000) : mb4 l x = true := by unfold mb4; rw [ke6 l x hl]; rfl
def eqX (x q : Pt) : Bool := q.px == x.px && (q.py == x.py && (q.pz == x.pz && (q.pw == x.pw && true)))
theorem Tc8 (x q : Pt) : eqX x q = true ↔ q = x := by
 unfold eqX
 simp only [Bool.and_true, Bool.and_eq_true, beq_iff_eq]
 exact ⟨fun ⟨h1, h2, h3, h4⟩ => by cases q; cases x; simp_all, fun h => by subst h; exact ⟨rfl, rfl, rfl, rfl⟩⟩
def Bb7 (l : List Pt) (x : Pt) : Bool := l.any (eqX x)
theorem Pd7 (l : List Pt) (x : Pt) : Bb7 l x = true ↔ x ∈ l := by
 unfold Bb7
 rw [List.any_eq_true]
 exact ⟨fun ⟨q, h, e⟩ => (Tc8 x q).1 e ▸ h, fun h => ⟨x, h, (Tc8 x x).2 rfl⟩⟩
theorem gd1 (l : List Pt) (x : Pt) (hl : l.length ≤ 1000000000) : Oa1 l x = some (b (Bb7 l x), []) := by
 have h := Ra6 (step := sa6 ⟨l, x.px, x.py, x.pz, x.pw⟩) (mk := fun j => (⟨(j : Int)⟩ : U1)) (c := eqX x) (u := 1) (fin := 2) tX l hl
  (fun j hj => by
   simp only [sa6, oa3, Int.toNat_natCast, n8 hj (by omega)]
   rw [bt (zb5 hj), bt (e8 hj)]
   rfl)
  (by simp only [sa6, oa3]; rw [bf (qb0 (Nat.lt_irrefl _))]) 0 (Nat.zero_le _)
 rw [List.drop_zero] at h
 unfold Oa1
 simp only [l8, l6]
 rw [show (⟨0⟩ : U1) = ⟨((0 : Nat) : Int)⟩ from rfl, h]
 unfold Bb7
 split
 ·rename_i h; rw [h]; rfl
 ·rename_i h; rw [Bool.not_eq_true] at h; rw [h]; rfl
theorem ce2 (l : List Pt) (x : Pt) (hl : l.length ≤ 1000000000) : Da0 l x = Bb7 l x := by unfold Da0; rw [gd1 l x hl]; rfl
theorem ce3 (l : List Pt) (x : Pt) (hl : l.length ≤ 1000000000) : Da1 l x = true := by unfold Da1; rw [gd1 l x hl]; rfl
def smb (n x : Int) : Bool := !decide (x < -n) && !decide (x > n)
theorem Wa2 (n x : Int) : smb n x = true ↔ Sm n x := by unfold smb Sm; simp only [Bool.and_eq_true, Bool.not_eq_true', decide_eq_false_iff_not]; omega
theorem wc6 (n : Int) (l : List Int) (hn : 0 ≤ n ∧ n ≤ 1000000000) (hl : l.length ≤ 1000000000) : ta5 n l = some (b (l.all (smb n)), []) := by
 have hW : W (0 - n) = -n := by rw [Y0 (by omega) (by omega)]; omega
 have h := Ra6 (step := ha6 ⟨n, l, (l.length : Int)⟩) (mk := fun j => (⟨(j : Int)⟩ : I8)) (c := fun x => !smb n x) (u := 1) (fin := 2) tI l hl
  (fun j hj => by
   simp only [ha6, da0, Int.toNat_natCast, n8 hj (by omega), hW]
   rw [bt (zb5 hj), bt (e8 hj)]
   unfold smb
   cases decide (gL tI l j < -n) <;> cases decide (gL tI l j > n) <;> rfl)
  (by simp only [ha6, da0]; rw [bf (qb0 (Nat.lt_irrefl _))]) 0 (Nat.zero_le _)
 rw [List.drop_zero] at h
 unfold ta5
 simp only [l8, l6]
 rw [show (⟨0⟩ : I8) = ⟨((0 : Nat) : Int)⟩ from rfl, h]
 have e : (l.any fun x => !smb n x) = !l.all (smb n) := by rw [List.not_all_eq_any_not]
 rw [e]
 cases l.all (smb n) <;> rfl
theorem cc6 (n : Int) (l : List Int) (hn : 0 ≤ n ∧ n ≤ 1000000000) (hl : l.length ≤ 1000000000) : la0 n l = l.all (smb n) := by unfold la0; rw [wc6 n l hn hl]; rfl
theorem cc7 (n : Int) (l : List Int) (hn : 0 ≤ n ∧ n ≤ 1000000000) (hl : l.length ≤ 1000000000) : la1 n l = true := by unfold la1; rw [wc6 n l hn hl]; rfl
theorem gd2 {n : Int} (h : Sm 1000000000000000000 n) : va8 n = (n.natAbs : Int) := by
 unfold va8
 obtain ⟨h1, h2⟩ := h
 rw [Y0 (by omega) (by omega)]
 split <;> omega
theorem Vb2 {n : Int} (h : Sm 1000000000000000000 n) : sa7 n = some (i (n.natAbs : Int), []) := by
 unfold sa7
 obtain ⟨h1, h2⟩ := h
 rw [Y0 (by omega) (by omega)]
 by_cases h : n < 0
 ·rw [bt (decide_eq_true h)]; congr 3; omega
 ·rw [bf (decide_eq_false h)]; congr 3; omega
theorem Bb8 {n : Int} (h : Sm 1000000000000000000 n) : ka4 n = (n.natAbs : Int) := by unfold ka4; rw [Vb2 h]; rfl
theorem Bb9 {n : Int} (h : Sm 1000000000000000000 n) : ka5 n = true := by unfold ka5; rw [Vb2 h]; rfl
def g3 (v : V3) : Int := (Nat.gcd (Nat.gcd v.x.natAbs v.y.natAbs) v.z.natAbs : Nat)
theorem Pd8 (g n : Nat) : eu (g : Int) (n : Int) = (Nat.gcd g n : Nat) := by rw [Md3 (by omega) (by omega)]; rfl
theorem Fc5 (P : X6) (g n : Nat) (hn : n ≤ 1000000000000000000) : lp (T7 P) ⟨(g : Int), (n : Int)⟩ = (1, ⟨(Nat.gcd g n : Nat), 0⟩) := by
 have := gc3 (step := T7 P) (mk := fun g n => (⟨g, n⟩ : J7)) (fun g n h => by
  have h0 : n ≠ 0 := by omega
  simp [T7, Z0, Ya8, h, h0]) (fun g => by simp [T7, Z0, Ya8]) (g : Int) (n : Int) (by omega) (by omega) (by omega)
 rw [this, Pd8]
theorem sd5 (l : List Int) (hl : l.length ≤ 1000000000) (hb : ∀ x ∈ l, Sm 1000000000000000000 x) : oa8 l = some (i (l.foldl (fun g x => Nat.gcd g x.natAbs) 0 : Nat), []) := by
 have h := Fb3 (step := da1 ⟨(l.length : Int)⟩) (mk := fun j (a : Nat) => (⟨(a : Int), l, (j : Int)⟩ : G1)) (f := fun g x => Nat.gcd g x.natAbs) (fin := 2) tI l (fun _ _ => True) hl (fun j a hj _ => ⟨by
   have hm := hb _ (sc7 tI hj)
   have hne : (gL tI l j == (-9223372036854775808 : Int)) = false := by
    have := hm.1
    rw [beq_eq_false_iff_ne]; omega
   have hs : (gL tI l j).natAbs ≤ 1000000000000000000 := by obtain ⟨h1, h2⟩ := hm; omega
   simp only [da1, Z1, Int.toNat_natCast, l8, l6, gd2 hm, Fc5 _ _ _ hs, n8 hj (by omega)]
   rw [bt (zb5 hj), bt (e8 hj), bf hne]
   rfl, trivial⟩) (fun a _ => by simp only [da1, Z1]; rw [bf (qb0 (Nat.lt_irrefl _))]) 0 (Nat.zero_le _) 0 trivial
 have h := h.1
 rw [List.drop_zero] at h
 unfold oa8
 simp only [l8, l6]
 rw [show (⟨0, l, 0⟩ : G1) = ⟨((0 : Nat) : Int), l, ((0 : Nat) : Int)⟩ from rfl, h]
 rfl
def okp (p : Pln) : Bool := [p.n.x, p.n.y, p.n.z].all (smb 4608) && (g3 p.n == 1 && [p.b].all (smb 2097152))
theorem qe0 (p : Pln) : Bd p ↔ [p.n.x, p.n.y, p.n.z].all (smb 4608) = true ∧ [p.b].all (smb 2097152) = true := by
 simp only [List.all_cons, List.all_nil, Bool.and_true, Bool.and_eq_true, Wa2, Sm]
 exact ⟨fun h => ⟨⟨⟨h.x1, h.x2⟩, ⟨h.y1, h.y2⟩, h.z1, h.z2⟩, h.b1, h.b2⟩, fun ⟨⟨⟨a, b⟩, ⟨c, d⟩, e, f⟩, g, h⟩ => ⟨a, b, c, d, e, f, g, h⟩⟩
theorem La2 {p : Pln} (h : okp p = true) : Bd p := by
 unfold okp at h
 rw [Bool.and_eq_true, Bool.and_eq_true] at h
 exact (qe0 p).2 ⟨h.1, h.2.2⟩
theorem sm3 {v : V3} (h : [v.x, v.y, v.z].all (smb 4608) = true) : Sm 4608 v.x ∧ Sm 4608 v.y ∧ Sm 4608 v.z := by
 simpa only [List.all_cons, List.all_nil, Bool.and_true, Bool.and_eq_true, Wa2] using h
theorem gd3 (p : Pln) : ya4 p = some (b (okp p), []) := by
 unfold ya4 okp
 have l3 : [p.n.x, p.n.y, p.n.z].length ≤ 1000000000 := by simp
 have l1 : [p.b].length ≤ 1000000000 := by simp
 simp only [cc6 4608 _ (by omega) l3, cc7 4608 _ (by omega) l3, cc6 2097152 _ (by omega) l1, cc7 2097152 _ (by omega) l1]
 cases hw : [p.n.x, p.n.y, p.n.z].all (smb 4608) with
 | false => rfl
 | true =>
  obtain ⟨h1, h2, h3⟩ := sm3 hw
  have hd := sd5 [p.n.x, p.n.y, p.n.z] l3 (by
   intro x hx
   simp only [List.mem_cons, List.not_mem_nil, or_false] at hx
   rcases hx with rfl | rfl | rfl
   ·exact h1.mono (by omega)
   ·exact h2.mono (by omega)
   ·exact h3.mono (by omega))
  have hg : ([p.n.x, p.n.y, p.n.z].foldl (fun g x => Nat.gcd g x.natAbs) 0 : Nat) = Nat.gcd (Nat.gcd p.n.x.natAbs p.n.y.natAbs) p.n.z.natAbs := by
   simp only [List.foldl_cons, List.foldl_nil, Nat.gcd_zero_left]
  have hp : za9 [p.n.x, p.n.y, p.n.z] = g3 p.n := by unfold za9; rw [hd, hg]; rfl
  have hgd : Aa0 [p.n.x, p.n.y, p.n.z] = true := by unfold Aa0; rw [hd]; rfl
  rw [hp, hgd]
  cases g3 p.n == 1 <;> rfl
theorem ce4 (p : Pln) : Ma8 p = okp p := by unfold Ma8; rw [gd3 p]; rfl
theorem ce5 (p : Pln) : Ma9 p = true := by unfold Ma9; rw [gd3 p]; rfl
theorem cc8 (P : ha0) (g n : Nat) (hn : n ≤ 1000000000000000000) : lp (ca2 P) ⟨(g : Int), (n : Int)⟩ = (1, ⟨(Nat.gcd g n : Nat), 0⟩) := by
 have := gc3 (step := ca2 P) (mk := fun g n => (⟨g, n⟩ : P6)) (fun g n h => by
  have h0 : n ≠ 0 := by omega
  simp [ca2, sa8, Ya8, h, h0]) (fun g => by simp [ca2, sa8, Ya8]) (g : Int) (n : Int) (by omega) (by omega) (by omega)
 rw [this, Pd8]
theorem Tc9 {v : V3} (h1 : Sm 1000000000000000000 v.x) (h2 : Sm 1000000000000000000 v.y) (h3 : Sm 1000000000000000000 v.z) :
  Za9 v = if g3 v = 0 then some (.tup [.agg (tV.row ⟨0, 0, 0⟩), i 0], []) else some (.tup [.agg (tV.row ⟨W (Int.tdiv v.x (g3 v)), W (Int.tdiv v.y (g3 v)), W (Int.tdiv v.z (g3 v))⟩), i (g3 v)], []) := by
 have ne : ∀ {x : Int}, Sm 1000000000000000000 x → (x == (-9223372036854775808 : Int)) = false := fun {x} h => by
  have := h.1
  rw [beq_eq_false_iff_ne]; omega
 have bd : ∀ {x : Int}, Sm 1000000000000000000 x → x.natAbs ≤ 1000000000000000000 := fun {x} h => by obtain ⟨h1, h2⟩ := h; omega
 have l1 := cc8 ⟨0, v.x, v.y, v.z, v.x, v.y, v.z⟩ 0 v.x.natAbs (bd h1)
 rw [Nat.gcd_zero_left] at l1
 have l2 := cc8 ⟨1, v.x, v.y, v.z, v.x, v.y, v.z⟩ v.x.natAbs v.y.natAbs (bd h2)
 have l3 := cc8 ⟨2, v.x, v.y, v.z, v.x, v.y, v.z⟩ (Nat.gcd v.x.natAbs v.y.natAbs) v.z.natAbs (bd h3)
 unfold Za9
 simp only [Bb8 h1, Bb8 h2, Bb8 h3, Bb9 h1, Bb9 h2, Bb9 h3]
 rw [show (⟨0, (v.x.natAbs : Int)⟩ : P6) = ⟨((0 : Nat) : Int), (v.x.natAbs : Int)⟩ from rfl]
 simp only [l1, l2, l3, ne h1, ne h2, ne h3]
 rw [show ((Nat.gcd (Nat.gcd v.x.natAbs v.y.natAbs) v.z.natAbs : Nat) : Int) = g3 v from rfl]
 by_cases h : g3 v = 0
 ·rw [if_pos h, show (g3 v == 0) = true from by rw [h]; rfl]; rfl
 ·rw [if_neg h, show (g3 v == 0) = false from by rw [beq_eq_false_iff_ne]; exact h]; rfl
theorem wc7 {v : V3} (h1 : Sm 1000000000000000000 v.x) (h2 : Sm 1000000000000000000 v.y) (h3 : Sm 1000000000000000000 v.z) : (Ba6 v).2 = g3 v := by
 unfold Ba6
 rw [Tc9 h1 h2 h3]
 split
 ·rename_i h; rw [h]; rfl
 ·rfl
theorem qe1 {v : V3} (h1 : Sm 1000000000000000000 v.x) (h2 : Sm 1000000000000000000 v.y) (h3 : Sm 1000000000000000000 v.z) (h : g3 v ≠ 0) : Ba6 v = (⟨W (Int.tdiv v.x (g3 v)), W (Int.tdiv v.y (g3 v)), W (Int.tdiv v.z (g3 v))⟩, g3 v) := by
 unfold Ba6
 rw [Tc9 h1 h2 h3, if_neg h]
 rfl
theorem Pd9 {v : V3} (h1 : Sm 1000000000000000000 v.x) (h2 : Sm 1000000000000000000 v.y) (h3 : Sm 1000000000000000000 v.z) : ab0 v = true := by
 unfold ab0
 rw [Tc9 h1 h2 h3]
 split <;> rfl
theorem Mc2 (p : Pln) : Oa2 p = some (b (okp p), []) := by
 unfold Oa2 okp
 cases hw : [p.n.x, p.n.y, p.n.z].all (smb 4608) with
 | false =>
  simp only [List.all_cons, List.all_nil, Bool.and_true, smb] at hw
  cases h1 : decide (p.n.x < -4608) <;> cases h2 : decide (p.n.x > 4608) <;> cases h3 : decide (p.n.y < -4608) <;> cases h4 : decide (p.n.y > 4608) <;> cases h5 : decide (p.n.z < -4608) <;> cases h6 : decide (p.n.z > 4608) <;> simp only [h1, h2, h3, h4, h5, h6] at hw ⊢ <;> first | rfl | cases hw
 | true =>
  obtain ⟨h1, h2, h3⟩ := sm3 hw
  rw [bf (decide_eq_false (by have := h1.1; omega)), bf (decide_eq_false (by have := h1.2; omega)), bf (decide_eq_false (by have := h2.1; omega)), bf (decide_eq_false (by have := h2.2; omega)), bf (decide_eq_false (by have := h3.1; omega)), bf (decide_eq_false (by have := h3.2; omega))]
  have k1 := h1.mono (m := 1000000000000000000) (by omega)
  have k2 := h2.mono (m := 1000000000000000000) (by omega)
  have k3 := h3.mono (m := 1000000000000000000) (by omega)
  rw [bt (Pd9 k1 k2 k3), wc7 k1 k2 k3]
  cases g3 p.n == 1 with
  | false => rfl
  | true =>
   simp only [List.all_cons, List.all_nil, Bool.and_true, smb, Bool.true_and]
   rw [n5]
   by_cases ha : p.b < -2097152
   ·rw [bf (decide_eq_false (by omega)), show decide (p.b < -2097152) = true from decide_eq_true ha]; rfl
   ·rw [bt (decide_eq_true (by omega)), show decide (p.b < -2097152) = false from decide_eq_false ha]
    congr 3
    by_cases hc : p.b ≤ 2097152
    ·rw [decide_eq_true hc, decide_eq_false (by omega)]; rfl
    ·rw [decide_eq_false hc, decide_eq_true (by omega)]; rfl
theorem gd4 (p : Pln) : Oa3 p = okp p := by unfold Oa3; rw [Mc2 p]; rfl
theorem wc8 (p : Pln) : Oa4 p = true := by unfold Oa4; rw [Mc2 p]; rfl
def chk (l : List Pln) : Int := if (l.length : Int) > 48 then 2 else if l.all okp then 0 else 12
theorem gd5 (l : List Pln) (hl : l.length ≤ 1000000000) : Ga2 l = some (i (chk l), []) := by
 have hk1 : ∀ p, ta6 p = some (b (!okp p), []) := fun p => by unfold ta6; rw [ce5, ce4]; rfl
 have hp1 : ∀ p, Ga0 p = !okp p := fun p => by unfold Ga0; rw [hk1]; rfl
 have hg1 : ∀ p, Ga1 p = true := fun p => by unfold Ga1; rw [hk1]; rfl
 have h := Va2 (step := D8 ⟨l, (l.length : Int)⟩) (mk := fun j => (⟨(j : Int)⟩ : o0)) (c := fun p => !okp p) (u := 1) (fin := 2) tP l hl
  (fun j hj => by
   simp only [D8, B7, Int.toNat_natCast, hp1, hg1, n8 hj (by omega)]
   rw [bt (zb5 hj), bt (e8 hj), n5])
  (by simp only [D8, B7]; rw [bf (qb0 (Nat.lt_irrefl _))]) 0 (Nat.zero_le _)
 rw [List.drop_zero] at h
 have e : (l.any fun x => !okp x) = !l.all okp := by rw [List.not_all_eq_any_not]
 unfold Ga2 Y2 z5 fa2 C7 chk
 simp only [l8, l6]
 rw [show (⟨0⟩ : o0) = ⟨((0 : Nat) : Int)⟩ from rfl, h, e]
 by_cases hn : (l.length : Int) > 48
 ·rw [bt (decide_eq_true hn), if_pos hn]
 ·rw [bf (decide_eq_false hn), if_neg hn]
  cases l.all okp with
  | true => rfl
  | false =>
   simp only [Bool.not_false, if_true, Nat.zero_add]
   show sl true (sl (Nat.beq 1 1) (sl (decide (((l.findIdx fun p => !okp p : Nat) : Int) ≥ 0)) _ _) _) _ = _
   rw [show decide (((l.findIdx fun p => !okp p : Nat) : Int) ≥ 0) = true from decide_eq_true (by omega)]
   rfl
theorem yd0 (l : List Pln) (hl : l.length ≤ 1000000000) : Ga3 l = chk l := by unfold Ga3; rw [gd5 l hl]; rfl
theorem yd1 (l : List Pln) (hl : l.length ≤ 1000000000) : Ga4 l = true := by unfold Ga4; rw [gd5 l hl]; rfl
theorem Mc3 (l : List Pln) (hl : l.length ≤ 1000000000) : Oa5 l = some (i (chk l), []) := by
 have h := Ra6 (step := sa9 ⟨l⟩) (mk := fun j => (⟨(j : Int)⟩ : U2)) (c := fun p => !okp p) (u := 1) (fin := 2) tP l hl
  (fun j hj => by
   simp only [sa9, oa4, Int.toNat_natCast, gd4, wc8, n8 hj (by omega)]
   rw [bt (zb5 hj), bt (e8 hj), n5])
  (by simp only [sa9, oa4]; rw [bf (qb0 (Nat.lt_irrefl _))]) 0 (Nat.zero_le _)
 rw [List.drop_zero] at h
 have e : (l.any fun x => !okp x) = !l.all okp := by rw [List.not_all_eq_any_not]
 unfold Oa5 chk
 simp only [l8, l6]
 rw [show (⟨0⟩ : U2) = ⟨((0 : Nat) : Int)⟩ from rfl, h, e]
 by_cases hn : (l.length : Int) > 48
 ·rw [bt (decide_eq_true hn), if_pos hn]
 ·rw [bf (decide_eq_false hn), if_neg hn]
  cases l.all okp <;> rfl
theorem Qd0 (l : List Pln) (hl : l.length ≤ 1000000000) : gb9 l = chk l := by unfold gb9; rw [Mc3 l hl]; rfl
theorem Qd1 (l : List Pln) (hl : l.length ≤ 1000000000) : hb5 l = true := by unfold hb5; rw [Mc3 l hl]; rfl
theorem Cb0 {l : List Pln} : chk l = 0 ↔ l.length ≤ 48 ∧ ∀ p ∈ l, okp p = true := by
 unfold chk
 by_cases hn : (l.length : Int) > 48
 ·rw [if_pos hn]
  exact ⟨fun h => absurd h (by decide), fun h => by omega⟩
 ·rw [if_neg hn]
  cases h : l.all okp with
  | true => exact ⟨fun _ => ⟨by omega, List.all_eq_true.1 h⟩, fun _ => rfl⟩
  | false => exact ⟨fun h => absurd h (by decide), fun h' => by rw [List.all_eq_true.2 h'.2] at h; cases h⟩
end Go.Ev.Ce
namespace Go.Ev.Ce
open Go Go.Ev Go.Ev.L Go.Proofs
theorem btD {p : Prop} {inst : Decidable p} (h : p) {α : Type} (t e : α) : sl (@decide p inst) t e = t := bt (decide_eq_true h) t e
theorem bfD {p : Prop} {inst : Decidable p} (h : ¬ p) {α : Type} (t e : α) : sl (@decide p inst) t e = e := bf (decide_eq_false h) t e
theorem l0 {j n : Nat} (h : j < n) : (j : Int) < (n : Int) := Int.ofNat_lt.2 h
theorem v8 {j n : Nat} (h : ¬ j < n) : ¬ (j : Int) < (n : Int) := fun h' => h (Int.ofNat_lt.1 h')
theorem Ha2 {σ τ α : Type} {step : σ → Stp σ} {mk : Nat → τ → σ} {f : α → List α → τ → τ} {g : List α → τ → τ} {fin : τ → Nat} (l : List α) (I : Nat → τ → Prop) (hl : l.length ≤ 1000000000)
  (g0 : ∀ a, g [] a = a) (g1 : ∀ x r a, g (x :: r) a = g r (f x r a))
  (h : ∀ j a (hj : j < l.length), I j a → step (mk j a) = .next (mk (j + 1) (f l[j] (l.drop (j + 1)) a)) ∧ I (j + 1) (f l[j] (l.drop (j + 1)) a))
  (hf : ∀ j a, l.length ≤ j → I j a → step (mk j a) = .exit (fin a)) (j0 : Nat) (a : τ) (hi : I j0 a) :
  lp step (mk j0 a) = (fin (g (l.drop j0) a), mk (max j0 l.length) (g (l.drop j0) a)) ∧ I (max j0 l.length) (g (l.drop j0) a) := by
 have key := Mb6 (step := step) (I := fun m s => ∃ j b, m = l.length - j ∧ max j l.length = max j0 l.length ∧ s = mk j b ∧ I j b ∧ g (l.drop j) b = g (l.drop j0) a)
  (Q := fun u s => u = fin (g (l.drop j0) a) ∧ s = mk (max j0 l.length) (g (l.drop j0) a) ∧ I (max j0 l.length) (g (l.drop j0) a)) (fun m s ⟨j, b, hm, hj, hs, hb, he⟩ => by
   subst hs
   by_cases hlt : j < l.length
   ·obtain ⟨h1, h2⟩ := h j b hlt hb
    refine .inr ⟨_, l.length - (j + 1), by omega, h1, j + 1, _, rfl, by omega, rfl, h2, ?_⟩
    rw [← he, List.drop_eq_getElem_cons hlt, g1]
   ·have hd : l.drop j = [] := List.drop_eq_nil_of_le (by omega)
    rw [hd, g0] at he
    have hj' : j = max j0 l.length := by omega
    subst he
    rw [← hj']
    exact .inl ⟨_, hf j _ (by omega) hb, rfl, rfl, hb⟩) (l.length - j0) (mk j0 a) (by omega) ⟨j0, a, rfl, rfl, rfl, hi, rfl⟩
 exact ⟨Prod.ext key.1 key.2.1, key.2.2⟩
noncomputable def ua3 (r : List Pln) (p q : Pln) (out : List Pt) (s : Pln) : List Pt :=
 if (mpt p q s).2 && (!Bb7 out (mpt p q s).1 && inn r (mpt p q s).1) then out ++ [(mpt p q s).1] else out
noncomputable def bb2 (r : List Pln) (p q : Pln) (l : List Pln) (out : List Pt) : List Pt := l.foldl (ua3 r p q) out
noncomputable def bb3 (r : List Pln) (p : Pln) : List Pln → List Pt → List Pt
 | [], out => out
 | q :: l, out => bb3 r p l (bb2 r p q l out)
noncomputable def Fc6 (r : List Pln) : List Pln → List Pt → List Pt
 | [], out => out
 | p :: l, out => Fc6 r l (bb3 r p l out)
noncomputable def cor (r : List Pln) : List Pt := Fc6 r r []
def Bds (r : List Pln) : Prop := ∀ p ∈ r, Bd p
theorem cc9 (r : List Pln) (p q : Pln) (out : List Pt) (s : Pln) : (ua3 r p q out s).length ≤ out.length + 1 := by
 unfold ua3
 split
 ·simp
 ·omega
theorem wc9 (r : List Pln) (p q : Pln) : ∀ (l : List Pln) (out : List Pt), (bb2 r p q l out).length ≤ out.length + l.length
 | [], out => Nat.le_refl _
 | s :: l, out => by
  have h1 := cc9 r p q out s
  have h2 := wc9 r p q l (ua3 r p q out s)
  show (bb2 r p q l (ua3 r p q out s)).length ≤ _
  simp only [List.length_cons]
  omega
noncomputable def ph (out : List Pt) : Nat := match out with
 | [] => 0
 | _ :: _ => 1
theorem gd6 (x : Pt) : Bb7 [] x = false := rfl
theorem Vb3 {α : Type} (t : Ty α) (l : List α) (n k : Nat) : gL t (l.drop n) k = gL t l (n + k) := by simp [gL, List.getD_eq_getElem?_getD, List.getElem?_drop]
theorem gd7 {n : Nat} {l : List Pt} (hn : n = l.length) (h : l.length ≤ 1000000000) : (Nat.beq n (len (bL tX l)) && Nat.ble ((n + 1) * 32) room) = true := by
 subst hn
 rw [K1, Nat.beq_refl, Bool.true_and]
 exact X5 (by omega)
theorem yd2 (l : List Pt) (x : Pt) : app (bL tX l) [[i x.px, i x.py, i x.pz, i x.pw]] = bL tX (l ++ [x]) := Ja9 tX l [x]
@[reducible] noncomputable def Hb9 (k : Nat) (out : List Pt) : p8 := ⟨ph out, (k : Int), out.length, bL tX out⟩
theorem qe2 (l : List Pt) : slR tX (bL tX l) 0 l.length = l := zb0 tX l
theorem ce6 (r : List Pln) (hb : Bds r) (hr : r.length ≤ 200) (a c k : Nat) (ha : a < r.length) (hc : c < r.length) (out : List Pt) (ho : out.length ≤ 1000000000) (hk : k < r.length) :
  M4 ⟨r, a, c⟩ (Hb9 k out) = .next (Hb9 (k + 1) (ua3 r r[a] r[c] out r[k])) := by
 have hin : ∀ x, mb3 r x = inn r x := fun x => Ne1 r x (by omega)
 have hig : ∀ x, mb4 r x = true := fun x => Ne2 r x (by omega)
 have hth : ∀ x, Da0 out x = Bb7 out x := fun x => ce2 out x ho
 have htg : ∀ x, Da1 out x = true := fun x => ce3 out x ho
 have hme := be9 (hb _ (List.getElem_mem ha)) (hb _ (List.getElem_mem hc)) (hb _ (List.getElem_mem hk))
 have hmg := ce0 (hb _ (List.getElem_mem ha)) (hb _ (List.getElem_mem hc)) (hb _ (List.getElem_mem hk))
 unfold M4
 cases out with
 | nil =>
  show O8 Stp.next Stp.exit Stp.fail _ (Hb9 k []) = _
  simp only [O8, Hb9, Int.toNat_natCast, l8, K0, Na9 tP ha, Na9 tP hc, Na9 tP hk, hme, hmg, hin, hig, hth, htg, n8 hk (by omega)]
  rw [btD (l0 hk), bt (e8 ha), bt (e8 hc), bt (e8 hk), n5]
  unfold ua3
  rw [gd6]
  cases (mpt r[a] r[c] r[k]).2 with
  | false => rfl
  | true =>
   cases inn r (mpt r[a] r[c] r[k]).1 with
   | false => rfl
   | true => rfl
 | cons o os =>
  show O9 Stp.next Stp.exit Stp.fail _ (Hb9 k (o :: os)) = _
  simp only [O9, Hb9, Int.toNat_natCast, l8, K0, Na9 tP ha, Na9 tP hc, Na9 tP hk, hme, hmg, hin, hig, qe2, zb1, hth, htg, n8 hk (by omega)]
  rw [btD (l0 hk), bt (e8 ha), bt (e8 hc), bt (e8 hk), n5, gd7 rfl ho, yd2]
  unfold ua3
  cases (mpt r[a] r[c] r[k]).2 with
  | false => rfl
  | true =>
   cases inn r (mpt r[a] r[c] r[k]).1 with
   | false => cases Bb7 (o :: os) (mpt r[a] r[c] r[k]).1 <;> rfl
   | true =>
    cases Bb7 (o :: os) (mpt r[a] r[c] r[k]).1 with
    | true => rfl
    | false =>
     show Stp.next (⟨1, ((k + 1 : Nat) : Int), (o :: os).length + 1, bL tX (o :: os ++ [(mpt r[a] r[c] r[k]).1])⟩ : p8) = _
     simp [ph]
theorem qe3 (r : List Pln) (a c k : Nat) (out : List Pt) (hk : r.length ≤ k) : M4 ⟨r, a, c⟩ (Hb9 k out) = .exit (ph out + 1) := by
 unfold M4
 have this : ¬ ((k : Int) < (r.length : Int)) := by omega
 cases out with
 | nil =>
  show O8 Stp.next Stp.exit Stp.fail _ (Hb9 k []) = _
  simp only [O8, Hb9]
  rw [bfD this]
  rfl
 | cons o os =>
  show O9 Stp.next Stp.exit Stp.fail _ (Hb9 k (o :: os)) = _
  simp only [O9, Hb9]
  rw [bfD this]
  rfl
theorem ce7 (r : List Pln) (hb : Bds r) (hr : r.length ≤ 200) (a c : Nat) (ha : a < r.length) (hc : c < r.length) (k : Nat) (out : List Pt) (ho : out.length ≤ 100000000) :
  ∃ m, lp (M4 ⟨r, a, c⟩) (Hb9 k out) = (ph (bb2 r r[a] r[c] (r.drop k) out) + 1, Hb9 m (bb2 r r[a] r[c] (r.drop k) out)) :=
 ⟨_, (Ha2 (mk := Hb9) (f := fun s _ out => ua3 r r[a] r[c] out s) (g := fun l out => bb2 r r[a] r[c] l out) (fin := fun out => ph out + 1) r (fun j o => o.length + k ≤ out.length + j) (by omega)
  (fun _ => rfl) (fun _ _ _ => rfl) (fun j o hj hi => ⟨ce6 r hb hr a c j ha hc o (by omega) hj, by have := cc9 r r[a] r[c] o r[j]; show (ua3 r r[a] r[c] o r[j]).length + k ≤ out.length + (j + 1); omega⟩)
  (fun j o hj _ => qe3 r a c j o hj) k out (by omega)).1⟩
@[reducible] noncomputable def Ib0 (r : List Pln) (j : Nat) (out : List Pt) : q9 := ⟨ph out, r, (j : Int), out.length, bL tX out⟩
theorem ce8 (r : List Pln) (hb : Bds r) (hr : r.length ≤ 200) (a j : Nat) (ha : a < r.length) (out : List Pt) (ho : out.length ≤ 100000000) (hj : j < r.length) :
  I7 ⟨a⟩ (Ib0 r j out) = .next (Ib0 r (j + 1) (bb2 r r[a] r[j] (r.drop (j + 1)) out)) := by
 obtain ⟨m, hm⟩ := ce7 r hb hr a j ha hj (j + 1) out ho
 unfold I7
 generalize bb2 r r[a] r[j] (r.drop (j + 1)) out = res at *
 cases out with
 | nil =>
  show P0 Stp.next Stp.exit Stp.fail _ (Ib0 r j []) = _
  simp only [P0, Ib0, l8, l6, n8 hj (by omega)]
  rw [show (⟨0, ((j + 1 : Nat) : Int), 0, []⟩ : p8) = Hb9 (j + 1) [] from rfl, hm, btD (l0 hj)]
  cases res <;> rfl
 | cons o os =>
  show P1 Stp.next Stp.exit Stp.fail _ (Ib0 r j (o :: os)) = _
  simp only [P1, Ib0, l8, l6, n8 hj (by omega)]
  rw [show (⟨1, ((j + 1 : Nat) : Int), (o :: os).length, bL tX (o :: os)⟩ : p8) = Hb9 (j + 1) (o :: os) from rfl, hm, btD (l0 hj)]
  cases res <;> rfl
theorem qe4 (r : List Pln) (a j : Nat) (out : List Pt) (hj : r.length ≤ j) : I7 ⟨a⟩ (Ib0 r j out) = .exit (ph out + 1) := by
 unfold I7
 have this : ¬ ((j : Int) < (r.length : Int)) := by omega
 cases out with
 | nil =>
  show P0 Stp.next Stp.exit Stp.fail _ (Ib0 r j []) = _
  simp only [P0, Ib0]
  rw [bfD this]
  rfl
 | cons o os =>
  show P1 Stp.next Stp.exit Stp.fail _ (Ib0 r j (o :: os)) = _
  simp only [P1, Ib0]
  rw [bfD this]
  rfl
theorem ce9 (r : List Pln) (hb : Bds r) (hr : r.length ≤ 200) (a : Nat) (ha : a < r.length) (j : Nat) (out : List Pt) (ho : out.length ≤ 40000 * a) :
  ∃ m, lp (I7 ⟨a⟩) (Ib0 r j out) = (ph (bb3 r r[a] (r.drop j) out) + 1, Ib0 r m (bb3 r r[a] (r.drop j) out)) ∧ (bb3 r r[a] (r.drop j) out).length ≤ 40000 * (a + 1) := by
 have hk := Ha2 (step := I7 ⟨a⟩) (mk := Ib0 r) (f := fun q l out => bb2 r r[a] q l out) (g := fun l out => bb3 r r[a] l out) (fin := fun out => ph out + 1) r (fun k o => o.length ≤ 40000 * a + 200 * (k - j) ∧ j ≤ k ∧ k ≤ j + r.length) (by omega)
  (fun _ => rfl) (fun _ _ _ => rfl) (fun k o hj hi => ⟨ce8 r hb hr a k ha o (by omega) hj, by
   have := wc9 r r[a] r[k] (r.drop (k + 1)) o
   rw [List.length_drop] at this
   show (bb2 r r[a] r[k] (r.drop (k + 1)) o).length ≤ 40000 * a + 200 * (k + 1 - j) ∧ j ≤ k + 1 ∧ k + 1 ≤ j + r.length
   omega⟩)
  (fun k o hj _ => qe4 r a k o hj) j out (by omega)
 exact ⟨_, hk.1, by have := hk.2; omega⟩
@[reducible] noncomputable def Nb8 (r : List Pln) (j : Nat) (out : List Pt) : y9 := ⟨ph out, r, (j : Int), out.length, bL tX out⟩
theorem Uc0 (r : List Pln) (hb : Bds r) (hr : r.length ≤ 200) (a : Nat) (ha : a < r.length) (out : List Pt) (ho : out.length ≤ 40000 * a) :
  M5 ⟨⟩ (Nb8 r a out) = .next (Nb8 r (a + 1) (bb3 r r[a] (r.drop (a + 1)) out)) ∧ (bb3 r r[a] (r.drop (a + 1)) out).length ≤ 40000 * (a + 1) := by
 obtain ⟨m, hm, hl⟩ := ce9 r hb hr a ha (a + 1) out ho
 refine ⟨?_, hl⟩
 clear hl
 unfold M5
 generalize bb3 r r[a] (r.drop (a + 1)) out = res at *
 cases out with
 | nil =>
  show P4 Stp.next Stp.exit Stp.fail _ (Nb8 r a []) = _
  simp only [P4, Nb8, l8, l6, n8 ha (by omega)]
  rw [show (⟨0, r, ((a + 1 : Nat) : Int), 0, []⟩ : q9) = Ib0 r (a + 1) [] from rfl, hm, btD (l0 ha)]
  cases res <;> rfl
 | cons o os =>
  show P5 Stp.next Stp.exit Stp.fail _ (Nb8 r a (o :: os)) = _
  simp only [P5, Nb8, l8, l6, n8 ha (by omega)]
  rw [show (⟨1, r, ((a + 1 : Nat) : Int), (o :: os).length, bL tX (o :: os)⟩ : q9) = Ib0 r (a + 1) (o :: os) from rfl, hm, btD (l0 ha)]
  cases res <;> rfl
theorem qe5 (r : List Pln) (j : Nat) (out : List Pt) (hj : r.length ≤ j) : M5 ⟨⟩ (Nb8 r j out) = .exit (ph out + 1) := by
 unfold M5
 have this : ¬ ((j : Int) < (r.length : Int)) := by omega
 cases out with
 | nil =>
  show P4 Stp.next Stp.exit Stp.fail _ (Nb8 r j []) = _
  simp only [P4, Nb8]
  rw [bfD this]
  rfl
 | cons o os =>
  show P5 Stp.next Stp.exit Stp.fail _ (Nb8 r j (o :: os)) = _
  simp only [P5, Nb8]
  rw [bfD this]
  rfl
theorem yd3 (r : List Pln) (hb : Bds r) (hr : r.length ≤ 200) : ∃ m, lp (M5 ⟨⟩) (Nb8 r 0 []) = (ph (cor r) + 1, Nb8 r m (cor r)) ∧ (cor r).length ≤ 8000000 := by
 have hk := Ha2 (step := M5 ⟨⟩) (mk := Nb8 r) (f := fun q l out => bb3 r q l out) (g := fun l out => Fc6 r l out) (fin := fun out => ph out + 1) r (fun k o => o.length ≤ 40000 * k ∧ k ≤ r.length) (by omega)
  (fun _ => rfl) (fun _ _ _ => rfl) (fun k o hj hi => ⟨(Uc0 r hb hr k hj o hi.1).1, (Uc0 r hb hr k hj o hi.1).2, hj⟩)
  (fun k o hj _ => qe5 r k o hj) 0 [] (by simp)
 exact ⟨_, hk.1, by have := hk.2; rw [show max 0 r.length = r.length by omega] at this; have h1 := this.1; show (Fc6 r r []).length ≤ _; rw [List.drop_zero] at h1; omega⟩
theorem Uc1 (r : List Pln) (hb : Bds r) (hr : r.length ≤ 200) : (cor r).length ≤ 8000000 := by
 obtain ⟨_, _, h⟩ := yd3 r hb hr
 exact h
noncomputable def slX (l : List Pt) : b7 × List b8 := match l with
 | [] => (.v (.slice none 0 0), [])
 | _ :: _ => (.sl 0 0 l.length 0, [⟨54, 4, bL tX l, true, false, 0⟩])
theorem Uc2 (l : List Pt) : (one (r1L tX)).rd (slX l) = some l := by
 cases l with
 | nil => rfl
 | cons x l =>
  show Bool.rec (motive := fun _ => Option (List Pt)) none (some (slR tX (bL tX (x :: l)) 0 (x :: l).length)) (Bool.and true (okS tX (bL tX (x :: l)) 0 (x :: l).length)) = _
  rw [zb0, zb1]
  rfl
theorem hc6 (r : List Pln) (hb : Bds r) (hr : r.length ≤ 200) : xa8 r = some (slX (cor r)) := by
 obtain ⟨m, hm, _⟩ := yd3 r hb hr
 unfold xa8
 simp only [l8, l6]
 rw [show (⟨0, r, 0, 0, []⟩ : y9) = Nb8 r 0 [] from rfl, hm]
 cases cor r <;> rfl
theorem Da5 {ρ : Type} (R : RR ρ) {x : b7 × List b8} {r : ρ} (h : R.rd x = some r) : O4 R (some x) = r := by
 show Option.rec (motive := fun _ => ρ) R.d (fun x => x) (R.rd x) = r
 rw [h]
theorem Qa0 {ρ : Type} (R : RR ρ) {x : b7 × List b8} {r : ρ} (h : R.rd x = some r) : okO R (some x) = true := by
 show Option.rec (motive := fun _ => Bool) false (fun _ => true) (R.rd x) = true
 rw [h]
theorem sd6 (r : List Pln) (hb : Bds r) (hr : r.length ≤ 200) : Ma5 r = cor r := by unfold Ma5; rw [hc6 r hb hr]; exact Da5 _ (Uc2 _)
theorem sd7 (r : List Pln) (hb : Bds r) (hr : r.length ≤ 200) : Ma6 r = true := by unfold Ma6; rw [hc6 r hb hr]; exact Qa0 _ (Uc2 _)
noncomputable def Fc7 (x : Pt) : List b7 := [i x.px, i x.py, i x.pz, i x.pw, b true]
noncomputable def ub7 (l : List Pt) : List (List b7) := l.map Fc7
@[reducible] noncomputable def flK : List (Nat × CK) := [(0, (.int .i64)), (1, (.int .i64)), (2, (.int .i64)), (3, (.int .i64))]
theorem gd8 (x q : Pt) : Hb2 flK [i x.px, i x.py, i x.pz, i x.pw] (Fc7 q) = eqX x q := by
 show Bool.and (decide (x.px = q.px)) (Bool.and (decide (x.py = q.py)) (Bool.and (decide (x.pz = q.pz)) (Bool.and (decide (x.pw = q.pw)) true))) = _
 unfold eqX
 have h : ∀ a c : Int, decide (a = c) = (c == a) := fun a c => by rw [Bool.eq_iff_iff, decide_eq_true_eq, beq_iff_eq]; exact eq_comm
 rw [h, h, h, h]
theorem xc0 (x : Pt) : ∀ l, Pb4 4 flK [i x.px, i x.py, i x.pz, i x.pw] (ub7 l) = Bb7 l x
 | [] => rfl
 | q :: l => by
  have ih := xc0 x l
  unfold Pb4 at ih ⊢
  show Option.rec (motive := fun _ => Bool) false (fun r => toB (hdA (g9 r 4))) (Bool.rec (motive := fun _ => Option (List b7)) (fc4 flK [i x.px, i x.py, i x.pz, i x.pw] (ub7 l)) (some (Fc7 q)) (Hb2 flK [i x.px, i x.py, i x.pz, i x.pw] (Fc7 q))) = Bb7 (q :: l) x
  rw [gd8]
  unfold Bb7 at ih ⊢
  rw [List.any_cons]
  cases eqX x q with
  | true => rfl
  | false => exact ih
theorem Mc4 (x : Pt) : ∀ l, Bb7 l x = false → ib2 flK [i x.px, i x.py, i x.pz, i x.pw] (Fc7 x) (ub7 l) = ub7 (l ++ [x])
 | [], _ => rfl
 | q :: l, h => by
  unfold Bb7 at h
  rw [List.any_cons, Bool.or_eq_false_iff] at h
  show Bool.rec (motive := fun _ => List (List b7)) (Fc7 q :: ib2 flK [i x.px, i x.py, i x.pz, i x.pw] (Fc7 x) (ub7 l)) (Fc7 x :: ub7 l) (Hb2 flK [i x.px, i x.py, i x.pz, i x.pw] (Fc7 q)) = _
  rw [gd8, h.1, Mc4 x l h.2]
  rfl
@[reducible] noncomputable def Ib1 (k : Nat) (out : List Pt) : i8 := ⟨ph out, (k : Int), out.length, bL tX out, ub7 out⟩
structure C2 (P : i7) (r : List Pln) (p q : Pln) (lo : Nat) : Prop where
 ns : P.ud9 = (r.drop lo).length
 gs : P.Ua5 = fun k => tP.row (gL tP r (lo + k))
 is : P.Yc0 = ((r.drop lo).length : Int)
 p1 : (⟨⟨P.G9, P.H4, P.H5⟩, P.H6⟩ : Pln) = p
 q1 : (⟨⟨P.ba7, P.ba8, P.ba9⟩, P.Xa1⟩ : Pln) = q
 r1 : P.ma9 = r
theorem Uc3 (s : Pln) : (⟨⟨toI (hdA (tP.row s)), toI (hdA (tlA (tP.row s))), toI (hdA (tlA (tlA (tP.row s))))⟩, toI (hdA (tlA (tlA (tlA (tP.row s)))))⟩ : Pln) = s := rfl
theorem Uc4 (s : Pln) : ((Nat.ble 4 (len (tP.row s))) && (Q6 [(CK.int .i64), (CK.int .i64), (CK.int .i64), (CK.int .i64)] (tP.row s))) = true := rfl
theorem de0 {P : i7} {r : List Pln} {p q : Pln} {lo : Nat} (h : C2 P r p q lo) (hb : Bds r) (hr : r.length ≤ 200) (hp : Bd p) (hq : Bd q) (k : Nat) (out : List Pt) (ho : out.length ≤ 1000000000) (hk : k < (r.drop lo).length) :
  r7 P (Ib1 k out) = .next (Ib1 (k + 1) (ua3 r p q out (r.drop lo)[k])) := by
 have hwi : ∀ x, U3 r x = inn r x := fun x => wc4 r x (by omega)
 have hwg : ∀ x, U4 r x = true := fun x => wc5 r x (by omega)
 have hs : gL tP r (lo + k) = (r.drop lo)[k] := by rw [← Vb3, Na9 tP hk]
 have hbs : Bd (r.drop lo)[k] := hb _ (List.mem_of_mem_drop (List.getElem_mem hk))
 have hd : (r.drop lo).length ≤ 200 := by rw [List.length_drop]; omega
 have hme := pe8 hp hq hbs
 have hmg := pe9 hp hq hbs
 obtain ⟨x1, x2, x3, x4, x5, x6, x7, x8, x9, x10, x11, x12, x13, x14, x15, x16, x17, x18, x19, x20, x21⟩ := P
 obtain ⟨ns, gs, is, p1, q1, r1⟩ := h
 simp only at ns gs is p1 q1 r1
 have r1 := r1.symm
 subst ns gs is r1
 unfold r7
 cases out with
 | nil =>
  show w6 Stp.next Stp.exit Stp.fail _ (Ib1 k []) = _
  simp only [w6, Ib1, Int.toNat_natCast, l8, K0, p1, q1, hs, Uc3, Uc4, hme, hmg, hwi, hwg, n8 hk (by omega)]
  rw [btD (l0 hk), bt (e8 hk), n5, n5]
  unfold ua3
  rw [gd6]
  cases (mpt p q (r.drop lo)[k]).2 with
  | false => rfl
  | true =>
   cases inn r (mpt p q (r.drop lo)[k]).1 with
   | false => rfl
   | true => rfl
 | cons o os =>
  show w7 Stp.next Stp.exit Stp.fail _ (Ib1 k (o :: os)) = _
  simp only [w7, Ib1, Int.toNat_natCast, l8, K0, p1, q1, hs, Uc3, Uc4, hme, hmg, hwi, hwg, n8 hk (by omega), xc0]
  rw [btD (l0 hk), bt (e8 hk), n5, n5, gd7 rfl ho, yd2]
  unfold ua3
  cases (mpt p q (r.drop lo)[k]).2 with
  | false => rfl
  | true =>
   cases hx : Bb7 (o :: os) (mpt p q (r.drop lo)[k]).1 with
   | true => rfl
   | false =>
    cases inn r (mpt p q (r.drop lo)[k]).1 with
    | false => rfl
    | true =>
     show Stp.next (⟨1, ((k + 1 : Nat) : Int), (o :: os).length + 1, bL tX (o :: os ++ [(mpt p q (r.drop lo)[k]).1]), ib2 flK [i (mpt p q (r.drop lo)[k]).1.px, i (mpt p q (r.drop lo)[k]).1.py, i (mpt p q (r.drop lo)[k]).1.pz, i (mpt p q (r.drop lo)[k]).1.pw] (Fc7 (mpt p q (r.drop lo)[k]).1) (ub7 (o :: os))⟩ : i8) = _
     rw [Mc4 _ _ hx]
     simp [ph]
theorem qe6 {P : i7} {r : List Pln} {p q : Pln} {lo : Nat} (h : C2 P r p q lo) (k : Nat) (out : List Pt) (hk : (r.drop lo).length ≤ k) : r7 P (Ib1 k out) = .exit (ph out + 1) := by
 obtain ⟨x1, x2, x3, x4, x5, x6, x7, x8, x9, x10, x11, x12, x13, x14, x15, x16, x17, x18, x19, x20, x21⟩ := P
 obtain ⟨ns, gs, is, p1, q1, r1⟩ := h
 simp only at ns gs is p1 q1 r1
 have r1 := r1.symm
 subst ns gs is r1
 unfold r7
 have this : ¬ ((k : Int) < ((r.drop lo).length : Int)) := by omega
 cases out with
 | nil =>
  show w6 Stp.next Stp.exit Stp.fail _ (Ib1 k []) = _
  simp only [w6, Ib1]
  rw [bfD this]
  rfl
 | cons o os =>
  show w7 Stp.next Stp.exit Stp.fail _ (Ib1 k (o :: os)) = _
  simp only [w7, Ib1]
  rw [bfD this]
  rfl
theorem de1 {P : i7} {r : List Pln} {p q : Pln} {lo : Nat} (h : C2 P r p q lo) (hb : Bds r) (hr : r.length ≤ 200) (hp : Bd p) (hq : Bd q) (out : List Pt) (ho : out.length ≤ 100000000) :
  ∃ m, lp (r7 P) (Ib1 0 out) = (ph (bb2 r p q (r.drop lo) out) + 1, Ib1 m (bb2 r p q (r.drop lo) out)) := by
 have hd : (r.drop lo).length ≤ 200 := by rw [List.length_drop]; omega
 exact ⟨_, (Ha2 (mk := Ib1) (f := fun s _ out => ua3 r p q out s) (g := fun l out => bb2 r p q l out) (fin := fun out => ph out + 1) (r.drop lo) (fun j o => o.length ≤ out.length + j) (by omega)
  (fun _ => rfl) (fun _ _ _ => rfl) (fun j o hj hi => ⟨de0 h hb hr hp hq j o (by omega) hj, by have := cc9 r p q o (r.drop lo)[j]; show (ua3 r p q o (r.drop lo)[j]).length ≤ out.length + (j + 1); omega⟩)
  (fun j o hj _ => qe6 h j o hj) 0 out (by omega)).1⟩
@[reducible] noncomputable def Ib2 (r : List Pln) (j : Nat) (out : List Pt) : j8 := ⟨ph out, r, (j : Int), r, r, out.length, bL tX out, ub7 out⟩
structure C1 (P : i9) (r : List Pln) (p : Pln) (a : Nat) : Prop where
 i3 : P.is3 = (a : Int)
 ns : P.Yb1 = (r.drop (a + 1)).length
 gs : P.Xa0 = fun k => tP.row (gL tP r (a + 1 + k))
 is : P.ea6 = ((r.drop (a + 1)).length : Int)
 p1 : (⟨⟨P.G9, P.H4, P.H5⟩, P.H6⟩ : Pln) = p
theorem de2 {P : i9} {r : List Pln} {p : Pln} {a : Nat} (h : C1 P r p a) (hb : Bds r) (hr : r.length ≤ 200) (hp : Bd p) (j : Nat) (out : List Pt) (ho : out.length ≤ 100000000) (hj : j < (r.drop (a + 1)).length) :
  r8 P (Ib2 r j out) = .next (Ib2 r (j + 1) (bb2 r p (r.drop (a + 1))[j] ((r.drop (a + 1)).drop (j + 1)) out)) := by
 have hs : gL tP r (a + 1 + j) = (r.drop (a + 1))[j] := by rw [← Vb3, Na9 tP hj]
 have hbs : Bd (r.drop (a + 1))[j] := hb _ (List.mem_of_mem_drop (List.getElem_mem hj))
 have hd := hj
 rw [List.length_drop] at hd
 have hW : W (W ((a : Int) + (j : Int)) + 2) = ((a + 1 + (j + 1) : Nat) : Int) := by rw [Za0, Y0 (by omega) (by omega)]; omega
 have hdl : (r.drop (a + 1)).length ≤ 4611686018427387904 := by rw [List.length_drop]; omega
 have hlo : inB ((a + 1 + (j + 1) : Nat) : Int) (r.length + 1) = true := e8 (by omega)
 rw [List.drop_drop]
 generalize hq : (r.drop (a + 1))[j] = q at *
 obtain ⟨x1, x2, x3, x4, x5, x6, x7, x8, x9, x10⟩ := P
 obtain ⟨i3, ns, gs, is, p1⟩ := h
 simp only at i3 ns gs is p1
 subst i3 ns gs is
 unfold r8
 have key : ∀ (P2 : i7), C2 P2 r p q (a + 1 + (j + 1)) → _ := fun P2 h2 => de1 h2 hb hr hp hbs out ho
 cases out with
 | nil =>
  show w8 Stp.next Stp.exit Stp.fail _ (Ib2 r j []) = _
  simp only [w8, Ib2, l8, l6, n8 hj hdl, hW, Int.toNat_natCast, hs, Uc4, hlo]
  rw [show (⟨0, 0, 0, [], []⟩ : i8) = Ib1 0 [] from rfl]
  generalize hP : i7.mk _ _ _ _ _ _ _ _ _ _ _ _ _ _ _ _ _ _ _ _ _ = P2
  obtain ⟨m, hm⟩ := key P2 (by
   subst hP
   exact ⟨by simp, rfl, by simp, p1, Uc3 q, rfl⟩)
  rw [hm, btD (l0 hj), bt (e8 hj)]
  cases bb2 r p q (r.drop (a + 1 + (j + 1))) [] <;> rfl
 | cons o os =>
  show w9 Stp.next Stp.exit Stp.fail _ (Ib2 r j (o :: os)) = _
  simp only [w9, Ib2, l8, l6, n8 hj hdl, hW, Int.toNat_natCast, hs, Uc4, hlo]
  rw [show (⟨1, 0, (o :: os).length, bL tX (o :: os), ub7 (o :: os)⟩ : i8) = Ib1 0 (o :: os) from rfl]
  generalize hP : i7.mk _ _ _ _ _ _ _ _ _ _ _ _ _ _ _ _ _ _ _ _ _ = P2
  obtain ⟨m, hm⟩ := key P2 (by
   subst hP
   exact ⟨by simp, rfl, by simp, p1, Uc3 q, rfl⟩)
  rw [hm, btD (l0 hj), bt (e8 hj)]
  cases bb2 r p q (r.drop (a + 1 + (j + 1))) (o :: os) <;> rfl
theorem qe7 {P : i9} {r : List Pln} {p : Pln} {a : Nat} (h : C1 P r p a) (j : Nat) (out : List Pt) (hj : (r.drop (a + 1)).length ≤ j) : r8 P (Ib2 r j out) = .exit (ph out + 1) := by
 obtain ⟨x1, x2, x3, x4, x5, x6, x7, x8, x9, x10⟩ := P
 obtain ⟨i3, ns, gs, is, p1⟩ := h
 simp only at i3 ns gs is p1
 subst i3 ns gs is
 unfold r8
 have this : ¬ ((j : Int) < ((r.drop (a + 1)).length : Int)) := by omega
 cases out with
 | nil =>
  show w8 Stp.next Stp.exit Stp.fail _ (Ib2 r j []) = _
  simp only [w8, Ib2]
  rw [bfD this]
  rfl
 | cons o os =>
  show w9 Stp.next Stp.exit Stp.fail _ (Ib2 r j (o :: os)) = _
  simp only [w9, Ib2]
  rw [bfD this]
  rfl
theorem de3 {P : i9} {r : List Pln} {p : Pln} {a : Nat} (h : C1 P r p a) (hb : Bds r) (hr : r.length ≤ 200) (hp : Bd p) (out : List Pt) (ho : out.length ≤ 10000000) :
  ∃ m, lp (r8 P) (Ib2 r 0 out) = (ph (bb3 r p (r.drop (a + 1)) out) + 1, Ib2 r m (bb3 r p (r.drop (a + 1)) out)) := by
 have hd : (r.drop (a + 1)).length ≤ 200 := by rw [List.length_drop]; omega
 exact ⟨_, (Ha2 (mk := Ib2 r) (f := fun q l out => bb2 r p q l out) (g := fun l out => bb3 r p l out) (fin := fun out => ph out + 1) (r.drop (a + 1)) (fun k o => o.length ≤ out.length + 200 * k) (by omega)
  (fun _ => rfl) (fun _ _ _ => rfl) (fun k o hj hi => ⟨de2 h hb hr hp k o (by omega) hj, by
   have := wc9 r p (r.drop (a + 1))[k] ((r.drop (a + 1)).drop (k + 1)) o
   rw [List.length_drop] at this
   show (bb2 r p (r.drop (a + 1))[k] ((r.drop (a + 1)).drop (k + 1)) o).length ≤ out.length + 200 * (k + 1)
   omega⟩)
  (fun k o hj _ => qe7 h k o hj) 0 out (by omega)).1⟩
@[reducible] noncomputable def Nb9 (r : List Pln) (j : Nat) (out : List Pt) : l7 := ⟨ph out, r, (j : Int), r, r, out.length, bL tX out, ub7 out⟩
theorem de4 {P : p5} (r : List Pln) (h : P.Ia6 = (r.length : Int)) (hb : Bds r) (hr : r.length ≤ 200) (a : Nat) (ha : a < r.length) (out : List Pt) (ho : out.length ≤ 40000 * a) :
  r9 P (Nb9 r a out) = .next (Nb9 r (a + 1) (bb3 r r[a] (r.drop (a + 1)) out)) := by
 have hbs : Bd r[a] := hb _ (List.getElem_mem ha)
 have hlo : inB ((a + 1 : Nat) : Int) (r.length + 1) = true := e8 (by omega)
 have key : ∀ (P2 : i9), C1 P2 r r[a] a → _ := fun P2 h2 => de3 h2 hb hr hbs out (by omega)
 obtain ⟨x1⟩ := P
 simp only at h
 subst h
 unfold r9
 cases out with
 | nil =>
  show y5 Stp.next Stp.exit Stp.fail _ (Nb9 r a []) = _
  simp only [y5, Nb9, l8, l6, n8 ha (by omega), Int.toNat_natCast, hlo, Na9 tP ha]
  rw [show (⟨0, r, 0, r, r, 0, [], []⟩ : j8) = Ib2 r 0 [] from rfl]
  generalize hP : i9.mk _ _ _ _ _ _ _ _ _ _ = P2
  obtain ⟨m, hm⟩ := key P2 (by
   subst hP
   exact ⟨rfl, by simp, rfl, by simp, rfl⟩)
  rw [hm, btD (l0 ha), bt (e8 ha)]
  cases bb3 r r[a] (r.drop (a + 1)) [] <;> rfl
 | cons o os =>
  show y6 Stp.next Stp.exit Stp.fail _ (Nb9 r a (o :: os)) = _
  simp only [y6, Nb9, l8, l6, n8 ha (by omega), Int.toNat_natCast, hlo, Na9 tP ha]
  rw [show (⟨1, r, 0, r, r, (o :: os).length, bL tX (o :: os), ub7 (o :: os)⟩ : j8) = Ib2 r 0 (o :: os) from rfl]
  generalize hP : i9.mk _ _ _ _ _ _ _ _ _ _ = P2
  obtain ⟨m, hm⟩ := key P2 (by
   subst hP
   exact ⟨rfl, by simp, rfl, by simp, rfl⟩)
  rw [hm, btD (l0 ha), bt (e8 ha)]
  cases bb3 r r[a] (r.drop (a + 1)) (o :: os) <;> rfl
theorem qe8 {P : p5} (r : List Pln) (h : P.Ia6 = (r.length : Int)) (j : Nat) (out : List Pt) (hj : r.length ≤ j) : r9 P (Nb9 r j out) = .exit (ph out + 1) := by
 obtain ⟨x1⟩ := P
 simp only at h
 subst h
 unfold r9
 have this : ¬ ((j : Int) < (r.length : Int)) := by omega
 cases out with
 | nil =>
  show y5 Stp.next Stp.exit Stp.fail _ (Nb9 r j []) = _
  simp only [y5, Nb9]
  rw [bfD this]
  rfl
 | cons o os =>
  show y6 Stp.next Stp.exit Stp.fail _ (Nb9 r j (o :: os)) = _
  simp only [y6, Nb9]
  rw [bfD this]
  rfl
theorem de5 (r : List Pln) (hb : Bds r) (hr : r.length ≤ 200) : ∃ m, lp (r9 ⟨(r.length : Int)⟩) (Nb9 r 0 []) = (ph (cor r) + 1, Nb9 r m (cor r)) :=
 ⟨_, (Ha2 (step := r9 ⟨(r.length : Int)⟩) (mk := Nb9 r) (f := fun q l out => bb3 r q l out) (g := fun l out => Fc6 r l out) (fin := fun out => ph out + 1) r (fun k o => o.length ≤ 40000 * k) (by omega)
  (fun _ => rfl) (fun _ _ _ => rfl) (fun k o hj hi => ⟨de4 r rfl hb hr k hj o hi, (Uc0 r hb hr k hj o hi).2⟩)
  (fun k o hj _ => qe8 r rfl k o hj) 0 [] (by simp)).1⟩
theorem xc1 (r : List Pln) (hb : Bds r) (hr : r.length ≤ 200) : T3 r = some (slX (cor r)) := by
 obtain ⟨m, hm⟩ := de5 r hb hr
 unfold T3
 simp only [l8, l6]
 rw [show (⟨0, r, 0, r, r, 0, [], []⟩ : l7) = Nb9 r 0 [] from rfl, hm]
 cases cor r <;> rfl
theorem Mc5 (r : List Pln) (hb : Bds r) (hr : r.length ≤ 200) : T4 r = cor r := by unfold T4; rw [xc1 r hb hr]; exact Da5 _ (Uc2 _)
theorem Mc6 (r : List Pln) (hb : Bds r) (hr : r.length ≤ 200) : T5 r = true := by unfold T5; rw [xc1 r hb hr]; exact Qa0 _ (Uc2 _)
end Go.Ev.Ce
namespace Go.Ev.Ce
open Go Go.Ev Go.Ev.L Go.Proofs
noncomputable def slP (l : List Pln) : b7 × List b8 := (.sl 0 0 l.length 0, [⟨50, 4, bL tP l, true, false, 0⟩])
theorem Ob0 (l : List Pln) : (one (r1L tP)).rd (slP l) = some l := by
 show Bool.rec (motive := fun _ => Option (List Pln)) none (some (slR tP (bL tP l) 0 l.length)) (Bool.and true (okS tP (bL tP l) 0 l.length)) = _
 rw [zb0, zb1]
 rfl
theorem yd4 {α : Type} (t : Ty α) (l : List α) : (one (r1L t)).rd (eL t l, []) = some l := by
 show Bool.rec (motive := fun _ => Option (List α)) none (some (rt t l)) (Bool.and (Nat.beq t.es t.es) (okE t l)) = _
 rw [l8, K0, Nat.beq_refl]
 rfl
noncomputable def ws : List Pln := [⟨⟨1, 0, 0⟩, 24⟩, ⟨⟨-1, 0, 0⟩, 24⟩, ⟨⟨0, 1, 0⟩, 24⟩, ⟨⟨0, -1, 0⟩, 24⟩, ⟨⟨0, 0, 1⟩, 24⟩, ⟨⟨0, 0, -1⟩, 24⟩]
theorem ke7 : Bds ws := by
 intro p hp
 have : okp p = true := by
  have h : ws.all okp = true := by decide
  exact List.all_eq_true.1 h p hp
 exact La2 this
noncomputable def xc2 (lo hi : V3) : List Pln := [⟨⟨1, 0, 0⟩, hi.x⟩, ⟨⟨-1, 0, 0⟩, W (0 - lo.x)⟩, ⟨⟨0, 1, 0⟩, hi.y⟩, ⟨⟨0, -1, 0⟩, W (0 - lo.y)⟩, ⟨⟨0, 0, 1⟩, hi.z⟩, ⟨⟨0, 0, -1⟩, W (0 - lo.z)⟩]
theorem Qd2 (lo hi : V3) : Fb9 lo hi = some (slP (xc2 lo hi)) := rfl
theorem Qd3 (lo hi : V3) : mb5 lo hi = xc2 lo hi := by unfold mb5; rw [Qd2]; exact Da5 _ (Ob0 _)
theorem Qd4 (lo hi : V3) : Xa7 lo hi = true := by unfold Xa7; rw [Qd2]; exact Qa0 _ (Ob0 _)
theorem qe9 : xc2 ⟨-24, -24, -24⟩ ⟨24, 24, 24⟩ = ws := by
 simp only [xc2, ws]
 rw [show W (0 - -24) = 24 from by rw [Ed5]; rfl]
theorem de6 {l : List Pln} : Nat.beq (len (bL tP l)) 0 = l.isEmpty := by rw [K1]; cases l <;> rfl
theorem Qd5 (c : List Pln) (hc : c.length ≤ 1000000000) : mb6 c = some (slP (c ++ ws)) := by
 unfold mb6
 simp only [Na8, Qd3, Qd4, qe9, de6]
 have h6 : (0 + len (bL tP c)) = c.length := by rw [K1]; omega
 have hw : len (bL tP ws) = 6 := rfl
 rw [h6, hw]
 have e1 : Nat.ble (c.length * 32) room = true := X5 (by omega)
 have e2 : Nat.ble ((c.length + 6) * 32) room = true := X5 (by omega)
 have e3 : app (app [] (bL tP c)) (bL tP ws) = bL tP (c ++ ws) := Ja9 tP c ws
 have e4 : Nat.beq c.length (len (app [] (bL tP c))) = true := by
  rw [show app [] (bL tP c) = bL tP c from rfl, K1, Nat.beq_refl]
 rw [e1, e2, e3, e4]
 cases c with
 | nil => rfl
 | cons p c =>
  show some (b7.sl 0 0 ((p :: c).length + 6) 0, [(⟨50, 4, bL tP (p :: c ++ ws), true, false, 0⟩ : b8)]) = _
  unfold slP
  rw [List.length_append]
  rfl
theorem Be5 (c : List Pln) (hc : c.length ≤ 1000000000) : Gb0 c = c ++ ws := by unfold Gb0; rw [Qd5 c hc]; exact Da5 _ (Ob0 _)
theorem Be6 (c : List Pln) (hc : c.length ≤ 1000000000) : Gb1 c = true := by unfold Gb1; rw [Qd5 c hc]; exact Qa0 _ (Ob0 _)
theorem Qd6 {l : List (List Pln)} {j : Nat} (h : j < l.length) : gL (tLs tP) l j = l[j] := Na9 (tLs tP) h
theorem Qd7 (ls : List (List Pln)) (hn : ls.length ≤ 1000000000) (hl : ls.flatten.length ≤ 1000000000) : ∃ m, lp (F5 ⟨ls, ls, (ls.length : Int)⟩) ⟨0, 0⟩ = (1, ⟨(ls.flatten.length : Int), m⟩) := by
 have h := Ha2 (step := F5 ⟨ls, ls, (ls.length : Int)⟩) (mk := fun j (n : Nat) => (⟨(n : Int), (j : Int)⟩ : q7)) (f := fun l _ n => n + l.length) (g := fun l n => n + l.flatten.length) (fin := fun _ => 1) ls
  (fun j n => n + (ls.drop j).flatten.length = ls.flatten.length) hn (fun _ => rfl) (fun x r a => by simp only [List.flatten_cons, List.length_append]; omega)
  (fun j n hj hi => by
   rw [List.drop_eq_getElem_cons hj, List.flatten_cons, List.length_append] at hi
   have hW : W ((n : Int) + (ls[j].length : Int)) = ((n + ls[j].length : Nat) : Int) := by rw [Y0 (by omega) (by omega)]; omega
   refine ⟨?_, by show n + ls[j].length + (ls.drop (j + 1)).flatten.length = _; omega⟩
   simp only [F5, J3, Int.toNat_natCast, Qd6 hj, hW, n8 hj (by omega)]
   rw [btD (l0 hj), bt (e8 hj), bfD (by omega)])
  (fun j n hj _ => by
   simp only [F5, J3]
   rw [bfD (by omega)]) 0 0 (by simp)
 have h := h.1
 rw [List.drop_zero, Nat.zero_add] at h
 exact ⟨_, h⟩
theorem Qd8 {ls : List (List Pln)} (h : ls.flatten = []) {j : Nat} (hj : j < ls.length) : ls[j] = [] := by
 rw [List.flatten_eq_nil_iff] at h
 exact h _ (List.getElem_mem hj)
theorem de7 (ls : List (List Pln)) (hn : ls.length ≤ 1000000000) (hl : ls.flatten = []) : ∃ s, lp (A3 ⟨ls, (ls.length : Int)⟩) ⟨0, 0, 0, []⟩ = (1, s) := by
 have h := Ha2 (step := A3 ⟨ls, (ls.length : Int)⟩) (mk := fun j (_ : Unit) => (⟨0, (j : Int), 0, []⟩ : k9)) (f := fun _ _ n => n) (g := fun _ n => n) (fin := fun _ => 1) ls
  (fun _ _ => True) hn (fun _ => rfl) (fun x r a => rfl)
  (fun j n hj hi => by
   refine ⟨?_, trivial⟩
   show y7 Stp.next Stp.exit Stp.fail _ _ = _
   simp only [y7, Int.toNat_natCast, Qd6 hj, Qd8 hl hj, n8 hj (by omega)]
   rw [btD (l0 hj), bt (e8 hj)]
   rfl)
  (fun j n hj _ => by
   show y7 Stp.next Stp.exit Stp.fail _ _ = _
   simp only [y7]
   rw [bfD (by omega)]) 0 () trivial
 exact ⟨_, h.1⟩
noncomputable def kb2 (t : Nat) (d : List Pln) : List (List b7) := app (bL tP d) (List.replicate (t - d.length) Tc4)
theorem Qd9 (t : Nat) (d : List Pln) (h : d.length ≤ t) : len (kb2 t d) = t := by
 unfold kb2
 rw [D6, m8, List.length_append, ← m8, K1, List.length_replicate]
 omega
theorem Rd0 (t : Nat) (d l : List Pln) (h : d.length + l.length ≤ t) : app (I6 (kb2 t d) d.length) (app (bL tP l) (g9 (kb2 t d) (d.length + len (bL tP l)))) = kb2 t (d ++ l) := by
 have hd : (bL tP d).length = d.length := by rw [← m8, K1]
 unfold kb2
 rw [K1, ← Ja9]
 simp only [D6, H7, H8]
 rw [List.take_left' hd, List.append_assoc]
 congr 2
 rw [List.drop_append, List.drop_eq_nil_of_le (by omega), List.nil_append, hd, List.drop_replicate, List.length_append]
 congr 1
 omega
theorem Rd1 (ls : List (List Pln)) (hn : ls.length ≤ 1000000000) : ∃ m, lp (A3 ⟨ls, (ls.length : Int)⟩) ⟨1, 0, 0, List.replicate ls.flatten.length Tc4⟩ = (2, ⟨1, m, ls.flatten.length, bL tP ls.flatten⟩) := by
 have h := Ha2 (step := A3 ⟨ls, (ls.length : Int)⟩) (mk := fun j (d : List Pln) => (⟨1, (j : Int), d.length, kb2 ls.flatten.length d⟩ : k9)) (f := fun l _ d => d ++ l) (g := fun l d => d ++ l.flatten) (fin := fun _ => 2) ls
  (fun j d => d.length + (ls.drop j).flatten.length = ls.flatten.length) hn (fun _ => by simp) (fun x r a => by simp)
  (fun j d hj hi => by
   rw [List.drop_eq_getElem_cons hj, List.flatten_cons, List.length_append] at hi
   refine ⟨?_, by show (d ++ ls[j]).length + (ls.drop (j + 1)).flatten.length = _; rw [List.length_append]; omega⟩
   show y8 Stp.next Stp.exit Stp.fail _ _ = _
   simp only [y8, Int.toNat_natCast, Qd6 hj, n8 hj (by omega), Na8]
   rw [Rd0 _ _ _ (by omega), Qd9 _ _ (by omega), K1, btD (l0 hj), bt (e8 hj), bt (by rw [Nat.ble_eq]; omega), List.length_append])
  (fun j d hj _ => by
   show y8 Stp.next Stp.exit Stp.fail _ _ = _
   simp only [y8]
   rw [bfD (by omega)]) 0 [] (by simp)
 have h := h.1
 rw [List.drop_zero, List.nil_append] at h
 have e : kb2 ls.flatten.length ls.flatten = bL tP ls.flatten := by unfold kb2; rw [Nat.sub_self, D6]; simp
 rw [e] at h
 exact ⟨_, h⟩
theorem ke8 (ls : List (List Pln)) (hn : ls.length ≤ 1000000000) (hl : ls.flatten.length ≤ 1000000000) : nb3 ls = some (slP (ls.flatten ++ ws)) := by
 have hc : fa0 ls = if ls.flatten = [] then ⟨1, 0, []⟩ else ⟨2, ls.flatten.length, bL tP ls.flatten⟩ := by
  unfold fa0 J8
  simp only [l8, l6]
  obtain ⟨m, hm⟩ := Qd7 ls hn hl
  rw [hm]
  by_cases h0 : ls.flatten = []
  ·obtain ⟨s, hs⟩ := de7 ls hn h0
   rw [if_pos h0, hs]
   rw [show (⟨(ls.flatten.length : Int), m⟩ : q7) = ⟨0, m⟩ by rw [h0]; rfl]
   rfl
  ·obtain ⟨m', hm'⟩ := Rd1 ls hn
   rw [if_neg h0]
   simp only [Int.toNat_natCast]
   rw [hm']
   have h1 : 0 < ls.flatten.length := List.length_pos_iff.2 h0
   have e1 : ((ls.flatten.length : Int) == 0) = false := by rw [beq_eq_false_iff_ne]; omega
   have e2 : Bool.and (decide ((0 : Int) < (ls.flatten.length : Int))) (Nat.ble (ls.flatten.length * 32) room) = true := by
    rw [X5 (by omega), decide_eq_true (by omega)]
    rfl
   rw [e1, e2]
   rfl
 unfold nb3
 simp only [l8, K0, hc]
 by_cases h0 : ls.flatten = []
 ·rw [if_pos h0, h0]; rfl
 ·rw [if_neg h0]
  generalize ls.flatten = c at *
  have e : ∀ (d : List Pln) (p : Pln), app (bL tP d) [[i p.n.x, i p.n.y, i p.n.z, i p.b]] = bL tP (d ++ [p]) := fun d p => Ja9 tP d [p]
  have c1 := e c ⟨⟨1, 0, 0⟩, 24⟩
  have c2 := e (c ++ [⟨⟨1, 0, 0⟩, 24⟩]) ⟨⟨-1, 0, 0⟩, 24⟩
  have c3 := e (c ++ [⟨⟨1, 0, 0⟩, 24⟩] ++ [⟨⟨-1, 0, 0⟩, 24⟩]) ⟨⟨0, 1, 0⟩, 24⟩
  have c4 := e (c ++ [⟨⟨1, 0, 0⟩, 24⟩] ++ [⟨⟨-1, 0, 0⟩, 24⟩] ++ [⟨⟨0, 1, 0⟩, 24⟩]) ⟨⟨0, -1, 0⟩, 24⟩
  have c5 := e (c ++ [⟨⟨1, 0, 0⟩, 24⟩] ++ [⟨⟨-1, 0, 0⟩, 24⟩] ++ [⟨⟨0, 1, 0⟩, 24⟩] ++ [⟨⟨0, -1, 0⟩, 24⟩]) ⟨⟨0, 0, 1⟩, 24⟩
  have c6 := e (c ++ [⟨⟨1, 0, 0⟩, 24⟩] ++ [⟨⟨-1, 0, 0⟩, 24⟩] ++ [⟨⟨0, 1, 0⟩, 24⟩] ++ [⟨⟨0, -1, 0⟩, 24⟩] ++ [⟨⟨0, 0, 1⟩, 24⟩]) ⟨⟨0, 0, -1⟩, 24⟩
  simp only at c1 c2 c3 c4 c5 c6
  simp only [c1, c2, c3, c4, c5, c6, K1, List.length_append, List.length_singleton]
  have g : ∀ n : Nat, n ≤ 1000000010 → (Nat.beq n n && Nat.ble ((n + 1) * 32) room) = true := fun n h => by rw [Nat.beq_refl, X5 (by omega)]; rfl
  rw [g _ (by omega), g _ (by omega), g _ (by omega), g _ (by omega), g _ (by omega), g _ (by omega)]
  show some (b7.sl 0 0 (c.length + 1 + 1 + 1 + 1 + 1 + 1) 0, [(⟨50, 4, bL tP _, true, false, 0⟩ : b8)]) = _
  unfold slP
  rw [List.length_append]
  simp only [List.append_assoc]
  rfl
theorem Be7 (ls : List (List Pln)) (hn : ls.length ≤ 1000000000) (hl : ls.flatten.length ≤ 1000000000) : Ka8 ls = ls.flatten ++ ws := by unfold Ka8; rw [ke8 ls hn hl]; exact Da5 _ (Ob0 _)
theorem Be8 (ls : List (List Pln)) (hn : ls.length ≤ 1000000000) (hl : ls.flatten.length ≤ 1000000000) : Ka9 ls = true := by unfold Ka9; rw [ke8 ls hn hl]; exact Qa0 _ (Ob0 _)
theorem ke9 (c : List Pln) (hc : c.length ≤ 1000000000) : Ka8 [c] = c ++ ws := by
 have : [c].flatten = c := by simp
 rw [Be7 [c] (by simp) (by rw [this]; exact hc), this]
theorem le0 (c : List Pln) (hc : c.length ≤ 1000000000) : Ka9 [c] = true := by
 have : [c].flatten = c := by simp
 exact Be8 [c] (by simp) (by rw [this]; exact hc)
theorem Mc7 (ls : List (List Pln)) (hn : ls.length ≤ 1000000000) (hl : ∀ c ∈ ls, c.length ≤ 1000000000) : Ga7 ls = some (b (ls.all fun c => chk c == 0), []) := by
 have hv : ∀ c ∈ ls, Ga5 c = !(chk c == 0) ∧ Ga6 c = true := fun c hc => by
  have : ta8 c = some (b (!(chk c == 0)), []) := by
   unfold ta8
   simp only [l8, K0, yd0 c (hl c hc), yd1 c (hl c hc)]
   rfl
  unfold Ga5 Ga6
  rw [this]
  exact ⟨rfl, rfl⟩
 have h := Va2 (step := D9 ⟨ls, (ls.length : Int)⟩) (mk := fun j => (⟨(j : Int)⟩ : o2)) (c := fun c => !(chk c == 0)) (u := 1) (fin := 2) (tLs tP) ls hn
  (fun j hj => by
   have hm := hv _ (sc7 (tLs tP) hj)
   simp only [D9, B8, Int.toNat_natCast, l8, K0, hm.1, hm.2, n8 hj (by omega)]
   rw [btD (l0 hj), bt (e8 hj), n5, n5])
  (by simp only [D9, B8]; rw [bfD (v8 (Nat.lt_irrefl _))]) 0 (Nat.zero_le _)
 rw [List.drop_zero] at h
 have e : (ls.any fun c => !(chk c == 0)) = !ls.all fun c => chk c == 0 := by rw [List.not_all_eq_any_not]
 unfold Ga7 Y3 z6 fa3 C8
 simp only [l8, l6]
 rw [show (⟨0⟩ : o2) = ⟨((0 : Nat) : Int)⟩ from rfl, h, e]
 cases ls.all fun c => chk c == 0 with
 | true => rfl
 | false =>
  simp only [Bool.not_false, if_true, Nat.zero_add]
  show sl true (sl (Nat.beq 1 1) (some (b (!(decide (((ls.findIdx fun c => !(chk c == 0) : Nat) : Int) ≥ 0))), [])) _) _ = _
  rw [show decide (((ls.findIdx fun c => !(chk c == 0) : Nat) : Int) ≥ 0) = true from decide_eq_true (by omega)]
  rfl
theorem gd9 (ls : List (List Pln)) (hn : ls.length ≤ 1000000000) (hl : ∀ c ∈ ls, c.length ≤ 1000000000) : Z9 ls = ls.all fun c => chk c == 0 := by unfold Z9; rw [Mc7 ls hn hl]; rfl
theorem hd4 (ls : List (List Pln)) (hn : ls.length ≤ 1000000000) (hl : ∀ c ∈ ls, c.length ≤ 1000000000) : aa0 ls = true := by unfold aa0; rw [Mc7 ls hn hl]; rfl
theorem Vb4 (c : List Pln) (hc : c.length ≤ 1000000000) : Z9 [c] = (chk c == 0) := by
 rw [gd9 [c] (by simp) (by simpa using hc)]
 simp
theorem Vb5 (c : List Pln) (hc : c.length ≤ 1000000000) : aa0 [c] = true := hd4 [c] (by simp) (by simpa using hc)
noncomputable def pos (X : List Pt) (p : Pln) : Bool := X.any fun x => decide (rm p x > 0)
noncomputable def xc3 (r : List Pln) : Bool := r.all (pos (cor r))
theorem Rd2 (p : Pln) (X : List Pt) (hX : X.length ≤ 1000000000) : ha9 ⟨p.n.x, p.n.y, p.n.z, p.b, X⟩ = ⟨1, !pos X p⟩ := by
 have hw : ∀ x : Pt, na8 ⟨x.px, x.py, x.pz, x.pw, p.n.x, p.n.y, p.n.z, p.b⟩ = ⟨decide (rm p x > 0)⟩ := fun x => by
  show P8.mk (decide (na1 p x > 0)) = _
  rw [Tc6]
 have h := Va2 (step := G4 ⟨X, (X.length : Int), p.n.x, p.n.y, p.n.z, p.b⟩) (mk := fun j => (⟨(j : Int)⟩ : o9)) (c := fun x => decide (rm p x > 0)) (u := 1) (fin := 2) tX X hX
  (fun j hj => by
   simp only [G4, E0, Int.toNat_natCast, hw, n8 hj (by omega)]
   rw [btD (l0 hj), bt (e8 hj)])
  (by simp only [G4, E0]; rw [bfD (v8 (Nat.lt_irrefl _))]) 0 (Nat.zero_le _)
 rw [List.drop_zero] at h
 unfold ha9 M7 aa2 A6 ia8 F6 pos
 simp only [l8, l6]
 rw [show (⟨0⟩ : o9) = ⟨((0 : Nat) : Int)⟩ from rfl, h]
 cases X.any fun x => decide (rm p x > 0) with
 | false => rfl
 | true =>
  simp only [if_true, Nat.zero_add]
  show W4.mk 1 (!(decide (((X.findIdx fun x => decide (rm p x > 0) : Nat) : Int) ≥ 0))) = _
  rw [show decide (((X.findIdx fun x => decide (rm p x > 0) : Nat) : Int) ≥ 0) = true from decide_eq_true (by omega)]
theorem yd5 (r : List Pln) (hb : Bds r) (hr : r.length ≤ 200) : da6 r = some (b (xc3 r), []) := by
 have hX : (cor r).length ≤ 1000000000 := Nat.le_trans (Uc1 r hb hr) (by omega)
 have h := Va2 (step := E1 ⟨r, (r.length : Int)⟩) (mk := fun j => (⟨(j : Int), cor r⟩ : o3)) (c := fun p => !pos (cor r) p) (u := 1) (fin := 2) tP r (by omega)
  (fun j hj => by
   simp only [E1, B9, Int.toNat_natCast, l8, l6, Rd2 _ _ hX, n8 hj (by omega)]
   rw [btD (l0 hj), bt (e8 hj)]
   rfl)
  (by simp only [E1, B9]; rw [bfD (v8 (Nat.lt_irrefl _))]) 0 (Nat.zero_le _)
 rw [List.drop_zero] at h
 have e : (r.any fun p => !pos (cor r) p) = !r.all (pos (cor r)) := by rw [List.not_all_eq_any_not]
 unfold da6 Y5 z7 fa5 C9 xc3
 simp only [l8, l6, K0, Mc5 r hb hr, Mc6 r hb hr]
 rw [show (⟨0, cor r⟩ : o3) = ⟨((0 : Nat) : Int), cor r⟩ from rfl, h, e]
 cases r.all (pos (cor r)) with
 | true => rfl
 | false =>
  simp only [Bool.not_false, if_true, Nat.zero_add]
  show some (b (!(decide (((r.findIdx fun p => !pos (cor r) p : Nat) : Int) ≥ 0))), []) = _
  rw [show decide (((r.findIdx fun p => !pos (cor r) p : Nat) : Int) ≥ 0) = true from decide_eq_true (by omega)]
  rfl
theorem Rd3 (r : List Pln) (hb : Bds r) (hr : r.length ≤ 200) : da7 r = xc3 r := by unfold da7; rw [yd5 r hb hr]; rfl
theorem Rd4 (r : List Pln) (hb : Bds r) (hr : r.length ≤ 200) : da8 r = true := by unfold da8; rw [yd5 r hb hr]; rfl
theorem sd8 (r : List Pln) (X : List Pt) (hr : r.length ≤ 200) (hX : X.length ≤ 1000000000) (a : Nat) (ha : a < r.length) : ∃ m, lp (qa0 ⟨r, X, (a : Int)⟩) ⟨false, 0⟩ = (1, ⟨pos X r[a], m⟩) := by
 have h := Fb3 (step := qa0 ⟨r, X, (a : Int)⟩) (mk := fun j (c : Bool) => (⟨c, (j : Int)⟩ : ha3)) (f := fun c x => c || decide (rm r[a] x > 0)) (fin := 1) tX X (fun _ _ => True) hX
  (fun j c hj _ => ⟨by
   simp only [qa0, ta0, Int.toNat_natCast, Tc7, n8 hj (by omega), Na9 tP ha, e8 ha, e8 hj]
   rw [btD (l0 hj)]
   cases c <;> rfl, trivial⟩)
  (fun c _ => by simp only [qa0, ta0]; rw [bfD (v8 (Nat.lt_irrefl _))]) 0 (Nat.zero_le _) false trivial
 have h := h.1
 rw [List.drop_zero] at h
 have e : ∀ (l : List Pt) (c : Bool), l.foldl (fun c x => c || decide (rm r[a] x > 0)) c = (c || l.any fun x => decide (rm r[a] x > 0)) := by
  intro l
  induction l with
  | nil => intro c; simp
  | cons x l ih => intro c; rw [List.foldl_cons, ih, List.any_cons, Bool.or_assoc]
 rw [e, Bool.false_or] at h
 exact ⟨_, h⟩
theorem yd6 (r : List Pln) (hb : Bds r) (hr : r.length ≤ 200) : ab1 r = some (b (xc3 r), []) := by
 have hX : (cor r).length ≤ 1000000000 := Nat.le_trans (Uc1 r hb hr) (by omega)
 have h := Ra6 (step := ya0 ⟨⟩) (mk := fun j => (⟨r, cor r, (j : Int)⟩ : Z4)) (c := fun p => !pos (cor r) p) (u := 1) (fin := 2) tP r (by omega)
  (fun j hj => by
   obtain ⟨m, hm⟩ := sd8 r (cor r) hr hX j hj
   simp only [ya0, ta1, l8, l6, hm, n8 hj (by omega), Na9 tP hj]
   rw [btD (l0 hj)]
   rfl)
  (by simp only [ya0, ta1]; rw [bfD (v8 (Nat.lt_irrefl _))]) 0 (Nat.zero_le _)
 rw [List.drop_zero] at h
 have e : (r.any fun p => !pos (cor r) p) = !r.all (pos (cor r)) := by rw [List.not_all_eq_any_not]
 unfold ab1 xc3
 simp only [l8, l6, K0, sd6 r hb hr, sd7 r hb hr]
 rw [show (⟨r, cor r, 0⟩ : Z4) = ⟨r, cor r, ((0 : Nat) : Int)⟩ from rfl, h, e]
 cases r.all (pos (cor r)) <;> rfl
theorem re0 (r : List Pln) (hb : Bds r) (hr : r.length ≤ 200) : qb8 r = xc3 r := by unfold qb8; rw [yd6 r hb hr]; rfl
theorem re1 (r : List Pln) (hb : Bds r) (hr : r.length ≤ 200) : qb9 r = true := by unfold qb9; rw [yd6 r hb hr]; rfl
theorem Na0 {c : List Pln} (h : (chk c == 0) = true) : Bds (c ++ ws) ∧ (c ++ ws).length ≤ 200 := by
 rw [beq_iff_eq, Cb0] at h
 refine ⟨fun p hp => ?_, by rw [List.length_append, show ws.length = 6 from rfl]; omega⟩
 rcases List.mem_append.1 hp with hp | hp
 ·exact La2 (h.2 p hp)
 ·exact ke7 p hp
noncomputable def pts (c : List Pln) : List Pt := if chk c == 0 then cor (c ++ ws) else []
noncomputable def ful (c : List Pln) : Bool := (chk c == 0) && xc3 (c ++ ws)
theorem hd5 {c : List Pln} (hc : c.length ≤ 1000000000) : ∃ x, ya7 c = some x ∧ (one (r1L tX)).rd x = some (pts c) := by
 unfold ya7 pts
 simp only [l8, K0, Vb4 c hc, Vb5 c hc, ke9 c hc, le0 c hc]
 cases h : chk c == 0 with
 | false => exact ⟨_, rfl, rfl⟩
 | true =>
  obtain ⟨h1, h2⟩ := Na0 h
  rw [Mc5 _ h1 h2, Mc6 _ h1 h2]
  exact ⟨_, rfl, yd4 tX _⟩
theorem nb6 {c : List Pln} (hc : c.length ≤ 1000000000) : V0 c = pts c := by
 obtain ⟨x, h1, h2⟩ := hd5 hc
 unfold V0; rw [h1]; exact Da5 _ h2
theorem nb7 {c : List Pln} (hc : c.length ≤ 1000000000) : I5 c = true := by
 obtain ⟨x, h1, h2⟩ := hd5 hc
 unfold I5; rw [h1]; exact Qa0 _ h2
theorem yd7 {c : List Pln} (hc : c.length ≤ 1000000000) : Pa9 c = some (b (ful c), []) := by
 unfold Pa9 ful
 simp only [l8, K0, Vb4 c hc, Vb5 c hc, ke9 c hc, le0 c hc]
 cases h : chk c == 0 with
 | false => rfl
 | true =>
  obtain ⟨h1, h2⟩ := Na0 h
  rw [Rd3 _ h1 h2, Rd4 _ h1 h2]
  rfl
theorem sb1 {c : List Pln} (hc : c.length ≤ 1000000000) : R2 c = ful c := by unfold R2; rw [yd7 hc]; rfl
theorem sb2 {c : List Pln} (hc : c.length ≤ 1000000000) : F9 c = true := by unfold F9; rw [yd7 hc]; rfl
theorem hd6 {c : List Pln} (hc : c.length ≤ 1000000000) : ab2 c = some (b (ful c), []) := by
 unfold ab2 ful
 simp only [l8, K0, Qd0 c hc, Qd1 c hc, Be5 c hc, Be6 c hc]
 cases h : chk c == 0 with
 | false => rfl
 | true =>
  obtain ⟨h1, h2⟩ := Na0 h
  rw [re0 _ h1 h2, re1 _ h1 h2]
  rfl
theorem de8 {c : List Pln} (hc : c.length ≤ 1000000000) : Ka2 c = ful c := by unfold Ka2; rw [hd6 hc]; rfl
theorem yd8 {c : List Pln} (hc : c.length ≤ 1000000000) : Ba7 c = true := by unfold Ba7; rw [hd6 hc]; rfl
end Go.Ev.Ce
section
namespace Go.Ev.Ce
open Go Go.Ev Go.Ev.L Go.Proofs
set_option maxRecDepth 100000
structure Aa1 where
 is1 : Int
 g8 : List Int
 c7 : Int
noncomputable def dc0 : List (Nat × Sum) := [(47, bc7)]
theorem Vb6 : l5 prog G dc0 := ⟨uc8, trivial⟩
structure Aa2 where
 alt : Nat
 is0 : Int
 c7 : Int
noncomputable def ga2 {α : Type} (kk : Aa2 → α) (x : Aa1) : α := let t1 := (mb8 (gL tI x.g8 (W ((W (x.c7 + 1)) - 1)).toNat) x.is1); (sl (decide (x.c7 ≥ (↑(List.length x.g8) : Int))) (kk ⟨1, 0, x.c7⟩) (sl (inB (W ((W (x.c7 + 1)) - 1)) (List.length x.g8)) (sl (Xa8 (gL tI x.g8 (W ((W (x.c7 + 1)) - 1)).toNat) x.is1) (kk ⟨1, t1, (W (x.c7 + 1))⟩) (kk ⟨0, 0, 0⟩)) (kk ⟨0, 0, 0⟩)))
noncomputable def l9 (x : Aa1) : Aa2 := ga2 (fun r => r) x
noncomputable def La3 (x : Aa1) (r : Aa2) : DT (b7 × List b8) := (.ite (Nat.beq r.alt 1) (.ret ((i r.is0), [⟨0, 2, [[(eL tI x.g8), (i r.c7)]], true, false, 0⟩])) .fail)
theorem lc0 {α β : Type} (F : α → β) (kk : Aa2 → α) (x : Aa1) : F (ga2 kk x) = ga2 (fun r => F (kk r)) x := by unfold ga2; (repeat' apply n7 (f := F)) <;> rfl
noncomputable def pa2 : Sum := Ya9 ⟨[(.s (.o (.ptr 0 0 0 0))), (.s (.o (.int .i64)))], [⟨0, 2, true, (some [[(.c 1 (nL tI)), (.o (.int .i64))]])⟩], fun a H => (⟨(toI (slT a 1)), (rL tI (slT (rwT (elT H 0) 0) 0)), (toI (slT (rwT (elT H 0) 0) 1))⟩, ())⟩ (fun x => La3 x (l9 x))
theorem wa0 : j7 prog G 98 pa2 := R3 (enc := fun x => ⟨[(.ptr 0 0 0 0), (i x.is1)], [⟨0, 2, [[(eL tI x.g8), (i x.c7)]], true, false, 0⟩]⟩) (fun a H => by kernel_rfl) (bd b98 Vb6) fun x => s9 (Eq.trans (b := ga2 (fun r => (La3 x r).run) x) (by kernel_rfl) (lc0 (fun r => (La3 x r).run) (fun r => r) x).symm)
structure Gb3 where
 is1 : Int
 g8 : List Int
 c7 : Int
noncomputable def sd9 : List (Nat × Sum) := [(98, pa2)]
theorem hd7 : l5 prog G sd9 := ⟨wa0, trivial⟩
structure Gb4 where
 alt : Nat
 ma5 : Int
 ma6 : Int
 ma7 : Int
 g8 : List Int
 c7 : Int
noncomputable def Xa9 {α : Type} (kk : Gb4 → α) (x : Gb3) : α := let t1 := (l9 ⟨(W ((W (2 * x.is1)) + 1)), (rt tI x.g8), x.c7⟩); let t2 := (l9 ⟨(W ((W (2 * x.is1)) + 1)), (rt tI (rt tI x.g8)), t1.c7⟩); let t3 := (l9 ⟨(W ((W (2 * x.is1)) + 1)), (rt tI (rt tI (rt tI x.g8))), t2.c7⟩); (sl ((cnE tI x.g8) && true) (sl (Nat.beq t1.alt 1) (sl ((cnE tI (rt tI x.g8)) && true) (sl (Nat.beq t2.alt 1) (sl ((cnE tI (rt tI (rt tI x.g8))) && true) (sl (Nat.beq t3.alt 1) (kk ⟨1, (W (t1.is0 - x.is1)), (W (t2.is0 - x.is1)), (W (t3.is0 - x.is1)), (rt tI (rt tI (rt tI x.g8))), t3.c7⟩) (kk ⟨0, 0, 0, 0, [], 0⟩)) (kk ⟨0, 0, 0, 0, [], 0⟩)) (kk ⟨0, 0, 0, 0, [], 0⟩)) (kk ⟨0, 0, 0, 0, [], 0⟩)) (kk ⟨0, 0, 0, 0, [], 0⟩)) (kk ⟨0, 0, 0, 0, [], 0⟩))
noncomputable def La4 (x : Gb3) : Gb4 := Xa9 (fun r => r) x
noncomputable def Ob1 (x : Gb3) (r : Gb4) : DT (b7 × List b8) := (.ite (Nat.beq r.alt 1) (.ret ((.agg [(i r.ma5), (i r.ma6), (i r.ma7)]), [⟨0, 2, [[(eL tI r.g8), (i r.c7)]], true, false, 0⟩])) .fail)
theorem Gd6 {α β : Type} (F : α → β) (kk : Gb4 → α) (x : Gb3) : F (Xa9 kk x) = Xa9 (fun r => F (kk r)) x := by unfold Xa9; (repeat' apply n7 (f := F)) <;> rfl
noncomputable def dc1 : Sum := Ya9 ⟨[(.s (.o (.ptr 0 0 0 0))), (.s (.o (.int .i64)))], [⟨0, 2, true, (some [[(.c 1 (nL tI)), (.o (.int .i64))]])⟩], fun a H => (⟨(toI (slT a 1)), (rL tI (slT (rwT (elT H 0) 0) 0)), (toI (slT (rwT (elT H 0) 0) 1))⟩, ())⟩ (fun x => Ob1 x (La4 x))
theorem xc4 : j7 prog G 97 dc1 := R3 (enc := fun x => ⟨[(.ptr 0 0 0 0), (i x.is1)], [⟨0, 2, [[(eL tI x.g8), (i x.c7)]], true, false, 0⟩]⟩) (fun a H => by kernel_rfl) (bd b97 hd7) fun x => s9 (Eq.trans (b := Xa9 (fun r => (Ob1 x r).run) x) (by kernel_rfl) (Gd6 (fun r => (Ob1 x r).run) (fun r => r) x).symm)
noncomputable def td0 : List (Nat × Sum) := []
theorem hd8 : l5 prog G td0 := trivial
noncomputable def wa1 (x : V3) (y : V3) : V3 := (⟨(W (x.x - y.x)), (W (x.y - y.y)), (W (x.z - y.z))⟩ : V3)
noncomputable def dc2 : Sum := ja9 (V6 tV) (V6 tV) (fun x y => .ret ((one r1V).enc (wa1 x y), []))
theorem xc5 : j7 prog G 187 dc2 := ra5 (bd Le9 hd8) fun x y => s9 (by kernel_rfl)
noncomputable def Gd7 : List (Nat × Sum) := [(166, va6)]
theorem td1 : l5 prog G Gd7 := ⟨Fa2, trivial⟩
noncomputable def Cb1 (x : V3) : Option (b7 × List b8) := (sl (decide (x.x < (-24))) (some ((b false), [])) (sl (decide (x.x > 24)) (some ((b false), [])) (sl (decide (x.y < (-24))) (some ((b false), [])) (sl (decide (x.y > 24)) (some ((b false), [])) (sl (decide (x.z < (-24))) (some ((b false), [])) (sl (decide (x.z > 24)) (some ((b false), [])) (some ((b true), []))))))))
noncomputable def Qa1 (x : V3) : Bool := O4 (one r1B) (Cb1 x)
noncomputable def Qa2 (x : V3) : Bool := okO (one r1B) (Cb1 x)
noncomputable def Vb7 : Sum := ia6 (V6 tV) (fun x => .guard (Qa2 x) (.ret ((one r1B).enc (Qa1 x), [])))
theorem dc3 : j7 prog G 109 Vb7 := Ba4 (bd Ie7 td1) (one r1B) (o := Cb1) fun x => s9 (by kernel_rfl)
noncomputable def xc6 : List (Nat × Sum) := [(109, Vb7), (187, dc2), (186, Ab5), (167, Nb1), (130, Fb8)]
theorem lc1 : l5 prog G xc6 := ⟨dc3, xc5, Sb8, gc8, Mb8, trivial⟩
noncomputable def ya8 (x : V3) (y : V3) (z : V3) : Option (b7 × List b8) := let t1 := (Qa1 x); let t2 := (Qa1 y); let t3 := (Qa1 z); let t4 := (wa1 y x); let t5 := (wa1 z x); let t6 := (Q8 t4 t5); let t7 := (Ba6 t6); let t8 := (pa9 t7.1 x); (sl (Qa2 x) (sl (!t1) (some ((.tup [(.agg [(i 0), (i 0), (i 0), (i 0)]), (b false)]), [])) (sl (Qa2 y) (sl (!t2) (some ((.tup [(.agg [(i 0), (i 0), (i 0), (i 0)]), (b false)]), [])) (sl (Qa2 z) (sl (!t3) (some ((.tup [(.agg [(i 0), (i 0), (i 0), (i 0)]), (b false)]), [])) (sl (ab0 t6) (sl (t7.2 == 0) (some ((.tup [(.agg [(i 0), (i 0), (i 0), (i 0)]), (b false)]), [])) (some ((.tup [(.agg [(i t7.1.x), (i t7.1.y), (i t7.1.z), (i t8)]), (b true)]), []))) none)) none)) none)) none)
noncomputable def ia9 (x : V3) (y : V3) (z : V3) : Pln × Bool := O4 (two r1P r1B) (ya8 x y z)
noncomputable def ja0 (x : V3) (y : V3) (z : V3) : Bool := okO (two r1P r1B) (ya8 x y z)
noncomputable def Na1 : Sum := Qc4 (V6 tV) (V6 tV) (V6 tV) (fun x y z => .guard (ja0 x y z) (.ret ((two r1P r1B).enc (ia9 x y z), [])))
theorem bb4 : j7 prog G 115 Na1 := we5 (bd Je1 lc1) (two r1P r1B) (o := ya8) fun x y z => s9 (by kernel_rfl)
noncomputable def hd9 : List (Nat × Sum) := [(98, pa2), (97, dc1), (115, Na1), (47, bc7)]
theorem Uc5 : l5 prog G hd9 := ⟨wa0, xc4, bb4, uc8, trivial⟩
noncomputable def Ba9 (x : List Int) : Option (b7 × List b8) := let t1 := (l9 ⟨8, (rt tI x), 0⟩); let t2 := (l9 ⟨17, (rt tI (rt tI x)), t1.c7⟩); let t3 := (La4 ⟨8, (rt tI (rt tI (rt tI x))), t2.c7⟩); let t4 := (La4 ⟨8, (rt tI t3.g8), t3.c7⟩); let t5 := (La4 ⟨8, (rt tI t4.g8), t4.c7⟩); let t6 := (ia9 (⟨t3.ma5, t3.ma6, t3.ma7⟩ : V3) (⟨t4.ma5, t4.ma6, t4.ma7⟩ : V3) (⟨t5.ma5, t5.ma6, t5.ma7⟩ : V3)); let t7 := (mb8 (W (t2.is0 - 8)) 3); (sl ((cnE tI x) && true) (sl (Nat.beq t1.alt 1) (sl ((cnE tI (rt tI x)) && true) (sl (Nat.beq t2.alt 1) (sl ((cnE tI (rt tI (rt tI x))) && true) (sl (Nat.beq t3.alt 1) (sl ((cnE tI t3.g8) && true) (sl (Nat.beq t4.alt 1) (sl ((cnE tI t4.g8) && true) (sl (Nat.beq t5.alt 1) (sl (ja0 (⟨t3.ma5, t3.ma6, t3.ma7⟩ : V3) (⟨t4.ma5, t4.ma6, t4.ma7⟩ : V3) (⟨t5.ma5, t5.ma6, t5.ma7⟩ : V3)) (sl (decide (t1.is0 > 1)) (sl t6.2 (some ((.agg [(i t6.1.n.x), (i t6.1.n.y), (i t6.1.n.z), (i t6.1.b)]), [])) (sl (Xa8 (W (t2.is0 - 8)) 3) (sl (t7 == 1) (some ((.agg [(i 0), (i (W (1 - (W (2 * (Int.tmod t1.is0 2)))))), (i 0), (i (W (t2.is0 - 8)))]), [])) (sl (t7 == 2) (some ((.agg [(i 0), (i 0), (i (W (1 - (W (2 * (Int.tmod t1.is0 2)))))), (i (W (t2.is0 - 8)))]), [])) (some ((.agg [(i (W (1 - (W (2 * (Int.tmod t1.is0 2)))))), (i 0), (i 0), (i (W (t2.is0 - 8)))]), [])))) none)) (sl (Xa8 (W (t2.is0 - 8)) 3) (sl (t7 == 1) (some ((.agg [(i 0), (i (W (1 - (W (2 * (Int.tmod t1.is0 2)))))), (i 0), (i (W (t2.is0 - 8)))]), [])) (sl (t7 == 2) (some ((.agg [(i 0), (i 0), (i (W (1 - (W (2 * (Int.tmod t1.is0 2)))))), (i (W (t2.is0 - 8)))]), [])) (some ((.agg [(i (W (1 - (W (2 * (Int.tmod t1.is0 2)))))), (i 0), (i 0), (i (W (t2.is0 - 8)))]), [])))) none)) none) none) none) none) none) none) none) none) none) none) none)
noncomputable def Ca0 (x : List Int) : Pln := O4 (one r1P) (Ba9 x)
noncomputable def bb5 (x : List Int) : Bool := okO (one r1P) (Ba9 x)
noncomputable def Ob2 : Sum := ia6 (ga9 tI) (fun x => .guard (bb5 x) (.ret ((one r1P).enc (Ca0 x), [])))
theorem hc7 : j7 prog G 35 Ob2 := Ba4 (bd b35 Uc5) (one r1P) (o := Ba9) fun x => s9 (by kernel_rfl)
noncomputable def id1 : List (Nat × Sum) := [(187, dc2)]
theorem Uc6 : l5 prog G id1 := ⟨xc5, trivial⟩
noncomputable def La5 (x : Pln) : Pln := let t1 := (wa1 (⟨0, 0, 0⟩ : V3) x.n); (⟨t1, (W (0 - x.b))⟩ : Pln)
noncomputable def xc7 : Sum := ia6 (V6 tP) (fun x => .ret ((one r1P).enc (La5 x), []))
theorem id3 : j7 prog G 119 xc7 := Fb1 (bd Je3 Uc6) fun x => s9 (by kernel_rfl)
noncomputable def id4 : List (Nat × Sum) := [(86, Ab8), (109, Vb7), (130, Fb8)]
theorem Uc7 : l5 prog G id4 := ⟨Tb8, dc3, Mb8, trivial⟩
noncomputable def Ca1 (x : Pln) (y : V3) : Option (b7 × List b8) := let t1 := (Oa3 x); let t2 := (Qa1 y); let t3 := (pa9 x.n y); (sl (Oa4 x) (sl (!t1) (some ((i 0), [])) (sl (Qa2 y) (sl (!t2) (some ((i 0), [])) (sl (decide ((W (t3 - x.b)) < 0)) (some ((i (-1)), [])) (sl (decide ((W (t3 - x.b)) > 0)) (some ((i 1), [])) (some ((i 0), []))))) none)) none)
noncomputable def La6 (x : Pln) (y : V3) : Int := O4 (one r1I) (Ca1 x y)
noncomputable def sb3 (x : Pln) (y : V3) : Bool := okO (one r1I) (Ca1 x y)
noncomputable def Ob3 : Sum := ja9 (V6 tP) (V6 tV) (fun x y => .guard (sb3 x y) (.ret ((one r1I).enc (La6 x y), [])))
theorem hc8 : j7 prog G 194 Ob3 := lb8 (bd Me0 Uc7) (one r1I) (o := Ca1) fun x y => s9 (by kernel_rfl)
noncomputable def Cb2 : List (Nat × Sum) := []
theorem lc2 : l5 prog G Cb2 := trivial
structure pa3 where
 f9 : Int
 c7 : Int
 g7 : Int
 d9 : Int
 G9 : Int
 H4 : Int
 H5 : Int
 H6 : Int
structure L6 where
 is7 : Int
noncomputable def dc4 (p : pa3) (s : L6) : St := ⟨(ra 5 ((.ptr 0 0 0 0) :: ((.ptr 1 0 0 0) :: ((i s.is7) :: (ra 42 []))))), [⟨0, 4, [[(i p.f9), (i p.c7), (i p.g7), (i p.d9)]], true, false, 0⟩, ⟨0, 4, [[(i p.G9), (i p.H4), (i p.H5), (i p.H6)]], true, false, 0⟩]⟩
noncomputable def Q0 {α : Type} (k : L6 → α) (e : Nat → α) (z : α) (p : pa3) (s : L6) : α := (sl (decide (s.is7 < 4)) (sl (inB s.is7 4) (sl ((Nat.ble ((0 + (s.is7.toNat * 1)) + 1) 4) && (Q6 [(CK.int .i64)] (g9 [(i p.f9), (i p.c7), (i p.g7), (i p.d9)] (0 + (s.is7.toNat * 1))))) (sl (inB s.is7 4) (sl ((Nat.ble ((0 + (s.is7.toNat * 1)) + 1) 4) && (Q6 [(CK.int .i64)] (g9 [(i p.G9), (i p.H4), (i p.H5), (i p.H6)] (0 + (s.is7.toNat * 1))))) (sl (decide ((toI (hdA (g9 [(i p.f9), (i p.c7), (i p.g7), (i p.d9)] (0 + (s.is7.toNat * 1))))) < (toI (hdA (g9 [(i p.G9), (i p.H4), (i p.H5), (i p.H6)] (0 + (s.is7.toNat * 1))))))) (e 1) (sl (inB s.is7 4) (sl ((Nat.ble ((0 + (s.is7.toNat * 1)) + 1) 4) && (Q6 [(CK.int .i64)] (g9 [(i p.f9), (i p.c7), (i p.g7), (i p.d9)] (0 + (s.is7.toNat * 1))))) (sl (inB s.is7 4) (sl ((Nat.ble ((0 + (s.is7.toNat * 1)) + 1) 4) && (Q6 [(CK.int .i64)] (g9 [(i p.G9), (i p.H4), (i p.H5), (i p.H6)] (0 + (s.is7.toNat * 1))))) (sl (decide ((toI (hdA (g9 [(i p.f9), (i p.c7), (i p.g7), (i p.d9)] (0 + (s.is7.toNat * 1))))) > (toI (hdA (g9 [(i p.G9), (i p.H4), (i p.H5), (i p.H6)] (0 + (s.is7.toNat * 1))))))) (e 2) (k ⟨(W (s.is7 + 1))⟩)) z) z) z) z)) z) z) z) z) (e 3))
noncomputable def F7 (p : pa3) (s : L6) : Stp L6 := Q0 .next .exit .fail p s
noncomputable def Ta5 : Lo pa3 L6 := ⟨En Cb2, 0, je7, [1, 1, 1, 0, 1, 4, 4], [5, 6, 7], .p, [⟨(ru2 5 ((.s (.o (.ptr 0 0 0 0))) :: ((.s (.o (.ptr 1 0 0 0))) :: ((.s (.o (.int .i64))) :: (ru2 42 []))))), [⟨0, 4, true, (some [[(.o (.int .i64)), (.o (.int .i64)), (.o (.int .i64)), (.o (.int .i64))]])⟩, ⟨0, 4, true, (some [[(.o (.int .i64)), (.o (.int .i64)), (.o (.int .i64)), (.o (.int .i64))]])⟩], fun a H => (⟨(toI (slT (rwT (elT H 0) 0) 0)), (toI (slT (rwT (elT H 0) 0) 1)), (toI (slT (rwT (elT H 0) 0) 2)), (toI (slT (rwT (elT H 0) 0) 3)), (toI (slT (rwT (elT H 1) 0) 0)), (toI (slT (rwT (elT H 1) 0) 1)), (toI (slT (rwT (elT H 1) 0) 2)), (toI (slT (rwT (elT H 1) 0) 3))⟩, ⟨(toI (slT a 7))⟩)⟩], F7, [(none, fun p s => ⟨[(i (-1))], []⟩), (none, fun p s => ⟨[(i 1)], []⟩), (some 0, fun p s => ⟨(ra 5 ((.ptr 0 0 0 0) :: ((.ptr 1 0 0 0) :: ((i s.is7) :: (ra 24 ((i s.is7) :: ((b (decide (s.is7 < 4))) :: (ra 16 [])))))))), [⟨0, 4, [[(i p.f9), (i p.c7), (i p.g7), (i p.d9)]], true, false, 0⟩, ⟨0, 4, [[(i p.G9), (i p.H4), (i p.H5), (i p.H6)]], true, false, 0⟩]⟩)], dc4⟩
theorem dc5 : Ta5.Ok := Lo.ok [] (by kernel_rfl) .nil rfl (.cons (fun a H => by kernel_rfl) .nil) fun p s => (.of @Q0 (fun F _ _ _ _ _ => by unfold Q0; (repeat' apply n7 (f := F)) <;> rfl) (by kernel_rfl))
noncomputable def ja1 (x : Pln) (y : Pln) : Option (b7 × List b8) := let t1 := (lp (F7 (⟨x.n.x, x.n.y, x.n.z, x.b, y.n.x, y.n.y, y.n.z, y.b⟩ : pa3)) (⟨0⟩ : L6)); (sl (Nat.beq t1.1 1) (some ((i (-1)), [])) (sl (Nat.beq t1.1 2) (some ((i 1), [])) (sl (Nat.beq t1.1 3) (some ((i 0), [])) none)))
noncomputable def ja2 (x : Pln) (y : Pln) : Int := O4 (one r1I) (ja1 x y)
noncomputable def kb3 (x : Pln) (y : Pln) : Bool := okO (one r1I) (ja1 x y)
noncomputable def Kb6 : Sum := ja9 (V6 tP) (V6 tP) (fun x y => .guard (kb3 x y) (.ret ((one r1I).enc (ja2 x y), [])))
theorem xc8 : j7 prog G 180 Kb6 := lb8 (bd Le3 lc2) (one r1I) (o := ja1) fun x y => Ba5 (.s .p (.s .p (.s .p (.s (.s .p (.b (.u Ta5.ls))) .p)))) [Ta5.pr] (by kernel_rfl) (.cons dc5 .nil) (by kernel_rfl)
end Go.Ev.Ce
end
