/- Own work: a part of the proof. -/
import Derived.Test.YtlccibobknidjaaGreatEvDG
import Derived.Test.YtlccibobknidjaaGreatEvSp7
set_option linter.unusedVariables false
set_option linter.unusedSimpArgs false
set_option linter.unnecessarySimpa false
set_option linter.unusedSectionVars false
section
namespace Go.Ev.Ce
open Go Go.Ev Go.Ev.L Go.Proofs
set_option maxRecDepth 100000
noncomputable def ta4 : List (Nat × Sum) := [(216, Ga1)]
theorem Bb4 : i6 prog G ta4 := ⟨Rb0, trivial⟩
structure O9 where
 ya5 : List (List Pln)
 Vc7 : List (List Pln)
 Ta9 : Int
structure s5 where
 is3 : Int
 X8 : Int
noncomputable def xb4 (p : O9) (s : s5) : St := ⟨((eL (tLs tP) p.ya5) :: (.unk :: (.unk :: ((i s.is3) :: (ra 5 ((eL (tLs tP) p.Vc7) :: ((i p.Ta9) :: ((i s.X8) :: (ra 24 []))))))))), []⟩
noncomputable def L8 {α : Type} (k : s5 → α) (e : Nat → α) (z : α) (p : O9) (s : s5) : α := (sl (decide (s.X8 < p.Ta9)) (sl (inB s.X8 (List.length p.Vc7)) (sl (decide ((W (s.is3 + (↑(List.length (gL (tLs tP) p.Vc7 s.X8.toNat)) : Int))) < 0)) z (k ⟨(W (s.is3 + (↑(List.length (gL (tLs tP) p.Vc7 s.X8.toNat)) : Int))), (W (s.X8 + 1))⟩)) z) (e 1))
noncomputable def G0 (p : O9) (s : s5) : Stp s5 := L8 .next .exit .fail p s
noncomputable def qa8 : Lo O9 s5 := ⟨En ta4, 0, ke0, [1, 1, 0, 1, 4, 4], [0, 3, 9, 10, 11], .p, [⟨((.s (.c 1 (nL (tLs tP)))) :: ((.s (.o .unk)) :: ((.s (.o .unk)) :: ((.s (.o (.int .i64))) :: (ru2 5 ((.s (.c 1 (nL (tLs tP)))) :: ((.s (.o (.int .i64))) :: ((.s (.o (.int .i64))) :: (ru2 24 []))))))))), [], fun a H => (⟨(rL (tLs tP) (slT a 0)), (rL (tLs tP) (slT a 9)), (toI (slT a 10))⟩, ⟨(toI (slT a 3)), (toI (slT a 11))⟩)⟩], G0, [(some 0, fun p s => ⟨((eL (tLs tP) p.ya5) :: (.unk :: (.unk :: ((i s.is3) :: (ra 5 ((eL (tLs tP) p.Vc7) :: ((i p.Ta9) :: ((i s.X8) :: ((b (decide (s.X8 < p.Ta9))) :: (ra 23 [])))))))))), []⟩)], xb4⟩
theorem xb5 : qa8.OkM := Lo.okM [] (by kernel_rfl) .nil rfl (.cons (fun a H => by kernel_rfl) .nil) fun p s => (.of @L8 (fun F _ _ _ _ _ => by unfold L8; (repeat' apply k9 (f := F)) <;> rfl) (by kernel_rfl))
structure s6 where
 pa6 : List (List Pln)
 Hd8 : Int
structure l0 where
 ph : Nat
 tb5 : Int
 ns6 : Nat
 eh0 : List (List b7)
noncomputable def rb9 (p : s6) (s : l0) : St := ⟨(ra 6 ((.v (.slice none 0 0)) :: (ra 18 ((eL (tLs tP) p.pa6) :: ((i p.Hd8) :: ((i s.tb5) :: (ra 8 []))))))), []⟩
noncomputable def sb0 (p : s6) (s : l0) : St := ⟨(ra 6 ((.sl 0 0 s.ns6 0) :: (ra 18 ((eL (tLs tP) p.pa6) :: ((i p.Hd8) :: ((i s.tb5) :: (ra 8 []))))))), [⟨50, 4, s.eh0, true, false, 0⟩]⟩
noncomputable def xb6 (p : s6) (s : l0) : St := (sel (Nat.beq s.ph 1) (sb0 p s) (rb9 p s))
noncomputable def z5 {α : Type} (k : l0 → α) (e : Nat → α) (z : α) (p : s6) (s : l0) : α := (sl (decide (s.tb5 < p.Hd8)) (sl (inB s.tb5 (List.length p.pa6)) (sl (Nat.beq (len (o7 (fun k => (tP).row (gL tP (gL (tLs tP) p.pa6 s.tb5.toNat) k)) (List.range (List.length (gL (tLs tP) p.pa6 s.tb5.toNat))))) 0) (k ⟨0, (W (s.tb5 + 1)), 0, []⟩) z) z) (e 1))
noncomputable def z6 {α : Type} (k : l0 → α) (e : Nat → α) (z : α) (p : s6) (s : l0) : α := (sl (decide (s.tb5 < p.Hd8)) (sl (inB s.tb5 (List.length p.pa6)) (sl (Nat.ble (s.ns6 + (len (o7 (fun k => (tP).row (gL tP (gL (tLs tP) p.pa6 s.tb5.toNat) k)) (List.range (List.length (gL (tLs tP) p.pa6 s.tb5.toNat)))))) (len s.eh0)) (k ⟨1, (W (s.tb5 + 1)), (s.ns6 + (len (o7 (fun k => (tP).row (gL tP (gL (tLs tP) p.pa6 s.tb5.toNat) k)) (List.range (List.length (gL (tLs tP) p.pa6 s.tb5.toNat)))))), (app (G6 s.eh0 s.ns6) (app (o7 (fun k => (tP).row (gL tP (gL (tLs tP) p.pa6 s.tb5.toNat) k)) (List.range (List.length (gL (tLs tP) p.pa6 s.tb5.toNat)))) (e7 s.eh0 (s.ns6 + (len (o7 (fun k => (tP).row (gL tP (gL (tLs tP) p.pa6 s.tb5.toNat) k)) (List.range (List.length (gL (tLs tP) p.pa6 s.tb5.toNat)))))))))⟩) z) z) (e 2))
noncomputable def A8 (p : s6) (s : l0) : Stp l0 := (sel (Nat.beq s.ph 1) (z6 .next .exit .fail p s) (z5 .next .exit .fail p s))
noncomputable def qa9 : Lo s6 l0 := ⟨En ta4, 0, ke0, [1, 1, 1, 1, 0, 1, 4, 4], [6, 25, 26, 27], .p, [⟨(ru2 6 ((.s (.o .nil)) :: (ru2 18 ((.s (.c 1 (nL (tLs tP)))) :: ((.s (.o (.int .i64))) :: ((.s (.o (.int .i64))) :: (ru2 8 []))))))), [], fun a H => (⟨(rL (tLs tP) (slT a 25)), (toI (slT a 26))⟩, ⟨0, (toI (slT a 27)), 0, []⟩)⟩, ⟨(ru2 6 ((.s (.o (.sl 0 0 (some 0) none))) :: (ru2 18 ((.s (.c 1 (nL (tLs tP)))) :: ((.s (.o (.int .i64))) :: ((.s (.o (.int .i64))) :: (ru2 8 []))))))), [⟨50, 4, true, none⟩], fun a H => (⟨(rL (tLs tP) (slT a 25)), (toI (slT a 26))⟩, ⟨1, (toI (slT a 27)), (slN (slT a 6)), (elT H 0)⟩)⟩], A8, [(some 2, fun p s => ⟨(ra 6 ((.v (.slice none 0 0)) :: (ra 18 ((eL (tLs tP) p.pa6) :: ((i p.Hd8) :: ((i s.tb5) :: ((b (decide (s.tb5 < p.Hd8))) :: (ra 7 [])))))))), []⟩), (some 2, fun p s => ⟨(ra 6 ((.sl 0 0 s.ns6 0) :: (ra 18 ((eL (tLs tP) p.pa6) :: ((i p.Hd8) :: ((i s.tb5) :: ((b (decide (s.tb5 < p.Hd8))) :: (ra 7 [])))))))), [⟨50, 4, s.eh0, true, false, 0⟩]⟩)], xb6⟩
theorem xb7 : qa9.OkM := Lo.okM [] (by kernel_rfl) .nil rfl (.cons (fun a H => by kernel_rfl) (.cons (fun a H => by kernel_rfl) .nil)) fun p s => (.sel (Nat.beq s.ph 1) (.of @z6 (fun F _ _ _ _ _ => by unfold z6; (repeat' apply k9 (f := F)) <;> rfl) (by kernel_rfl)) (.of @z5 (fun F _ _ _ _ _ => by unfold z5; (repeat' apply k9 (f := F)) <;> rfl) (by kernel_rfl)))
structure ja2 where
 alt : Nat
 ns0 : Nat
 eh0 : List (List b7)
noncomputable def M3 {α : Type} (kk : ja2 → α) (x : List (List Pln)) : α := let t1 := (lp (G0 (⟨(rt (tLs tP) x), (rt (tLs tP) x), (↑(List.length x) : Int)⟩ : O9)) (⟨0, 0⟩ : s5)); let t2 := (lp (A8 (⟨(rt (tLs tP) (rt (tLs tP) x)), (↑(List.length (rt (tLs tP) x)) : Int)⟩ : s6)) (⟨0, 0, 0, []⟩ : l0)); let t3 := (lp (A8 (⟨(rt (tLs tP) (rt (tLs tP) x)), (↑(List.length (rt (tLs tP) x)) : Int)⟩ : s6)) (⟨1, 0, 0, (List.replicate t1.2.is3.toNat pd6)⟩ : l0)); (sl ((cnE (tLs tP) x) && ((cnE (tLs tP) x) && true)) (sl (Nat.beq t1.1 1) (sl (t1.2.is3 == 0) (sl ((cnE (tLs tP) (rt (tLs tP) x)) && true) (sl (Nat.beq t2.1 1) (kk ⟨1, 0, []⟩) (sl (Nat.beq t2.1 2) (kk ⟨2, t2.2.ns6, t2.2.eh0⟩) (kk ⟨0, 0, []⟩))) (kk ⟨0, 0, []⟩)) (sl (Bool.and (decide (0 < t1.2.is3)) (Nat.ble (t1.2.is3.toNat * 32) room)) (sl ((cnE (tLs tP) (rt (tLs tP) x)) && true) (sl (Nat.beq t3.1 1) (kk ⟨1, 0, []⟩) (sl (Nat.beq t3.1 2) (kk ⟨2, t3.2.ns6, t3.2.eh0⟩) (kk ⟨0, 0, []⟩))) (kk ⟨0, 0, []⟩)) (kk ⟨0, 0, []⟩))) (kk ⟨0, 0, []⟩)) (kk ⟨0, 0, []⟩))
noncomputable def ja3 (x : List (List Pln)) : ja2 := M3 (fun r => r) x
noncomputable def ta5 (r : ja2) : DT (b7 × List b8) := (.ite (Nat.beq r.alt 1) (.ret ((.v (.slice none 0 0)), [])) (.ite (Nat.beq r.alt 2) (.ret ((.sl 0 0 r.ns0 0), [⟨50, 4, r.eh0, true, false, 0⟩])) .fail))
theorem Kb7 {α β : Type} (F : α → β) (kk : ja2 → α) (x : List (List Pln)) : F (M3 kk x) = M3 (fun r => F (kk r)) x := by unfold M3; (repeat' apply k9 (f := F)) <;> rfl
noncomputable def Ua3 : Sum := R3 (W7 (tLs tP)) (fun x => ta5 (ja3 x))
theorem Gb7 : g9 prog G 169 Ua3 := Eb5 (bd jf1 Bb4) fun x => Ge4 (.s .p (.s .p (.s (.s .p (.b (.u qa8.lsM))) (.s .p (.s (.s .p (.b (.u qa9.lsM))) .p))))) [qa8.prM, qa9.prM] (by kernel_rfl) (.cons xb5 (.cons xb7 .nil)) (Eq.trans (b := M3 (fun r => (ta5 r).run) x) (by kernel_rfl) (Kb7 (fun r => (ta5 r).run) (fun r => r) x).symm)
noncomputable def Nd7 : List (Nat × Sum) := [(169, Ua3)]
theorem Bd8 : i6 prog G Nd7 := ⟨Gb7, trivial⟩
noncomputable def Bb5 (x : List (List Pln)) : Option (b7 × List b8) := let t1 := (ja3 (rt (tLs tP) x)); (sl (okE (tLs tP) x) (sl (Nat.beq t1.alt 1) (some ((.sl 0 0 6 0), [⟨50, 4, [[(i 1), (i 0), (i 0), (i 24)], [(i (-1)), (i 0), (i 0), (i 24)], [(i 0), (i 1), (i 0), (i 24)], [(i 0), (i (-1)), (i 0), (i 24)], [(i 0), (i 0), (i 1), (i 24)], [(i 0), (i 0), (i (-1)), (i 24)]], true, false, 0⟩])) (sl (Nat.beq t1.alt 2) (sl (Nat.beq t1.ns0 (len t1.eh0) && Nat.ble ((t1.ns0 + 1) * 32) room) (sl (Nat.beq (t1.ns0 + 1) (len (app t1.eh0 [[(i 1), (i 0), (i 0), (i 24)]])) && Nat.ble (((t1.ns0 + 1) + 1) * 32) room) (sl (Nat.beq ((t1.ns0 + 1) + 1) (len (app (app t1.eh0 [[(i 1), (i 0), (i 0), (i 24)]]) [[(i (-1)), (i 0), (i 0), (i 24)]])) && Nat.ble ((((t1.ns0 + 1) + 1) + 1) * 32) room) (sl (Nat.beq (((t1.ns0 + 1) + 1) + 1) (len (app (app (app t1.eh0 [[(i 1), (i 0), (i 0), (i 24)]]) [[(i (-1)), (i 0), (i 0), (i 24)]]) [[(i 0), (i 1), (i 0), (i 24)]])) && Nat.ble (((((t1.ns0 + 1) + 1) + 1) + 1) * 32) room) (sl (Nat.beq ((((t1.ns0 + 1) + 1) + 1) + 1) (len (app (app (app (app t1.eh0 [[(i 1), (i 0), (i 0), (i 24)]]) [[(i (-1)), (i 0), (i 0), (i 24)]]) [[(i 0), (i 1), (i 0), (i 24)]]) [[(i 0), (i (-1)), (i 0), (i 24)]])) && Nat.ble ((((((t1.ns0 + 1) + 1) + 1) + 1) + 1) * 32) room) (sl (Nat.beq (((((t1.ns0 + 1) + 1) + 1) + 1) + 1) (len (app (app (app (app (app t1.eh0 [[(i 1), (i 0), (i 0), (i 24)]]) [[(i (-1)), (i 0), (i 0), (i 24)]]) [[(i 0), (i 1), (i 0), (i 24)]]) [[(i 0), (i (-1)), (i 0), (i 24)]]) [[(i 0), (i 0), (i 1), (i 24)]])) && Nat.ble (((((((t1.ns0 + 1) + 1) + 1) + 1) + 1) + 1) * 32) room) (some ((.sl 0 0 ((((((t1.ns0 + 1) + 1) + 1) + 1) + 1) + 1) 0), [⟨50, 4, (app (app (app (app (app (app t1.eh0 [[(i 1), (i 0), (i 0), (i 24)]]) [[(i (-1)), (i 0), (i 0), (i 24)]]) [[(i 0), (i 1), (i 0), (i 24)]]) [[(i 0), (i (-1)), (i 0), (i 24)]]) [[(i 0), (i 0), (i 1), (i 24)]]) [[(i 0), (i 0), (i (-1)), (i 24)]]), true, false, 0⟩])) none) none) none) none) none) none) none)) none)
noncomputable def Wa0 (x : List (List Pln)) : List Pln := K5 (one (r1L tP)) (Bb5 x)
noncomputable def Wa1 (x : List (List Pln)) : Bool := okO (one (r1L tP)) (Bb5 x)
noncomputable def Wb2 : Sum := R3 (W7 (tLs tP)) (fun x => .guard (Wa1 x) (.ret ((one (r1L tP)).enc (Wa0 x), [])))
theorem fc0 : g9 prog G 88 Wb2 := za1 (bd b88 Bd8) (one (r1L tP)) (o := Bb5) fun x => r9 (by kernel_rfl)
structure V0 where
 ya5 : List (List Pln)
noncomputable def Ba4 : List (Nat × Sum) := [(168, Qb9)]
theorem hb6 : i6 prog G Ba4 := ⟨Dc0, trivial⟩
structure H8 where
 ya5 : List (List Pln)
 is7 : Int
structure o3 where
 is8 : Int
noncomputable def db7 (p : H8) (s : o3) : St := ⟨((eL (tLs tP) p.ya5) :: ((.fn 168 []) :: (ra 5 ((i p.is7) :: ((i s.is8) :: (ra 10 [])))))), []⟩
noncomputable def C7 {α : Type} (k : o3 → α) (e : Nat → α) (z : α) (p : H8) (s : o3) : α := let t1 := (Ra2 (rt tP (gL (tLs tP) p.ya5 s.is8.toNat))); (sl (decide (s.is8 < p.is7)) (sl (inB s.is8 (List.length p.ya5)) (sl (okE tP (gL (tLs tP) p.ya5 s.is8.toNat)) (sl (Ra3 (rt tP (gL (tLs tP) p.ya5 s.is8.toNat))) (sl t1 (e 1) (k ⟨(W (s.is8 + 1))⟩)) z) z) z) (e 2))
noncomputable def E9 (p : H8) (s : o3) : Stp o3 := C7 .next .exit .fail p s
noncomputable def ea3 : Lo H8 o3 := ⟨En Ba4, 0, Fe7, [1, 0, 1, 4, 4], [0, 1, 7, 8], .p, [⟨((.s (.c 1 (nL (tLs tP)))) :: ((.s (.o (.fn 168))) :: (ru2 5 ((.s (.o (.int .i64))) :: ((.s (.o (.int .i64))) :: (ru2 10 [])))))), [], fun a H => (⟨(rL (tLs tP) (slT a 0)), (toI (slT a 7))⟩, ⟨(toI (slT a 8))⟩)⟩], E9, [(none, fun p s => ⟨[(i s.is8)], []⟩), (some 0, fun p s => ⟨((eL (tLs tP) p.ya5) :: ((.fn 168 []) :: (ra 5 ((i p.is7) :: ((i s.is8) :: ((b (decide (s.is8 < p.is7))) :: (ra 9 []))))))), []⟩)], db7⟩
theorem db8 : ea3.Ok := Lo.ok [] (by kernel_rfl) .nil rfl (.cons (fun a H => by kernel_rfl) .nil) fun p s => (.of @C7 (fun F _ _ _ _ _ => by unfold C7; (repeat' apply k9 (f := F)) <;> rfl) (by kernel_rfl))
structure V1 where
 alt : Nat
 is0 : Int
noncomputable def D4 {α : Type} (kk : V1 → α) (x : V0) : α := let t1 := (lp (E9 (⟨(rt (tLs tP) x.ya5), (↑(List.length x.ya5) : Int)⟩ : H8)) (⟨0⟩ : o3)); (sl ((cnE (tLs tP) x.ya5) && true) (sl (Nat.beq t1.1 1) (kk ⟨1, t1.2.is8⟩) (sl (Nat.beq t1.1 2) (kk ⟨1, (-1)⟩) (kk ⟨0, 0⟩))) (kk ⟨0, 0⟩))
noncomputable def ja8 (x : V0) : V1 := D4 (fun r => r) x
noncomputable def ha3 (x : V0) (r : V1) : DT (b7 × List b8) := (.ite (Nat.beq r.alt 1) (.ret ((i r.is0), [])) .fail)
theorem sb1 {α β : Type} (F : α → β) (kk : V1 → α) (x : V0) : F (D4 kk x) = D4 (fun r => F (kk r)) x := by unfold D4; (repeat' apply k9 (f := F)) <;> rfl
noncomputable def Fa3 : Sum := Pa4 ⟨[(.s (.c 1 (nL (tLs tP)))), (.s (.o (.fn 168)))], [], fun a H => (⟨(rL (tLs tP) (slT a 0))⟩, ())⟩ (fun x => ha3 x (ja8 x))
theorem nb4 : g9 prog G 207 Fa3 := J5 (enc := fun x => ⟨[(eL (tLs tP) x.ya5), (.fn 168 [])], []⟩) (fun a H => by kernel_rfl) (bd if0 hb6) fun x => sa6 (.s .p (.s (.s .p (.b (.u ea3.ls))) .p)) [ea3.pr] (by kernel_rfl) (.cons db8 .nil) (Eq.trans (b := D4 (fun r => (ha3 x r).run) x) (by kernel_rfl) (sb1 (fun r => (ha3 x r).run) (fun r => r) x).symm)
structure N4 where
 ya5 : List (List Pln)
noncomputable def ab2 : List (Nat × Sum) := [(207, Fa3)]
theorem Wa2 : i6 prog G ab2 := ⟨nb4, trivial⟩
structure N5 where
 alt : Nat
 bs0 : Bool
noncomputable def A0 {α : Type} (kk : N5 → α) (x : N4) : α := let t1 := (ja8 ⟨(rt (tLs tP) x.ya5)⟩); (sl ((cnE (tLs tP) x.ya5) && true) (sl (Nat.beq t1.alt 1) (kk ⟨1, (decide (t1.is0 ≥ 0))⟩) (kk ⟨0, false⟩)) (kk ⟨0, false⟩))
noncomputable def ba9 (x : N4) : N5 := A0 (fun r => r) x
noncomputable def Z9 (x : N4) (r : N5) : DT (b7 × List b8) := (.ite (Nat.beq r.alt 1) (.ret ((b r.bs0), [])) .fail)
theorem db9 {α β : Type} (F : α → β) (kk : N5 → α) (x : N4) : F (A0 kk x) = A0 (fun r => F (kk r)) x := by unfold A0; (repeat' apply k9 (f := F)) <;> rfl
noncomputable def va6 : Sum := Pa4 ⟨[(.s (.c 1 (nL (tLs tP)))), (.s (.o (.fn 168)))], [], fun a H => (⟨(rL (tLs tP) (slT a 0))⟩, ())⟩ (fun x => Z9 x (ba9 x))
theorem ab3 : g9 prog G 157 va6 := J5 (enc := fun x => ⟨[(eL (tLs tP) x.ya5), (.fn 168 [])], []⟩) (fun a H => by kernel_rfl) (bd ff4 Wa2) fun x => r9 (Eq.trans (b := A0 (fun r => (Z9 x r).run) x) (by kernel_rfl) (db9 (fun r => (Z9 x r).run) (fun r => r) x).symm)
noncomputable def Zc1 : List (Nat × Sum) := [(157, va6)]
theorem Oc5 : i6 prog G Zc1 := ⟨ab3, trivial⟩
noncomputable def Ra4 (x : List (List Pln)) : Option (b7 × List b8) := let t1 := (ba9 ⟨(rt (tLs tP) x)⟩); (sl ((cnE (tLs tP) x) && true) (sl (Nat.beq t1.alt 1) (some ((b (!t1.bs0)), [])) none) none)
noncomputable def ea4 (x : List (List Pln)) : Bool := K5 (one r1B) (Ra4 x)
noncomputable def ea5 (x : List (List Pln)) : Bool := okO (one r1B) (Ra4 x)
noncomputable def Ea5 : Sum := R3 (W7 (tLs tP)) (fun x => .guard (ea5 x) (.ret ((one r1B).enc (ea4 x), [])))
theorem Ha9 : g9 prog G 87 Ea5 := za1 (bd b87 Oc5) (one r1B) (o := Ra4) fun x => r9 (by kernel_rfl)
structure ea6 where
 na5 : Int
 na6 : Int
 na7 : Int
 qb8 : Int
 f9 : Int
 b9 : Int
 g7 : Int
 d9 : Int
noncomputable def Bb6 : List (Nat × Sum) := [(102, ub9)]
theorem xb8 : i6 prog G Bb6 := ⟨Gb0, trivial⟩
structure S8 where
 bs0 : Bool
noncomputable def S9 {α : Type} (kk : S8 → α) (x : ea6) : α := let t1 := (sa8 (⟨(⟨x.f9, x.b9, x.g7⟩ : V3), x.d9⟩ : Pln) (⟨x.na5, x.na6, x.na7, x.qb8⟩ : Pt)); (kk ⟨(decide (t1 > 0))⟩)
noncomputable def ta6 (x : ea6) : S8 := S9 (fun r => r) x
noncomputable def ra0 (x : ea6) (r : S8) : DT (b7 × List b8) := .ret ((b r.bs0), [⟨0, 4, [[(i x.f9), (i x.b9), (i x.g7), (i x.d9)]], true, false, 0⟩])
theorem Gb8 {α β : Type} (F : α → β) (kk : S8 → α) (x : ea6) : F (S9 kk x) = S9 (fun r => F (kk r)) x := by unfold S9; (repeat' apply k9 (f := F)) <;> rfl
noncomputable def Ra5 : Sum := Pa4 ⟨[(.agg [(.o (.int .i64)), (.o (.int .i64)), (.o (.int .i64)), (.o (.int .i64))]), (.s (.o (.ptr 0 0 0 0)))], [⟨0, 4, true, (some [[(.o (.int .i64)), (.o (.int .i64)), (.o (.int .i64)), (.o (.int .i64))]])⟩], fun a H => (⟨(toI (slT (cellsOf (slT a 0)) 0)), (toI (slT (cellsOf (slT a 0)) 1)), (toI (slT (cellsOf (slT a 0)) 2)), (toI (slT (cellsOf (slT a 0)) 3)), (toI (slT (rwT (elT H 0) 0) 0)), (toI (slT (rwT (elT H 0) 0) 1)), (toI (slT (rwT (elT H 0) 0) 2)), (toI (slT (rwT (elT H 0) 0) 3))⟩, ())⟩ (fun x => ra0 x (ta6 x))
theorem Bb7 : g9 prog G 176 Ra5 := J5 (enc := fun x => ⟨[(.agg [(i x.na5), (i x.na6), (i x.na7), (i x.qb8)]), (.ptr 0 0 0 0)], [⟨0, 4, [[(i x.f9), (i x.b9), (i x.g7), (i x.d9)]], true, false, 0⟩]⟩) (fun a H => by kernel_rfl) (bd gf6 xb8) fun x => r9 (Eq.trans (b := S9 (fun r => (ra0 x r).run) x) (by kernel_rfl) (Gb8 (fun r => (ra0 x r).run) (fun r => r) x).symm)
structure Y5 where
 B3 : List Pt
 f9 : Int
 b9 : Int
 g7 : Int
 d9 : Int
noncomputable def Fa4 : List (Nat × Sum) := [(176, Ra5)]
theorem nb5 : i6 prog G Fa4 := ⟨Bb7, trivial⟩
structure K0 where
 B3 : List Pt
 is7 : Int
 f9 : Int
 b9 : Int
 g7 : Int
 d9 : Int
structure p4 where
 is8 : Int
noncomputable def hb7 (p : K0) (s : p4) : St := ⟨((eL tX p.B3) :: ((.fn 176 [(.ptr 0 0 0 0)]) :: (ra 5 ((i p.is7) :: ((i s.is8) :: (ra 10 [])))))), [⟨0, 4, [[(i p.f9), (i p.b9), (i p.g7), (i p.d9)]], true, false, 0⟩]⟩
noncomputable def F4 {α : Type} (k : p4 → α) (e : Nat → α) (z : α) (p : K0) (s : p4) : α := let t1 := (ta6 ⟨(gL tX p.B3 s.is8.toNat).px, (gL tX p.B3 s.is8.toNat).py, (gL tX p.B3 s.is8.toNat).pz, (gL tX p.B3 s.is8.toNat).pw, p.f9, p.b9, p.g7, p.d9⟩); (sl (decide (s.is8 < p.is7)) (sl (inB s.is8 (List.length p.B3)) (sl t1.bs0 (e 1) (k ⟨(W (s.is8 + 1))⟩)) z) (e 2))
noncomputable def H9 (p : K0) (s : p4) : Stp p4 := F4 .next .exit .fail p s
noncomputable def ha4 : Lo K0 p4 := ⟨En Fa4, 1, ke1, [1, 0, 1, 4, 4], [0, 1, 7, 8], .p, [⟨((.s (.c 4 (nL tX))) :: ((.fn 176 [(.o (.ptr 0 0 0 0))]) :: (ru2 5 ((.s (.o (.int .i64))) :: ((.s (.o (.int .i64))) :: (ru2 10 [])))))), [⟨0, 4, true, (some [[(.o (.int .i64)), (.o (.int .i64)), (.o (.int .i64)), (.o (.int .i64))]])⟩], fun a H => (⟨(rL tX (slT a 0)), (toI (slT a 7)), (toI (slT (rwT (elT H 0) 0) 0)), (toI (slT (rwT (elT H 0) 0) 1)), (toI (slT (rwT (elT H 0) 0) 2)), (toI (slT (rwT (elT H 0) 0) 3))⟩, ⟨(toI (slT a 8))⟩)⟩], H9, [(none, fun p s => ⟨[(i s.is8)], [⟨0, 4, [[(i p.f9), (i p.b9), (i p.g7), (i p.d9)]], true, false, 0⟩]⟩), (some 0, fun p s => ⟨((eL tX p.B3) :: ((.fn 176 [(.ptr 0 0 0 0)]) :: (ra 5 ((i p.is7) :: ((i s.is8) :: ((b (decide (s.is8 < p.is7))) :: (ra 9 []))))))), [⟨0, 4, [[(i p.f9), (i p.b9), (i p.g7), (i p.d9)]], true, false, 0⟩]⟩)], hb7⟩
theorem hb8 : ha4.Ok := Lo.ok [] (by kernel_rfl) .nil rfl (.cons (fun a H => by kernel_rfl) .nil) fun p s => (.of @F4 (fun F _ _ _ _ _ => by unfold F4; (repeat' apply k9 (f := F)) <;> rfl) (by kernel_rfl))
structure Y6 where
 alt : Nat
 is0 : Int
noncomputable def G1 {α : Type} (kk : Y6 → α) (x : Y5) : α := let t1 := (lp (H9 (⟨(rt tX x.B3), (↑(List.length x.B3) : Int), x.f9, x.b9, x.g7, x.d9⟩ : K0)) (⟨0⟩ : p4)); (sl ((cnE tX x.B3) && true) (sl (Nat.beq t1.1 1) (kk ⟨1, t1.2.is8⟩) (sl (Nat.beq t1.1 2) (kk ⟨1, (-1)⟩) (kk ⟨0, 0⟩))) (kk ⟨0, 0⟩))
noncomputable def oa3 (x : Y5) : Y6 := G1 (fun r => r) x
noncomputable def ja9 (x : Y5) (r : Y6) : DT (b7 × List b8) := (.ite (Nat.beq r.alt 1) (.ret ((i r.is0), [⟨0, 4, [[(i x.f9), (i x.b9), (i x.g7), (i x.d9)]], true, false, 0⟩])) .fail)
theorem xb9 {α β : Type} (F : α → β) (kk : Y6 → α) (x : Y5) : F (G1 kk x) = G1 (fun r => F (kk r)) x := by unfold G1; (repeat' apply k9 (f := F)) <;> rfl
noncomputable def Ia0 : Sum := Pa4 ⟨[(.s (.c 4 (nL tX))), (.fn 176 [(.o (.ptr 0 0 0 0))])], [⟨0, 4, true, (some [[(.o (.int .i64)), (.o (.int .i64)), (.o (.int .i64)), (.o (.int .i64))]])⟩], fun a H => (⟨(rL tX (slT a 0)), (toI (slT (rwT (elT H 0) 0) 0)), (toI (slT (rwT (elT H 0) 0) 1)), (toI (slT (rwT (elT H 0) 0) 2)), (toI (slT (rwT (elT H 0) 0) 3))⟩, ())⟩ (fun x => ja9 x (oa3 x))
theorem sb2 : g9 prog G 185 Ia0 := J5 (enc := fun x => ⟨[(eL tX x.B3), (.fn 176 [(.ptr 0 0 0 0)])], [⟨0, 4, [[(i x.f9), (i x.b9), (i x.g7), (i x.d9)]], true, false, 0⟩]⟩) (fun a H => by kernel_rfl) (bd We7 nb5) fun x => sa6 (.s .p (.s (.s .p (.b (.u ha4.ls))) .p)) [ha4.pr] (by kernel_rfl) (.cons hb8 .nil) (Eq.trans (b := G1 (fun r => (ja9 x r).run) x) (by kernel_rfl) (xb9 (fun r => (ja9 x r).run) (fun r => r) x).symm)
structure P9 where
 B3 : List Pt
 f9 : Int
 b9 : Int
 g7 : Int
 d9 : Int
noncomputable def eb0 : List (Nat × Sum) := [(185, Ia0)]
theorem ab4 : i6 prog G eb0 := ⟨sb2, trivial⟩
structure Q0 where
 alt : Nat
 bs0 : Bool
noncomputable def B0 {α : Type} (kk : Q0 → α) (x : P9) : α := let t1 := (oa3 ⟨(rt tX x.B3), x.f9, x.b9, x.g7, x.d9⟩); (sl ((cnE tX x.B3) && true) (sl (Nat.beq t1.alt 1) (kk ⟨1, (decide (t1.is0 ≥ 0))⟩) (kk ⟨0, false⟩)) (kk ⟨0, false⟩))
noncomputable def ea7 (x : P9) : Q0 := B0 (fun r => r) x
noncomputable def ca0 (x : P9) (r : Q0) : DT (b7 × List b8) := (.ite (Nat.beq r.alt 1) (.ret ((b r.bs0), [⟨0, 4, [[(i x.f9), (i x.b9), (i x.g7), (i x.d9)]], true, false, 0⟩])) .fail)
theorem hb9 {α β : Type} (F : α → β) (kk : Q0 → α) (x : P9) : F (B0 kk x) = B0 (fun r => F (kk r)) x := by unfold B0; (repeat' apply k9 (f := F)) <;> rfl
noncomputable def ya8 : Sum := Pa4 ⟨[(.s (.c 4 (nL tX))), (.fn 176 [(.o (.ptr 0 0 0 0))])], [⟨0, 4, true, (some [[(.o (.int .i64)), (.o (.int .i64)), (.o (.int .i64)), (.o (.int .i64))]])⟩], fun a H => (⟨(rL tX (slT a 0)), (toI (slT (rwT (elT H 0) 0) 0)), (toI (slT (rwT (elT H 0) 0) 1)), (toI (slT (rwT (elT H 0) 0) 2)), (toI (slT (rwT (elT H 0) 0) 3))⟩, ())⟩ (fun x => ca0 x (ea7 x))
theorem eb1 : g9 prog G 113 ya8 := J5 (enc := fun x => ⟨[(eL tX x.B3), (.fn 176 [(.ptr 0 0 0 0)])], [⟨0, 4, [[(i x.f9), (i x.b9), (i x.g7), (i x.d9)]], true, false, 0⟩]⟩) (fun a H => by kernel_rfl) (bd We6 ab4) fun x => r9 (Eq.trans (b := B0 (fun r => (ca0 x r).run) x) (by kernel_rfl) (hb9 (fun r => (ca0 x r).run) (fun r => r) x).symm)
structure ma1 where
 na5 : Int
 na6 : Int
 na7 : Int
 qb8 : Int
 g8 : List Pt
noncomputable def Kb8 : List (Nat × Sum) := [(113, ya8)]
theorem Gb9 : i6 prog G Kb8 := ⟨eb1, trivial⟩
structure aa0 where
 alt : Nat
 bs0 : Bool
noncomputable def P0 {α : Type} (kk : aa0 → α) (x : ma1) : α := let t1 := (ea7 ⟨(rt tX x.g8), x.na5, x.na6, x.na7, x.qb8⟩); (sl ((cnE tX x.g8) && true) (sl (Nat.beq t1.alt 1) (kk ⟨1, (!t1.bs0)⟩) (kk ⟨0, false⟩)) (kk ⟨0, false⟩))
noncomputable def ma2 (x : ma1) : aa0 := P0 (fun r => r) x
noncomputable def ya3 (x : ma1) (r : aa0) : DT (b7 × List b8) := (.ite (Nat.beq r.alt 1) (.ret ((b r.bs0), [⟨0, 1, [[(eL tX x.g8)]], true, false, 0⟩])) .fail)
theorem Rb1 {α β : Type} (F : α → β) (kk : aa0 → α) (x : ma1) : F (P0 kk x) = P0 (fun r => F (kk r)) x := by unfold P0; (repeat' apply k9 (f := F)) <;> rfl
noncomputable def ab5 : Sum := Pa4 ⟨[(.agg [(.o (.int .i64)), (.o (.int .i64)), (.o (.int .i64)), (.o (.int .i64))]), (.s (.o (.ptr 0 0 0 0)))], [⟨0, 1, true, (some [[(.c 4 (nL tX))]])⟩], fun a H => (⟨(toI (slT (cellsOf (slT a 0)) 0)), (toI (slT (cellsOf (slT a 0)) 1)), (toI (slT (cellsOf (slT a 0)) 2)), (toI (slT (cellsOf (slT a 0)) 3)), (rL tX (slT (rwT (elT H 0) 0) 0))⟩, ())⟩ (fun x => ya3 x (ma2 x))
theorem Kb9 : g9 prog G 175 ab5 := J5 (enc := fun x => ⟨[(.agg [(i x.na5), (i x.na6), (i x.na7), (i x.qb8)]), (.ptr 0 0 0 0)], [⟨0, 1, [[(eL tX x.g8)]], true, false, 0⟩]⟩) (fun a H => by kernel_rfl) (bd gf5 Gb9) fun x => r9 (Eq.trans (b := P0 (fun r => (ya3 x r).run) x) (by kernel_rfl) (Rb1 (fun r => (ya3 x r).run) (fun r => r) x).symm)
structure V2 where
 c7 : List Pln
 g8 : List Pt
noncomputable def Ba5 : List (Nat × Sum) := [(175, ab5)]
theorem ib0 : i6 prog G Ba5 := ⟨Kb9, trivial⟩
structure I0 where
 c7 : List Pln
 is7 : Int
structure o4 where
 is8 : Int
 g8 : List Pt
noncomputable def eb2 (p : I0) (s : o4) : St := ⟨((eL tP p.c7) :: ((.fn 175 [(.ptr 0 0 0 0)]) :: (ra 5 ((i p.is7) :: ((i s.is8) :: (ra 10 [])))))), [⟨0, 1, [[(eL tX s.g8)]], true, false, 0⟩]⟩
noncomputable def C8 {α : Type} (k : o4 → α) (e : Nat → α) (z : α) (p : I0) (s : o4) : α := let t1 := (ma2 ⟨(gL tP p.c7 s.is8.toNat).n.x, (gL tP p.c7 s.is8.toNat).n.y, (gL tP p.c7 s.is8.toNat).n.z, (gL tP p.c7 s.is8.toNat).b, (rt tX s.g8)⟩); (sl (decide (s.is8 < p.is7)) (sl (inB s.is8 (List.length p.c7)) (sl ((cnE tX s.g8) && true) (sl (Nat.beq t1.alt 1) (sl t1.bs0 (e 1) (k ⟨(W (s.is8 + 1)), (rt tX s.g8)⟩)) z) z) z) (e 2))
noncomputable def F5 (p : I0) (s : o4) : Stp o4 := C8 .next .exit .fail p s
noncomputable def ea8 : Lo I0 o4 := ⟨En Ba5, 1, Ge0, [1, 0, 1, 4, 4], [0, 1, 7, 8], .p, [⟨((.s (.c 4 (nL tP))) :: ((.fn 175 [(.o (.ptr 0 0 0 0))]) :: (ru2 5 ((.s (.o (.int .i64))) :: ((.s (.o (.int .i64))) :: (ru2 10 [])))))), [⟨0, 1, true, (some [[(.c 4 (nL tX))]])⟩], fun a H => (⟨(rL tP (slT a 0)), (toI (slT a 7))⟩, ⟨(toI (slT a 8)), (rL tX (slT (rwT (elT H 0) 0) 0))⟩)⟩], F5, [(none, fun p s => ⟨[(i s.is8)], [⟨0, 1, [[(eL tX (rt tX s.g8))]], true, false, 0⟩]⟩), (some 0, fun p s => ⟨((eL tP p.c7) :: ((.fn 175 [(.ptr 0 0 0 0)]) :: (ra 5 ((i p.is7) :: ((i s.is8) :: ((b (decide (s.is8 < p.is7))) :: (ra 9 []))))))), [⟨0, 1, [[(eL tX s.g8)]], true, false, 0⟩]⟩)], eb2⟩
theorem eb3 : ea8.Ok := Lo.ok [] (by kernel_rfl) .nil rfl (.cons (fun a H => by kernel_rfl) .nil) fun p s => (.of @C8 (fun F _ _ _ _ _ => by unfold C8; (repeat' apply k9 (f := F)) <;> rfl) (by kernel_rfl))
structure V4 where
 alt : Nat
 is0 : Int
 g8 : List Pt
noncomputable def D5 {α : Type} (kk : V4 → α) (x : V2) : α := let t1 := (lp (F5 (⟨(rt tP x.c7), (↑(List.length x.c7) : Int)⟩ : I0)) (⟨0, (rt tX x.g8)⟩ : o4)); (sl ((cnE tP x.c7) && ((cnE tX x.g8) && true)) (sl (Nat.beq t1.1 1) (kk ⟨1, t1.2.is8, (rt tX t1.2.g8)⟩) (sl (Nat.beq t1.1 2) (kk ⟨1, (-1), t1.2.g8⟩) (kk ⟨0, 0, []⟩))) (kk ⟨0, 0, []⟩))
noncomputable def ka0 (x : V2) : V4 := D5 (fun r => r) x
noncomputable def ha5 (x : V2) (r : V4) : DT (b7 × List b8) := (.ite (Nat.beq r.alt 1) (.ret ((i r.is0), [⟨0, 1, [[(eL tX r.g8)]], true, false, 0⟩])) .fail)
theorem sb3 {α β : Type} (F : α → β) (kk : V4 → α) (x : V2) : F (D5 kk x) = D5 (fun r => F (kk r)) x := by unfold D5; (repeat' apply k9 (f := F)) <;> rfl
noncomputable def Fa5 : Sum := Pa4 ⟨[(.s (.c 4 (nL tP))), (.fn 175 [(.o (.ptr 0 0 0 0))])], [⟨0, 1, true, (some [[(.c 4 (nL tX))]])⟩], fun a H => (⟨(rL tP (slT a 0)), (rL tX (slT (rwT (elT H 0) 0) 0))⟩, ())⟩ (fun x => ha5 x (ka0 x))
theorem nb6 : g9 prog G 221 Fa5 := J5 (enc := fun x => ⟨[(eL tP x.c7), (.fn 175 [(.ptr 0 0 0 0)])], [⟨0, 1, [[(eL tX x.g8)]], true, false, 0⟩]⟩) (fun a H => by kernel_rfl) (bd if7 ib0) fun x => sa6 (.s .p (.s (.s .p (.b (.u ea8.ls))) .p)) [ea8.pr] (by kernel_rfl) (.cons eb3 .nil) (Eq.trans (b := D5 (fun r => (ha5 x r).run) x) (by kernel_rfl) (sb3 (fun r => (ha5 x r).run) (fun r => r) x).symm)
structure N6 where
 c7 : List Pln
 g8 : List Pt
noncomputable def ab6 : List (Nat × Sum) := [(221, Fa5)]
theorem Wa3 : i6 prog G ab6 := ⟨nb6, trivial⟩
structure N7 where
 alt : Nat
 bs0 : Bool
 g8 : List Pt
noncomputable def A1 {α : Type} (kk : N7 → α) (x : N6) : α := let t1 := (ka0 ⟨(rt tP x.c7), (rt tX x.g8)⟩); (sl ((cnE tP x.c7) && ((cnE tX x.g8) && true)) (sl (Nat.beq t1.alt 1) (kk ⟨1, (decide (t1.is0 ≥ 0)), t1.g8⟩) (kk ⟨0, false, []⟩)) (kk ⟨0, false, []⟩))
noncomputable def ca1 (x : N6) : N7 := A1 (fun r => r) x
noncomputable def aa1 (x : N6) (r : N7) : DT (b7 × List b8) := (.ite (Nat.beq r.alt 1) (.ret ((b r.bs0), [⟨0, 1, [[(eL tX r.g8)]], true, false, 0⟩])) .fail)
theorem eb4 {α β : Type} (F : α → β) (kk : N7 → α) (x : N6) : F (A1 kk x) = A1 (fun r => F (kk r)) x := by unfold A1; (repeat' apply k9 (f := F)) <;> rfl
noncomputable def va7 : Sum := Pa4 ⟨[(.s (.c 4 (nL tP))), (.fn 175 [(.o (.ptr 0 0 0 0))])], [⟨0, 1, true, (some [[(.c 4 (nL tX))]])⟩], fun a H => (⟨(rL tP (slT a 0)), (rL tX (slT (rwT (elT H 0) 0) 0))⟩, ())⟩ (fun x => aa1 x (ca1 x))
theorem ab7 : g9 prog G 174 va7 := J5 (enc := fun x => ⟨[(eL tP x.c7), (.fn 175 [(.ptr 0 0 0 0)])], [⟨0, 1, [[(eL tX x.g8)]], true, false, 0⟩]⟩) (fun a H => by kernel_rfl) (bd gf4 Wa3) fun x => r9 (Eq.trans (b := A1 (fun r => (aa1 x r).run) x) (by kernel_rfl) (eb4 (fun r => (aa1 x r).run) (fun r => r) x).symm)
noncomputable def Yb5 : List (Nat × Sum) := [(89, ya2), (174, va7)]
theorem Rb2 : i6 prog G Yb5 := ⟨Qa4, ab7, trivial⟩
noncomputable def ha6 (x : List Pln) : Option (b7 × List b8) := let t1 := (W9 (rt tP x)); let t2 := (ca1 ⟨(rt tP x), (rt tX t1)⟩); (sl (okE tP x) (sl (X0 (rt tP x)) (sl ((cnE tP x) && ((cnE tX t1) && true)) (sl (Nat.beq t2.alt 1) (some ((b (!t2.bs0)), [])) none) none) none) none)
noncomputable def ha7 (x : List Pln) : Bool := K5 (one r1B) (ha6 x)
noncomputable def ha8 (x : List Pln) : Bool := okO (one r1B) (ha6 x)
noncomputable def Ma1 : Sum := R3 (W7 tP) (fun x => .guard (ha8 x) (.ret ((one r1B).enc (ha7 x), [])))
theorem gb0 : g9 prog G 92 Ma1 := za1 (bd b92 Rb2) (one r1B) (o := ha6) fun x => r9 (by kernel_rfl)
noncomputable def Oc6 : List (Nat × Sum) := [(87, Ea5), (88, Wb2), (89, ya2)]
theorem Dc1 : i6 prog G Oc6 := ⟨Ha9, fc0, Qa4, trivial⟩
noncomputable def Ia1 (x : List Pln) : Option (b7 × List b8) := let t1 := (ea4 [(rt tP x)]); let t2 := (Wa0 [(rt tP x)]); let t3 := (W9 (rt tP t2)); (sl ((okE tP x) && true) (sl (ea5 [(rt tP x)]) (sl (!t1) (some ((.v (.slice none 0 0)), [])) (sl ((okE tP x) && true) (sl (Wa1 [(rt tP x)]) (sl (okE tP t2) (sl (X0 (rt tP t2)) (some ((eL tX t3), [])) none) none) none) none)) none) none)
noncomputable def Q9 (x : List Pln) : List Pt := K5 (one (r1L tX)) (Ia1 x)
noncomputable def R2 (x : List Pln) : Bool := okO (one (r1L tX)) (Ia1 x)
noncomputable def oa4 : Sum := R3 (W7 tP) (fun x => .guard (R2 x) (.ret ((one (r1L tX)).enc (Q9 x), [])))
theorem ra1 : g9 prog G 18 oa4 := za1 (bd b18 Dc1) (one (r1L tX)) (o := Ia1) fun x => r9 (by kernel_rfl)
noncomputable def pd7 : List (Nat × Sum) := [(87, Ea5), (88, Wb2), (92, Ma1)]
theorem Zc2 : i6 prog G pd7 := ⟨Ha9, fc0, gb0, trivial⟩
noncomputable def ab8 (x : List Pln) : Option (b7 × List b8) := let t1 := (ea4 [(rt tP x)]); let t2 := (Wa0 [(rt tP x)]); let t3 := (ha7 (rt tP t2)); (sl ((okE tP x) && true) (sl (ea5 [(rt tP x)]) (sl t1 (sl ((okE tP x) && true) (sl (Wa1 [(rt tP x)]) (sl (okE tP t2) (sl (ha8 (rt tP t2)) (some ((b t3), [])) none) none) none) none) (some ((b false), []))) none) none)
noncomputable def aa2 (x : List Pln) : Bool := K5 (one r1B) (ab8 x)
noncomputable def aa3 (x : List Pln) : Bool := okO (one r1B) (ab8 x)
noncomputable def sa9 : Sum := R3 (W7 tP) (fun x => .guard (aa3 x) (.ret ((one r1B).enc (aa2 x), [])))
theorem ta7 : g9 prog G 20 sa9 := za1 (bd b20 Zc2) (one r1B) (o := ab8) fun x => r9 (by kernel_rfl)
noncomputable def Zc3 : List (Nat × Sum) := []
theorem Oc7 : i6 prog G Zc3 := trivial
noncomputable def Ra6 (x : Int) (y : Int) : Option (b7 × List b8) := (sl (y == 0) none (sl (y == 0) none (sl (decide ((Int.tmod x y) < 0)) (some ((i (W ((W (Int.tdiv x y)) - 1))), [])) (some ((i (W (Int.tdiv x y))), [])))))
noncomputable def ea9 (x : Int) (y : Int) : Int := K5 (one r1I) (Ra6 x y)
noncomputable def fa0 (x : Int) (y : Int) : Bool := okO (one r1I) (Ra6 x y)
noncomputable def nc4 : Sum := oa1 cI cI (fun x y => .guard (fa0 x y) (.ret ((one r1I).enc (ea9 x y), [])))
theorem Zc4 : g9 prog G 95 nc4 := gb5 (bd b95 Oc7) (one r1I) (o := Ra6) fun x y => r9 (by kernel_rfl)
noncomputable def bc3 : List (Nat × Sum) := [(20, sa9), (94, Fb9), (18, oa4), (95, nc4)]
theorem Oc8 : i6 prog G bc3 := ⟨ta7, ac9, ra1, Zc4, trivial⟩
structure Ba6 where
 X9 : List Pt
 De3 : Int
structure aa4 where
 ia9 : Int
 ga0 : Int
 ga1 : Int
 ga2 : Int
 Xb5 : Int
 Xb6 : Int
 Xb7 : Int
noncomputable def Dc2 (p : Ba6) (s : aa4) : St := ⟨(.unk :: (.unk :: ((.ptr 0 0 0 0) :: ((.ptr 1 0 0 0) :: (.unk :: ((.ptr 2 0 0 0) :: ((.ptr 3 0 0 0) :: (ra 11 ((eL tX p.X9) :: ((i p.De3) :: ((i s.ia9) :: (ra 62 [])))))))))))), [⟨0, 3, [[(i 0), (i 0), (i 0)]], true, false, 0⟩, ⟨0, 3, [[(i 0), (i 0), (i 0)]], true, false, 0⟩, ⟨0, 3, [[(i s.ga0), (i s.ga1), (i s.ga2)]], true, false, 0⟩, ⟨0, 3, [[(i s.Xb5), (i s.Xb6), (i s.Xb7)]], true, false, 0⟩]⟩
noncomputable def ra2 {α : Type} (k : aa4 → α) (e : Nat → α) (z : α) (p : Ba6) (s : aa4) : α := let t1 := (ea9 (gL tX p.X9 s.ia9.toNat).px (gL tX p.X9 s.ia9.toNat).pw); let t2 := (ea9 (gL tX p.X9 s.ia9.toNat).py (gL tX p.X9 s.ia9.toNat).pw); let t3 := (ea9 (gL tX p.X9 s.ia9.toNat).pz (gL tX p.X9 s.ia9.toNat).pw); let t4 := (ea9 (W (0 - (gL tX p.X9 s.ia9.toNat).px)) (gL tX p.X9 s.ia9.toNat).pw); let t5 := (ea9 (W (0 - (gL tX p.X9 s.ia9.toNat).py)) (gL tX p.X9 s.ia9.toNat).pw); let t6 := (ea9 (W (0 - (gL tX p.X9 s.ia9.toNat).pz)) (gL tX p.X9 s.ia9.toNat).pw); (sl (decide (s.ia9 < p.De3)) (sl (inB s.ia9 (List.length p.X9)) (sl (fa0 (gL tX p.X9 s.ia9.toNat).px (gL tX p.X9 s.ia9.toNat).pw) (sl (fa0 (gL tX p.X9 s.ia9.toNat).py (gL tX p.X9 s.ia9.toNat).pw) (sl (fa0 (gL tX p.X9 s.ia9.toNat).pz (gL tX p.X9 s.ia9.toNat).pw) (sl (fa0 (W (0 - (gL tX p.X9 s.ia9.toNat).px)) (gL tX p.X9 s.ia9.toNat).pw) (sl (fa0 (W (0 - (gL tX p.X9 s.ia9.toNat).py)) (gL tX p.X9 s.ia9.toNat).pw) (sl (fa0 (W (0 - (gL tX p.X9 s.ia9.toNat).pz)) (gL tX p.X9 s.ia9.toNat).pw) (k ⟨(W (s.ia9 + 1)), (if t1 < s.ga0 then t1 else s.ga0), (if t2 < s.ga1 then t2 else s.ga1), (if t3 < s.ga2 then t3 else s.ga2), (if (W (0 - t4)) > s.Xb5 then (W (0 - t4)) else s.Xb5), (if (W (0 - t5)) > s.Xb6 then (W (0 - t5)) else s.Xb6), (if (W (0 - t6)) > s.Xb7 then (W (0 - t6)) else s.Xb7)⟩) z) z) z) z) z) z) z) (e 1))
noncomputable def ka7 (p : Ba6) (s : aa4) : Stp aa4 := ra2 .next .exit .fail p s
noncomputable def nb7 : Lo Ba6 aa4 := ⟨En bc3, 0, Se6, [1, 1, 1, 1, 0, 1, 4, 4], [2, 3, 5, 6, 18, 19, 20], .p, [⟨((.s (.o .unk)) :: ((.s (.o .unk)) :: ((.s (.o (.ptr 0 0 0 0))) :: ((.s (.o (.ptr 1 0 0 0))) :: ((.s (.o .unk)) :: ((.s (.o (.ptr 2 0 0 0))) :: ((.s (.o (.ptr 3 0 0 0))) :: (ru2 11 ((.s (.c 4 (nL tX))) :: ((.s (.o (.int .i64))) :: ((.s (.o (.int .i64))) :: (ru2 62 [])))))))))))), [⟨0, 3, true, (some [[(.o (.lit .i64 0)), (.o (.lit .i64 0)), (.o (.lit .i64 0))]])⟩, ⟨0, 3, true, (some [[(.o (.lit .i64 0)), (.o (.lit .i64 0)), (.o (.lit .i64 0))]])⟩, ⟨0, 3, true, (some [[(.o (.int .i64)), (.o (.int .i64)), (.o (.int .i64))]])⟩, ⟨0, 3, true, (some [[(.o (.int .i64)), (.o (.int .i64)), (.o (.int .i64))]])⟩], fun a H => (⟨(rL tX (slT a 18)), (toI (slT a 19))⟩, ⟨(toI (slT a 20)), (toI (slT (rwT (elT H 2) 0) 0)), (toI (slT (rwT (elT H 2) 0) 1)), (toI (slT (rwT (elT H 2) 0) 2)), (toI (slT (rwT (elT H 3) 0) 0)), (toI (slT (rwT (elT H 3) 0) 1)), (toI (slT (rwT (elT H 3) 0) 2))⟩)⟩], ka7, [(some 0, fun p s => ⟨(.unk :: (.unk :: ((.ptr 0 0 0 0) :: ((.ptr 1 0 0 0) :: (.unk :: ((.ptr 2 0 0 0) :: ((.ptr 3 0 0 0) :: (ra 11 ((eL tX p.X9) :: ((i p.De3) :: ((i s.ia9) :: ((b (decide (s.ia9 < p.De3))) :: (ra 61 []))))))))))))), [⟨0, 3, [[(i 0), (i 0), (i 0)]], true, false, 0⟩, ⟨0, 3, [[(i 0), (i 0), (i 0)]], true, false, 0⟩, ⟨0, 3, [[(i s.ga0), (i s.ga1), (i s.ga2)]], true, false, 0⟩, ⟨0, 3, [[(i s.Xb5), (i s.Xb6), (i s.Xb7)]], true, false, 0⟩]⟩)], Dc2⟩
theorem Dc3 : nb7.Ok := Lo.ok [] (by kernel_rfl) .nil rfl (.cons (fun a H => by kernel_rfl) .nil) fun p s => (.of @ra2 (fun F _ _ _ _ _ => by unfold ra2; (repeat' apply k9 (f := F)) <;> rfl) (by kernel_rfl))
noncomputable def Ra7 (x : List Pln) : Option (b7 × List b8) := let t1 := (aa2 (rt tP x)); let t2 := (S7 (⟨24, 24, 24⟩ : V3) (-1)); let t3 := (Q9 (rt tP x)); let t4 := (lp (ka7 (⟨(rt tX t3), (↑(List.length t3) : Int)⟩ : Ba6)) (⟨0, 24, 24, 24, t2.x, t2.y, t2.z⟩ : aa4)); (sl (okE tP x) (sl (aa3 (rt tP x)) (sl (!t1) (some ((.tup [(.agg [(i 0), (i 0), (i 0)]), (.agg [(i 0), (i 0), (i 0)]), (b false)]), [])) (sl (okE tP x) (sl (R2 (rt tP x)) (sl ((cnE tX t3) && true) (sl (Nat.beq t4.1 1) (some ((.tup [(.agg [(i t4.2.ga0), (i t4.2.ga1), (i t4.2.ga2)]), (.agg [(i t4.2.Xb5), (i t4.2.Xb6), (i t4.2.Xb7)]), (b true)]), [])) none) none) none) none)) none) none)
noncomputable def ib1 (x : List Pln) : V3 × V3 × Bool := K5 (ub5 r1V r1V r1B) (Ra7 x)
noncomputable def ib2 (x : List Pln) : Bool := okO (ub5 r1V r1V r1B) (Ra7 x)
noncomputable def nc5 : Sum := R3 (W7 tP) (fun x => .guard (ib2 x) (.ret ((ub5 r1V r1V r1B).enc (ib1 x), [])))
theorem Zc5 : g9 prog G 22 nc5 := za1 (bd b22 Oc8) (ub5 r1V r1V r1B) (o := Ra7) fun x => sa6 (.s .p (.s .p (.s .p (.s .p (.s (.s .p (.b (.u nb7.ls))) .p))))) [nb7.pr] (by kernel_rfl) (.cons Dc3 .nil) (by kernel_rfl)
end Go.Ev.Ce
end
namespace Go.Ev.Ce
open Go Go.Ev Go.Ev.L Go.Proofs
theorem be5 (P : Ea3) (g n : Int) (hn : n.natAbs ≤ 9223372036854775808) : lp (Ha5 P) ⟨g, n⟩ = (1, ⟨eu g n, 0⟩) :=
 Rd9 (mk := fun g n => (⟨g, n⟩ : la7)) (fun g n h => by simp [Ha5, Aa7, lb2, h]) (fun g => by simp [Ha5, Aa7, lb2]) g n hn
theorem be6 (l : List Int) (hl : l.length ≤ 1000000000) (hb : ∀ x ∈ l, x.natAbs ≤ 9223372036854775808) : lp (wa8 ⟨(l.length : Int)⟩) ⟨0, l, 0⟩ = (1, ⟨l.foldl eu 0, l, l.length⟩) := by
 have := Vb5 (step := wa8 ⟨(l.length : Int)⟩) (mk := fun j a => (⟨a, l, (j : Int)⟩ : la8)) (f := eu) (fin := 1) tI l (fun _ _ => True) hl (fun j a hj _ => ⟨by
   simp only [wa8, Aa8, Int.toNat_natCast, m0, m8, be5 _ _ _ (hb _ (Lc5 tI hj)), o9 hj (by omega)]
   rw [bt (Ob9 hj), bt (f0 hj)]
   rfl, trivial⟩) (fun a _ => by simp [wa8, Aa8, lb2]) 0 (Nat.zero_le _) 0 trivial
 simpa using this.1
theorem nc6 : ∀ (l : List Int) (g : Int), (l.foldl eu g).natAbs = l.foldl (fun a x => Nat.gcd a x.natAbs) g.natAbs
 | [], _ => rfl
 | x :: l, g => by rw [List.foldl_cons, nc6 l, List.foldl_cons, ge9]; rfl
theorem Le7 (l : List Int) (hl : l.length ≤ 1000000000) (hb : ∀ x ∈ l, x.natAbs ≤ 9223372036854775807) (h0 : (l.foldl eu 0).natAbs ≤ 9223372036854775807) : mb9 l = some (i ((l.foldl eu 0).natAbs : Int), []) := by
 unfold mb9
 simp only [m0, m8, be6 l hl (fun x hx => Nat.le_succ_of_le (hb x hx))]
 generalize l.foldl eu 0 = e at *
 have : W (0 - e) = -e := by rw [Ga0 (by omega) (by omega)]; omega
 rw [this]
 show some (i (if -e > e then -e else e), []) = _
 congr 3
 split <;> omega
theorem hd4 (x y : Int) (hx : 0 ≤ x) (hy : 0 ≤ y) (hb : y ≤ 9223372036854775807) : Pa5 x y = some (i (Int.gcd x y : Int), []) := by
 unfold Pa5
 have := Rd9 (step := ua8 ⟨⟩) (mk := fun g n => (⟨g, n⟩ : Z6)) (fun g n h => by simp [ua8, pa8, lb2, h]) (fun g => by simp [ua8, pa8, lb2]) x y (by omega)
 simp only [this, he0 hx hy]
 rfl
theorem Oc9 (x y : Int) (hx : 0 ≤ x) (hy : 0 ≤ y) (hb : y ≤ 9223372036854775807) : R6 x y = (Int.gcd x y : Int) := by unfold R6; rw [hd4 x y hx hy hb]; rfl
theorem Pc0 (x y : Int) (hx : 0 ≤ x) (hy : 0 ≤ y) (hb : y ≤ 9223372036854775807) : R7 x y = true := by unfold R7; rw [hd4 x y hx hy hb]; rfl
noncomputable def rm (p : Pln) (x : Pt) : Int := W (p.b * x.pw - (p.n.x * x.px + p.n.y * x.py + p.n.z * x.pz))
theorem pd8 (p : Pln) (x : Pt) : sa8 p x = rm p x := by
 unfold sa8 Na5 rm
 simp only [wb3, dc8, Lc4, nd3]
theorem Gc6 (p : Pln) (x : Pt) : La8 p x = rm p x := by
 unfold La8 rm
 simp only [wb3, dc8, Lc4, nd3]
 congr 1
 omega
structure Bd (p : Pln) : Prop where
 x1 : -4608 ≤ p.n.x
 x2 : p.n.x ≤ 4608
 y1 : -4608 ≤ p.n.y
 y2 : p.n.y ≤ 4608
 z1 : -4608 ≤ p.n.z
 z2 : p.n.z ≤ 4608
 b1 : -2097152 ≤ p.b
 b2 : p.b ≤ 2097152
def mv (p q r : Pln) : V3 :=
 ⟨(p7 q.n r.n).x * p.b + (p7 r.n p.n).x * q.b + (p7 p.n q.n).x * r.b,
  (p7 q.n r.n).y * p.b + (p7 r.n p.n).y * q.b + (p7 p.n q.n).y * r.b,
  (p7 q.n r.n).z * p.b + (p7 r.n p.n).z * q.b + (p7 p.n q.n).z * r.b⟩
def gc (v : V3) (w : Int) : Int := (Nat.gcd (Nat.gcd v.x.natAbs v.y.natAbs) (Nat.gcd v.z.natAbs w.natAbs) : Nat)
def mpt (p q r : Pln) : Pt × Bool :=
 if mw p q r = 0 then (⟨0, 0, 0, 0⟩, false)
 else if mw p q r < 0 then (⟨Int.tdiv (-(mv p q r).x) (gc (mv p q r) (mw p q r)), Int.tdiv (-(mv p q r).y) (gc (mv p q r) (mw p q r)), Int.tdiv (-(mv p q r).z) (gc (mv p q r) (mw p q r)), Int.tdiv (-(mw p q r)) (gc (mv p q r) (mw p q r))⟩, true)
 else (⟨Int.tdiv (mv p q r).x (gc (mv p q r) (mw p q r)), Int.tdiv (mv p q r).y (gc (mv p q r) (mw p q r)), Int.tdiv (mv p q r).z (gc (mv p q r) (mw p q r)), Int.tdiv (mw p q r) (gc (mv p q r) (mw p q r))⟩, true)
def Sm (n : Int) (x : Int) : Prop := -n ≤ x ∧ x ≤ n
theorem nc7 {a b : V3} (ha : Sm 4608 a.x ∧ Sm 4608 a.y ∧ Sm 4608 a.z) (hb : Sm 4608 b.x ∧ Sm 4608 b.y ∧ Sm 4608 b.z) : Sm 42467328 (p7 a b).x ∧ Sm 42467328 (p7 a b).y ∧ Sm 42467328 (p7 a b).z := by
 obtain ⟨⟨a1, a2⟩, ⟨a3, a4⟩, a5, a6⟩ := ha
 obtain ⟨⟨b1, b2⟩, ⟨b3, b4⟩, b5, b6⟩ := hb
 have h1 := mb a3 a4 b5 b6; have h2 := mb a5 a6 b3 b4; have h3 := mb a5 a6 b1 b2; have h4 := mb a1 a2 b5 b6; have h5 := mb a1 a2 b3 b4; have h6 := mb a3 a4 b1 b2
 unfold Sm p7
 simp only
 omega
theorem Bd.n {p : Pln} (h : Bd p) : Sm 4608 p.n.x ∧ Sm 4608 p.n.y ∧ Sm 4608 p.n.z := ⟨⟨h.x1, h.x2⟩, ⟨h.y1, h.y2⟩, h.z1, h.z2⟩
theorem ke3 {p q r : Pln} (hp : Bd p) (hq : Bd q) (hr : Bd r) : Sm 600000000000 (mw p q r) := by
 obtain ⟨⟨c1, c2⟩, ⟨c3, c4⟩, c5, c6⟩ := nc7 hq.n hr.n
 have h1 := mb hp.x1 hp.x2 c1 c2; have h2 := mb hp.y1 hp.y2 c3 c4; have h3 := mb hp.z1 hp.z2 c5 c6
 unfold Sm mw dot
 omega
theorem ke4 {p q r : Pln} (hp : Bd p) (hq : Bd q) (hr : Bd r) : Sm 300000000000000 (mv p q r).x ∧ Sm 300000000000000 (mv p q r).y ∧ Sm 300000000000000 (mv p q r).z := by
 obtain ⟨⟨c1, c2⟩, ⟨c3, c4⟩, c5, c6⟩ := nc7 hq.n hr.n
 obtain ⟨⟨d1, d2⟩, ⟨d3, d4⟩, d5, d6⟩ := nc7 hr.n hp.n
 obtain ⟨⟨e1, e2⟩, ⟨e3, e4⟩, e5, e6⟩ := nc7 hp.n hq.n
 have a1 := mb c1 c2 hp.b1 hp.b2; have a2 := mb c3 c4 hp.b1 hp.b2; have a3 := mb c5 c6 hp.b1 hp.b2
 have b1 := mb d1 d2 hq.b1 hq.b2; have b2 := mb d3 d4 hq.b1 hq.b2; have b3 := mb d5 d6 hq.b1 hq.b2
 have f1 := mb e1 e2 hr.b1 hr.b2; have f2 := mb e3 e4 hr.b1 hr.b2; have f3 := mb e5 e6 hr.b1 hr.b2
 unfold Sm mv
 simp only
 omega
theorem Gc7 (a b : V3) : Q8 a b = ⟨W (p7 a b).x, W (p7 a b).y, W (p7 a b).z⟩ := by
 unfold Q8 p7
 simp only [Lc4, nd3]
theorem nc8 (a b : V3) : T9 a b = ⟨W (p7 a b).x, W (p7 a b).y, W (p7 a b).z⟩ := by
 unfold T9 p7
 simp only [Lc4, nd3]
theorem Le8 (p q r : Pln) : dot r.n (p7 p.n q.n) = mw p q r := by unfold mw dot p7; grind
theorem jf2 (a b c d : Nat) : [a, b, c, d].foldl Nat.gcd 0 = Nat.gcd (Nat.gcd a b) (Nat.gcd c d) := by
 simp only [List.foldl_cons, List.foldl_nil, Nat.gcd_zero_left]
 rw [Nat.gcd_assoc]
theorem Pc1 {v : V3} {w : Int} (h : w ≠ 0) : 0 < gc v w := by
 unfold gc
 have : 0 < Nat.gcd v.z.natAbs w.natAbs := Nat.gcd_pos_of_pos_right _ (by omega)
 have := Nat.gcd_pos_of_pos_right (Nat.gcd v.x.natAbs v.y.natAbs) this
 omega
theorem ke5 {v : V3} {w : Int} (h : w ≠ 0) : gc v w ≤ w.natAbs := by
 unfold gc
 have h1 : Nat.gcd v.z.natAbs w.natAbs ≤ w.natAbs := Nat.gcd_le_right _ (by omega)
 have h2 : 0 < Nat.gcd v.z.natAbs w.natAbs := Nat.gcd_pos_of_pos_right _ (by omega)
 have h3 := Nat.gcd_le_right (m := Nat.gcd v.x.natAbs v.y.natAbs) (n := Nat.gcd v.z.natAbs w.natAbs) h2
 omega
theorem Ba7 {x : Int} (h : Sm 1000000000000000000 x) : W x = x := Ga0 (by have := h.1; omega) (by have := h.2; omega)
theorem Sm.mono {n m x : Int} (h : Sm n x) (hn : n ≤ m) : Sm m x := ⟨by have := h.1; omega, by have := h.2; omega⟩
theorem J6 {n x g : Int} (h : Sm n x) (hg : 0 < g) : Sm n (Int.tdiv x g) := by
 have h1 : (Int.tdiv x g).natAbs ≤ x.natAbs := by rw [Int.natAbs_tdiv]; exact Nat.div_le_self _ _
 have := h.1; have := h.2
 constructor <;> omega
theorem Nd8 {p q r : Pln} (hp : Bd p) (hq : Bd q) (hr : Bd r) (h : (mpt p q r).2 = true) : 0 < (mpt p q r).1.pw ∧ Sm 300000000000000 (mpt p q r).1.px ∧ Sm 300000000000000 (mpt p q r).1.py ∧ Sm 300000000000000 (mpt p q r).1.pz ∧ (mpt p q r).1.pw ≤ 600000000000 := by
 have hw := ke3 hp hq hr
 obtain ⟨v1, v2, v3⟩ := ke4 hp hq hr
 have neg : ∀ {n x : Int}, Sm n x → Sm n (-x) := fun h => ⟨by have := h.2; omega, by have := h.1; omega⟩
 have pos : ∀ {x : Int}, 0 < x → x.natAbs = (mw p q r).natAbs → 0 < Int.tdiv x (gc (mv p q r) (mw p q r)) := fun {x} hx he => by
  have h0 : mw p q r ≠ 0 := by omega
  have h1 := Pc1 (v := mv p q r) h0
  have h2 := ke5 (v := mv p q r) h0
  rw [Int.tdiv_eq_ediv_of_nonneg (by omega)]
  exact Int.ediv_pos_of_pos_of_dvd hx (by omega) (by
   rw [← Int.dvd_natAbs, he]
   exact Int.natCast_dvd_natCast.2 (Nat.dvd_trans (Nat.gcd_dvd_right _ _) (Nat.gcd_dvd_right _ _)))
 unfold mpt at h ⊢
 by_cases h0 : mw p q r = 0
 ·rw [if_pos h0] at h; cases h
 ·rw [if_neg h0]
  have hg := Pc1 (v := mv p q r) h0
  by_cases h1 : mw p q r < 0
  ·rw [if_pos h1]
   exact ⟨pos (by omega) (by omega), J6 (neg v1) hg, J6 (neg v2) hg, J6 (neg v3) hg, (J6 (neg hw) hg).2⟩
  ·rw [if_neg h1]
   exact ⟨pos (by omega) rfl, J6 v1 hg, J6 v2 hg, J6 v3 hg, (J6 hw hg).2⟩
theorem Sd5 {p q r : Pln} (hp : Bd p) (hq : Bd q) (hr : Bd r) : Za5 ⟨p, q, r⟩ = some (.tup [.agg (tX.row (mpt p q r).1), b (mpt p q r).2], []) := by
 have hw := ke3 hp hq hr
 obtain ⟨v1, v2, v3⟩ := ke4 hp hq hr
 have e1 : Na5 r.n (Q8 p.n q.n) = mw p q r := by
  rw [Gc7]
  unfold Na5
  simp only [wb3, dc8, ge7]
  show W (dot r.n (p7 p.n q.n)) = _
  rw [Le8, Ba7 (hw.mono (by omega))]
 have e2 : sa7 (sa7 (sa7 ⟨0, 0, 0⟩ (S7 (Q8 q.n r.n) p.b)) (S7 (Q8 r.n p.n) q.b)) (S7 (Q8 p.n q.n) r.b) = mv p q r := by
  rw [Gc7, Gc7, Gc7]
  unfold sa7 S7
  simp only [wb3, dc8, Md0, Int.zero_add]
  show (⟨W (mv p q r).x, W (mv p q r).y, W (mv p q r).z⟩ : V3) = _
  rw [Ba7 (v1.mono (by omega)), Ba7 (v2.mono (by omega)), Ba7 (v3.mono (by omega))]
 unfold Za5
 simp only [e1, e2]
 have hb : ∀ x ∈ [(mv p q r).x, (mv p q r).y, (mv p q r).z, mw p q r], x.natAbs ≤ 9223372036854775807 := by
  intro x hx
  simp only [List.mem_cons, List.not_mem_nil, or_false] at hx
  unfold Sm at *
  rcases hx with rfl | rfl | rfl | rfl <;> omega
 have hf : ([(mv p q r).x, (mv p q r).y, (mv p q r).z, mw p q r].foldl eu 0).natAbs = Nat.gcd (Nat.gcd (mv p q r).x.natAbs (mv p q r).y.natAbs) (Nat.gcd (mv p q r).z.natAbs (mw p q r).natAbs) := by
  rw [nc6, ← jf2]; rfl
 unfold mpt
 by_cases h0 : mw p q r = 0
 ·rw [bt (by rw [h0]; rfl), if_pos h0]
  rfl
 ·have hz : (mw p q r == 0) = false := by simpa using h0
  rw [bf hz, if_neg h0]
  have hgp := Pc1 (v := mv p q r) h0
  have hgl := ke5 (v := mv p q r) h0
  have hge := Le7 _ (by simp) hb (by rw [hf]; unfold gc at hgl; unfold Sm at hw; omega)
  have hgv : Gb3 [(mv p q r).x, (mv p q r).y, (mv p q r).z, mw p q r] = gc (mv p q r) (mw p q r) := by
   unfold Gb3; rw [hge, hf]; rfl
  have hgg : Gb4 [(mv p q r).x, (mv p q r).y, (mv p q r).z, mw p q r] = true := by
   unfold Gb4; rw [hge]; rfl
  rw [hgv, bt hgg]
  generalize hG : gc (mv p q r) (mw p q r) = G at *
  have hGW : W (0 - G) = -G := by unfold Sm at hw; rw [Ga0 (by omega) (by omega)]; omega
  have hGn : (-G == 0) = false := by simp; omega
  have hGp : (G == 0) = false := by simp; omega
  by_cases h1 : mw p q r < 0
  ·rw [bt (decide_eq_true h1), if_pos h1]
   simp only [hGW]
   rw [bf hGn, bf hGn, bf hGn, bf hGn]
   simp only [Int.tdiv_neg, ← Int.neg_tdiv]
   have neg : ∀ {n x : Int}, Sm n x → Sm n (-x) := fun h => ⟨by have := h.2; omega, by have := h.1; omega⟩
   rw [Ba7 ((J6 (neg v1) hgp).mono (by omega)), Ba7 ((J6 (neg v2) hgp).mono (by omega)), Ba7 ((J6 (neg v3) hgp).mono (by omega)), Ba7 ((J6 (neg hw) hgp).mono (by omega))]
   rfl
  ·rw [bf (decide_eq_false h1), if_neg h1, bf hGp, bf hGp, bf hGp, bf hGp]
   rw [Ba7 ((J6 v1 hgp).mono (by omega)), Ba7 ((J6 v2 hgp).mono (by omega)), Ba7 ((J6 v3 hgp).mono (by omega)), Ba7 ((J6 hw hgp).mono (by omega))]
   rfl
theorem Le9 {p q r : Pln} (hp : Bd p) (hq : Bd q) (hr : Bd r) : Za6 ⟨p, q, r⟩ = mpt p q r := by unfold Za6; rw [Sd5 hp hq hr]; rfl
theorem Me0 {p q r : Pln} (hp : Bd p) (hq : Bd q) (hr : Bd r) : Za7 ⟨p, q, r⟩ = true := by unfold Za7; rw [Sd5 hp hq hr]; rfl
theorem Bd9 {p q r : Pln} (hp : Bd p) (hq : Bd q) (hr : Bd r) : lb9 p q r = some (.tup [.agg (tX.row (mpt p q r).1), b (mpt p q r).2], []) := by
 have hw := ke3 hp hq hr
 obtain ⟨v1, v2, v3⟩ := ke4 hp hq hr
 have e1 : Na0 p.n (T9 q.n r.n) = mw p q r := by
  rw [nc8]
  unfold Na0
  simp only [wb3, dc8, ge7]
  show W (dot p.n (p7 q.n r.n)) = _
  rw [show dot p.n (p7 q.n r.n) = mw p q r from rfl, Ba7 (hw.mono (by omega))]
 have e2 : jb9 (jb9 (R5 (T9 q.n r.n) p.b) (R5 (T9 r.n p.n) q.b)) (R5 (T9 p.n q.n) r.b) = mv p q r := by
  rw [nc8, nc8, nc8]
  unfold jb9 R5
  simp only [wb3, dc8, Md0]
  show (⟨W (mv p q r).x, W (mv p q r).y, W (mv p q r).z⟩ : V3) = _
  rw [Ba7 (v1.mono (by omega)), Ba7 (v2.mono (by omega)), Ba7 (v3.mono (by omega))]
 have neg : ∀ {n x : Int}, Sm n x → Sm n (-x) := fun h => ⟨by have := h.2; omega, by have := h.1; omega⟩
 have e3 : R5 (mv p q r) (-1) = ⟨-(mv p q r).x, -(mv p q r).y, -(mv p q r).z⟩ := by
  unfold R5
  have : ∀ x : Int, x * -1 = -x := fun x => by omega
  simp only [this]
  rw [Ba7 ((neg v1).mono (by omega)), Ba7 ((neg v2).mono (by omega)), Ba7 ((neg v3).mono (by omega))]
 have ab : ∀ {x : Int}, Sm 300000000000000 x → (if W (0 - x) > x then W (0 - x) else x) = (x.natAbs : Int) := fun {x} h => by
  have : W (0 - x) = -x := by rw [show 0 - x = -x by omega]; exact Ba7 ((neg h).mono (by omega))
  rw [this]
  split <;> omega
 unfold lb9
 simp only [e1, e2, e3]
 rw [ab v1, ab v2, ab v3, ab (neg v1), ab (neg v2), ab (neg v3)]
 simp only [Int.natAbs_neg]
 unfold mpt
 by_cases h0 : mw p q r = 0
 ·rw [bt (by rw [h0]; rfl), if_pos h0]
  rfl
 ·have hz : (mw p q r == 0) = false := by simpa using h0
  rw [bf hz, if_neg h0]
  have hgp := Pc1 (v := mv p q r) h0
  have hgl := ke5 (v := mv p q r) h0
  have hw0 := hw
  unfold Sm at hw0
  have q1 : ((mv p q r).y.natAbs : Int) ≤ 9223372036854775807 := by unfold Sm at v2; omega
  have k1 := Oc9 ((mv p q r).x.natAbs : Int) ((mv p q r).y.natAbs : Int) (by omega) (by omega) q1
  have k2 := Pc0 ((mv p q r).x.natAbs : Int) ((mv p q r).y.natAbs : Int) (by omega) (by omega) q1
  have c1 : Int.gcd ((mv p q r).x.natAbs : Int) ((mv p q r).y.natAbs : Int) = Nat.gcd (mv p q r).x.natAbs (mv p q r).y.natAbs := by simp [Int.gcd]
  have fin : ∀ w : Int, 0 < w → w.natAbs = (mw p q r).natAbs → R6 ((mv p q r).z.natAbs : Int) w = (Nat.gcd (mv p q r).z.natAbs (mw p q r).natAbs : Nat) ∧ R7 ((mv p q r).z.natAbs : Int) w = true ∧
    R6 (Nat.gcd (mv p q r).x.natAbs (mv p q r).y.natAbs : Nat) (Nat.gcd (mv p q r).z.natAbs (mw p q r).natAbs : Nat) = gc (mv p q r) (mw p q r) ∧ R7 (Nat.gcd (mv p q r).x.natAbs (mv p q r).y.natAbs : Nat) (Nat.gcd (mv p q r).z.natAbs (mw p q r).natAbs : Nat) = true := by
   intro w hw1 hw2
   have l1 : Nat.gcd (mv p q r).z.natAbs (mw p q r).natAbs ≤ (mw p q r).natAbs := Nat.gcd_le_right _ (by omega)
   refine ⟨?_, Pc0 _ _ (by omega) (by omega) (by omega), ?_, Pc0 _ _ (by omega) (by omega) (by omega)⟩
   ·rw [Oc9 _ _ (by omega) (by omega) (by omega)]
    have : Int.gcd ((mv p q r).z.natAbs : Int) w = Nat.gcd (mv p q r).z.natAbs (mw p q r).natAbs := by unfold Int.gcd; rw [hw2]; simp
    rw [this]
   ·rw [Oc9 _ _ (by omega) (by omega) (by omega)]
    rfl
  by_cases h1 : mw p q r < 0
  ·rw [bt (decide_eq_true h1), if_pos h1]
   have hWw : W (0 - mw p q r) = -mw p q r := by rw [Ga0 (by omega) (by omega)]; omega
   rw [hWw]
   obtain ⟨f1, f2, f3, f4⟩ := fin (-mw p q r) (by omega) (by omega)
   simp only [k1, k2, c1, f1, f2, f3, f4]
   generalize gc (mv p q r) (mw p q r) = G at *
   have hGp : (G == 0) = false := by simp; omega
   simp only [hGp]
   rw [Ba7 ((J6 (neg v1) hgp).mono (by omega)), Ba7 ((J6 (neg v2) hgp).mono (by omega)), Ba7 ((J6 (neg v3) hgp).mono (by omega)), Ba7 ((J6 (neg hw) hgp).mono (by omega))]
   rfl
  ·rw [bf (decide_eq_false h1), if_neg h1]
   obtain ⟨f1, f2, f3, f4⟩ := fin (mw p q r) (by omega) rfl
   simp only [k1, k2, c1, f1, f2, f3, f4]
   generalize gc (mv p q r) (mw p q r) = G at *
   have hGp : (G == 0) = false := by simp; omega
   simp only [hGp]
   rw [Ba7 ((J6 v1 hgp).mono (by omega)), Ba7 ((J6 v2 hgp).mono (by omega)), Ba7 ((J6 v3 hgp).mono (by omega)), Ba7 ((J6 hw hgp).mono (by omega))]
   rfl
theorem xe6 {p q r : Pln} (hp : Bd p) (hq : Bd q) (hr : Bd r) : mb0 p q r = mpt p q r := by unfold mb0; rw [Bd9 hp hq hr]; rfl
theorem xe7 {p q r : Pln} (hp : Bd p) (hq : Bd q) (hr : Bd r) : mb1 p q r = true := by unfold mb1; rw [Bd9 hp hq hr]; rfl
end Go.Ev.Ce
namespace Go.Ev.Ce
open Go Go.Ev Go.Ev.L Go.Proofs
noncomputable def inn (l : List Pln) (x : Pt) : Bool := l.all fun p => !decide (rm p x < 0)
theorem Sd6 (l : List Pln) (x : Pt) : inn l x = !l.any fun p => decide (rm p x < 0) := by unfold inn; rw [List.not_any_eq_all_not]
theorem We9 (p : Pln) (x : Pt) : db0 ⟨p.n.x, p.n.y, p.n.z, p.b, x.px, x.py, x.pz, x.pw⟩ = ⟨decide (rm p x < 0)⟩ := by
 show va1.mk (decide (sa8 p x < 0)) = _
 rw [pd8]
theorem xe8 (l : List Pln) (x : Pt) (hl : l.length ≤ 1000000000) : U4 ⟨l, x.px, x.py, x.pz, x.pw⟩ = ⟨1, if l.any (fun p => decide (rm p x < 0)) then ((l.findIdx (fun p => decide (rm p x < 0)) : Nat) : Int) else -1⟩ := by
 have h := gb6 (step := E7 ⟨l, (l.length : Int), x.px, x.py, x.pz, x.pw⟩) (mk := fun j => (⟨(j : Int)⟩ : o0)) (c := fun p => decide (rm p x < 0)) (u := 1) (fin := 2) tP l hl
  (fun j hj => by
   simp only [E7, C5, Int.toNat_natCast, We9, o9 hj (by omega)]
   rw [bt (Ob9 hj), bt (f0 hj)])
  (by simp only [E7, C5]; rw [bf (Eb7 (Nat.lt_irrefl _))]) 0 (Nat.zero_le _)
 rw [List.drop_zero] at h
 unfold U4 D2
 simp only [m0, m8]
 rw [show (⟨0⟩ : o0) = ⟨((0 : Nat) : Int)⟩ from rfl, h]
 split
 ·simp only [Nat.zero_add]; rfl
 ·rfl
theorem hd5 (l : List Pln) (x : Pt) (hl : l.length ≤ 1000000000) : Ha6 l x = some (b (inn l x), []) := by
 unfold Ha6 ba7 z8
 simp only [m0, m8, xe8 l x hl, Sd6]
 split
 ·rename_i h
  rw [h, show decide (((l.findIdx (fun p => decide (rm p x < 0)) : Nat) : Int) ≥ 0) = true from decide_eq_true (by omega)]; rfl
 ·rename_i h
  rw [Bool.not_eq_true] at h
  rw [h]; rfl
theorem Pc2 (l : List Pln) (x : Pt) (hl : l.length ≤ 1000000000) : Y3 l x = inn l x := by unfold Y3; rw [hd5 l x hl]; rfl
theorem Pc3 (l : List Pln) (x : Pt) (hl : l.length ≤ 1000000000) : Y4 l x = true := by unfold Y4; rw [hd5 l x hl]; rfl
theorem Ge5 (l : List Pln) (x : Pt) (hl : l.length ≤ 1000000000) : Qb1 l x = some (b (inn l x), []) := by
 have h := lb4 (step := Ya9 ⟨l, x.px, x.py, x.pz, x.pw⟩) (mk := fun j => (⟨(j : Int)⟩ : ta3)) (c := fun p => decide (rm p x < 0)) (u := 1) (fin := 2) tP l hl
  (fun j hj => by
   simp only [Ya9, Pa6, Int.toNat_natCast, Gc6, o9 hj (by omega)]
   rw [bt (Ob9 hj), bt (f0 hj)])
  (by simp only [Ya9, Pa6]; rw [bf (Eb7 (Nat.lt_irrefl _))]) 0 (Nat.zero_le _)
 rw [List.drop_zero] at h
 unfold Qb1
 simp only [m0, m8, Sd6]
 rw [show (⟨0⟩ : ta3) = ⟨((0 : Nat) : Int)⟩ from rfl, h]
 split
 ·rename_i h; rw [h]; rfl
 ·rename_i h; rw [Bool.not_eq_true] at h; rw [h]; rfl
theorem Xe0 (l : List Pln) (x : Pt) (hl : l.length ≤ 1000000000) : mb3 l x = inn l x := by unfold mb3; rw [Ge5 l x hl]; rfl
theorem Xe1 (l : List Pln) (x : Pt) (hl : l.length ≤ 1000000000) : mb4 l x = true := by unfold mb4; rw [Ge5 l x hl]; rfl
def eqX (x q : Pt) : Bool := q.px == x.px && (q.py == x.py && (q.pz == x.pz && (q.pw == x.pw && true)))
theorem pd9 (x q : Pt) : eqX x q = true ↔ q = x := by
 unfold eqX
 simp only [Bool.and_true, Bool.and_eq_true, beq_iff_eq]
 exact ⟨fun ⟨h1, h2, h3, h4⟩ => by cases q; cases x; simp_all, fun h => by subst h; exact ⟨rfl, rfl, rfl, rfl⟩⟩
def Rb3 (l : List Pt) (x : Pt) : Bool := l.any (eqX x)
theorem ke6 (l : List Pt) (x : Pt) : Rb3 l x = true ↔ x ∈ l := by
 unfold Rb3
 rw [List.any_eq_true]
 exact ⟨fun ⟨q, h, e⟩ => (pd9 x q).1 e ▸ h, fun h => ⟨x, h, (pd9 x x).2 rfl⟩⟩
theorem Cd0 (l : List Pt) (x : Pt) (hl : l.length ≤ 1000000000) : Za0 l x = some (b (Rb3 l x), []) := by
 have h := lb4 (step := Aa1 ⟨l, x.px, x.py, x.pz, x.pw⟩) (mk := fun j => (⟨(j : Int)⟩ : Y1)) (c := eqX x) (u := 1) (fin := 2) tX l hl
  (fun j hj => by
   simp only [Aa1, ua9, Int.toNat_natCast, o9 hj (by omega)]
   rw [bt (Ob9 hj), bt (f0 hj)]
   rfl)
  (by simp only [Aa1, ua9]; rw [bf (Eb7 (Nat.lt_irrefl _))]) 0 (Nat.zero_le _)
 rw [List.drop_zero] at h
 unfold Za0
 simp only [m0, m8]
 rw [show (⟨0⟩ : Y1) = ⟨((0 : Nat) : Int)⟩ from rfl, h]
 unfold Rb3
 split
 ·rename_i h; rw [h]; rfl
 ·rename_i h; rw [Bool.not_eq_true] at h; rw [h]; rfl
theorem xe9 (l : List Pt) (x : Pt) (hl : l.length ≤ 1000000000) : Na1 l x = Rb3 l x := by unfold Na1; rw [Cd0 l x hl]; rfl
theorem ye0 (l : List Pt) (x : Pt) (hl : l.length ≤ 1000000000) : Na2 l x = true := by unfold Na2; rw [Cd0 l x hl]; rfl
def smb (n x : Int) : Bool := !decide (x < -n) && !decide (x > n)
theorem nc9 (n x : Int) : smb n x = true ↔ Sm n x := by unfold smb Sm; simp only [Bool.and_eq_true, Bool.not_eq_true', decide_eq_false_iff_not]; omega
theorem Pc4 (n : Int) (l : List Int) (hn : 0 ≤ n ∧ n ≤ 1000000000) (hl : l.length ≤ 1000000000) : Ba0 n l = some (b (l.all (smb n)), []) := by
 have hW : W (0 - n) = -n := by rw [Ga0 (by omega) (by omega)]; omega
 have h := lb4 (step := la9 ⟨n, l, (l.length : Int)⟩) (mk := fun j => (⟨(j : Int)⟩ : K7)) (c := fun x => !smb n x) (u := 1) (fin := 2) tI l hl
  (fun j hj => by
   simp only [la9, ga8, Int.toNat_natCast, o9 hj (by omega), hW]
   rw [bt (Ob9 hj), bt (f0 hj)]
   unfold smb
   cases decide (gL tI l j < -n) <;> cases decide (gL tI l j > n) <;> rfl)
  (by simp only [la9, ga8]; rw [bf (Eb7 (Nat.lt_irrefl _))]) 0 (Nat.zero_le _)
 rw [List.drop_zero] at h
 unfold Ba0
 simp only [m0, m8]
 rw [show (⟨0⟩ : K7) = ⟨((0 : Nat) : Int)⟩ from rfl, h]
 have e : (l.any fun x => !smb n x) = !l.all (smb n) := by rw [List.not_all_eq_any_not]
 rw [e]
 cases l.all (smb n) <;> rfl
theorem vc2 (n : Int) (l : List Int) (hn : 0 ≤ n ∧ n ≤ 1000000000) (hl : l.length ≤ 1000000000) : qa6 n l = l.all (smb n) := by unfold qa6; rw [Pc4 n l hn hl]; rfl
theorem vc3 (n : Int) (l : List Int) (hn : 0 ≤ n ∧ n ≤ 1000000000) (hl : l.length ≤ 1000000000) : qa7 n l = true := by unfold qa7; rw [Pc4 n l hn hl]; rfl
theorem Cd1 {n : Int} (h : Sm 1000000000000000000 n) : Ea4 n = (n.natAbs : Int) := by
 unfold Ea4
 obtain ⟨h1, h2⟩ := h
 rw [Ga0 (by omega) (by omega)]
 split <;> omega
theorem oc0 {n : Int} (h : Sm 1000000000000000000 n) : Aa2 n = some (i (n.natAbs : Int), []) := by
 unfold Aa2
 obtain ⟨h1, h2⟩ := h
 rw [Ga0 (by omega) (by omega)]
 by_cases h : n < 0
 ·rw [bt (decide_eq_true h)]; congr 3; omega
 ·rw [bf (decide_eq_false h)]; congr 3; omega
theorem Rb4 {n : Int} (h : Sm 1000000000000000000 n) : pa9 n = (n.natAbs : Int) := by unfold pa9; rw [oc0 h]; rfl
theorem Rb5 {n : Int} (h : Sm 1000000000000000000 n) : qa0 n = true := by unfold qa0; rw [oc0 h]; rfl
def g3 (v : V3) : Int := (Nat.gcd (Nat.gcd v.x.natAbs v.y.natAbs) v.z.natAbs : Nat)
theorem ke7 (g n : Nat) : eu (g : Int) (n : Int) = (Nat.gcd g n : Nat) := by rw [he0 (by omega) (by omega)]; rfl
theorem Zc6 (P : ba1) (g n : Nat) (hn : n ≤ 1000000000000000000) : lp (X6 P) ⟨(g : Int), (n : Int)⟩ = (1, ⟨(Nat.gcd g n : Nat), 0⟩) := by
 have := yc6 (step := X6 P) (mk := fun g n => (⟨g, n⟩ : M2)) (fun g n h => by
  have h0 : n ≠ 0 := by omega
  simp [X6, da1, lb2, h, h0]) (fun g => by simp [X6, da1, lb2]) (g : Int) (n : Int) (by omega) (by omega) (by omega)
 rw [this, ke7]
theorem Nd9 (l : List Int) (hl : l.length ≤ 1000000000) (hb : ∀ x ∈ l, Sm 1000000000000000000 x) : va4 l = some (i (l.foldl (fun g x => Nat.gcd g x.natAbs) 0 : Nat), []) := by
 have h := Vb5 (step := ga9 ⟨(l.length : Int)⟩) (mk := fun j (a : Nat) => (⟨(a : Int), l, (j : Int)⟩ : H6)) (f := fun g x => Nat.gcd g x.natAbs) (fin := 2) tI l (fun _ _ => True) hl (fun j a hj _ => ⟨by
   have hm := hb _ (Lc5 tI hj)
   have hne : (gL tI l j == (-9223372036854775808 : Int)) = false := by
    have := hm.1
    rw [beq_eq_false_iff_ne]; omega
   have hs : (gL tI l j).natAbs ≤ 1000000000000000000 := by obtain ⟨h1, h2⟩ := hm; omega
   simp only [ga9, da2, Int.toNat_natCast, m0, m8, Cd1 hm, Zc6 _ _ _ hs, o9 hj (by omega)]
   rw [bt (Ob9 hj), bt (f0 hj), bf hne]
   rfl, trivial⟩) (fun a _ => by simp only [ga9, da2]; rw [bf (Eb7 (Nat.lt_irrefl _))]) 0 (Nat.zero_le _) 0 trivial
 have h := h.1
 rw [List.drop_zero] at h
 unfold va4
 simp only [m0, m8]
 rw [show (⟨0, l, 0⟩ : H6) = ⟨((0 : Nat) : Int), l, ((0 : Nat) : Int)⟩ from rfl, h]
 rfl
def okp (p : Pln) : Bool := [p.n.x, p.n.y, p.n.z].all (smb 4608) && (g3 p.n == 1 && [p.b].all (smb 2097152))
theorem Me1 (p : Pln) : Bd p ↔ [p.n.x, p.n.y, p.n.z].all (smb 4608) = true ∧ [p.b].all (smb 2097152) = true := by
 simp only [List.all_cons, List.all_nil, Bool.and_true, Bool.and_eq_true, nc9, Sm]
 exact ⟨fun h => ⟨⟨⟨h.x1, h.x2⟩, ⟨h.y1, h.y2⟩, h.z1, h.z2⟩, h.b1, h.b2⟩, fun ⟨⟨⟨a, b⟩, ⟨c, d⟩, e, f⟩, g, h⟩ => ⟨a, b, c, d, e, f, g, h⟩⟩
theorem qd0 {p : Pln} (h : okp p = true) : Bd p := by
 unfold okp at h
 rw [Bool.and_eq_true, Bool.and_eq_true] at h
 exact (Me1 p).2 ⟨h.1, h.2.2⟩
theorem sm3 {v : V3} (h : [v.x, v.y, v.z].all (smb 4608) = true) : Sm 4608 v.x ∧ Sm 4608 v.y ∧ Sm 4608 v.z := by
 simpa only [List.all_cons, List.all_nil, Bool.and_true, Bool.and_eq_true, nc9] using h
theorem Cd2 (p : Pln) : Ha8 p = some (b (okp p), []) := by
 unfold Ha8 okp
 have l3 : [p.n.x, p.n.y, p.n.z].length ≤ 1000000000 := by simp
 have l1 : [p.b].length ≤ 1000000000 := by simp
 simp only [vc2 4608 _ (by omega) l3, vc3 4608 _ (by omega) l3, vc2 2097152 _ (by omega) l1, vc3 2097152 _ (by omega) l1]
 cases hw : [p.n.x, p.n.y, p.n.z].all (smb 4608) with
 | false => rfl
 | true =>
  obtain ⟨h1, h2, h3⟩ := sm3 hw
  have hd := Nd9 [p.n.x, p.n.y, p.n.z] l3 (by
   intro x hx
   simp only [List.mem_cons, List.not_mem_nil, or_false] at hx
   rcases hx with rfl | rfl | rfl
   ·exact h1.mono (by omega)
   ·exact h2.mono (by omega)
   ·exact h3.mono (by omega))
  have hg : ([p.n.x, p.n.y, p.n.z].foldl (fun g x => Nat.gcd g x.natAbs) 0 : Nat) = Nat.gcd (Nat.gcd p.n.x.natAbs p.n.y.natAbs) p.n.z.natAbs := by
   simp only [List.foldl_cons, List.foldl_nil, Nat.gcd_zero_left]
  have hp : Ka3 [p.n.x, p.n.y, p.n.z] = g3 p.n := by unfold Ka3; rw [hd, hg]; rfl
  have hgd : Ka4 [p.n.x, p.n.y, p.n.z] = true := by unfold Ka4; rw [hd]; rfl
  rw [hp, hgd]
  cases g3 p.n == 1 <;> rfl
theorem ye1 (p : Pln) : Xa5 p = okp p := by unfold Xa5; rw [Cd2 p]; rfl
theorem ye2 (p : Pln) : Xa6 p = true := by unfold Xa6; rw [Cd2 p]; rfl
theorem vc4 (P : la5) (g n : Nat) (hn : n ≤ 1000000000000000000) : lp (ga4 P) ⟨(g : Int), (n : Int)⟩ = (1, ⟨(Nat.gcd g n : Nat), 0⟩) := by
 have := yc6 (step := ga4 P) (mk := fun g n => (⟨g, n⟩ : S6)) (fun g n h => by
  have h0 : n ≠ 0 := by omega
  simp [ga4, Aa3, lb2, h, h0]) (fun g => by simp [ga4, Aa3, lb2]) (g : Int) (n : Int) (by omega) (by omega) (by omega)
 rw [this, ke7]
theorem qd1 {v : V3} (h1 : Sm 1000000000000000000 v.x) (h2 : Sm 1000000000000000000 v.y) (h3 : Sm 1000000000000000000 v.z) :
  mb5 v = if g3 v = 0 then some (.tup [.agg (tV.row ⟨0, 0, 0⟩), i 0], []) else some (.tup [.agg (tV.row ⟨W (Int.tdiv v.x (g3 v)), W (Int.tdiv v.y (g3 v)), W (Int.tdiv v.z (g3 v))⟩), i (g3 v)], []) := by
 have ne : ∀ {x : Int}, Sm 1000000000000000000 x → (x == (-9223372036854775808 : Int)) = false := fun {x} h => by
  have := h.1
  rw [beq_eq_false_iff_ne]; omega
 have bd : ∀ {x : Int}, Sm 1000000000000000000 x → x.natAbs ≤ 1000000000000000000 := fun {x} h => by obtain ⟨h1, h2⟩ := h; omega
 have l1 := vc4 ⟨0, v.x, v.y, v.z, v.x, v.y, v.z⟩ 0 v.x.natAbs (bd h1)
 rw [Nat.gcd_zero_left] at l1
 have l2 := vc4 ⟨1, v.x, v.y, v.z, v.x, v.y, v.z⟩ v.x.natAbs v.y.natAbs (bd h2)
 have l3 := vc4 ⟨2, v.x, v.y, v.z, v.x, v.y, v.z⟩ (Nat.gcd v.x.natAbs v.y.natAbs) v.z.natAbs (bd h3)
 unfold mb5
 simp only [Rb4 h1, Rb4 h2, Rb4 h3, Rb5 h1, Rb5 h2, Rb5 h3]
 rw [show (⟨0, (v.x.natAbs : Int)⟩ : S6) = ⟨((0 : Nat) : Int), (v.x.natAbs : Int)⟩ from rfl]
 simp only [l1, l2, l3, ne h1, ne h2, ne h3]
 rw [show ((Nat.gcd (Nat.gcd v.x.natAbs v.y.natAbs) v.z.natAbs : Nat) : Int) = g3 v from rfl]
 by_cases h : g3 v = 0
 ·rw [if_pos h, show (g3 v == 0) = true from by rw [h]; rfl]; rfl
 ·rw [if_neg h, show (g3 v == 0) = false from by rw [beq_eq_false_iff_ne]; exact h]; rfl
theorem Pc5 {v : V3} (h1 : Sm 1000000000000000000 v.x) (h2 : Sm 1000000000000000000 v.y) (h3 : Sm 1000000000000000000 v.z) : (La9 v).2 = g3 v := by
 unfold La9
 rw [qd1 h1 h2 h3]
 split
 ·rename_i h; rw [h]; rfl
 ·rfl
theorem Me2 {v : V3} (h1 : Sm 1000000000000000000 v.x) (h2 : Sm 1000000000000000000 v.y) (h3 : Sm 1000000000000000000 v.z) (h : g3 v ≠ 0) : La9 v = (⟨W (Int.tdiv v.x (g3 v)), W (Int.tdiv v.y (g3 v)), W (Int.tdiv v.z (g3 v))⟩, g3 v) := by
 unfold La9
 rw [qd1 h1 h2 h3, if_neg h]
 rfl
theorem ke8 {v : V3} (h1 : Sm 1000000000000000000 v.x) (h2 : Sm 1000000000000000000 v.y) (h3 : Sm 1000000000000000000 v.z) : mb6 v = true := by
 unfold mb6
 rw [qd1 h1 h2 h3]
 split <;> rfl
theorem hd6 (p : Pln) : Za1 p = some (b (okp p), []) := by
 unfold Za1 okp
 cases hw : [p.n.x, p.n.y, p.n.z].all (smb 4608) with
 | false =>
  simp only [List.all_cons, List.all_nil, Bool.and_true, smb] at hw
  cases h1 : decide (p.n.x < -4608) <;> cases h2 : decide (p.n.x > 4608) <;> cases h3 : decide (p.n.y < -4608) <;> cases h4 : decide (p.n.y > 4608) <;> cases h5 : decide (p.n.z < -4608) <;> cases h6 : decide (p.n.z > 4608) <;> simp only [h1, h2, h3, h4, h5, h6] at hw ⊢ <;> first | rfl | cases hw
 | true =>
  obtain ⟨h1, h2, h3⟩ := sm3 hw
  rw [bf (decide_eq_false (by have := h1.1; omega)), bf (decide_eq_false (by have := h1.2; omega)), bf (decide_eq_false (by have := h2.1; omega)), bf (decide_eq_false (by have := h2.2; omega)), bf (decide_eq_false (by have := h3.1; omega)), bf (decide_eq_false (by have := h3.2; omega))]
  have k1 := h1.mono (m := 1000000000000000000) (by omega)
  have k2 := h2.mono (m := 1000000000000000000) (by omega)
  have k3 := h3.mono (m := 1000000000000000000) (by omega)
  rw [bt (ke8 k1 k2 k3), Pc5 k1 k2 k3]
  cases g3 p.n == 1 with
  | false => rfl
  | true =>
   simp only [List.all_cons, List.all_nil, Bool.and_true, smb, Bool.true_and]
   rw [q7]
   by_cases ha : p.b < -2097152
   ·rw [bf (decide_eq_false (by omega)), show decide (p.b < -2097152) = true from decide_eq_true ha]; rfl
   ·rw [bt (decide_eq_true (by omega)), show decide (p.b < -2097152) = false from decide_eq_false ha]
    congr 3
    by_cases hc : p.b ≤ 2097152
    ·rw [decide_eq_true hc, decide_eq_false (by omega)]; rfl
    ·rw [decide_eq_false hc, decide_eq_true (by omega)]; rfl
theorem ke9 (p : Pln) : Za2 p = okp p := by unfold Za2; rw [hd6 p]; rfl
theorem Cd3 (p : Pln) : Za3 p = true := by unfold Za3; rw [hd6 p]; rfl
def chk (l : List Pln) : Int := if (l.length : Int) > 48 then 2 else if l.all okp then 0 else 12
theorem Cd4 (l : List Pln) (hl : l.length ≤ 1000000000) : Qa9 l = some (i (chk l), []) := by
 have hk1 : ∀ p, Ba1 p = some (b (!okp p), []) := fun p => by unfold Ba1; rw [ye2, ye1]; rfl
 have hp1 : ∀ p, Qa7 p = !okp p := fun p => by unfold Qa7; rw [hk1]; rfl
 have hg1 : ∀ p, Qa8 p = true := fun p => by unfold Qa8; rw [hk1]; rfl
 have h := gb6 (step := E8 ⟨l, (l.length : Int)⟩) (mk := fun j => (⟨(j : Int)⟩ : o2)) (c := fun p => !okp p) (u := 1) (fin := 2) tP l hl
  (fun j hj => by
   simp only [E8, C6, Int.toNat_natCast, hp1, hg1, o9 hj (by omega)]
   rw [bt (Ob9 hj), bt (f0 hj), q7])
  (by simp only [E8, C6]; rw [bf (Eb7 (Nat.lt_irrefl _))]) 0 (Nat.zero_le _)
 rw [List.drop_zero] at h
 have e : (l.any fun x => !okp x) = !l.all okp := by rw [List.not_all_eq_any_not]
 unfold Qa9 ba8 z9 ja7 D3 chk
 simp only [m0, m8]
 rw [show (⟨0⟩ : o2) = ⟨((0 : Nat) : Int)⟩ from rfl, h, e]
 by_cases hn : (l.length : Int) > 48
 ·rw [bt (decide_eq_true hn), if_pos hn]
 ·rw [bf (decide_eq_false hn), if_neg hn]
  cases l.all okp with
  | true => rfl
  | false =>
   simp only [Bool.not_false, if_true, Nat.zero_add]
   show sl true (sl (Nat.beq 1 1) (sl (decide (((l.findIdx fun p => !okp p : Nat) : Int) ≥ 0)) _ _) _) _ = _
   rw [show decide (((l.findIdx fun p => !okp p : Nat) : Int) ≥ 0) = true from decide_eq_true (by omega)]
   rfl
theorem Sd7 (l : List Pln) (hl : l.length ≤ 1000000000) : Ra0 l = chk l := by unfold Ra0; rw [Cd4 l hl]; rfl
theorem Sd8 (l : List Pln) (hl : l.length ≤ 1000000000) : Ra1 l = true := by unfold Ra1; rw [Cd4 l hl]; rfl
theorem hd7 (l : List Pln) (hl : l.length ≤ 1000000000) : Za4 l = some (i (chk l), []) := by
 have h := lb4 (step := Aa4 ⟨l⟩) (mk := fun j => (⟨(j : Int)⟩ : Y2)) (c := fun p => !okp p) (u := 1) (fin := 2) tP l hl
  (fun j hj => by
   simp only [Aa4, va0, Int.toNat_natCast, ke9, Cd3, o9 hj (by omega)]
   rw [bt (Ob9 hj), bt (f0 hj), q7])
  (by simp only [Aa4, va0]; rw [bf (Eb7 (Nat.lt_irrefl _))]) 0 (Nat.zero_le _)
 rw [List.drop_zero] at h
 have e : (l.any fun x => !okp x) = !l.all okp := by rw [List.not_all_eq_any_not]
 unfold Za4 chk
 simp only [m0, m8]
 rw [show (⟨0⟩ : Y2) = ⟨((0 : Nat) : Int)⟩ from rfl, h, e]
 by_cases hn : (l.length : Int) > 48
 ·rw [bt (decide_eq_true hn), if_pos hn]
 ·rw [bf (decide_eq_false hn), if_neg hn]
  cases l.all okp <;> rfl
theorem Pc6 (l : List Pln) (hl : l.length ≤ 1000000000) : Na3 l = chk l := by unfold Na3; rw [hd7 l hl]; rfl
theorem Pc7 (l : List Pln) (hl : l.length ≤ 1000000000) : Na4 l = true := by unfold Na4; rw [hd7 l hl]; rfl
theorem Pc8 {l : List Pln} : chk l = 0 ↔ l.length ≤ 48 ∧ ∀ p ∈ l, okp p = true := by
 unfold chk
 by_cases hn : (l.length : Int) > 48
 ·rw [if_pos hn]
  exact ⟨fun h => absurd h (by decide), fun h => by omega⟩
 ·rw [if_neg hn]
  cases h : l.all okp with
  | true => exact ⟨fun _ => ⟨by omega, List.all_eq_true.1 h⟩, fun _ => rfl⟩
  | false => exact ⟨fun h => absurd h (by decide), fun h' => by rw [List.all_eq_true.2 h'.2] at h; cases h⟩
end Go.Ev.Ce
namespace Go.Ev.Ce
open Go Go.Ev Go.Ev.L Go.Proofs
theorem btD {p : Prop} {inst : Decidable p} (h : p) {α : Type} (t e : α) : sl (@decide p inst) t e = t := bt (decide_eq_true h) t e
theorem bfD {p : Prop} {inst : Decidable p} (h : ¬ p) {α : Type} (t e : α) : sl (@decide p inst) t e = e := bf (decide_eq_false h) t e
theorem n9 {j n : Nat} (h : j < n) : (j : Int) < (n : Int) := Int.ofNat_lt.2 h
theorem P1 {j n : Nat} (h : ¬ j < n) : ¬ (j : Int) < (n : Int) := fun h' => h (Int.ofNat_lt.1 h')
theorem Ra8 {σ τ α : Type} {step : σ → Stp σ} {mk : Nat → τ → σ} {f : α → List α → τ → τ} {g : List α → τ → τ} {fin : τ → Nat} (l : List α) (I : Nat → τ → Prop) (hl : l.length ≤ 1000000000)
  (g0 : ∀ a, g [] a = a) (g1 : ∀ x r a, g (x :: r) a = g r (f x r a))
  (h : ∀ j a (hj : j < l.length), I j a → step (mk j a) = .next (mk (j + 1) (f l[j] (l.drop (j + 1)) a)) ∧ I (j + 1) (f l[j] (l.drop (j + 1)) a))
  (hf : ∀ j a, l.length ≤ j → I j a → step (mk j a) = .exit (fin a)) (j0 : Nat) (a : τ) (hi : I j0 a) :
  lp step (mk j0 a) = (fin (g (l.drop j0) a), mk (max j0 l.length) (g (l.drop j0) a)) ∧ I (max j0 l.length) (g (l.drop j0) a) := by
 have key := Pb0 (step := step) (I := fun m s => ∃ j b, m = l.length - j ∧ max j l.length = max j0 l.length ∧ s = mk j b ∧ I j b ∧ g (l.drop j) b = g (l.drop j0) a)
  (Q := fun u s => u = fin (g (l.drop j0) a) ∧ s = mk (max j0 l.length) (g (l.drop j0) a) ∧ I (max j0 l.length) (g (l.drop j0) a)) (fun m s ⟨j, b, hm, hj, hs, hb, he⟩ => by
   subst hs
   by_cases hlt : j < l.length
   ·obtain ⟨h1, h2⟩ := h j b hlt hb
    refine .inr ⟨_, l.length - (j + 1), by omega, h1, j + 1, _, rfl, by omega, rfl, h2, ?_⟩
    rw [← he, List.drop_eq_getElem_cons hlt, g1]
   ·have hd : l.drop j = [] := List.drop_eq_nil_of_le (by omega)
    rw [hd, g0] at he
    have hj' : j = max j0 l.length := by omega
    subst he
    rw [← hj']
    exact .inl ⟨_, hf j _ (by omega) hb, rfl, rfl, hb⟩) (l.length - j0) (mk j0 a) (by omega) ⟨j0, a, rfl, rfl, rfl, hi, rfl⟩
 exact ⟨Prod.ext key.1 key.2.1, key.2.2⟩
noncomputable def Ba8 (r : List Pln) (p q : Pln) (out : List Pt) (s : Pln) : List Pt :=
 if (mpt p q s).2 && (!Rb3 out (mpt p q s).1 && inn r (mpt p q s).1) then out ++ [(mpt p q s).1] else out
noncomputable def nb8 (r : List Pln) (p q : Pln) (l : List Pln) (out : List Pt) : List Pt := l.foldl (Ba8 r p q) out
noncomputable def nb9 (r : List Pln) (p : Pln) : List Pln → List Pt → List Pt
 | [], out => out
 | q :: l, out => nb9 r p l (nb8 r p q l out)
noncomputable def Zc7 (r : List Pln) : List Pln → List Pt → List Pt
 | [], out => out
 | p :: l, out => Zc7 r l (nb9 r p l out)
noncomputable def cor (r : List Pln) : List Pt := Zc7 r r []
def Bds (r : List Pln) : Prop := ∀ p ∈ r, Bd p
theorem vc5 (r : List Pln) (p q : Pln) (out : List Pt) (s : Pln) : (Ba8 r p q out s).length ≤ out.length + 1 := by
 unfold Ba8
 split
 ·simp
 ·omega
theorem Pc9 (r : List Pln) (p q : Pln) : ∀ (l : List Pln) (out : List Pt), (nb8 r p q l out).length ≤ out.length + l.length
 | [], out => Nat.le_refl _
 | s :: l, out => by
  have h1 := vc5 r p q out s
  have h2 := Pc9 r p q l (Ba8 r p q out s)
  show (nb8 r p q l (Ba8 r p q out s)).length ≤ _
  simp only [List.length_cons]
  omega
noncomputable def ph (out : List Pt) : Nat := match out with
 | [] => 0
 | _ :: _ => 1
theorem Cd5 (x : Pt) : Rb3 [] x = false := rfl
theorem oc1 {α : Type} (t : Ty α) (l : List α) (n k : Nat) : gL t (l.drop n) k = gL t l (n + k) := by simp [gL, List.getD_eq_getElem?_getD, List.getElem?_drop]
theorem Cd6 {n : Nat} {l : List Pt} (hn : n = l.length) (h : l.length ≤ 1000000000) : (Nat.beq n (len (bL tX l)) && Nat.ble ((n + 1) * 32) room) = true := by
 subst hn
 rw [O5, Nat.beq_refl, Bool.true_and]
 exact da8 (by omega)
theorem Sd9 (l : List Pt) (x : Pt) : app (bL tX l) [[i x.px, i x.py, i x.pz, i x.pw]] = bL tX (l ++ [x]) := La7 tX l [x]
@[reducible] noncomputable def Yb6 (k : Nat) (out : List Pt) : r5 := ⟨ph out, (k : Int), out.length, bL tX out⟩
theorem Me3 (l : List Pt) : slR tX (bL tX l) 0 l.length = l := dc6 tX l
theorem ye3 (r : List Pln) (hb : Bds r) (hr : r.length ≤ 200) (a c k : Nat) (ha : a < r.length) (hc : c < r.length) (out : List Pt) (ho : out.length ≤ 1000000000) (hk : k < r.length) :
  O7 ⟨r, a, c⟩ (Yb6 k out) = .next (Yb6 (k + 1) (Ba8 r r[a] r[c] out r[k])) := by
 have hin : ∀ x, mb3 r x = inn r x := fun x => Xe0 r x (by omega)
 have hig : ∀ x, mb4 r x = true := fun x => Xe1 r x (by omega)
 have hth : ∀ x, Na1 out x = Rb3 out x := fun x => xe9 out x ho
 have htg : ∀ x, Na2 out x = true := fun x => ye0 out x ho
 have hme := xe6 (hb _ (List.getElem_mem ha)) (hb _ (List.getElem_mem hc)) (hb _ (List.getElem_mem hk))
 have hmg := xe7 (hb _ (List.getElem_mem ha)) (hb _ (List.getElem_mem hc)) (hb _ (List.getElem_mem hk))
 unfold O7
 cases out with
 | nil =>
  show R8 Stp.next Stp.exit Stp.fail _ (Yb6 k []) = _
  simp only [R8, Yb6, Int.toNat_natCast, m0, J9, Ya8 tP ha, Ya8 tP hc, Ya8 tP hk, hme, hmg, hin, hig, hth, htg, o9 hk (by omega)]
  rw [btD (n9 hk), bt (f0 ha), bt (f0 hc), bt (f0 hk), q7]
  unfold Ba8
  rw [Cd5]
  cases (mpt r[a] r[c] r[k]).2 with
  | false => rfl
  | true =>
   cases inn r (mpt r[a] r[c] r[k]).1 with
   | false => rfl
   | true => rfl
 | cons o os =>
  show R9 Stp.next Stp.exit Stp.fail _ (Yb6 k (o :: os)) = _
  simp only [R9, Yb6, Int.toNat_natCast, m0, J9, Ya8 tP ha, Ya8 tP hc, Ya8 tP hk, hme, hmg, hin, hig, Me3, dc7, hth, htg, o9 hk (by omega)]
  rw [btD (n9 hk), bt (f0 ha), bt (f0 hc), bt (f0 hk), q7, Cd6 rfl ho, Sd9]
  unfold Ba8
  cases (mpt r[a] r[c] r[k]).2 with
  | false => rfl
  | true =>
   cases inn r (mpt r[a] r[c] r[k]).1 with
   | false => cases Rb3 (o :: os) (mpt r[a] r[c] r[k]).1 <;> rfl
   | true =>
    cases Rb3 (o :: os) (mpt r[a] r[c] r[k]).1 with
    | true => rfl
    | false =>
     show Stp.next (⟨1, ((k + 1 : Nat) : Int), (o :: os).length + 1, bL tX (o :: os ++ [(mpt r[a] r[c] r[k]).1])⟩ : r5) = _
     simp [ph]
theorem Me4 (r : List Pln) (a c k : Nat) (out : List Pt) (hk : r.length ≤ k) : O7 ⟨r, a, c⟩ (Yb6 k out) = .exit (ph out + 1) := by
 unfold O7
 have this : ¬ ((k : Int) < (r.length : Int)) := by omega
 cases out with
 | nil =>
  show R8 Stp.next Stp.exit Stp.fail _ (Yb6 k []) = _
  simp only [R8, Yb6]
  rw [bfD this]
  rfl
 | cons o os =>
  show R9 Stp.next Stp.exit Stp.fail _ (Yb6 k (o :: os)) = _
  simp only [R9, Yb6]
  rw [bfD this]
  rfl
theorem ye4 (r : List Pln) (hb : Bds r) (hr : r.length ≤ 200) (a c : Nat) (ha : a < r.length) (hc : c < r.length) (k : Nat) (out : List Pt) (ho : out.length ≤ 100000000) :
  ∃ m, lp (O7 ⟨r, a, c⟩) (Yb6 k out) = (ph (nb8 r r[a] r[c] (r.drop k) out) + 1, Yb6 m (nb8 r r[a] r[c] (r.drop k) out)) :=
 ⟨_, (Ra8 (mk := Yb6) (f := fun s _ out => Ba8 r r[a] r[c] out s) (g := fun l out => nb8 r r[a] r[c] l out) (fin := fun out => ph out + 1) r (fun j o => o.length + k ≤ out.length + j) (by omega)
  (fun _ => rfl) (fun _ _ _ => rfl) (fun j o hj hi => ⟨ye3 r hb hr a c j ha hc o (by omega) hj, by have := vc5 r r[a] r[c] o r[j]; show (Ba8 r r[a] r[c] o r[j]).length + k ≤ out.length + (j + 1); omega⟩)
  (fun j o hj _ => Me4 r a c j o hj) k out (by omega)).1⟩
@[reducible] noncomputable def Yb7 (r : List Pln) (j : Nat) (out : List Pt) : s7 := ⟨ph out, r, (j : Int), out.length, bL tX out⟩
theorem ye5 (r : List Pln) (hb : Bds r) (hr : r.length ≤ 200) (a j : Nat) (ha : a < r.length) (out : List Pt) (ho : out.length ≤ 100000000) (hj : j < r.length) :
  K6 ⟨a⟩ (Yb7 r j out) = .next (Yb7 r (j + 1) (nb8 r r[a] r[j] (r.drop (j + 1)) out)) := by
 obtain ⟨m, hm⟩ := ye4 r hb hr a j ha hj (j + 1) out ho
 unfold K6
 generalize nb8 r r[a] r[j] (r.drop (j + 1)) out = res at *
 cases out with
 | nil =>
  show S1 Stp.next Stp.exit Stp.fail _ (Yb7 r j []) = _
  simp only [S1, Yb7, m0, m8, o9 hj (by omega)]
  rw [show (⟨0, ((j + 1 : Nat) : Int), 0, []⟩ : r5) = Yb6 (j + 1) [] from rfl, hm, btD (n9 hj)]
  cases res <;> rfl
 | cons o os =>
  show S3 Stp.next Stp.exit Stp.fail _ (Yb7 r j (o :: os)) = _
  simp only [S3, Yb7, m0, m8, o9 hj (by omega)]
  rw [show (⟨1, ((j + 1 : Nat) : Int), (o :: os).length, bL tX (o :: os)⟩ : r5) = Yb6 (j + 1) (o :: os) from rfl, hm, btD (n9 hj)]
  cases res <;> rfl
theorem Me5 (r : List Pln) (a j : Nat) (out : List Pt) (hj : r.length ≤ j) : K6 ⟨a⟩ (Yb7 r j out) = .exit (ph out + 1) := by
 unfold K6
 have this : ¬ ((j : Int) < (r.length : Int)) := by omega
 cases out with
 | nil =>
  show S1 Stp.next Stp.exit Stp.fail _ (Yb7 r j []) = _
  simp only [S1, Yb7]
  rw [bfD this]
  rfl
 | cons o os =>
  show S3 Stp.next Stp.exit Stp.fail _ (Yb7 r j (o :: os)) = _
  simp only [S3, Yb7]
  rw [bfD this]
  rfl
theorem ye6 (r : List Pln) (hb : Bds r) (hr : r.length ≤ 200) (a : Nat) (ha : a < r.length) (j : Nat) (out : List Pt) (ho : out.length ≤ 40000 * a) :
  ∃ m, lp (K6 ⟨a⟩) (Yb7 r j out) = (ph (nb9 r r[a] (r.drop j) out) + 1, Yb7 r m (nb9 r r[a] (r.drop j) out)) ∧ (nb9 r r[a] (r.drop j) out).length ≤ 40000 * (a + 1) := by
 have hk := Ra8 (step := K6 ⟨a⟩) (mk := Yb7 r) (f := fun q l out => nb8 r r[a] q l out) (g := fun l out => nb9 r r[a] l out) (fin := fun out => ph out + 1) r (fun k o => o.length ≤ 40000 * a + 200 * (k - j) ∧ j ≤ k ∧ k ≤ j + r.length) (by omega)
  (fun _ => rfl) (fun _ _ _ => rfl) (fun k o hj hi => ⟨ye5 r hb hr a k ha o (by omega) hj, by
   have := Pc9 r r[a] r[k] (r.drop (k + 1)) o
   rw [List.length_drop] at this
   show (nb8 r r[a] r[k] (r.drop (k + 1)) o).length ≤ 40000 * a + 200 * (k + 1 - j) ∧ j ≤ k + 1 ∧ k + 1 ≤ j + r.length
   omega⟩)
  (fun k o hj _ => Me5 r a k o hj) j out (by omega)
 exact ⟨_, hk.1, by have := hk.2; omega⟩
@[reducible] noncomputable def fc1 (r : List Pln) (j : Nat) (out : List Pt) : z7 := ⟨ph out, r, (j : Int), out.length, bL tX out⟩
theorem qd2 (r : List Pln) (hb : Bds r) (hr : r.length ≤ 200) (a : Nat) (ha : a < r.length) (out : List Pt) (ho : out.length ≤ 40000 * a) :
  O8 ⟨⟩ (fc1 r a out) = .next (fc1 r (a + 1) (nb9 r r[a] (r.drop (a + 1)) out)) ∧ (nb9 r r[a] (r.drop (a + 1)) out).length ≤ 40000 * (a + 1) := by
 obtain ⟨m, hm, hl⟩ := ye6 r hb hr a ha (a + 1) out ho
 refine ⟨?_, hl⟩
 clear hl
 unfold O8
 generalize nb9 r r[a] (r.drop (a + 1)) out = res at *
 cases out with
 | nil =>
  show S4 Stp.next Stp.exit Stp.fail _ (fc1 r a []) = _
  simp only [S4, fc1, m0, m8, o9 ha (by omega)]
  rw [show (⟨0, r, ((a + 1 : Nat) : Int), 0, []⟩ : s7) = Yb7 r (a + 1) [] from rfl, hm, btD (n9 ha)]
  cases res <;> rfl
 | cons o os =>
  show S5 Stp.next Stp.exit Stp.fail _ (fc1 r a (o :: os)) = _
  simp only [S5, fc1, m0, m8, o9 ha (by omega)]
  rw [show (⟨1, r, ((a + 1 : Nat) : Int), (o :: os).length, bL tX (o :: os)⟩ : s7) = Yb7 r (a + 1) (o :: os) from rfl, hm, btD (n9 ha)]
  cases res <;> rfl
theorem Me6 (r : List Pln) (j : Nat) (out : List Pt) (hj : r.length ≤ j) : O8 ⟨⟩ (fc1 r j out) = .exit (ph out + 1) := by
 unfold O8
 have this : ¬ ((j : Int) < (r.length : Int)) := by omega
 cases out with
 | nil =>
  show S4 Stp.next Stp.exit Stp.fail _ (fc1 r j []) = _
  simp only [S4, fc1]
  rw [bfD this]
  rfl
 | cons o os =>
  show S5 Stp.next Stp.exit Stp.fail _ (fc1 r j (o :: os)) = _
  simp only [S5, fc1]
  rw [bfD this]
  rfl
theorem Td0 (r : List Pln) (hb : Bds r) (hr : r.length ≤ 200) : ∃ m, lp (O8 ⟨⟩) (fc1 r 0 []) = (ph (cor r) + 1, fc1 r m (cor r)) ∧ (cor r).length ≤ 8000000 := by
 have hk := Ra8 (step := O8 ⟨⟩) (mk := fc1 r) (f := fun q l out => nb9 r q l out) (g := fun l out => Zc7 r l out) (fin := fun out => ph out + 1) r (fun k o => o.length ≤ 40000 * k ∧ k ≤ r.length) (by omega)
  (fun _ => rfl) (fun _ _ _ => rfl) (fun k o hj hi => ⟨(qd2 r hb hr k hj o hi.1).1, (qd2 r hb hr k hj o hi.1).2, hj⟩)
  (fun k o hj _ => Me6 r k o hj) 0 [] (by simp)
 exact ⟨_, hk.1, by have := hk.2; rw [show max 0 r.length = r.length by omega] at this; have h1 := this.1; show (Zc7 r r []).length ≤ _; rw [List.drop_zero] at h1; omega⟩
theorem qd3 (r : List Pln) (hb : Bds r) (hr : r.length ≤ 200) : (cor r).length ≤ 8000000 := by
 obtain ⟨_, _, h⟩ := Td0 r hb hr
 exact h
noncomputable def slX (l : List Pt) : b7 × List b8 := match l with
 | [] => (.v (.slice none 0 0), [])
 | _ :: _ => (.sl 0 0 l.length 0, [⟨54, 4, bL tX l, true, false, 0⟩])
theorem qd4 (l : List Pt) : (one (r1L tX)).rd (slX l) = some l := by
 cases l with
 | nil => rfl
 | cons x l =>
  show Bool.rec (motive := fun _ => Option (List Pt)) none (some (slR tX (bL tX (x :: l)) 0 (x :: l).length)) (Bool.and true (okS tX (bL tX (x :: l)) 0 (x :: l).length)) = _
  rw [dc6, dc7]
  rfl
theorem zc5 (r : List Pln) (hb : Bds r) (hr : r.length ≤ 200) : Ha0 r = some (slX (cor r)) := by
 obtain ⟨m, hm, _⟩ := Td0 r hb hr
 unfold Ha0
 simp only [m0, m8]
 rw [show (⟨0, r, 0, 0, []⟩ : z7) = fc1 r 0 [] from rfl, hm]
 cases cor r <;> rfl
theorem wa9 {ρ : Type} (R : RR ρ) {x : b7 × List b8} {r : ρ} (h : R.rd x = some r) : K5 R (some x) = r := by
 show Option.rec (motive := fun _ => ρ) R.d (fun x => x) (R.rd x) = r
 rw [h]
theorem Ia2 {ρ : Type} (R : RR ρ) {x : b7 × List b8} {r : ρ} (h : R.rd x = some r) : okO R (some x) = true := by
 show Option.rec (motive := fun _ => Bool) false (fun _ => true) (R.rd x) = true
 rw [h]
theorem Qc0 (r : List Pln) (hb : Bds r) (hr : r.length ≤ 200) : Ha1 r = cor r := by unfold Ha1; rw [zc5 r hb hr]; exact wa9 _ (qd4 _)
theorem Qc1 (r : List Pln) (hb : Bds r) (hr : r.length ≤ 200) : Ha2 r = true := by unfold Ha2; rw [zc5 r hb hr]; exact Ia2 _ (qd4 _)
noncomputable def Zc8 (x : Pt) : List b7 := [i x.px, i x.py, i x.pz, i x.pw, b true]
noncomputable def Kb2 (l : List Pt) : List (List b7) := l.map Zc8
@[reducible] noncomputable def flK : List (Nat × CK) := [(0, (.int .i64)), (1, (.int .i64)), (2, (.int .i64)), (3, (.int .i64))]
theorem Cd7 (x q : Pt) : Xb9 flK [i x.px, i x.py, i x.pz, i x.pw] (Zc8 q) = eqX x q := by
 show Bool.and (decide (x.px = q.px)) (Bool.and (decide (x.py = q.py)) (Bool.and (decide (x.pz = q.pz)) (Bool.and (decide (x.pw = q.pw)) true))) = _
 unfold eqX
 have h : ∀ a c : Int, decide (a = c) = (c == a) := fun a c => by rw [Bool.eq_iff_iff, decide_eq_true_eq, beq_iff_eq]; exact eq_comm
 rw [h, h, h, h]
theorem Qc2 (x : Pt) : ∀ l, ic0 4 flK [i x.px, i x.py, i x.pz, i x.pw] (Kb2 l) = Rb3 l x
 | [] => rfl
 | q :: l => by
  have ih := Qc2 x l
  unfold ic0 at ih ⊢
  show Option.rec (motive := fun _ => Bool) false (fun r => toB (hdA (e7 r 4))) (Bool.rec (motive := fun _ => Option (List b7)) (xc7 flK [i x.px, i x.py, i x.pz, i x.pw] (Kb2 l)) (some (Zc8 q)) (Xb9 flK [i x.px, i x.py, i x.pz, i x.pw] (Zc8 q))) = Rb3 (q :: l) x
  rw [Cd7]
  unfold Rb3 at ih ⊢
  rw [List.any_cons]
  cases eqX x q with
  | true => rfl
  | false => exact ih
theorem hd8 (x : Pt) : ∀ l, Rb3 l x = false → vb8 flK [i x.px, i x.py, i x.pz, i x.pw] (Zc8 x) (Kb2 l) = Kb2 (l ++ [x])
 | [], _ => rfl
 | q :: l, h => by
  unfold Rb3 at h
  rw [List.any_cons, Bool.or_eq_false_iff] at h
  show Bool.rec (motive := fun _ => List (List b7)) (Zc8 q :: vb8 flK [i x.px, i x.py, i x.pz, i x.pw] (Zc8 x) (Kb2 l)) (Zc8 x :: Kb2 l) (Xb9 flK [i x.px, i x.py, i x.pz, i x.pw] (Zc8 q)) = _
  rw [Cd7, h.1, hd8 x l h.2]
  rfl
@[reducible] noncomputable def Yb8 (k : Nat) (out : List Pt) : j6 := ⟨ph out, (k : Int), out.length, bL tX out, Kb2 out⟩
structure C2 (P : i9) (r : List Pln) (p q : Pln) (lo : Nat) : Prop where
 ns : P.Pd8 = (r.drop lo).length
 gs : P.fb9 = fun k => tP.row (gL tP r (lo + k))
 is : P.ud3 = ((r.drop lo).length : Int)
 p1 : (⟨⟨P.l5, P.l6, P.l7⟩, P.J7⟩ : Pln) = p
 q1 : (⟨⟨P.ga0, P.ga1, P.ga2⟩, P.jb4⟩ : Pln) = q
 r1 : P.sa5 = r
theorem qd5 (s : Pln) : (⟨⟨toI (hdA (tP.row s)), toI (hdA (tlA (tP.row s))), toI (hdA (tlA (tlA (tP.row s))))⟩, toI (hdA (tlA (tlA (tlA (tP.row s)))))⟩ : Pln) = s := rfl
theorem qd6 (s : Pln) : ((Nat.ble 4 (len (tP.row s))) && (J8 [(CK.int .i64), (CK.int .i64), (CK.int .i64), (CK.int .i64)] (tP.row s))) = true := rfl
theorem ye7 {P : i9} {r : List Pln} {p q : Pln} {lo : Nat} (h : C2 P r p q lo) (hb : Bds r) (hr : r.length ≤ 200) (hp : Bd p) (hq : Bd q) (k : Nat) (out : List Pt) (ho : out.length ≤ 1000000000) (hk : k < (r.drop lo).length) :
  v8 P (Yb8 k out) = .next (Yb8 (k + 1) (Ba8 r p q out (r.drop lo)[k])) := by
 have hwi : ∀ x, Y3 r x = inn r x := fun x => Pc2 r x (by omega)
 have hwg : ∀ x, Y4 r x = true := fun x => Pc3 r x (by omega)
 have hs : gL tP r (lo + k) = (r.drop lo)[k] := by rw [← oc1, Ya8 tP hk]
 have hbs : Bd (r.drop lo)[k] := hb _ (List.mem_of_mem_drop (List.getElem_mem hk))
 have hd : (r.drop lo).length ≤ 200 := by rw [List.length_drop]; omega
 have hme := Le9 hp hq hbs
 have hmg := Me0 hp hq hbs
 obtain ⟨x1, x2, x3, x4, x5, x6, x7, x8, x9, x10, x11, x12, x13, x14, x15, x16, x17, x18, x19, x20, x21⟩ := P
 obtain ⟨ns, gs, is, p1, q1, r1⟩ := h
 simp only at ns gs is p1 q1 r1
 have r1 := r1.symm
 subst ns gs is r1
 unfold v8
 cases out with
 | nil =>
  show y5 Stp.next Stp.exit Stp.fail _ (Yb8 k []) = _
  simp only [y5, Yb8, Int.toNat_natCast, m0, J9, p1, q1, hs, qd5, qd6, hme, hmg, hwi, hwg, o9 hk (by omega)]
  rw [btD (n9 hk), bt (f0 hk), q7, q7]
  unfold Ba8
  rw [Cd5]
  cases (mpt p q (r.drop lo)[k]).2 with
  | false => rfl
  | true =>
   cases inn r (mpt p q (r.drop lo)[k]).1 with
   | false => rfl
   | true => rfl
 | cons o os =>
  show y6 Stp.next Stp.exit Stp.fail _ (Yb8 k (o :: os)) = _
  simp only [y6, Yb8, Int.toNat_natCast, m0, J9, p1, q1, hs, qd5, qd6, hme, hmg, hwi, hwg, o9 hk (by omega), Qc2]
  rw [btD (n9 hk), bt (f0 hk), q7, q7, Cd6 rfl ho, Sd9]
  unfold Ba8
  cases (mpt p q (r.drop lo)[k]).2 with
  | false => rfl
  | true =>
   cases hx : Rb3 (o :: os) (mpt p q (r.drop lo)[k]).1 with
   | true => rfl
   | false =>
    cases inn r (mpt p q (r.drop lo)[k]).1 with
    | false => rfl
    | true =>
     show Stp.next (⟨1, ((k + 1 : Nat) : Int), (o :: os).length + 1, bL tX (o :: os ++ [(mpt p q (r.drop lo)[k]).1]), vb8 flK [i (mpt p q (r.drop lo)[k]).1.px, i (mpt p q (r.drop lo)[k]).1.py, i (mpt p q (r.drop lo)[k]).1.pz, i (mpt p q (r.drop lo)[k]).1.pw] (Zc8 (mpt p q (r.drop lo)[k]).1) (Kb2 (o :: os))⟩ : j6) = _
     rw [hd8 _ _ hx]
     simp [ph]
theorem Me7 {P : i9} {r : List Pln} {p q : Pln} {lo : Nat} (h : C2 P r p q lo) (k : Nat) (out : List Pt) (hk : (r.drop lo).length ≤ k) : v8 P (Yb8 k out) = .exit (ph out + 1) := by
 obtain ⟨x1, x2, x3, x4, x5, x6, x7, x8, x9, x10, x11, x12, x13, x14, x15, x16, x17, x18, x19, x20, x21⟩ := P
 obtain ⟨ns, gs, is, p1, q1, r1⟩ := h
 simp only at ns gs is p1 q1 r1
 have r1 := r1.symm
 subst ns gs is r1
 unfold v8
 have this : ¬ ((k : Int) < ((r.drop lo).length : Int)) := by omega
 cases out with
 | nil =>
  show y5 Stp.next Stp.exit Stp.fail _ (Yb8 k []) = _
  simp only [y5, Yb8]
  rw [bfD this]
  rfl
 | cons o os =>
  show y6 Stp.next Stp.exit Stp.fail _ (Yb8 k (o :: os)) = _
  simp only [y6, Yb8]
  rw [bfD this]
  rfl
theorem ye8 {P : i9} {r : List Pln} {p q : Pln} {lo : Nat} (h : C2 P r p q lo) (hb : Bds r) (hr : r.length ≤ 200) (hp : Bd p) (hq : Bd q) (out : List Pt) (ho : out.length ≤ 100000000) :
  ∃ m, lp (v8 P) (Yb8 0 out) = (ph (nb8 r p q (r.drop lo) out) + 1, Yb8 m (nb8 r p q (r.drop lo) out)) := by
 have hd : (r.drop lo).length ≤ 200 := by rw [List.length_drop]; omega
 exact ⟨_, (Ra8 (mk := Yb8) (f := fun s _ out => Ba8 r p q out s) (g := fun l out => nb8 r p q l out) (fin := fun out => ph out + 1) (r.drop lo) (fun j o => o.length ≤ out.length + j) (by omega)
  (fun _ => rfl) (fun _ _ _ => rfl) (fun j o hj hi => ⟨ye7 h hb hr hp hq j o (by omega) hj, by have := vc5 r p q o (r.drop lo)[j]; show (Ba8 r p q o (r.drop lo)[j]).length ≤ out.length + (j + 1); omega⟩)
  (fun j o hj _ => Me7 h j o hj) 0 out (by omega)).1⟩
@[reducible] noncomputable def Yb9 (r : List Pln) (j : Nat) (out : List Pt) : j8 := ⟨ph out, r, (j : Int), r, r, out.length, bL tX out, Kb2 out⟩
structure C1 (P : j7) (r : List Pln) (p : Pln) (a : Nat) : Prop where
 i3 : P.is3 = (a : Int)
 ns : P.rc2 = (r.drop (a + 1)).length
 gs : P.jb3 = fun k => tP.row (gL tP r (a + 1 + k))
 is : P.ia9 = ((r.drop (a + 1)).length : Int)
 p1 : (⟨⟨P.l5, P.l6, P.l7⟩, P.J7⟩ : Pln) = p
theorem ye9 {P : j7} {r : List Pln} {p : Pln} {a : Nat} (h : C1 P r p a) (hb : Bds r) (hr : r.length ≤ 200) (hp : Bd p) (j : Nat) (out : List Pt) (ho : out.length ≤ 100000000) (hj : j < (r.drop (a + 1)).length) :
  v9 P (Yb9 r j out) = .next (Yb9 r (j + 1) (nb8 r p (r.drop (a + 1))[j] ((r.drop (a + 1)).drop (j + 1)) out)) := by
 have hs : gL tP r (a + 1 + j) = (r.drop (a + 1))[j] := by rw [← oc1, Ya8 tP hj]
 have hbs : Bd (r.drop (a + 1))[j] := hb _ (List.mem_of_mem_drop (List.getElem_mem hj))
 have hd := hj
 rw [List.length_drop] at hd
 have hW : W (W ((a : Int) + (j : Int)) + 2) = ((a + 1 + (j + 1) : Nat) : Int) := by rw [wb3, Ga0 (by omega) (by omega)]; omega
 have hdl : (r.drop (a + 1)).length ≤ 4611686018427387904 := by rw [List.length_drop]; omega
 have hlo : inB ((a + 1 + (j + 1) : Nat) : Int) (r.length + 1) = true := f0 (by omega)
 rw [List.drop_drop]
 generalize hq : (r.drop (a + 1))[j] = q at *
 obtain ⟨x1, x2, x3, x4, x5, x6, x7, x8, x9, x10⟩ := P
 obtain ⟨i3, ns, gs, is, p1⟩ := h
 simp only at i3 ns gs is p1
 subst i3 ns gs is
 unfold v9
 have key : ∀ (P2 : i9), C2 P2 r p q (a + 1 + (j + 1)) → _ := fun P2 h2 => ye8 h2 hb hr hp hbs out ho
 cases out with
 | nil =>
  show y7 Stp.next Stp.exit Stp.fail _ (Yb9 r j []) = _
  simp only [y7, Yb9, m0, m8, o9 hj hdl, hW, Int.toNat_natCast, hs, qd6, hlo]
  rw [show (⟨0, 0, 0, [], []⟩ : j6) = Yb8 0 [] from rfl]
  generalize hP : i9.mk _ _ _ _ _ _ _ _ _ _ _ _ _ _ _ _ _ _ _ _ _ = P2
  obtain ⟨m, hm⟩ := key P2 (by
   subst hP
   exact ⟨by simp, rfl, by simp, p1, qd5 q, rfl⟩)
  rw [hm, btD (n9 hj), bt (f0 hj)]
  cases nb8 r p q (r.drop (a + 1 + (j + 1))) [] <;> rfl
 | cons o os =>
  show y8 Stp.next Stp.exit Stp.fail _ (Yb9 r j (o :: os)) = _
  simp only [y8, Yb9, m0, m8, o9 hj hdl, hW, Int.toNat_natCast, hs, qd6, hlo]
  rw [show (⟨1, 0, (o :: os).length, bL tX (o :: os), Kb2 (o :: os)⟩ : j6) = Yb8 0 (o :: os) from rfl]
  generalize hP : i9.mk _ _ _ _ _ _ _ _ _ _ _ _ _ _ _ _ _ _ _ _ _ = P2
  obtain ⟨m, hm⟩ := key P2 (by
   subst hP
   exact ⟨by simp, rfl, by simp, p1, qd5 q, rfl⟩)
  rw [hm, btD (n9 hj), bt (f0 hj)]
  cases nb8 r p q (r.drop (a + 1 + (j + 1))) (o :: os) <;> rfl
theorem Me8 {P : j7} {r : List Pln} {p : Pln} {a : Nat} (h : C1 P r p a) (j : Nat) (out : List Pt) (hj : (r.drop (a + 1)).length ≤ j) : v9 P (Yb9 r j out) = .exit (ph out + 1) := by
 obtain ⟨x1, x2, x3, x4, x5, x6, x7, x8, x9, x10⟩ := P
 obtain ⟨i3, ns, gs, is, p1⟩ := h
 simp only at i3 ns gs is p1
 subst i3 ns gs is
 unfold v9
 have this : ¬ ((j : Int) < ((r.drop (a + 1)).length : Int)) := by omega
 cases out with
 | nil =>
  show y7 Stp.next Stp.exit Stp.fail _ (Yb9 r j []) = _
  simp only [y7, Yb9]
  rw [bfD this]
  rfl
 | cons o os =>
  show y8 Stp.next Stp.exit Stp.fail _ (Yb9 r j (o :: os)) = _
  simp only [y8, Yb9]
  rw [bfD this]
  rfl
theorem ze0 {P : j7} {r : List Pln} {p : Pln} {a : Nat} (h : C1 P r p a) (hb : Bds r) (hr : r.length ≤ 200) (hp : Bd p) (out : List Pt) (ho : out.length ≤ 10000000) :
  ∃ m, lp (v9 P) (Yb9 r 0 out) = (ph (nb9 r p (r.drop (a + 1)) out) + 1, Yb9 r m (nb9 r p (r.drop (a + 1)) out)) := by
 have hd : (r.drop (a + 1)).length ≤ 200 := by rw [List.length_drop]; omega
 exact ⟨_, (Ra8 (mk := Yb9 r) (f := fun q l out => nb8 r p q l out) (g := fun l out => nb9 r p l out) (fin := fun out => ph out + 1) (r.drop (a + 1)) (fun k o => o.length ≤ out.length + 200 * k) (by omega)
  (fun _ => rfl) (fun _ _ _ => rfl) (fun k o hj hi => ⟨ye9 h hb hr hp k o (by omega) hj, by
   have := Pc9 r p (r.drop (a + 1))[k] ((r.drop (a + 1)).drop (k + 1)) o
   rw [List.length_drop] at this
   show (nb8 r p (r.drop (a + 1))[k] ((r.drop (a + 1)).drop (k + 1)) o).length ≤ out.length + 200 * (k + 1)
   omega⟩)
  (fun k o hj _ => Me8 h k o hj) 0 out (by omega)).1⟩
@[reducible] noncomputable def fc2 (r : List Pln) (j : Nat) (out : List Pt) : l8 := ⟨ph out, r, (j : Int), r, r, out.length, bL tX out, Kb2 out⟩
theorem ze1 {P : p9} (r : List Pln) (h : P.Ta9 = (r.length : Int)) (hb : Bds r) (hr : r.length ≤ 200) (a : Nat) (ha : a < r.length) (out : List Pt) (ho : out.length ≤ 40000 * a) :
  w6 P (fc2 r a out) = .next (fc2 r (a + 1) (nb9 r r[a] (r.drop (a + 1)) out)) := by
 have hbs : Bd r[a] := hb _ (List.getElem_mem ha)
 have hlo : inB ((a + 1 : Nat) : Int) (r.length + 1) = true := f0 (by omega)
 have key : ∀ (P2 : j7), C1 P2 r r[a] a → _ := fun P2 h2 => ze0 h2 hb hr hbs out (by omega)
 obtain ⟨x1⟩ := P
 simp only at h
 subst h
 unfold w6
 cases out with
 | nil =>
  show y9 Stp.next Stp.exit Stp.fail _ (fc2 r a []) = _
  simp only [y9, fc2, m0, m8, o9 ha (by omega), Int.toNat_natCast, hlo, Ya8 tP ha]
  rw [show (⟨0, r, 0, r, r, 0, [], []⟩ : j8) = Yb9 r 0 [] from rfl]
  generalize hP : j7.mk _ _ _ _ _ _ _ _ _ _ = P2
  obtain ⟨m, hm⟩ := key P2 (by
   subst hP
   exact ⟨rfl, by simp, rfl, by simp, rfl⟩)
  rw [hm, btD (n9 ha), bt (f0 ha)]
  cases nb9 r r[a] (r.drop (a + 1)) [] <;> rfl
 | cons o os =>
  show z4 Stp.next Stp.exit Stp.fail _ (fc2 r a (o :: os)) = _
  simp only [z4, fc2, m0, m8, o9 ha (by omega), Int.toNat_natCast, hlo, Ya8 tP ha]
  rw [show (⟨1, r, 0, r, r, (o :: os).length, bL tX (o :: os), Kb2 (o :: os)⟩ : j8) = Yb9 r 0 (o :: os) from rfl]
  generalize hP : j7.mk _ _ _ _ _ _ _ _ _ _ = P2
  obtain ⟨m, hm⟩ := key P2 (by
   subst hP
   exact ⟨rfl, by simp, rfl, by simp, rfl⟩)
  rw [hm, btD (n9 ha), bt (f0 ha)]
  cases nb9 r r[a] (r.drop (a + 1)) (o :: os) <;> rfl
theorem Me9 {P : p9} (r : List Pln) (h : P.Ta9 = (r.length : Int)) (j : Nat) (out : List Pt) (hj : r.length ≤ j) : w6 P (fc2 r j out) = .exit (ph out + 1) := by
 obtain ⟨x1⟩ := P
 simp only at h
 subst h
 unfold w6
 have this : ¬ ((j : Int) < (r.length : Int)) := by omega
 cases out with
 | nil =>
  show y9 Stp.next Stp.exit Stp.fail _ (fc2 r j []) = _
  simp only [y9, fc2]
  rw [bfD this]
  rfl
 | cons o os =>
  show z4 Stp.next Stp.exit Stp.fail _ (fc2 r j (o :: os)) = _
  simp only [z4, fc2]
  rw [bfD this]
  rfl
theorem ze2 (r : List Pln) (hb : Bds r) (hr : r.length ≤ 200) : ∃ m, lp (w6 ⟨(r.length : Int)⟩) (fc2 r 0 []) = (ph (cor r) + 1, fc2 r m (cor r)) :=
 ⟨_, (Ra8 (step := w6 ⟨(r.length : Int)⟩) (mk := fc2 r) (f := fun q l out => nb9 r q l out) (g := fun l out => Zc7 r l out) (fin := fun out => ph out + 1) r (fun k o => o.length ≤ 40000 * k) (by omega)
  (fun _ => rfl) (fun _ _ _ => rfl) (fun k o hj hi => ⟨ze1 r rfl hb hr k hj o hi, (qd2 r hb hr k hj o hi).2⟩)
  (fun k o hj _ => Me9 r rfl k o hj) 0 [] (by simp)).1⟩
theorem Qc3 (r : List Pln) (hb : Bds r) (hr : r.length ≤ 200) : W8 r = some (slX (cor r)) := by
 obtain ⟨m, hm⟩ := ze2 r hb hr
 unfold W8
 simp only [m0, m8]
 rw [show (⟨0, r, 0, r, r, 0, [], []⟩ : l8) = fc2 r 0 [] from rfl, hm]
 cases cor r <;> rfl
theorem hd9 (r : List Pln) (hb : Bds r) (hr : r.length ≤ 200) : W9 r = cor r := by unfold W9; rw [Qc3 r hb hr]; exact wa9 _ (qd4 _)
theorem id1 (r : List Pln) (hb : Bds r) (hr : r.length ≤ 200) : X0 r = true := by unfold X0; rw [Qc3 r hb hr]; exact Ia2 _ (qd4 _)
end Go.Ev.Ce
namespace Go.Ev.Ce
open Go Go.Ev Go.Ev.L Go.Proofs
noncomputable def slP (l : List Pln) : b7 × List b8 := (.sl 0 0 l.length 0, [⟨50, 4, bL tP l, true, false, 0⟩])
theorem fc3 (l : List Pln) : (one (r1L tP)).rd (slP l) = some l := by
 show Bool.rec (motive := fun _ => Option (List Pln)) none (some (slR tP (bL tP l) 0 l.length)) (Bool.and true (okS tP (bL tP l) 0 l.length)) = _
 rw [dc6, dc7]
 rfl
theorem id3 {α : Type} (t : Ty α) (l : List α) : (one (r1L t)).rd (eL t l, []) = some l := by
 show Bool.rec (motive := fun _ => Option (List α)) none (some (rt t l)) (Bool.and (Nat.beq t.es t.es) (okE t l)) = _
 rw [m0, J9, Nat.beq_refl]
 rfl
noncomputable def ws : List Pln := [⟨⟨1, 0, 0⟩, 24⟩, ⟨⟨-1, 0, 0⟩, 24⟩, ⟨⟨0, 1, 0⟩, 24⟩, ⟨⟨0, -1, 0⟩, 24⟩, ⟨⟨0, 0, 1⟩, 24⟩, ⟨⟨0, 0, -1⟩, 24⟩]
theorem Ge6 : Bds ws := by
 intro p hp
 have : okp p = true := by
  have h : ws.all okp = true := by decide
  exact List.all_eq_true.1 h p hp
 exact qd0 this
noncomputable def le0 (lo hi : V3) : List Pln := [⟨⟨1, 0, 0⟩, hi.x⟩, ⟨⟨-1, 0, 0⟩, W (0 - lo.x)⟩, ⟨⟨0, 1, 0⟩, hi.y⟩, ⟨⟨0, -1, 0⟩, W (0 - lo.y)⟩, ⟨⟨0, 0, 1⟩, hi.z⟩, ⟨⟨0, 0, -1⟩, W (0 - lo.z)⟩]
theorem le1 (lo hi : V3) : Wb1 lo hi = some (slP (le0 lo hi)) := rfl
theorem Ge7 (lo hi : V3) : Ab5 lo hi = le0 lo hi := by unfold Ab5; rw [le1]; exact wa9 _ (fc3 _)
theorem Ge8 (lo hi : V3) : kb0 lo hi = true := by unfold kb0; rw [le1]; exact Ia2 _ (fc3 _)
theorem Ne0 : le0 ⟨-24, -24, -24⟩ ⟨24, 24, 24⟩ = ws := by
 simp only [le0, ws]
 rw [show W (0 - -24) = 24 from by rw [Zd7]; rfl]
theorem ze3 {l : List Pln} : Nat.beq (len (bL tP l)) 0 = l.isEmpty := by rw [O5]; cases l <;> rfl
theorem le2 (c : List Pln) (hc : c.length ≤ 1000000000) : Ab6 c = some (slP (c ++ ws)) := by
 unfold Ab6
 simp only [lb3, Ge7, Ge8, Ne0, ze3]
 have h6 : (0 + len (bL tP c)) = c.length := by rw [O5]; omega
 have hw : len (bL tP ws) = 6 := rfl
 rw [h6, hw]
 have e1 : Nat.ble (c.length * 32) room = true := da8 (by omega)
 have e2 : Nat.ble ((c.length + 6) * 32) room = true := da8 (by omega)
 have e3 : app (app [] (bL tP c)) (bL tP ws) = bL tP (c ++ ws) := La7 tP c ws
 have e4 : Nat.beq c.length (len (app [] (bL tP c))) = true := by
  rw [show app [] (bL tP c) = bL tP c from rfl, O5, Nat.beq_refl]
 rw [e1, e2, e3, e4]
 cases c with
 | nil => rfl
 | cons p c =>
  show some (b7.sl 0 0 ((p :: c).length + 6) 0, [(⟨50, 4, bL tP (p :: c ++ ws), true, false, 0⟩ : b8)]) = _
  unfold slP
  rw [List.length_append]
  rfl
theorem Ge9 (c : List Pln) (hc : c.length ≤ 1000000000) : Ab7 c = c ++ ws := by unfold Ab7; rw [le2 c hc]; exact wa9 _ (fc3 _)
theorem He0 (c : List Pln) (hc : c.length ≤ 1000000000) : Ab8 c = true := by unfold Ab8; rw [le2 c hc]; exact Ia2 _ (fc3 _)
theorem le3 {l : List (List Pln)} {j : Nat} (h : j < l.length) : gL (tLs tP) l j = l[j] := Ya8 (tLs tP) h
theorem le4 (ls : List (List Pln)) (hn : ls.length ≤ 1000000000) (hl : ls.flatten.length ≤ 1000000000) : ∃ m, lp (G0 ⟨ls, ls, (ls.length : Int)⟩) ⟨0, 0⟩ = (1, ⟨(ls.flatten.length : Int), m⟩) := by
 have h := Ra8 (step := G0 ⟨ls, ls, (ls.length : Int)⟩) (mk := fun j (n : Nat) => (⟨(n : Int), (j : Int)⟩ : s5)) (f := fun l _ n => n + l.length) (g := fun l n => n + l.flatten.length) (fin := fun _ => 1) ls
  (fun j n => n + (ls.drop j).flatten.length = ls.flatten.length) hn (fun _ => rfl) (fun x r a => by simp only [List.flatten_cons, List.length_append]; omega)
  (fun j n hj hi => by
   rw [List.drop_eq_getElem_cons hj, List.flatten_cons, List.length_append] at hi
   have hW : W ((n : Int) + (ls[j].length : Int)) = ((n + ls[j].length : Nat) : Int) := by rw [Ga0 (by omega) (by omega)]; omega
   refine ⟨?_, by show n + ls[j].length + (ls.drop (j + 1)).flatten.length = _; omega⟩
   simp only [G0, L8, Int.toNat_natCast, le3 hj, hW, o9 hj (by omega)]
   rw [btD (n9 hj), bt (f0 hj), bfD (by omega)])
  (fun j n hj _ => by
   simp only [G0, L8]
   rw [bfD (by omega)]) 0 0 (by simp)
 have h := h.1
 rw [List.drop_zero, Nat.zero_add] at h
 exact ⟨_, h⟩
theorem le5 {ls : List (List Pln)} (h : ls.flatten = []) {j : Nat} (hj : j < ls.length) : ls[j] = [] := by
 rw [List.flatten_eq_nil_iff] at h
 exact h _ (List.getElem_mem hj)
theorem ze4 (ls : List (List Pln)) (hn : ls.length ≤ 1000000000) (hl : ls.flatten = []) : ∃ s, lp (A8 ⟨ls, (ls.length : Int)⟩) ⟨0, 0, 0, []⟩ = (1, s) := by
 have h := Ra8 (step := A8 ⟨ls, (ls.length : Int)⟩) (mk := fun j (_ : Unit) => (⟨0, (j : Int), 0, []⟩ : l0)) (f := fun _ _ n => n) (g := fun _ n => n) (fin := fun _ => 1) ls
  (fun _ _ => True) hn (fun _ => rfl) (fun x r a => rfl)
  (fun j n hj hi => by
   refine ⟨?_, trivial⟩
   show z5 Stp.next Stp.exit Stp.fail _ _ = _
   simp only [z5, Int.toNat_natCast, le3 hj, le5 hl hj, o9 hj (by omega)]
   rw [btD (n9 hj), bt (f0 hj)]
   rfl)
  (fun j n hj _ => by
   show z5 Stp.next Stp.exit Stp.fail _ _ = _
   simp only [z5]
   rw [bfD (by omega)]) 0 () trivial
 exact ⟨_, h.1⟩
noncomputable def yb0 (t : Nat) (d : List Pln) : List (List b7) := app (bL tP d) (List.replicate (t - d.length) pd6)
theorem le6 (t : Nat) (d : List Pln) (h : d.length ≤ t) : len (yb0 t d) = t := by
 unfold yb0
 rw [E6, l9, List.length_append, ← l9, O5, List.length_replicate]
 omega
theorem le7 (t : Nat) (d l : List Pln) (h : d.length + l.length ≤ t) : app (G6 (yb0 t d) d.length) (app (bL tP l) (e7 (yb0 t d) (d.length + len (bL tP l)))) = yb0 t (d ++ l) := by
 have hd : (bL tP d).length = d.length := by rw [← l9, O5]
 unfold yb0
 rw [O5, ← La7]
 simp only [E6, E4, E5]
 rw [List.take_left' hd, List.append_assoc]
 congr 2
 rw [List.drop_append, List.drop_eq_nil_of_le (by omega), List.nil_append, hd, List.drop_replicate, List.length_append]
 congr 1
 omega
theorem le8 (ls : List (List Pln)) (hn : ls.length ≤ 1000000000) : ∃ m, lp (A8 ⟨ls, (ls.length : Int)⟩) ⟨1, 0, 0, List.replicate ls.flatten.length pd6⟩ = (2, ⟨1, m, ls.flatten.length, bL tP ls.flatten⟩) := by
 have h := Ra8 (step := A8 ⟨ls, (ls.length : Int)⟩) (mk := fun j (d : List Pln) => (⟨1, (j : Int), d.length, yb0 ls.flatten.length d⟩ : l0)) (f := fun l _ d => d ++ l) (g := fun l d => d ++ l.flatten) (fin := fun _ => 2) ls
  (fun j d => d.length + (ls.drop j).flatten.length = ls.flatten.length) hn (fun _ => by simp) (fun x r a => by simp)
  (fun j d hj hi => by
   rw [List.drop_eq_getElem_cons hj, List.flatten_cons, List.length_append] at hi
   refine ⟨?_, by show (d ++ ls[j]).length + (ls.drop (j + 1)).flatten.length = _; rw [List.length_append]; omega⟩
   show z6 Stp.next Stp.exit Stp.fail _ _ = _
   simp only [z6, Int.toNat_natCast, le3 hj, o9 hj (by omega), lb3]
   rw [le7 _ _ _ (by omega), le6 _ _ (by omega), O5, btD (n9 hj), bt (f0 hj), bt (by rw [Nat.ble_eq]; omega), List.length_append])
  (fun j d hj _ => by
   show z6 Stp.next Stp.exit Stp.fail _ _ = _
   simp only [z6]
   rw [bfD (by omega)]) 0 [] (by simp)
 have h := h.1
 rw [List.drop_zero, List.nil_append] at h
 have e : yb0 ls.flatten.length ls.flatten = bL tP ls.flatten := by unfold yb0; rw [Nat.sub_self, E6]; simp
 rw [e] at h
 exact ⟨_, h⟩
theorem He1 (ls : List (List Pln)) (hn : ls.length ≤ 1000000000) (hl : ls.flatten.length ≤ 1000000000) : Bb5 ls = some (slP (ls.flatten ++ ws)) := by
 have hc : ja3 ls = if ls.flatten = [] then ⟨1, 0, []⟩ else ⟨2, ls.flatten.length, bL tP ls.flatten⟩ := by
  unfold ja3 M3
  simp only [m0, m8]
  obtain ⟨m, hm⟩ := le4 ls hn hl
  rw [hm]
  by_cases h0 : ls.flatten = []
  ·obtain ⟨s, hs⟩ := ze4 ls hn h0
   rw [if_pos h0, hs]
   rw [show (⟨(ls.flatten.length : Int), m⟩ : s5) = ⟨0, m⟩ by rw [h0]; rfl]
   rfl
  ·obtain ⟨m', hm'⟩ := le8 ls hn
   rw [if_neg h0]
   simp only [Int.toNat_natCast]
   rw [hm']
   have h1 : 0 < ls.flatten.length := List.length_pos_iff.2 h0
   have e1 : ((ls.flatten.length : Int) == 0) = false := by rw [beq_eq_false_iff_ne]; omega
   have e2 : Bool.and (decide ((0 : Int) < (ls.flatten.length : Int))) (Nat.ble (ls.flatten.length * 32) room) = true := by
    rw [da8 (by omega), decide_eq_true (by omega)]
    rfl
   rw [e1, e2]
   rfl
 unfold Bb5
 simp only [m0, J9, hc]
 by_cases h0 : ls.flatten = []
 ·rw [if_pos h0, h0]; rfl
 ·rw [if_neg h0]
  generalize ls.flatten = c at *
  have e : ∀ (d : List Pln) (p : Pln), app (bL tP d) [[i p.n.x, i p.n.y, i p.n.z, i p.b]] = bL tP (d ++ [p]) := fun d p => La7 tP d [p]
  have c1 := e c ⟨⟨1, 0, 0⟩, 24⟩
  have c2 := e (c ++ [⟨⟨1, 0, 0⟩, 24⟩]) ⟨⟨-1, 0, 0⟩, 24⟩
  have c3 := e (c ++ [⟨⟨1, 0, 0⟩, 24⟩] ++ [⟨⟨-1, 0, 0⟩, 24⟩]) ⟨⟨0, 1, 0⟩, 24⟩
  have c4 := e (c ++ [⟨⟨1, 0, 0⟩, 24⟩] ++ [⟨⟨-1, 0, 0⟩, 24⟩] ++ [⟨⟨0, 1, 0⟩, 24⟩]) ⟨⟨0, -1, 0⟩, 24⟩
  have c5 := e (c ++ [⟨⟨1, 0, 0⟩, 24⟩] ++ [⟨⟨-1, 0, 0⟩, 24⟩] ++ [⟨⟨0, 1, 0⟩, 24⟩] ++ [⟨⟨0, -1, 0⟩, 24⟩]) ⟨⟨0, 0, 1⟩, 24⟩
  have c6 := e (c ++ [⟨⟨1, 0, 0⟩, 24⟩] ++ [⟨⟨-1, 0, 0⟩, 24⟩] ++ [⟨⟨0, 1, 0⟩, 24⟩] ++ [⟨⟨0, -1, 0⟩, 24⟩] ++ [⟨⟨0, 0, 1⟩, 24⟩]) ⟨⟨0, 0, -1⟩, 24⟩
  simp only at c1 c2 c3 c4 c5 c6
  simp only [c1, c2, c3, c4, c5, c6, O5, List.length_append, List.length_singleton]
  have g : ∀ n : Nat, n ≤ 1000000010 → (Nat.beq n n && Nat.ble ((n + 1) * 32) room) = true := fun n h => by rw [Nat.beq_refl, da8 (by omega)]; rfl
  rw [g _ (by omega), g _ (by omega), g _ (by omega), g _ (by omega), g _ (by omega), g _ (by omega)]
  show some (b7.sl 0 0 (c.length + 1 + 1 + 1 + 1 + 1 + 1) 0, [(⟨50, 4, bL tP _, true, false, 0⟩ : b8)]) = _
  unfold slP
  rw [List.length_append]
  simp only [List.append_assoc]
  rfl
theorem Xe2 (ls : List (List Pln)) (hn : ls.length ≤ 1000000000) (hl : ls.flatten.length ≤ 1000000000) : Wa0 ls = ls.flatten ++ ws := by unfold Wa0; rw [He1 ls hn hl]; exact wa9 _ (fc3 _)
theorem Xe3 (ls : List (List Pln)) (hn : ls.length ≤ 1000000000) (hl : ls.flatten.length ≤ 1000000000) : Wa1 ls = true := by unfold Wa1; rw [He1 ls hn hl]; exact Ia2 _ (fc3 _)
theorem He2 (c : List Pln) (hc : c.length ≤ 1000000000) : Wa0 [c] = c ++ ws := by
 have : [c].flatten = c := by simp
 rw [Xe2 [c] (by simp) (by rw [this]; exact hc), this]
theorem He3 (c : List Pln) (hc : c.length ≤ 1000000000) : Wa1 [c] = true := by
 have : [c].flatten = c := by simp
 exact Xe3 [c] (by simp) (by rw [this]; exact hc)
theorem id4 (ls : List (List Pln)) (hn : ls.length ≤ 1000000000) (hl : ∀ c ∈ ls, c.length ≤ 1000000000) : Ra4 ls = some (b (ls.all fun c => chk c == 0), []) := by
 have hv : ∀ c ∈ ls, Ra2 c = !(chk c == 0) ∧ Ra3 c = true := fun c hc => by
  have : Ba3 c = some (b (!(chk c == 0)), []) := by
   unfold Ba3
   simp only [m0, J9, Sd7 c (hl c hc), Sd8 c (hl c hc)]
   rfl
  unfold Ra2 Ra3
  rw [this]
  exact ⟨rfl, rfl⟩
 have h := gb6 (step := E9 ⟨ls, (ls.length : Int)⟩) (mk := fun j => (⟨(j : Int)⟩ : o3)) (c := fun c => !(chk c == 0)) (u := 1) (fin := 2) (tLs tP) ls hn
  (fun j hj => by
   have hm := hv _ (Lc5 (tLs tP) hj)
   simp only [E9, C7, Int.toNat_natCast, m0, J9, hm.1, hm.2, o9 hj (by omega)]
   rw [btD (n9 hj), bt (f0 hj), q7, q7])
  (by simp only [E9, C7]; rw [bfD (P1 (Nat.lt_irrefl _))]) 0 (Nat.zero_le _)
 rw [List.drop_zero] at h
 have e : (ls.any fun c => !(chk c == 0)) = !ls.all fun c => chk c == 0 := by rw [List.not_all_eq_any_not]
 unfold Ra4 ba9 A0 ja8 D4
 simp only [m0, m8]
 rw [show (⟨0⟩ : o3) = ⟨((0 : Nat) : Int)⟩ from rfl, h, e]
 cases ls.all fun c => chk c == 0 with
 | true => rfl
 | false =>
  simp only [Bool.not_false, if_true, Nat.zero_add]
  show sl true (sl (Nat.beq 1 1) (some (b (!(decide (((ls.findIdx fun c => !(chk c == 0) : Nat) : Int) ≥ 0))), [])) _) _ = _
  rw [show decide (((ls.findIdx fun c => !(chk c == 0) : Nat) : Int) ≥ 0) = true from decide_eq_true (by omega)]
  rfl
theorem Cd8 (ls : List (List Pln)) (hn : ls.length ≤ 1000000000) (hl : ∀ c ∈ ls, c.length ≤ 1000000000) : ea4 ls = ls.all fun c => chk c == 0 := by unfold ea4; rw [id4 ls hn hl]; rfl
theorem Cd9 (ls : List (List Pln)) (hn : ls.length ≤ 1000000000) (hl : ∀ c ∈ ls, c.length ≤ 1000000000) : ea5 ls = true := by unfold ea5; rw [id4 ls hn hl]; rfl
theorem oc2 (c : List Pln) (hc : c.length ≤ 1000000000) : ea4 [c] = (chk c == 0) := by
 rw [Cd8 [c] (by simp) (by simpa using hc)]
 simp
theorem oc3 (c : List Pln) (hc : c.length ≤ 1000000000) : ea5 [c] = true := Cd9 [c] (by simp) (by simpa using hc)
noncomputable def pos (X : List Pt) (p : Pln) : Bool := X.any fun x => decide (rm p x > 0)
noncomputable def Zc9 (r : List Pln) : Bool := r.all (pos (cor r))
theorem le9 (p : Pln) (X : List Pt) (hX : X.length ≤ 1000000000) : ma2 ⟨p.n.x, p.n.y, p.n.z, p.b, X⟩ = ⟨1, !pos X p⟩ := by
 have hw : ∀ x : Pt, ta6 ⟨x.px, x.py, x.pz, x.pw, p.n.x, p.n.y, p.n.z, p.b⟩ = ⟨decide (rm p x > 0)⟩ := fun x => by
  show S8.mk (decide (sa8 p x > 0)) = _
  rw [pd8]
 have h := gb6 (step := H9 ⟨X, (X.length : Int), p.n.x, p.n.y, p.n.z, p.b⟩) (mk := fun j => (⟨(j : Int)⟩ : p4)) (c := fun x => decide (rm p x > 0)) (u := 1) (fin := 2) tX X hX
  (fun j hj => by
   simp only [H9, F4, Int.toNat_natCast, hw, o9 hj (by omega)]
   rw [btD (n9 hj), bt (f0 hj)])
  (by simp only [H9, F4]; rw [bfD (P1 (Nat.lt_irrefl _))]) 0 (Nat.zero_le _)
 rw [List.drop_zero] at h
 unfold ma2 P0 ea7 B0 oa3 G1 pos
 simp only [m0, m8]
 rw [show (⟨0⟩ : p4) = ⟨((0 : Nat) : Int)⟩ from rfl, h]
 cases X.any fun x => decide (rm p x > 0) with
 | false => rfl
 | true =>
  simp only [if_true, Nat.zero_add]
  show aa0.mk 1 (!(decide (((X.findIdx fun x => decide (rm p x > 0) : Nat) : Int) ≥ 0))) = _
  rw [show decide (((X.findIdx fun x => decide (rm p x > 0) : Nat) : Int) ≥ 0) = true from decide_eq_true (by omega)]
theorem Td1 (r : List Pln) (hb : Bds r) (hr : r.length ≤ 200) : ha6 r = some (b (Zc9 r), []) := by
 have hX : (cor r).length ≤ 1000000000 := Nat.le_trans (qd3 r hb hr) (by omega)
 have h := gb6 (step := F5 ⟨r, (r.length : Int)⟩) (mk := fun j => (⟨(j : Int), cor r⟩ : o4)) (c := fun p => !pos (cor r) p) (u := 1) (fin := 2) tP r (by omega)
  (fun j hj => by
   simp only [F5, C8, Int.toNat_natCast, m0, m8, le9 _ _ hX, o9 hj (by omega)]
   rw [btD (n9 hj), bt (f0 hj)]
   rfl)
  (by simp only [F5, C8]; rw [bfD (P1 (Nat.lt_irrefl _))]) 0 (Nat.zero_le _)
 rw [List.drop_zero] at h
 have e : (r.any fun p => !pos (cor r) p) = !r.all (pos (cor r)) := by rw [List.not_all_eq_any_not]
 unfold ha6 ca1 A1 ka0 D5 Zc9
 simp only [m0, m8, J9, hd9 r hb hr, id1 r hb hr]
 rw [show (⟨0, cor r⟩ : o4) = ⟨((0 : Nat) : Int), cor r⟩ from rfl, h, e]
 cases r.all (pos (cor r)) with
 | true => rfl
 | false =>
  simp only [Bool.not_false, if_true, Nat.zero_add]
  show some (b (!(decide (((r.findIdx fun p => !pos (cor r) p : Nat) : Int) ≥ 0))), []) = _
  rw [show decide (((r.findIdx fun p => !pos (cor r) p : Nat) : Int) ≥ 0) = true from decide_eq_true (by omega)]
  rfl
theorem me0 (r : List Pln) (hb : Bds r) (hr : r.length ≤ 200) : ha7 r = Zc9 r := by unfold ha7; rw [Td1 r hb hr]; rfl
theorem me1 (r : List Pln) (hb : Bds r) (hr : r.length ≤ 200) : ha8 r = true := by unfold ha8; rw [Td1 r hb hr]; rfl
theorem Od0 (r : List Pln) (X : List Pt) (hr : r.length ≤ 200) (hX : X.length ≤ 1000000000) (a : Nat) (ha : a < r.length) : ∃ m, lp (wa6 ⟨r, X, (a : Int)⟩) ⟨false, 0⟩ = (1, ⟨pos X r[a], m⟩) := by
 have h := Vb5 (step := wa6 ⟨r, X, (a : Int)⟩) (mk := fun j (c : Bool) => (⟨c, (j : Int)⟩ : la6)) (f := fun c x => c || decide (rm r[a] x > 0)) (fin := 1) tX X (fun _ _ => True) hX
  (fun j c hj _ => ⟨by
   simp only [wa6, Aa5, Int.toNat_natCast, Gc6, o9 hj (by omega), Ya8 tP ha, f0 ha, f0 hj]
   rw [btD (n9 hj)]
   cases c <;> rfl, trivial⟩)
  (fun c _ => by simp only [wa6, Aa5]; rw [bfD (P1 (Nat.lt_irrefl _))]) 0 (Nat.zero_le _) false trivial
 have h := h.1
 rw [List.drop_zero] at h
 have e : ∀ (l : List Pt) (c : Bool), l.foldl (fun c x => c || decide (rm r[a] x > 0)) c = (c || l.any fun x => decide (rm r[a] x > 0)) := by
  intro l
  induction l with
  | nil => intro c; simp
  | cons x l ih => intro c; rw [List.foldl_cons, ih, List.any_cons, Bool.or_assoc]
 rw [e, Bool.false_or] at h
 exact ⟨_, h⟩
theorem Td2 (r : List Pln) (hb : Bds r) (hr : r.length ≤ 200) : mb7 r = some (b (Zc9 r), []) := by
 have hX : (cor r).length ≤ 1000000000 := Nat.le_trans (qd3 r hb hr) (by omega)
 have h := lb4 (step := Ha4 ⟨⟩) (mk := fun j => (⟨r, cor r, (j : Int)⟩ : da9)) (c := fun p => !pos (cor r) p) (u := 1) (fin := 2) tP r (by omega)
  (fun j hj => by
   obtain ⟨m, hm⟩ := Od0 r (cor r) hr hX j hj
   simp only [Ha4, Aa6, m0, m8, hm, o9 hj (by omega), Ya8 tP hj]
   rw [btD (n9 hj)]
   rfl)
  (by simp only [Ha4, Aa6]; rw [bfD (P1 (Nat.lt_irrefl _))]) 0 (Nat.zero_le _)
 rw [List.drop_zero] at h
 have e : (r.any fun p => !pos (cor r) p) = !r.all (pos (cor r)) := by rw [List.not_all_eq_any_not]
 unfold mb7 Zc9
 simp only [m0, m8, J9, Qc0 r hb hr, Qc1 r hb hr]
 rw [show (⟨r, cor r, 0⟩ : da9) = ⟨r, cor r, ((0 : Nat) : Int)⟩ from rfl, h, e]
 cases r.all (pos (cor r)) <;> rfl
theorem Ne1 (r : List Pln) (hb : Bds r) (hr : r.length ≤ 200) : Fb6 r = Zc9 r := by unfold Fb6; rw [Td2 r hb hr]; rfl
theorem Ne2 (r : List Pln) (hb : Bds r) (hr : r.length ≤ 200) : Fb7 r = true := by unfold Fb7; rw [Td2 r hb hr]; rfl
theorem vb0 {c : List Pln} (h : (chk c == 0) = true) : Bds (c ++ ws) ∧ (c ++ ws).length ≤ 200 := by
 rw [beq_iff_eq, Pc8] at h
 refine ⟨fun p hp => ?_, by rw [List.length_append, show ws.length = 6 from rfl]; omega⟩
 rcases List.mem_append.1 hp with hp | hp
 ·exact qd0 (h.2 p hp)
 ·exact Ge6 p hp
noncomputable def pts (c : List Pln) : List Pt := if chk c == 0 then cor (c ++ ws) else []
noncomputable def ful (c : List Pln) : Bool := (chk c == 0) && Zc9 (c ++ ws)
theorem Dd0 {c : List Pln} (hc : c.length ≤ 1000000000) : ∃ x, Ia1 c = some x ∧ (one (r1L tX)).rd x = some (pts c) := by
 unfold Ia1 pts
 simp only [m0, J9, oc2 c hc, oc3 c hc, He2 c hc, He3 c hc]
 cases h : chk c == 0 with
 | false => exact ⟨_, rfl, rfl⟩
 | true =>
  obtain ⟨h1, h2⟩ := vb0 h
  rw [hd9 _ h1 h2, id1 _ h1 h2]
  exact ⟨_, rfl, id3 tX _⟩
theorem ob0 {c : List Pln} (hc : c.length ≤ 1000000000) : Q9 c = pts c := by
 obtain ⟨x, h1, h2⟩ := Dd0 hc
 unfold Q9; rw [h1]; exact wa9 _ h2
theorem ob1 {c : List Pln} (hc : c.length ≤ 1000000000) : R2 c = true := by
 obtain ⟨x, h1, h2⟩ := Dd0 hc
 unfold R2; rw [h1]; exact Ia2 _ h2
theorem id5 {c : List Pln} (hc : c.length ≤ 1000000000) : ∃ x, Pa9 c = some x ∧ (one (r1L tX)).rd x = some (pts c) := by
 unfold Pa9 pts
 simp only [m0, J9, Pc6 c hc, Pc7 c hc, Ge9 c hc, He0 c hc]
 have e : (chk c != 0) = !(chk c == 0) := rfl
 rw [e]
 cases h : chk c == 0 with
 | false => exact ⟨_, rfl, rfl⟩
 | true =>
  obtain ⟨h1, h2⟩ := vb0 h
  rw [Qc0 _ h1 h2, Qc1 _ h1 h2]
  exact ⟨_, rfl, id3 tX _⟩
theorem be7 {c : List Pln} (hc : c.length ≤ 1000000000) : gb7 c = pts c := by
 obtain ⟨x, h1, h2⟩ := id5 hc
 unfold gb7; rw [h1]; exact wa9 _ h2
theorem be8 {c : List Pln} (hc : c.length ≤ 1000000000) : gb8 c = true := by
 obtain ⟨x, h1, h2⟩ := id5 hc
 unfold gb8; rw [h1]; exact Ia2 _ h2
theorem Td3 {c : List Pln} (hc : c.length ≤ 1000000000) : ab8 c = some (b (ful c), []) := by
 unfold ab8 ful
 simp only [m0, J9, oc2 c hc, oc3 c hc, He2 c hc, He3 c hc]
 cases h : chk c == 0 with
 | false => rfl
 | true =>
  obtain ⟨h1, h2⟩ := vb0 h
  rw [me0 _ h1 h2, me1 _ h1 h2]
  rfl
theorem Rb6 {c : List Pln} (hc : c.length ≤ 1000000000) : aa2 c = ful c := by unfold aa2; rw [Td3 hc]; rfl
theorem Rb7 {c : List Pln} (hc : c.length ≤ 1000000000) : aa3 c = true := by unfold aa3; rw [Td3 hc]; rfl
theorem Dd1 {c : List Pln} (hc : c.length ≤ 1000000000) : mb8 c = some (b (ful c), []) := by
 unfold mb8 ful
 simp only [m0, J9, Pc6 c hc, Pc7 c hc, Ge9 c hc, He0 c hc]
 cases h : chk c == 0 with
 | false => rfl
 | true =>
  obtain ⟨h1, h2⟩ := vb0 h
  rw [Ne1 _ h1 h2, Ne2 _ h1 h2]
  rfl
theorem ze5 {c : List Pln} (hc : c.length ≤ 1000000000) : Va4 c = ful c := by unfold Va4; rw [Dd1 hc]; rfl
theorem Td4 {c : List Pln} (hc : c.length ≤ 1000000000) : Ma0 c = true := by unfold Ma0; rw [Dd1 hc]; rfl
end Go.Ev.Ce
section
namespace Go.Ev.Ce
open Go Go.Ev Go.Ev.L Go.Proofs
set_option maxRecDepth 100000
structure Ka5 where
 is1 : Int
 e8 : List Int
 b9 : Int
noncomputable def vc6 : List (Nat × Sum) := [(47, Bb0)]
theorem oc4 : i6 prog G vc6 := ⟨Fb8, trivial⟩
structure Ka6 where
 alt : Nat
 is0 : Int
 b9 : Int
noncomputable def ka8 {α : Type} (kk : Ka6 → α) (x : Ka5) : α := let t1 := (wa7 (gL tI x.e8 (W ((W (x.b9 + 1)) - 1)).toNat) x.is1); (sl (decide (x.b9 ≥ (↑(List.length x.e8) : Int))) (kk ⟨1, 0, x.b9⟩) (sl (inB (W ((W (x.b9 + 1)) - 1)) (List.length x.e8)) (sl (qa1 (gL tI x.e8 (W ((W (x.b9 + 1)) - 1)).toNat) x.is1) (kk ⟨1, t1, (W (x.b9 + 1))⟩) (kk ⟨0, 0, 0⟩)) (kk ⟨0, 0, 0⟩)))
noncomputable def l4 (x : Ka5) : Ka6 := ka8 (fun r => r) x
noncomputable def Wa4 (x : Ka5) (r : Ka6) : DT (b7 × List b8) := (.ite (Nat.beq r.alt 1) (.ret ((i r.is0), [⟨0, 2, [[(eL tI x.e8), (i r.b9)]], true, false, 0⟩])) .fail)
theorem Dc4 {α β : Type} (F : α → β) (kk : Ka6 → α) (x : Ka5) : F (ka8 kk x) = ka8 (fun r => F (kk r)) x := by unfold ka8; (repeat' apply k9 (f := F)) <;> rfl
noncomputable def ka9 : Sum := Pa4 ⟨[(.s (.o (.ptr 0 0 0 0))), (.s (.o (.int .i64)))], [⟨0, 2, true, (some [[(.c 1 (nL tI)), (.o (.int .i64))]])⟩], fun a H => (⟨(toI (slT a 1)), (rL tI (slT (rwT (elT H 0) 0) 0)), (toI (slT (rwT (elT H 0) 0) 1))⟩, ())⟩ (fun x => Wa4 x (l4 x))
theorem ra3 : g9 prog G 98 ka9 := J5 (enc := fun x => ⟨[(.ptr 0 0 0 0), (i x.is1)], [⟨0, 2, [[(eL tI x.e8), (i x.b9)]], true, false, 0⟩]⟩) (fun a H => by kernel_rfl) (bd b98 oc4) fun x => r9 (Eq.trans (b := ka8 (fun r => (Wa4 x r).run) x) (by kernel_rfl) (Dc4 (fun r => (Wa4 x r).run) (fun r => r) x).symm)
structure Wb3 where
 is1 : Int
 e8 : List Int
 b9 : Int
noncomputable def Od1 : List (Nat × Sum) := [(98, ka9)]
theorem Dd2 : i6 prog G Od1 := ⟨ra3, trivial⟩
structure Wb4 where
 alt : Nat
 na5 : Int
 na6 : Int
 na7 : Int
 e8 : List Int
 b9 : Int
noncomputable def kb1 {α : Type} (kk : Wb4 → α) (x : Wb3) : α := let t1 := (l4 ⟨(W ((W (2 * x.is1)) + 1)), (rt tI x.e8), x.b9⟩); let t2 := (l4 ⟨(W ((W (2 * x.is1)) + 1)), (rt tI (rt tI x.e8)), t1.b9⟩); let t3 := (l4 ⟨(W ((W (2 * x.is1)) + 1)), (rt tI (rt tI (rt tI x.e8))), t2.b9⟩); (sl ((cnE tI x.e8) && true) (sl (Nat.beq t1.alt 1) (sl ((cnE tI (rt tI x.e8)) && true) (sl (Nat.beq t2.alt 1) (sl ((cnE tI (rt tI (rt tI x.e8))) && true) (sl (Nat.beq t3.alt 1) (kk ⟨1, (W (t1.is0 - x.is1)), (W (t2.is0 - x.is1)), (W (t3.is0 - x.is1)), (rt tI (rt tI (rt tI x.e8))), t3.b9⟩) (kk ⟨0, 0, 0, 0, [], 0⟩)) (kk ⟨0, 0, 0, 0, [], 0⟩)) (kk ⟨0, 0, 0, 0, [], 0⟩)) (kk ⟨0, 0, 0, 0, [], 0⟩)) (kk ⟨0, 0, 0, 0, [], 0⟩)) (kk ⟨0, 0, 0, 0, [], 0⟩))
noncomputable def Ea6 (x : Wb3) : Wb4 := kb1 (fun r => r) x
noncomputable def fc4 (x : Wb3) (r : Wb4) : DT (b7 × List b8) := (.ite (Nat.beq r.alt 1) (.ret ((.agg [(i r.na5), (i r.na6), (i r.na7)]), [⟨0, 2, [[(eL tI r.e8), (i r.b9)]], true, false, 0⟩])) .fail)
theorem be9 {α β : Type} (F : α → β) (kk : Wb4 → α) (x : Wb3) : F (kb1 kk x) = kb1 (fun r => F (kk r)) x := by unfold kb1; (repeat' apply k9 (f := F)) <;> rfl
noncomputable def Wb5 : Sum := Pa4 ⟨[(.s (.o (.ptr 0 0 0 0))), (.s (.o (.int .i64)))], [⟨0, 2, true, (some [[(.c 1 (nL tI)), (.o (.int .i64))]])⟩], fun a H => (⟨(toI (slT a 1)), (rL tI (slT (rwT (elT H 0) 0) 0)), (toI (slT (rwT (elT H 0) 0) 1))⟩, ())⟩ (fun x => fc4 x (Ea6 x))
theorem fc5 : g9 prog G 97 Wb5 := J5 (enc := fun x => ⟨[(.ptr 0 0 0 0), (i x.is1)], [⟨0, 2, [[(eL tI x.e8), (i x.b9)]], true, false, 0⟩]⟩) (fun a H => by kernel_rfl) (bd b97 Dd2) fun x => r9 (Eq.trans (b := kb1 (fun r => (fc4 x r).run) x) (by kernel_rfl) (be9 (fun r => (fc4 x r).run) (fun r => r) x).symm)
noncomputable def Od2 : List (Nat × Sum) := []
theorem Dd3 : i6 prog G Od2 := trivial
noncomputable def Na7 (x : V3) (y : V3) : V3 := (⟨(W (x.x - y.x)), (W (x.y - y.y)), (W (x.z - y.z))⟩ : V3)
noncomputable def vc7 : Sum := oa1 (R4 tV) (R4 tV) (fun x y => .ret ((one r1V).enc (Na7 x y), []))
theorem Qc4 : g9 prog G 187 vc7 := Ea1 (bd hf8 Dd3) fun x y => r9 (by kernel_rfl)
noncomputable def ce0 : List (Nat × Sum) := [(166, Ea2)]
theorem Od3 : i6 prog G ce0 := ⟨Pa8, trivial⟩
noncomputable def Rb8 (x : V3) : Option (b7 × List b8) := (sl (decide (x.x < (-24))) (some ((b false), [])) (sl (decide (x.x > 24)) (some ((b false), [])) (sl (decide (x.y < (-24))) (some ((b false), [])) (sl (decide (x.y > 24)) (some ((b false), [])) (sl (decide (x.z < (-24))) (some ((b false), [])) (sl (decide (x.z > 24)) (some ((b false), [])) (some ((b true), []))))))))
noncomputable def Ra9 (x : V3) : Bool := K5 (one r1B) (Rb8 x)
noncomputable def Sa0 (x : V3) : Bool := okO (one r1B) (Rb8 x)
noncomputable def Rb9 : Sum := R3 (R4 tV) (fun x => .guard (Sa0 x) (.ret ((one r1B).enc (Ra9 x), [])))
theorem Wb6 : g9 prog G 109 Rb9 := za1 (bd ef2 Od3) (one r1B) (o := Rb8) fun x => r9 (by kernel_rfl)
noncomputable def Qc5 : List (Nat × Sum) := [(109, Rb9), (187, vc7), (186, Qb0), (167, ec3), (130, Wb0)]
theorem Dc5 : i6 prog G Qc5 := ⟨Wb6, Qc4, lc4, zc1, ec0, trivial⟩
noncomputable def Ia3 (x : V3) (y : V3) (z : V3) : Option (b7 × List b8) := let t1 := (Ra9 x); let t2 := (Ra9 y); let t3 := (Ra9 z); let t4 := (Na7 y x); let t5 := (Na7 z x); let t6 := (T9 t4 t5); let t7 := (La9 t6); let t8 := (Na0 t7.1 x); (sl (Sa0 x) (sl (!t1) (some ((.tup [(.agg [(i 0), (i 0), (i 0), (i 0)]), (b false)]), [])) (sl (Sa0 y) (sl (!t2) (some ((.tup [(.agg [(i 0), (i 0), (i 0), (i 0)]), (b false)]), [])) (sl (Sa0 z) (sl (!t3) (some ((.tup [(.agg [(i 0), (i 0), (i 0), (i 0)]), (b false)]), [])) (sl (mb6 t6) (sl (t7.2 == 0) (some ((.tup [(.agg [(i 0), (i 0), (i 0), (i 0)]), (b false)]), [])) (some ((.tup [(.agg [(i t7.1.x), (i t7.1.y), (i t7.1.z), (i t8)]), (b true)]), []))) none)) none)) none)) none)
noncomputable def oa5 (x : V3) (y : V3) (z : V3) : Pln × Bool := K5 (two r1P r1B) (Ia3 x y z)
noncomputable def oa6 (x : V3) (y : V3) (z : V3) : Bool := okO (two r1P r1B) (Ia3 x y z)
noncomputable def Xa7 : Sum := Wc4 (R4 tV) (R4 tV) (R4 tV) (fun x y z => .guard (oa6 x y z) (.ret ((two r1P r1B).enc (oa5 x y z), [])))
theorem ob2 : g9 prog G 115 Xa7 := Je8 (bd ef6 Dc5) (two r1P r1B) (o := Ia3) fun x y z => r9 (by kernel_rfl)
noncomputable def Dd4 : List (Nat × Sum) := [(98, ka9), (97, Wb5), (115, Xa7), (47, Bb0)]
theorem qd7 : i6 prog G Dd4 := ⟨ra3, fc5, ob2, Fb8, trivial⟩
noncomputable def ob3 (x : List Int) : Option (b7 × List b8) := let t1 := (l4 ⟨8, (rt tI x), 0⟩); let t2 := (l4 ⟨17, (rt tI (rt tI x)), t1.b9⟩); let t3 := (Ea6 ⟨8, (rt tI (rt tI (rt tI x))), t2.b9⟩); let t4 := (Ea6 ⟨8, (rt tI t3.e8), t3.b9⟩); let t5 := (Ea6 ⟨8, (rt tI t4.e8), t4.b9⟩); let t6 := (oa5 (⟨t3.na5, t3.na6, t3.na7⟩ : V3) (⟨t4.na5, t4.na6, t4.na7⟩ : V3) (⟨t5.na5, t5.na6, t5.na7⟩ : V3)); let t7 := (wa7 (W (t2.is0 - 8)) 3); (sl ((cnE tI x) && true) (sl (Nat.beq t1.alt 1) (sl ((cnE tI (rt tI x)) && true) (sl (Nat.beq t2.alt 1) (sl ((cnE tI (rt tI (rt tI x))) && true) (sl (Nat.beq t3.alt 1) (sl ((cnE tI t3.e8) && true) (sl (Nat.beq t4.alt 1) (sl ((cnE tI t4.e8) && true) (sl (Nat.beq t5.alt 1) (sl (oa6 (⟨t3.na5, t3.na6, t3.na7⟩ : V3) (⟨t4.na5, t4.na6, t4.na7⟩ : V3) (⟨t5.na5, t5.na6, t5.na7⟩ : V3)) (sl (decide (t1.is0 > 1)) (sl t6.2 (some ((.agg [(i t6.1.n.x), (i t6.1.n.y), (i t6.1.n.z), (i t6.1.b)]), [])) (sl (qa1 (W (t2.is0 - 8)) 3) (sl (t7 == 1) (some ((.agg [(i 0), (i (W (1 - (W (2 * (Int.tmod t1.is0 2)))))), (i 0), (i (W (t2.is0 - 8)))]), [])) (sl (t7 == 2) (some ((.agg [(i 0), (i 0), (i (W (1 - (W (2 * (Int.tmod t1.is0 2)))))), (i (W (t2.is0 - 8)))]), [])) (some ((.agg [(i (W (1 - (W (2 * (Int.tmod t1.is0 2)))))), (i 0), (i 0), (i (W (t2.is0 - 8)))]), [])))) none)) (sl (qa1 (W (t2.is0 - 8)) 3) (sl (t7 == 1) (some ((.agg [(i 0), (i (W (1 - (W (2 * (Int.tmod t1.is0 2)))))), (i 0), (i (W (t2.is0 - 8)))]), [])) (sl (t7 == 2) (some ((.agg [(i 0), (i 0), (i (W (1 - (W (2 * (Int.tmod t1.is0 2)))))), (i (W (t2.is0 - 8)))]), [])) (some ((.agg [(i (W (1 - (W (2 * (Int.tmod t1.is0 2)))))), (i 0), (i 0), (i (W (t2.is0 - 8)))]), [])))) none)) none) none) none) none) none) none) none) none) none) none) none)
noncomputable def Qc6 (x : List Int) : Pln := K5 (one r1P) (ob3 x)
noncomputable def Hb0 (x : List Int) : Bool := okO (one r1P) (ob3 x)
noncomputable def Qc7 : Sum := R3 (W7 tI) (fun x => .guard (Hb0 x) (.ret ((one r1P).enc (Qc6 x), [])))
theorem Dd5 : g9 prog G 35 Qc7 := za1 (bd b35 qd7) (one r1P) (o := ob3) fun x => r9 (by kernel_rfl)
noncomputable def Dd6 : List (Nat × Sum) := [(187, vc7)]
theorem qd8 : i6 prog G Dd6 := ⟨Qc4, trivial⟩
noncomputable def Hb1 (x : Pln) : Pln := let t1 := (Na7 (⟨0, 0, 0⟩ : V3) x.n); (⟨t1, (W (0 - x.b))⟩ : Pln)
noncomputable def fc6 : Sum := R3 (R4 tP) (fun x => .ret ((one r1P).enc (Hb1 x), []))
theorem zc6 : g9 prog G 119 fc6 := Eb5 (bd ef8 qd8) fun x => r9 (by kernel_rfl)
noncomputable def Dd7 : List (Nat × Sum) := [(86, Qb4), (109, Rb9), (130, Wb0)]
theorem qd9 : i6 prog G Dd7 := ⟨mc4, Wb6, ec0, trivial⟩
noncomputable def ob4 (x : Pln) (y : V3) : Option (b7 × List b8) := let t1 := (Za2 x); let t2 := (Ra9 y); let t3 := (Na0 x.n y); (sl (Za3 x) (sl (!t1) (some ((i 0), [])) (sl (Sa0 y) (sl (!t2) (some ((i 0), [])) (sl (decide ((W (t3 - x.b)) < 0)) (some ((i (-1)), [])) (sl (decide ((W (t3 - x.b)) > 0)) (some ((i 1), [])) (some ((i 0), []))))) none)) none)
noncomputable def Hb2 (x : Pln) (y : V3) : Int := K5 (one r1I) (ob4 x y)
noncomputable def Hb3 (x : Pln) (y : V3) : Bool := okO (one r1I) (ob4 x y)
noncomputable def fc7 : Sum := oa1 (R4 tP) (R4 tV) (fun x y => .guard (Hb3 x y) (.ret ((one r1I).enc (Hb2 x y), [])))
theorem zc7 : g9 prog G 194 fc7 := gb5 (bd hf9 qd9) (one r1I) (o := ob4) fun x y => r9 (by kernel_rfl)
noncomputable def Sb0 : List (Nat × Sum) := []
theorem Dc6 : i6 prog G Sb0 := trivial
structure va8 where
 f9 : Int
 b9 : Int
 g7 : Int
 d9 : Int
 l5 : Int
 l6 : Int
 l7 : Int
 J7 : Int
structure N8 where
 is7 : Int
noncomputable def vc8 (p : va8) (s : N8) : St := ⟨(ra 5 ((.ptr 0 0 0 0) :: ((.ptr 1 0 0 0) :: ((i s.is7) :: (ra 42 []))))), [⟨0, 4, [[(i p.f9), (i p.b9), (i p.g7), (i p.d9)]], true, false, 0⟩, ⟨0, 4, [[(i p.l5), (i p.l6), (i p.l7), (i p.J7)]], true, false, 0⟩]⟩
noncomputable def T0 {α : Type} (k : N8 → α) (e : Nat → α) (z : α) (p : va8) (s : N8) : α := (sl (decide (s.is7 < 4)) (sl (inB s.is7 4) (sl ((Nat.ble ((0 + (s.is7.toNat * 1)) + 1) 4) && (J8 [(CK.int .i64)] (e7 [(i p.f9), (i p.b9), (i p.g7), (i p.d9)] (0 + (s.is7.toNat * 1))))) (sl (inB s.is7 4) (sl ((Nat.ble ((0 + (s.is7.toNat * 1)) + 1) 4) && (J8 [(CK.int .i64)] (e7 [(i p.l5), (i p.l6), (i p.l7), (i p.J7)] (0 + (s.is7.toNat * 1))))) (sl (decide ((toI (hdA (e7 [(i p.f9), (i p.b9), (i p.g7), (i p.d9)] (0 + (s.is7.toNat * 1))))) < (toI (hdA (e7 [(i p.l5), (i p.l6), (i p.l7), (i p.J7)] (0 + (s.is7.toNat * 1))))))) (e 1) (sl (inB s.is7 4) (sl ((Nat.ble ((0 + (s.is7.toNat * 1)) + 1) 4) && (J8 [(CK.int .i64)] (e7 [(i p.f9), (i p.b9), (i p.g7), (i p.d9)] (0 + (s.is7.toNat * 1))))) (sl (inB s.is7 4) (sl ((Nat.ble ((0 + (s.is7.toNat * 1)) + 1) 4) && (J8 [(CK.int .i64)] (e7 [(i p.l5), (i p.l6), (i p.l7), (i p.J7)] (0 + (s.is7.toNat * 1))))) (sl (decide ((toI (hdA (e7 [(i p.f9), (i p.b9), (i p.g7), (i p.d9)] (0 + (s.is7.toNat * 1))))) > (toI (hdA (e7 [(i p.l5), (i p.l6), (i p.l7), (i p.J7)] (0 + (s.is7.toNat * 1))))))) (e 2) (k ⟨(W (s.is7 + 1))⟩)) z) z) z) z)) z) z) z) z) (e 3))
noncomputable def G2 (p : va8) (s : N8) : Stp N8 := T0 .next .exit .fail p s
noncomputable def eb5 : Lo va8 N8 := ⟨En Sb0, 0, Fe3, [1, 1, 1, 0, 1, 4, 4], [5, 6, 7], .p, [⟨(ru2 5 ((.s (.o (.ptr 0 0 0 0))) :: ((.s (.o (.ptr 1 0 0 0))) :: ((.s (.o (.int .i64))) :: (ru2 42 []))))), [⟨0, 4, true, (some [[(.o (.int .i64)), (.o (.int .i64)), (.o (.int .i64)), (.o (.int .i64))]])⟩, ⟨0, 4, true, (some [[(.o (.int .i64)), (.o (.int .i64)), (.o (.int .i64)), (.o (.int .i64))]])⟩], fun a H => (⟨(toI (slT (rwT (elT H 0) 0) 0)), (toI (slT (rwT (elT H 0) 0) 1)), (toI (slT (rwT (elT H 0) 0) 2)), (toI (slT (rwT (elT H 0) 0) 3)), (toI (slT (rwT (elT H 1) 0) 0)), (toI (slT (rwT (elT H 1) 0) 1)), (toI (slT (rwT (elT H 1) 0) 2)), (toI (slT (rwT (elT H 1) 0) 3))⟩, ⟨(toI (slT a 7))⟩)⟩], G2, [(none, fun p s => ⟨[(i (-1))], []⟩), (none, fun p s => ⟨[(i 1)], []⟩), (some 0, fun p s => ⟨(ra 5 ((.ptr 0 0 0 0) :: ((.ptr 1 0 0 0) :: ((i s.is7) :: (ra 24 ((i s.is7) :: ((b (decide (s.is7 < 4))) :: (ra 16 [])))))))), [⟨0, 4, [[(i p.f9), (i p.b9), (i p.g7), (i p.d9)]], true, false, 0⟩, ⟨0, 4, [[(i p.l5), (i p.l6), (i p.l7), (i p.J7)]], true, false, 0⟩]⟩)], vc8⟩
theorem vc9 : eb5.Ok := Lo.ok [] (by kernel_rfl) .nil rfl (.cons (fun a H => by kernel_rfl) .nil) fun p s => (.of @T0 (fun F _ _ _ _ _ => by unfold T0; (repeat' apply k9 (f := F)) <;> rfl) (by kernel_rfl))
noncomputable def oa7 (x : Pln) (y : Pln) : Option (b7 × List b8) := let t1 := (lp (G2 (⟨x.n.x, x.n.y, x.n.z, x.b, y.n.x, y.n.y, y.n.z, y.b⟩ : va8)) (⟨0⟩ : N8)); (sl (Nat.beq t1.1 1) (some ((i (-1)), [])) (sl (Nat.beq t1.1 2) (some ((i 1), [])) (sl (Nat.beq t1.1 3) (some ((i 0), [])) none)))
noncomputable def Y7 (x : Pln) (y : Pln) : Int := K5 (one r1I) (oa7 x y)
noncomputable def Xa8 (x : Pln) (y : Pln) : Bool := okO (one r1I) (oa7 x y)
noncomputable def yb1 : Sum := oa1 (R4 tP) (R4 tP) (fun x y => .guard (Xa8 x y) (.ret ((one r1I).enc (Y7 x y), [])))
theorem Sb1 : g9 prog G 180 yb1 := gb5 (bd hf0 Dc6) (one r1I) (o := oa7) fun x y => sa6 (.s .p (.s .p (.s .p (.s (.s .p (.b (.u eb5.ls))) .p)))) [eb5.pr] (by kernel_rfl) (.cons vc9 .nil) (by kernel_rfl)
noncomputable def Od4 : List (Nat × Sum) := [(47, Bb0)]
theorem Dd8 : i6 prog G Od4 := ⟨Fb8, trivial⟩
noncomputable def Bb8 (x : Pln) (y : V3) : Option (b7 × List b8) := let t1 := (wa7 y.z 9); let t2 := (wa7 y.x 5); (sl (qa1 y.z 9) (sl (inB t1 9) (sl ((Nat.ble 1 (len (f7 [[(i y.y)], [(i 0)], [(i 4608)], [(i 4609)], [(i (-4609))], [(i (W (2 * x.n.x)))], [(i 2097152)], [(i 2097153)], [(i (-2097152))]] (0 + t1.toNat)))) && (J8 [(CK.int .i64)] (f7 [[(i y.y)], [(i 0)], [(i 4608)], [(i 4609)], [(i (-4609))], [(i (W (2 * x.n.x)))], [(i 2097152)], [(i 2097153)], [(i (-2097152))]] (0 + t1.toNat)))) (sl (qa1 y.x 5) (sl (t2 == 0) (some ((.agg [(i (toI (hdA (f7 [[(i y.y)], [(i 0)], [(i 4608)], [(i 4609)], [(i (-4609))], [(i (W (2 * x.n.x)))], [(i 2097152)], [(i 2097153)], [(i (-2097152))]] (0 + t1.toNat))))), (i x.n.y), (i x.n.z), (i x.b)]), [])) (sl (t2 == 1) (some ((.agg [(i x.n.x), (i (toI (hdA (f7 [[(i y.y)], [(i 0)], [(i 4608)], [(i 4609)], [(i (-4609))], [(i (W (2 * x.n.x)))], [(i 2097152)], [(i 2097153)], [(i (-2097152))]] (0 + t1.toNat))))), (i x.n.z), (i x.b)]), [])) (sl (t2 == 2) (some ((.agg [(i x.n.x), (i x.n.y), (i (toI (hdA (f7 [[(i y.y)], [(i 0)], [(i 4608)], [(i 4609)], [(i (-4609))], [(i (W (2 * x.n.x)))], [(i 2097152)], [(i 2097153)], [(i (-2097152))]] (0 + t1.toNat))))), (i x.b)]), [])) (sl (t2 == 3) (some ((.agg [(i x.n.x), (i x.n.y), (i x.n.z), (i (toI (hdA (f7 [[(i y.y)], [(i 0)], [(i 4608)], [(i 4609)], [(i (-4609))], [(i (W (2 * x.n.x)))], [(i 2097152)], [(i 2097153)], [(i (-2097152))]] (0 + t1.toNat)))))]), [])) (sl (t2 == 4) (some ((.agg [(i (W (2 * x.n.x))), (i (W (2 * x.n.y))), (i (W (2 * x.n.z))), (i x.b)]), [])) (some ((.agg [(i x.n.x), (i x.n.y), (i x.n.z), (i x.b)]), []))))))) none) none) none) none)
noncomputable def id6 (x : Pln) (y : V3) : Pln := K5 (one r1P) (Bb8 x y)
noncomputable def wc0 (x : Pln) (y : V3) : Bool := okO (one r1P) (Bb8 x y)
noncomputable def id7 : Sum := oa1 (R4 tP) (R4 tV) (fun x y => .guard (wc0 x y) (.ret ((one r1P).enc (id6 x y), [])))
theorem Od5 : g9 prog G 118 id7 := gb5 (bd ef7 Dd8) (one r1P) (o := Bb8) fun x y => r9 (by kernel_rfl)
end Go.Ev.Ce
end
