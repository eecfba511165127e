/- Own work: a part of the proof. -/
import Derived.Shelf.Spec.SlicesGrow
import Derived.Test.YtlccibobknidjaaGreatEvD0
import Derived.KernelRfl
import Derived.Test.YtlccibobknidjaaGreatEvD3
import Derived.Test.YtlccibobknidjaaGreatEvSp4
import Derived.Test.YtlccibobknidjaaGreatEvD2
set_option linter.unusedVariables false
set_option linter.unusedSimpArgs false
set_option linter.unnecessarySimpa false
set_option linter.unusedSectionVars false
namespace Go.Proofs
open Go.Shelf
shelf_lay_g Lays8.n4 Nm8 4 at Tryz 216 as Ce.growP
end Go.Proofs
namespace Go.Ev.Ce
open Go Go.Ev Go.Proofs
noncomputable def Tc4 : List b7 := [i 0, i 0, i 0, i 0]
noncomputable def xa2 : Sum := fun args blks => match args, blks with
 | [.v (.slice none 0 0), .v (.int .i64 n)], [] => .ite (n == 0) (.ret (.v (.slice none 0 0), []))
   (.guard (Bool.and (decide (0 < n)) (Nat.ble (n.toNat * 32) room)) (.ret (.sl 0 0 0 0, [⟨50, 4, List.replicate n.toNat Tc4, true, false, 0⟩])))
 | _, _ => .fail
theorem z50 : zeT Tryz.prog 50 = some Tc4 := by kernel_rfl
theorem s50 : szT Tryz.prog 50 = 4 := by kernel_rfl
theorem y50 : byT Tryz.prog 50 = 32 := by kernel_rfl
theorem t25 : Ce.growP_ren.t 25 = 50 := by kernel_rfl
theorem f4 : Ce.growP_ren.f 4 = 216 := by kernel_rfl
set_option maxRecDepth 100000 in
theorem Bb3 : i5 prog G 216 xa2 := by
 intro args blks r out he W ρ F w args' hH hlen hargs hG
 refine ⟨⟨_, Tryz.func216, by kernel_rfl, of_decide_eq_true (by kernel_rfl)⟩, ?_⟩
 unfold xa2 at he
 split at he
 case h_2 => cases he
 rename_i n
 match args', hlen with
 | [v0, v1], _ =>
 have e0 := Z1 (hargs 0 _ _ rfl rfl)
 have e1 := Z1 (hargs 1 _ _ rfl rfl)
 subst e0 e1
 rcases DT.run_ite_some he with ⟨h0, he⟩ | ⟨h0, he⟩
 ·have h0 : n = 0 := by simpa using h0
  subst h0
  injection he with he; injection he with q1 q2; subst q1 q2
  have := Any8.slices_Grow_room Ce.growP none 0 0 0 w (Nat.le_refl _) (by omega) (by omega) (by omega)
  rw [f4] at this
  refine this.mono fun e w' ⟨h1, h2⟩ => ?_
  subst h1 h2
  exact ⟨_, rfl, ρ, F, .refl, hH, .ofv _⟩
 ·obtain ⟨hg, he⟩ := DT.run_guard_some he
  rw [Bool.and_eq_true, decide_eq_true_eq] at hg
  obtain ⟨hpos, hroom⟩ := hg
  have hroom := Nat.le_of_ble_eq_true hroom
  unfold room at hroom
  obtain ⟨m, rfl⟩ := Int.eq_ofNat_of_zero_le (Int.le_of_lt hpos)
  have hm : 0 < m := by omega
  have he : some (b7.sl 0 0 0 0, [(⟨50, 4, List.replicate m Tc4, true, false, 0⟩ : b8)]) = some (r, out) := he
  injection he with he; injection he with q1 q2; subst q1 q2
  obtain ⟨ti, zv, hi, hzz, hzr, hone⟩ := Ja9 (E := En []) z50
  have hi : Tryz.prog.info? 50 = some ti := hi
  have hts : ti.size = 4 := by have := s50; simp only [szT, hi] at this; exact this
  have hby : ti.bytes = 32 := by have := y50; simp only [byT, hi] at this; exact this
  have hzs : zv.cells.size = 4 := by
   have := congrArg List.length hzr
   simpa [Tc4] using this.symm
  have hroom' : m * 32 ≤ 140737488355328 := hroom
  have := Any8.slices_Grow_grow Ce.growP ti zv (by rw [t25]; exact hi) hzz (by omega) none 0 0 m [] w (Nat.le_refl _) (by omega) (by rw [hby]; omega) (by omega) (by simp) (fun _ => rfl) (fun a ha => by cases ha)
  rw [f4, t25] at this
  refine this.mono fun e w' ⟨h1, h2⟩ => ?_
  have hcap := grownCap_ge w (0 + m) 0 50
  have hcap2 := grownCap_le_maxLen w (0 + m) 0 50 (by unfold maxLen; omega)
  subst h1
  generalize grownCap w (0 + m) 0 50 = G' at *
  have hsz : ∀ q, (Builtin.zeroCells zv.cells q).size = q * 4 := fun q => by simp [Builtin.zeroCells, hzs]
  have hcc : (#[] ++ Builtin.zeroCells zv.cells (0 + m - 0) ++ Builtin.zeroCells zv.cells (G' - (0 + m))).size = G' * 4 := by
   rw [Array.size_append, Array.size_append, hsz, hsz]
   simp
   omega
  have hobj : w'.heap[w.heap.size]? = some (.cells (#[] ++ Builtin.zeroCells zv.cells (0 + m - 0) ++ Builtin.zeroCells zv.cells (G' - (0 + m))) 50 (0, 0)) := by
   rw [h2]
   exact World.alloc_heap_new w.drew _
  have hold : ∀ k, k < w.heap.size → w'.heap[k]? = w.heap[k]? := fun k hk => by
   rw [h2]
   simp only [World.alloc, Array.getElem?_push, World.drew]
   rw [if_neg (by omega)]
  have hws : w'.heap.size = w.heap.size + 1 := by rw [h2]; exact Array.size_push ..
  obtain ⟨h6, h7⟩ := hH.newAt (w' := w') (by rw [h2]; rfl) (by rw [h2]; rfl) (by rw [h2]; rfl) (by rw [h2]; exact Nat.le_succ _) (by omega) hold w.heap.size (Nat.le_refl _) 50 4 (List.replicate m Tc4) _ 50 hobj
   (fun j r hr => by rw [List.getElem?_replicate] at hr; split at hr <;> cases hr; rfl) (by rw [List.length_replicate, hcc]; omega)
   (fun j r c x hr hx => by
    have hjm : j < m := by
     have := (List.getElem?_eq_some_iff.1 hr).1
     simpa using this
    rw [List.getElem?_replicate, if_pos hjm] at hr
    injection hr with hr
    subst hr
    have hc4 : c < 4 := (List.getElem?_eq_some_iff.1 hx).1
    rw [hzr, List.getElem?_map] at hx
    have hcz : c < zv.cells.size := by omega
    have hq : zv.cells.toList[c]? = some zv.cells[c] := by simp [hcz]
    rw [hq] at hx
    injection hx with hx
    subst hx
    refine ⟨zv.cells[c], ?_, .v _ (hone _ (by simp))⟩
    have hlt : j * 4 + c < m * 4 := by omega
    rw [Array.append_assoc, Array.empty_append, Array.getElem?_append_left (by rw [hsz]; omega)]
    have hm4 : (j * 4 + c) % 4 = c := by omega
    simp only [Builtin.zeroCells, hzs]
    rw [Array.getElem?_map, Array.getElem?_range]
    rw [if_pos (by omega)]
    simp [hm4, hcz])
   (fun _ => rfl)
  refine ⟨_, rfl, _, F, h6, h7, .val (.cell ?_)⟩
  refine .sl 0 0 0 0 _ _ { et := 50, es := 4, elems := List.replicate m Tc4, own := true, dead := false, g := 0 } rfl rfl (Nat.le_refl _) (Nat.zero_le _) rfl hcap2 fun _ => ⟨.inr ?_, ?_, by simp⟩
  ·simp [ρnew]
  ·simp only [ρnew, List.length_nil, if_true]
   rw [hcc, Nat.zero_add]
end Go.Ev.Ce
section
namespace Go.Ev.Ce
open Go Go.Ev Go.Ev.L Go.Proofs
set_option maxRecDepth 100000
noncomputable def la3 : List (Nat × Sum) := [(216, xa2)]
theorem nb5 : j8 prog G la3 := ⟨Bb3, trivial⟩
structure K7 where
 qa1 : List (List Pln)
 Bc5 : List (List Pln)
 Ja2 : Int
structure p7 where
 is3 : Int
 R3 : Int
noncomputable def kb1 (p : K7) (s : p7) : St := ⟨((eL (tLs tP) p.qa1) :: (.unk :: (.unk :: ((i s.is3) :: (ra 5 ((eL (tLs tP) p.Bc5) :: ((i p.Ja2) :: ((i s.R3) :: (ra 24 []))))))))), []⟩
noncomputable def H4 {α : Type} (k : p7 → α) (e : Nat → α) (z : α) (p : K7) (s : p7) : α := (sl (decide (s.R3 < p.Ja2)) (sl (inB s.R3 (List.length p.Bc5)) (sl (decide ((W (s.is3 + (↑(List.length (gL (tLs tP) p.Bc5 s.R3.toNat)) : Int))) < 0)) z (k ⟨(W (s.is3 + (↑(List.length (gL (tLs tP) p.Bc5 s.R3.toNat)) : Int))), (W (s.R3 + 1))⟩)) z) (e 1))
noncomputable def D2 (p : K7) (s : p7) : Stp p7 := H4 .next .exit .fail p s
noncomputable def ia5 : Lo K7 p7 := ⟨En la3, 0, Ld4, [1, 1, 0, 1, 4, 4], [0, 3, 9, 10, 11], .p, [⟨((.s (.c 1 (nL (tLs tP)))) :: ((.s (.o .unk)) :: ((.s (.o .unk)) :: ((.s (.o (.int .i64))) :: (ru2 5 ((.s (.c 1 (nL (tLs tP)))) :: ((.s (.o (.int .i64))) :: ((.s (.o (.int .i64))) :: (ru2 24 []))))))))), [], fun a H => (⟨(rL (tLs tP) (slT a 0)), (rL (tLs tP) (slT a 9)), (toI (slT a 10))⟩, ⟨(toI (slT a 3)), (toI (slT a 11))⟩)⟩], D2, [(some 0, fun p s => ⟨((eL (tLs tP) p.qa1) :: (.unk :: (.unk :: ((i s.is3) :: (ra 5 ((eL (tLs tP) p.Bc5) :: ((i p.Ja2) :: ((i s.R3) :: ((b (decide (s.R3 < p.Ja2))) :: (ra 23 [])))))))))), []⟩)], kb1⟩
theorem kb2 : ia5.OkM := Lo.okM [] (by kernel_rfl) .nil rfl (.cons (fun a H => by kernel_rfl) .nil) fun p s => (.of @H4 (fun F _ _ _ _ _ => by unfold H4; (repeat' apply m8 (f := F)) <;> rfl) (by kernel_rfl))
structure p8 where
 ha3 : List (List Pln)
 kd9 : Int
structure k8 where
 ph : Nat
 gb0 : Int
 ns6 : Nat
 eh0 : List (List b7)
noncomputable def eb8 (p : p8) (s : k8) : St := ⟨(ra 6 ((.v (.slice none 0 0)) :: (ra 18 ((eL (tLs tP) p.ha3) :: ((i p.kd9) :: ((i s.gb0) :: (ra 8 []))))))), []⟩
noncomputable def eb9 (p : p8) (s : k8) : St := ⟨(ra 6 ((.sl 0 0 s.ns6 0) :: (ra 18 ((eL (tLs tP) p.ha3) :: ((i p.kd9) :: ((i s.gb0) :: (ra 8 []))))))), [⟨50, 4, s.eh0, true, false, 0⟩]⟩
noncomputable def kb3 (p : p8) (s : k8) : St := (sel (Nat.beq s.ph 1) (eb9 p s) (eb8 p s))
noncomputable def v8 {α : Type} (k : k8 → α) (e : Nat → α) (z : α) (p : p8) (s : k8) : α := (sl (decide (s.gb0 < p.kd9)) (sl (inB s.gb0 (List.length p.ha3)) (sl (Nat.beq (len (l0 (fun k => (tP).row (gL tP (gL (tLs tP) p.ha3 s.gb0.toNat) k)) (List.range (List.length (gL (tLs tP) p.ha3 s.gb0.toNat))))) 0) (k ⟨0, (W (s.gb0 + 1)), 0, []⟩) z) z) (e 1))
noncomputable def v9 {α : Type} (k : k8 → α) (e : Nat → α) (z : α) (p : p8) (s : k8) : α := (sl (decide (s.gb0 < p.kd9)) (sl (inB s.gb0 (List.length p.ha3)) (sl (Nat.ble (s.ns6 + (len (l0 (fun k => (tP).row (gL tP (gL (tLs tP) p.ha3 s.gb0.toNat) k)) (List.range (List.length (gL (tLs tP) p.ha3 s.gb0.toNat)))))) (len s.eh0)) (k ⟨1, (W (s.gb0 + 1)), (s.ns6 + (len (l0 (fun k => (tP).row (gL tP (gL (tLs tP) p.ha3 s.gb0.toNat) k)) (List.range (List.length (gL (tLs tP) p.ha3 s.gb0.toNat)))))), (app (D6 s.eh0 s.ns6) (app (l0 (fun k => (tP).row (gL tP (gL (tLs tP) p.ha3 s.gb0.toNat) k)) (List.range (List.length (gL (tLs tP) p.ha3 s.gb0.toNat)))) (d8 s.eh0 (s.ns6 + (len (l0 (fun k => (tP).row (gL tP (gL (tLs tP) p.ha3 s.gb0.toNat) k)) (List.range (List.length (gL (tLs tP) p.ha3 s.gb0.toNat)))))))))⟩) z) z) (e 2))
noncomputable def y9 (p : p8) (s : k8) : Stp k8 := (sel (Nat.beq s.ph 1) (v9 .next .exit .fail p s) (v8 .next .exit .fail p s))
noncomputable def ia6 : Lo p8 k8 := ⟨En la3, 0, Ld4, [1, 1, 1, 1, 0, 1, 4, 4], [6, 25, 26, 27], .p, [⟨(ru2 6 ((.s (.o .nil)) :: (ru2 18 ((.s (.c 1 (nL (tLs tP)))) :: ((.s (.o (.int .i64))) :: ((.s (.o (.int .i64))) :: (ru2 8 []))))))), [], fun a H => (⟨(rL (tLs tP) (slT a 25)), (toI (slT a 26))⟩, ⟨0, (toI (slT a 27)), 0, []⟩)⟩, ⟨(ru2 6 ((.s (.o (.sl 0 0 (some 0) none))) :: (ru2 18 ((.s (.c 1 (nL (tLs tP)))) :: ((.s (.o (.int .i64))) :: ((.s (.o (.int .i64))) :: (ru2 8 []))))))), [⟨50, 4, true, none⟩], fun a H => (⟨(rL (tLs tP) (slT a 25)), (toI (slT a 26))⟩, ⟨1, (toI (slT a 27)), (slN (slT a 6)), (elT H 0)⟩)⟩], y9, [(some 2, fun p s => ⟨(ra 6 ((.v (.slice none 0 0)) :: (ra 18 ((eL (tLs tP) p.ha3) :: ((i p.kd9) :: ((i s.gb0) :: ((b (decide (s.gb0 < p.kd9))) :: (ra 7 [])))))))), []⟩), (some 2, fun p s => ⟨(ra 6 ((.sl 0 0 s.ns6 0) :: (ra 18 ((eL (tLs tP) p.ha3) :: ((i p.kd9) :: ((i s.gb0) :: ((b (decide (s.gb0 < p.kd9))) :: (ra 7 [])))))))), [⟨50, 4, s.eh0, true, false, 0⟩]⟩)], kb3⟩
theorem kb4 : ia6.OkM := Lo.okM [] (by kernel_rfl) .nil rfl (.cons (fun a H => by kernel_rfl) (.cons (fun a H => by kernel_rfl) .nil)) fun p s => (.sel (Nat.beq s.ph 1) (.of @v9 (fun F _ _ _ _ _ => by unfold v9; (repeat' apply m8 (f := F)) <;> rfl) (by kernel_rfl)) (.of @v8 (fun F _ _ _ _ _ => by unfold v8; (repeat' apply m8 (f := F)) <;> rfl) (by kernel_rfl)))
structure ba8 where
 alt : Nat
 ns0 : Nat
 eh0 : List (List b7)
noncomputable def H9 {α : Type} (kk : ba8 → α) (x : List (List Pln)) : α := let t1 := (lp (D2 (⟨(rt (tLs tP) x), (rt (tLs tP) x), (↑(List.length x) : Int)⟩ : K7)) (⟨0, 0⟩ : p7)); let t2 := (lp (y9 (⟨(rt (tLs tP) (rt (tLs tP) x)), (↑(List.length (rt (tLs tP) x)) : Int)⟩ : p8)) (⟨0, 0, 0, []⟩ : k8)); let t3 := (lp (y9 (⟨(rt (tLs tP) (rt (tLs tP) x)), (↑(List.length (rt (tLs tP) x)) : Int)⟩ : p8)) (⟨1, 0, 0, (List.replicate t1.2.is3.toNat Tc4)⟩ : k8)); (sl ((cnE (tLs tP) x) && ((cnE (tLs tP) x) && true)) (sl (Nat.beq t1.1 1) (sl (t1.2.is3 == 0) (sl ((cnE (tLs tP) (rt (tLs tP) x)) && true) (sl (Nat.beq t2.1 1) (kk ⟨1, 0, []⟩) (sl (Nat.beq t2.1 2) (kk ⟨2, t2.2.ns6, t2.2.eh0⟩) (kk ⟨0, 0, []⟩))) (kk ⟨0, 0, []⟩)) (sl (Bool.and (decide (0 < t1.2.is3)) (Nat.ble (t1.2.is3.toNat * 32) room)) (sl ((cnE (tLs tP) (rt (tLs tP) x)) && true) (sl (Nat.beq t3.1 1) (kk ⟨1, 0, []⟩) (sl (Nat.beq t3.1 2) (kk ⟨2, t3.2.ns6, t3.2.eh0⟩) (kk ⟨0, 0, []⟩))) (kk ⟨0, 0, []⟩)) (kk ⟨0, 0, []⟩))) (kk ⟨0, 0, []⟩)) (kk ⟨0, 0, []⟩))
noncomputable def ba9 (x : List (List Pln)) : ba8 := H9 (fun r => r) x
noncomputable def la4 (r : ba8) : DT (b7 × List b8) := (.ite (Nat.beq r.alt 1) (.ret ((.v (.slice none 0 0)), [])) (.ite (Nat.beq r.alt 2) (.ret ((.sl 0 0 r.ns0 0), [⟨50, 4, r.eh0, true, false, 0⟩])) .fail))
theorem vb3 {α β : Type} (F : α → β) (kk : ba8 → α) (x : List (List Pln)) : F (H9 kk x) = H9 (fun r => F (kk r)) x := by unfold H9; (repeat' apply m8 (f := F)) <;> rfl
noncomputable def Ja5 : Sum := da4 (U3 (tLs tP)) (fun x => la4 (ba9 x))
theorem rb7 : i5 prog G 169 Ja5 := Sb1 (bd De5 nb5) fun x => de3 (.s .p (.s .p (.s (.s .p (.b (.u ia5.lsM))) (.s .p (.s (.s .p (.b (.u ia6.lsM))) .p))))) [ia5.prM, ia6.prM] (by kernel_rfl) (.cons kb2 (.cons kb4 .nil)) (Eq.trans (b := H9 (fun r => (la4 r).run) x) (by kernel_rfl) (vb3 (fun r => (la4 r).run) (fun r => r) x).symm)
noncomputable def qd7 : List (Nat × Sum) := [(169, Ja5)]
theorem fd2 : j8 prog G qd7 := ⟨rb7, trivial⟩
noncomputable def nb6 (x : List (List Pln)) : Option (b7 × List b8) := let t1 := (ba9 (rt (tLs tP) x)); (sl (okE (tLs tP) x) (sl (Nat.beq t1.alt 1) (some ((.sl 0 0 6 0), [⟨50, 4, [[(i 1), (i 0), (i 0), (i 24)], [(i (-1)), (i 0), (i 0), (i 24)], [(i 0), (i 1), (i 0), (i 24)], [(i 0), (i (-1)), (i 0), (i 24)], [(i 0), (i 0), (i 1), (i 24)], [(i 0), (i 0), (i (-1)), (i 24)]], true, false, 0⟩])) (sl (Nat.beq t1.alt 2) (sl (Nat.beq t1.ns0 (len t1.eh0) && Nat.ble ((t1.ns0 + 1) * 32) room) (sl (Nat.beq (t1.ns0 + 1) (len (app t1.eh0 [[(i 1), (i 0), (i 0), (i 24)]])) && Nat.ble (((t1.ns0 + 1) + 1) * 32) room) (sl (Nat.beq ((t1.ns0 + 1) + 1) (len (app (app t1.eh0 [[(i 1), (i 0), (i 0), (i 24)]]) [[(i (-1)), (i 0), (i 0), (i 24)]])) && Nat.ble ((((t1.ns0 + 1) + 1) + 1) * 32) room) (sl (Nat.beq (((t1.ns0 + 1) + 1) + 1) (len (app (app (app t1.eh0 [[(i 1), (i 0), (i 0), (i 24)]]) [[(i (-1)), (i 0), (i 0), (i 24)]]) [[(i 0), (i 1), (i 0), (i 24)]])) && Nat.ble (((((t1.ns0 + 1) + 1) + 1) + 1) * 32) room) (sl (Nat.beq ((((t1.ns0 + 1) + 1) + 1) + 1) (len (app (app (app (app t1.eh0 [[(i 1), (i 0), (i 0), (i 24)]]) [[(i (-1)), (i 0), (i 0), (i 24)]]) [[(i 0), (i 1), (i 0), (i 24)]]) [[(i 0), (i (-1)), (i 0), (i 24)]])) && Nat.ble ((((((t1.ns0 + 1) + 1) + 1) + 1) + 1) * 32) room) (sl (Nat.beq (((((t1.ns0 + 1) + 1) + 1) + 1) + 1) (len (app (app (app (app (app t1.eh0 [[(i 1), (i 0), (i 0), (i 24)]]) [[(i (-1)), (i 0), (i 0), (i 24)]]) [[(i 0), (i 1), (i 0), (i 24)]]) [[(i 0), (i (-1)), (i 0), (i 24)]]) [[(i 0), (i 0), (i 1), (i 24)]])) && Nat.ble (((((((t1.ns0 + 1) + 1) + 1) + 1) + 1) + 1) * 32) room) (some ((.sl 0 0 ((((((t1.ns0 + 1) + 1) + 1) + 1) + 1) + 1) 0), [⟨50, 4, (app (app (app (app (app (app t1.eh0 [[(i 1), (i 0), (i 0), (i 24)]]) [[(i (-1)), (i 0), (i 0), (i 24)]]) [[(i 0), (i 1), (i 0), (i 24)]]) [[(i 0), (i (-1)), (i 0), (i 24)]]) [[(i 0), (i 0), (i 1), (i 24)]]) [[(i 0), (i 0), (i (-1)), (i 24)]]), true, false, 0⟩])) none) none) none) none) none) none) none)) none)
noncomputable def La0 (x : List (List Pln)) : List Pln := I6 (one (r1L tP)) (nb6 x)
noncomputable def La1 (x : List (List Pln)) : Bool := okO (one (r1L tP)) (nb6 x)
noncomputable def Gb0 : Sum := da4 (U3 (tLs tP)) (fun x => .guard (La1 x) (.ret ((one (r1L tP)).enc (La0 x), [])))
theorem Nb8 : i5 prog G 88 Gb0 := xa0 (bd b88 fd2) (one (r1L tP)) (o := nb6) fun x => r5 (by kernel_rfl)
structure P0 where
 qa1 : List (List Pln)
noncomputable def ta0 : List (Nat × Sum) := [(168, Bb2)]
theorem Wa0 : j8 prog G ta0 := ⟨kc5, trivial⟩
structure E4 where
 qa1 : List (List Pln)
 is7 : Int
structure n7 where
 is8 : Int
noncomputable def Ta0 (p : E4) (s : n7) : St := ⟨((eL (tLs tP) p.qa1) :: ((.fn 168 []) :: (ra 5 ((i p.is7) :: ((i s.is8) :: (ra 10 [])))))), []⟩
noncomputable def A4 {α : Type} (k : n7 → α) (e : Nat → α) (z : α) (p : E4) (s : n7) : α := let t1 := (Ga5 (rt tP (gL (tLs tP) p.qa1 s.is8.toNat))); (sl (decide (s.is8 < p.is7)) (sl (inB s.is8 (List.length p.qa1)) (sl (okE tP (gL (tLs tP) p.qa1 s.is8.toNat)) (sl (Ga6 (rt tP (gL (tLs tP) p.qa1 s.is8.toNat))) (sl t1 (e 1) (k ⟨(W (s.is8 + 1))⟩)) z) z) z) (e 2))
noncomputable def C6 (p : E4) (s : n7) : Stp n7 := A4 .next .exit .fail p s
noncomputable def X3 : Lo E4 n7 := ⟨En ta0, 0, ce9, [1, 0, 1, 4, 4], [0, 1, 7, 8], .p, [⟨((.s (.c 1 (nL (tLs tP)))) :: ((.s (.o (.fn 168))) :: (ru2 5 ((.s (.o (.int .i64))) :: ((.s (.o (.int .i64))) :: (ru2 10 [])))))), [], fun a H => (⟨(rL (tLs tP) (slT a 0)), (toI (slT a 7))⟩, ⟨(toI (slT a 8))⟩)⟩], C6, [(none, fun p s => ⟨[(i s.is8)], []⟩), (some 0, fun p s => ⟨((eL (tLs tP) p.qa1) :: ((.fn 168 []) :: (ra 5 ((i p.is7) :: ((i s.is8) :: ((b (decide (s.is8 < p.is7))) :: (ra 9 []))))))), []⟩)], Ta0⟩
theorem Ta1 : X3.Ok := Lo.ok [] (by kernel_rfl) .nil rfl (.cons (fun a H => by kernel_rfl) .nil) fun p s => (.of @A4 (fun F _ _ _ _ _ => by unfold A4; (repeat' apply m8 (f := F)) <;> rfl) (by kernel_rfl))
structure P1 where
 alt : Nat
 is0 : Int
noncomputable def B1 {α : Type} (kk : P1 → α) (x : P0) : α := let t1 := (lp (C6 (⟨(rt (tLs tP) x.qa1), (↑(List.length x.qa1) : Int)⟩ : E4)) (⟨0⟩ : n7)); (sl ((cnE (tLs tP) x.qa1) && true) (sl (Nat.beq t1.1 1) (kk ⟨1, t1.2.is8⟩) (sl (Nat.beq t1.1 2) (kk ⟨1, (-1)⟩) (kk ⟨0, 0⟩))) (kk ⟨0, 0⟩))
noncomputable def ca1 (x : P0) : P1 := B1 (fun r => r) x
noncomputable def aa3 (x : P0) (r : P1) : DT (b7 × List b8) := (.ite (Nat.beq r.alt 1) (.ret ((i r.is0), [])) .fail)
theorem fb0 {α β : Type} (F : α → β) (kk : P1 → α) (x : P0) : F (B1 kk x) = B1 (fun r => F (kk r)) x := by unfold B1; (repeat' apply m8 (f := F)) <;> rfl
noncomputable def wa3 : Sum := Za2 ⟨[(.s (.c 1 (nL (tLs tP)))), (.s (.o (.fn 168)))], [], fun a H => (⟨(rL (tLs tP) (slT a 0))⟩, ())⟩ (fun x => aa3 x (ca1 x))
theorem bb4 : i5 prog G 207 wa3 := O4 (enc := fun x => ⟨[(eL (tLs tP) x.qa1), (.fn 168 [])], []⟩) (fun a H => by kernel_rfl) (bd Ce6 Wa0) fun x => xa1 (.s .p (.s (.s .p (.b (.u X3.ls))) .p)) [X3.pr] (by kernel_rfl) (.cons Ta1 .nil) (Eq.trans (b := B1 (fun r => (aa3 x r).run) x) (by kernel_rfl) (fb0 (fun r => (aa3 x r).run) (fun r => r) x).symm)
structure J5 where
 qa1 : List (List Pln)
noncomputable def Oa8 : List (Nat × Sum) := [(207, wa3)]
theorem La2 : j8 prog G Oa8 := ⟨bb4, trivial⟩
structure J6 where
 alt : Nat
 bs0 : Bool
noncomputable def w7 {α : Type} (kk : J6 → α) (x : J5) : α := let t1 := (ca1 ⟨(rt (tLs tP) x.qa1)⟩); (sl ((cnE (tLs tP) x.qa1) && true) (sl (Nat.beq t1.alt 1) (kk ⟨1, (decide (t1.is0 ≥ 0))⟩) (kk ⟨0, false⟩)) (kk ⟨0, false⟩))
noncomputable def U9 (x : J5) : J6 := w7 (fun r => r) x
noncomputable def T3 (x : J5) (r : J6) : DT (b7 × List b8) := (.ite (Nat.beq r.alt 1) (.ret ((b r.bs0), [])) .fail)
theorem Ta2 {α β : Type} (F : α → β) (kk : J6 → α) (x : J5) : F (w7 kk x) = w7 (fun r => F (kk r)) x := by unfold w7; (repeat' apply m8 (f := F)) <;> rfl
noncomputable def na0 : Sum := Za2 ⟨[(.s (.c 1 (nL (tLs tP)))), (.s (.o (.fn 168)))], [], fun a H => (⟨(rL (tLs tP) (slT a 0))⟩, ())⟩ (fun x => T3 x (U9 x))
theorem Oa9 : i5 prog G 157 na0 := O4 (enc := fun x => ⟨[(eL (tLs tP) x.qa1), (.fn 168 [])], []⟩) (fun a H => by kernel_rfl) (bd Ae4 La2) fun x => r5 (Eq.trans (b := w7 (fun r => (T3 x r).run) x) (by kernel_rfl) (Ta2 (fun r => (T3 x r).run) (fun r => r) x).symm)
noncomputable def Ec8 : List (Nat × Sum) := [(157, na0)]
theorem vc6 : j8 prog G Ec8 := ⟨Oa9, trivial⟩
noncomputable def Ga7 (x : List (List Pln)) : Option (b7 × List b8) := let t1 := (U9 ⟨(rt (tLs tP) x)⟩); (sl ((cnE (tLs tP) x) && true) (sl (Nat.beq t1.alt 1) (some ((b (!t1.bs0)), [])) none) none)
noncomputable def X4 (x : List (List Pln)) : Bool := I6 (one r1B) (Ga7 x)
noncomputable def X5 (x : List (List Pln)) : Bool := okO (one r1B) (Ga7 x)
noncomputable def va7 : Sum := da4 (U3 (tLs tP)) (fun x => .guard (X5 x) (.ret ((one r1B).enc (X4 x), [])))
theorem ya8 : i5 prog G 87 va7 := xa0 (bd b87 vc6) (one r1B) (o := Ga7) fun x => r5 (by kernel_rfl)
structure X6 where
 ja8 : Int
 ja9 : Int
 ka0 : Int
 db8 : Int
 g9 : Int
 c8 : Int
 i4 : Int
 e7 : Int
noncomputable def nb7 : List (Nat × Sum) := [(102, hb9)]
theorem kb5 : j8 prog G nb7 := ⟨rb0, trivial⟩
structure N3 where
 bs0 : Bool
noncomputable def N4 {α : Type} (kk : N3 → α) (x : X6) : α := let t1 := (ka6 (⟨(⟨x.g9, x.c8, x.i4⟩ : V3), x.e7⟩ : Pln) (⟨x.ja8, x.ja9, x.ka0, x.db8⟩ : Pt)); (kk ⟨(decide (t1 > 0))⟩)
noncomputable def la5 (x : X6) : N3 := N4 (fun r => r) x
noncomputable def ia7 (x : X6) (r : N3) : DT (b7 × List b8) := .ret ((b r.bs0), [⟨0, 4, [[(i x.g9), (i x.c8), (i x.i4), (i x.e7)]], true, false, 0⟩])
theorem rb8 {α β : Type} (F : α → β) (kk : N3 → α) (x : X6) : F (N4 kk x) = N4 (fun r => F (kk r)) x := by unfold N4; (repeat' apply m8 (f := F)) <;> rfl
noncomputable def Ga8 : Sum := Za2 ⟨[(.agg [(.o (.int .i64)), (.o (.int .i64)), (.o (.int .i64)), (.o (.int .i64))]), (.s (.o (.ptr 0 0 0 0)))], [⟨0, 4, true, (some [[(.o (.int .i64)), (.o (.int .i64)), (.o (.int .i64)), (.o (.int .i64))]])⟩], fun a H => (⟨(toI (slT (cellsOf (slT a 0)) 0)), (toI (slT (cellsOf (slT a 0)) 1)), (toI (slT (cellsOf (slT a 0)) 2)), (toI (slT (cellsOf (slT a 0)) 3)), (toI (slT (rwT (elT H 0) 0) 0)), (toI (slT (rwT (elT H 0) 0) 1)), (toI (slT (rwT (elT H 0) 0) 2)), (toI (slT (rwT (elT H 0) 0) 3))⟩, ())⟩ (fun x => ia7 x (la5 x))
theorem nb8 : i5 prog G 176 Ga8 := O4 (enc := fun x => ⟨[(.agg [(i x.ja8), (i x.ja9), (i x.ka0), (i x.db8)]), (.ptr 0 0 0 0)], [⟨0, 4, [[(i x.g9), (i x.c8), (i x.i4), (i x.e7)]], true, false, 0⟩]⟩) (fun a H => by kernel_rfl) (bd Be6 kb5) fun x => r5 (Eq.trans (b := N4 (fun r => (ia7 x r).run) x) (by kernel_rfl) (rb8 (fun r => (ia7 x r).run) (fun r => r) x).symm)
structure S1 where
 z7 : List Pt
 g9 : Int
 c8 : Int
 i4 : Int
 e7 : Int
noncomputable def wa4 : List (Nat × Sum) := [(176, Ga8)]
theorem bb5 : j8 prog G wa4 := ⟨nb8, trivial⟩
structure F9 where
 z7 : List Pt
 is7 : Int
 g9 : Int
 c8 : Int
 i4 : Int
 e7 : Int
structure o4 where
 is8 : Int
noncomputable def Wa1 (p : F9) (s : o4) : St := ⟨((eL tX p.z7) :: ((.fn 176 [(.ptr 0 0 0 0)]) :: (ra 5 ((i p.is7) :: ((i s.is8) :: (ra 10 [])))))), [⟨0, 4, [[(i p.g9), (i p.c8), (i p.i4), (i p.e7)]], true, false, 0⟩]⟩
noncomputable def C7 {α : Type} (k : o4 → α) (e : Nat → α) (z : α) (p : F9) (s : o4) : α := let t1 := (la5 ⟨(gL tX p.z7 s.is8.toNat).px, (gL tX p.z7 s.is8.toNat).py, (gL tX p.z7 s.is8.toNat).pz, (gL tX p.z7 s.is8.toNat).pw, p.g9, p.c8, p.i4, p.e7⟩); (sl (decide (s.is8 < p.is7)) (sl (inB s.is8 (List.length p.z7)) (sl t1.bs0 (e 1) (k ⟨(W (s.is8 + 1))⟩)) z) (e 2))
noncomputable def E5 (p : F9) (s : o4) : Stp o4 := C7 .next .exit .fail p s
noncomputable def aa4 : Lo F9 o4 := ⟨En wa4, 1, Ld5, [1, 0, 1, 4, 4], [0, 1, 7, 8], .p, [⟨((.s (.c 4 (nL tX))) :: ((.fn 176 [(.o (.ptr 0 0 0 0))]) :: (ru2 5 ((.s (.o (.int .i64))) :: ((.s (.o (.int .i64))) :: (ru2 10 [])))))), [⟨0, 4, true, (some [[(.o (.int .i64)), (.o (.int .i64)), (.o (.int .i64)), (.o (.int .i64))]])⟩], fun a H => (⟨(rL tX (slT a 0)), (toI (slT a 7)), (toI (slT (rwT (elT H 0) 0) 0)), (toI (slT (rwT (elT H 0) 0) 1)), (toI (slT (rwT (elT H 0) 0) 2)), (toI (slT (rwT (elT H 0) 0) 3))⟩, ⟨(toI (slT a 8))⟩)⟩], E5, [(none, fun p s => ⟨[(i s.is8)], [⟨0, 4, [[(i p.g9), (i p.c8), (i p.i4), (i p.e7)]], true, false, 0⟩]⟩), (some 0, fun p s => ⟨((eL tX p.z7) :: ((.fn 176 [(.ptr 0 0 0 0)]) :: (ra 5 ((i p.is7) :: ((i s.is8) :: ((b (decide (s.is8 < p.is7))) :: (ra 9 []))))))), [⟨0, 4, [[(i p.g9), (i p.c8), (i p.i4), (i p.e7)]], true, false, 0⟩]⟩)], Wa1⟩
theorem Wa2 : aa4.Ok := Lo.ok [] (by kernel_rfl) .nil rfl (.cons (fun a H => by kernel_rfl) .nil) fun p s => (.of @C7 (fun F _ _ _ _ _ => by unfold C7; (repeat' apply m8 (f := F)) <;> rfl) (by kernel_rfl))
structure S3 where
 alt : Nat
 is0 : Int
noncomputable def D3 {α : Type} (kk : S3 → α) (x : S1) : α := let t1 := (lp (E5 (⟨(rt tX x.z7), (↑(List.length x.z7) : Int), x.g9, x.c8, x.i4, x.e7⟩ : F9)) (⟨0⟩ : o4)); (sl ((cnE tX x.z7) && true) (sl (Nat.beq t1.1 1) (kk ⟨1, t1.2.is8⟩) (sl (Nat.beq t1.1 2) (kk ⟨1, (-1)⟩) (kk ⟨0, 0⟩))) (kk ⟨0, 0⟩))
noncomputable def fa9 (x : S1) : S3 := D3 (fun r => r) x
noncomputable def ca2 (x : S1) (r : S3) : DT (b7 × List b8) := (.ite (Nat.beq r.alt 1) (.ret ((i r.is0), [⟨0, 4, [[(i x.g9), (i x.c8), (i x.i4), (i x.e7)]], true, false, 0⟩])) .fail)
theorem kb6 {α β : Type} (F : α → β) (kk : S3 → α) (x : S1) : F (D3 kk x) = D3 (fun r => F (kk r)) x := by unfold D3; (repeat' apply m8 (f := F)) <;> rfl
noncomputable def ya9 : Sum := Za2 ⟨[(.s (.c 4 (nL tX))), (.fn 176 [(.o (.ptr 0 0 0 0))])], [⟨0, 4, true, (some [[(.o (.int .i64)), (.o (.int .i64)), (.o (.int .i64)), (.o (.int .i64))]])⟩], fun a H => (⟨(rL tX (slT a 0)), (toI (slT (rwT (elT H 0) 0) 0)), (toI (slT (rwT (elT H 0) 0) 1)), (toI (slT (rwT (elT H 0) 0) 2)), (toI (slT (rwT (elT H 0) 0) 3))⟩, ())⟩ (fun x => ca2 x (fa9 x))
theorem fb1 : i5 prog G 185 ya9 := O4 (enc := fun x => ⟨[(eL tX x.z7), (.fn 176 [(.ptr 0 0 0 0)])], [⟨0, 4, [[(i x.g9), (i x.c8), (i x.i4), (i x.e7)]], true, false, 0⟩]⟩) (fun a H => by kernel_rfl) (bd se0 bb5) fun x => xa1 (.s .p (.s (.s .p (.b (.u aa4.ls))) .p)) [aa4.pr] (by kernel_rfl) (.cons Wa2 .nil) (Eq.trans (b := D3 (fun r => (ca2 x r).run) x) (by kernel_rfl) (kb6 (fun r => (ca2 x r).run) (fun r => r) x).symm)
structure L2 where
 z7 : List Pt
 g9 : Int
 c8 : Int
 i4 : Int
 e7 : Int
noncomputable def Ta3 : List (Nat × Sum) := [(185, ya9)]
theorem Pa0 : j8 prog G Ta3 := ⟨fb1, trivial⟩
structure L3 where
 alt : Nat
 bs0 : Bool
noncomputable def z5 {α : Type} (kk : L3 → α) (x : L2) : α := let t1 := (fa9 ⟨(rt tX x.z7), x.g9, x.c8, x.i4, x.e7⟩); (sl ((cnE tX x.z7) && true) (sl (Nat.beq t1.alt 1) (kk ⟨1, (decide (t1.is0 ≥ 0))⟩) (kk ⟨0, false⟩)) (kk ⟨0, false⟩))
noncomputable def X7 (x : L2) : L3 := z5 (fun r => r) x
noncomputable def V0 (x : L2) (r : L3) : DT (b7 × List b8) := (.ite (Nat.beq r.alt 1) (.ret ((b r.bs0), [⟨0, 4, [[(i x.g9), (i x.c8), (i x.i4), (i x.e7)]], true, false, 0⟩])) .fail)
theorem Wa3 {α β : Type} (F : α → β) (kk : L3 → α) (x : L2) : F (z5 kk x) = z5 (fun r => F (kk r)) x := by unfold z5; (repeat' apply m8 (f := F)) <;> rfl
noncomputable def qa4 : Sum := Za2 ⟨[(.s (.c 4 (nL tX))), (.fn 176 [(.o (.ptr 0 0 0 0))])], [⟨0, 4, true, (some [[(.o (.int .i64)), (.o (.int .i64)), (.o (.int .i64)), (.o (.int .i64))]])⟩], fun a H => (⟨(rL tX (slT a 0)), (toI (slT (rwT (elT H 0) 0) 0)), (toI (slT (rwT (elT H 0) 0) 1)), (toI (slT (rwT (elT H 0) 0) 2)), (toI (slT (rwT (elT H 0) 0) 3))⟩, ())⟩ (fun x => V0 x (X7 x))
theorem Ta4 : i5 prog G 113 qa4 := O4 (enc := fun x => ⟨[(eL tX x.z7), (.fn 176 [(.ptr 0 0 0 0)])], [⟨0, 4, [[(i x.g9), (i x.c8), (i x.i4), (i x.e7)]], true, false, 0⟩]⟩) (fun a H => by kernel_rfl) (bd re9 Pa0) fun x => r5 (Eq.trans (b := z5 (fun r => (V0 x r).run) x) (by kernel_rfl) (Wa3 (fun r => (V0 x r).run) (fun r => r) x).symm)
structure ea2 where
 ja8 : Int
 ja9 : Int
 ka0 : Int
 db8 : Int
 k9 : List Pt
noncomputable def vb4 : List (Nat × Sum) := [(113, qa4)]
theorem rb9 : j8 prog G vb4 := ⟨Ta4, trivial⟩
structure T4 where
 alt : Nat
 bs0 : Bool
noncomputable def K8 {α : Type} (kk : T4 → α) (x : ea2) : α := let t1 := (X7 ⟨(rt tX x.k9), x.ja8, x.ja9, x.ka0, x.db8⟩); (sl ((cnE tX x.k9) && true) (sl (Nat.beq t1.alt 1) (kk ⟨1, (!t1.bs0)⟩) (kk ⟨0, false⟩)) (kk ⟨0, false⟩))
noncomputable def ea3 (x : ea2) : T4 := K8 (fun r => r) x
noncomputable def pa9 (x : ea2) (r : T4) : DT (b7 × List b8) := (.ite (Nat.beq r.alt 1) (.ret ((b r.bs0), [⟨0, 1, [[(eL tX x.k9)]], true, false, 0⟩])) .fail)
theorem Bb4 {α β : Type} (F : α → β) (kk : T4 → α) (x : ea2) : F (K8 kk x) = K8 (fun r => F (kk r)) x := by unfold K8; (repeat' apply m8 (f := F)) <;> rfl
noncomputable def Pa1 : Sum := Za2 ⟨[(.agg [(.o (.int .i64)), (.o (.int .i64)), (.o (.int .i64)), (.o (.int .i64))]), (.s (.o (.ptr 0 0 0 0)))], [⟨0, 1, true, (some [[(.c 4 (nL tX))]])⟩], fun a H => (⟨(toI (slT (cellsOf (slT a 0)) 0)), (toI (slT (cellsOf (slT a 0)) 1)), (toI (slT (cellsOf (slT a 0)) 2)), (toI (slT (cellsOf (slT a 0)) 3)), (rL tX (slT (rwT (elT H 0) 0) 0))⟩, ())⟩ (fun x => pa9 x (ea3 x))
theorem vb5 : i5 prog G 175 Pa1 := O4 (enc := fun x => ⟨[(.agg [(i x.ja8), (i x.ja9), (i x.ka0), (i x.db8)]), (.ptr 0 0 0 0)], [⟨0, 1, [[(eL tX x.k9)]], true, false, 0⟩]⟩) (fun a H => by kernel_rfl) (bd Be5 rb9) fun x => r5 (Eq.trans (b := K8 (fun r => (pa9 x r).run) x) (by kernel_rfl) (Bb4 (fun r => (pa9 x r).run) (fun r => r) x).symm)
structure P4 where
 c9 : List Pln
 k9 : List Pt
noncomputable def ta1 : List (Nat × Sum) := [(175, Pa1)]
theorem Wa4 : j8 prog G ta1 := ⟨vb5, trivial⟩
structure E6 where
 c9 : List Pln
 is7 : Int
structure n8 where
 is8 : Int
 k9 : List Pt
noncomputable def Ta5 (p : E6) (s : n8) : St := ⟨((eL tP p.c9) :: ((.fn 175 [(.ptr 0 0 0 0)]) :: (ra 5 ((i p.is7) :: ((i s.is8) :: (ra 10 [])))))), [⟨0, 1, [[(eL tX s.k9)]], true, false, 0⟩]⟩
noncomputable def A5 {α : Type} (k : n8 → α) (e : Nat → α) (z : α) (p : E6) (s : n8) : α := let t1 := (ea3 ⟨(gL tP p.c9 s.is8.toNat).n.x, (gL tP p.c9 s.is8.toNat).n.y, (gL tP p.c9 s.is8.toNat).n.z, (gL tP p.c9 s.is8.toNat).b, (rt tX s.k9)⟩); (sl (decide (s.is8 < p.is7)) (sl (inB s.is8 (List.length p.c9)) (sl ((cnE tX s.k9) && true) (sl (Nat.beq t1.alt 1) (sl t1.bs0 (e 1) (k ⟨(W (s.is8 + 1)), (rt tX s.k9)⟩)) z) z) z) (e 2))
noncomputable def C8 (p : E6) (s : n8) : Stp n8 := A5 .next .exit .fail p s
noncomputable def X8 : Lo E6 n8 := ⟨En ta1, 1, de2, [1, 0, 1, 4, 4], [0, 1, 7, 8], .p, [⟨((.s (.c 4 (nL tP))) :: ((.fn 175 [(.o (.ptr 0 0 0 0))]) :: (ru2 5 ((.s (.o (.int .i64))) :: ((.s (.o (.int .i64))) :: (ru2 10 [])))))), [⟨0, 1, true, (some [[(.c 4 (nL tX))]])⟩], fun a H => (⟨(rL tP (slT a 0)), (toI (slT a 7))⟩, ⟨(toI (slT a 8)), (rL tX (slT (rwT (elT H 0) 0) 0))⟩)⟩], C8, [(none, fun p s => ⟨[(i s.is8)], [⟨0, 1, [[(eL tX (rt tX s.k9))]], true, false, 0⟩]⟩), (some 0, fun p s => ⟨((eL tP p.c9) :: ((.fn 175 [(.ptr 0 0 0 0)]) :: (ra 5 ((i p.is7) :: ((i s.is8) :: ((b (decide (s.is8 < p.is7))) :: (ra 9 []))))))), [⟨0, 1, [[(eL tX s.k9)]], true, false, 0⟩]⟩)], Ta5⟩
theorem Ta6 : X8.Ok := Lo.ok [] (by kernel_rfl) .nil rfl (.cons (fun a H => by kernel_rfl) .nil) fun p s => (.of @A5 (fun F _ _ _ _ _ => by unfold A5; (repeat' apply m8 (f := F)) <;> rfl) (by kernel_rfl))
structure P5 where
 alt : Nat
 is0 : Int
 k9 : List Pt
noncomputable def B3 {α : Type} (kk : P5 → α) (x : P4) : α := let t1 := (lp (C8 (⟨(rt tP x.c9), (↑(List.length x.c9) : Int)⟩ : E6)) (⟨0, (rt tX x.k9)⟩ : n8)); (sl ((cnE tP x.c9) && ((cnE tX x.k9) && true)) (sl (Nat.beq t1.1 1) (kk ⟨1, t1.2.is8, (rt tX t1.2.k9)⟩) (sl (Nat.beq t1.1 2) (kk ⟨1, (-1), t1.2.k9⟩) (kk ⟨0, 0, []⟩))) (kk ⟨0, 0, []⟩))
noncomputable def ca3 (x : P4) : P5 := B3 (fun r => r) x
noncomputable def aa5 (x : P4) (r : P5) : DT (b7 × List b8) := (.ite (Nat.beq r.alt 1) (.ret ((i r.is0), [⟨0, 1, [[(eL tX r.k9)]], true, false, 0⟩])) .fail)
theorem fb2 {α β : Type} (F : α → β) (kk : P5 → α) (x : P4) : F (B3 kk x) = B3 (fun r => F (kk r)) x := by unfold B3; (repeat' apply m8 (f := F)) <;> rfl
noncomputable def wa5 : Sum := Za2 ⟨[(.s (.c 4 (nL tP))), (.fn 175 [(.o (.ptr 0 0 0 0))])], [⟨0, 1, true, (some [[(.c 4 (nL tX))]])⟩], fun a H => (⟨(rL tP (slT a 0)), (rL tX (slT (rwT (elT H 0) 0) 0))⟩, ())⟩ (fun x => aa5 x (ca3 x))
theorem bb6 : i5 prog G 221 wa5 := O4 (enc := fun x => ⟨[(eL tP x.c9), (.fn 175 [(.ptr 0 0 0 0)])], [⟨0, 1, [[(eL tX x.k9)]], true, false, 0⟩]⟩) (fun a H => by kernel_rfl) (bd De3 Wa4) fun x => xa1 (.s .p (.s (.s .p (.b (.u X8.ls))) .p)) [X8.pr] (by kernel_rfl) (.cons Ta6 .nil) (Eq.trans (b := B3 (fun r => (aa5 x r).run) x) (by kernel_rfl) (fb2 (fun r => (aa5 x r).run) (fun r => r) x).symm)
structure J7 where
 c9 : List Pln
 k9 : List Pt
noncomputable def Pa2 : List (Nat × Sum) := [(221, wa5)]
theorem La3 : j8 prog G Pa2 := ⟨bb6, trivial⟩
structure J8 where
 alt : Nat
 bs0 : Bool
 k9 : List Pt
noncomputable def w8 {α : Type} (kk : J8 → α) (x : J7) : α := let t1 := (ca3 ⟨(rt tP x.c9), (rt tX x.k9)⟩); (sl ((cnE tP x.c9) && ((cnE tX x.k9) && true)) (sl (Nat.beq t1.alt 1) (kk ⟨1, (decide (t1.is0 ≥ 0)), t1.k9⟩) (kk ⟨0, false, []⟩)) (kk ⟨0, false, []⟩))
noncomputable def V1 (x : J7) : J8 := w8 (fun r => r) x
noncomputable def T5 (x : J7) (r : J8) : DT (b7 × List b8) := (.ite (Nat.beq r.alt 1) (.ret ((b r.bs0), [⟨0, 1, [[(eL tX r.k9)]], true, false, 0⟩])) .fail)
theorem Ta7 {α β : Type} (F : α → β) (kk : J8 → α) (x : J7) : F (w8 kk x) = w8 (fun r => F (kk r)) x := by unfold w8; (repeat' apply m8 (f := F)) <;> rfl
noncomputable def na1 : Sum := Za2 ⟨[(.s (.c 4 (nL tP))), (.fn 175 [(.o (.ptr 0 0 0 0))])], [⟨0, 1, true, (some [[(.c 4 (nL tX))]])⟩], fun a H => (⟨(rL tP (slT a 0)), (rL tX (slT (rwT (elT H 0) 0) 0))⟩, ())⟩ (fun x => T5 x (V1 x))
theorem Pa3 : i5 prog G 174 na1 := O4 (enc := fun x => ⟨[(eL tP x.c9), (.fn 175 [(.ptr 0 0 0 0)])], [⟨0, 1, [[(eL tX x.k9)]], true, false, 0⟩]⟩) (fun a H => by kernel_rfl) (bd Be4 La3) fun x => r5 (Eq.trans (b := w8 (fun r => (T5 x r).run) x) (by kernel_rfl) (Ta7 (fun r => (T5 x r).run) (fun r => r) x).symm)
noncomputable def Hb7 : List (Nat × Sum) := [(89, pa8), (174, na1)]
theorem Bb5 : j8 prog G Hb7 := ⟨Fa7, Pa3, trivial⟩
noncomputable def aa6 (x : List Pln) : Option (b7 × List b8) := let t1 := (Q6 (rt tP x)); let t2 := (V1 ⟨(rt tP x), (rt tX t1)⟩); (sl (okE tP x) (sl (Q7 (rt tP x)) (sl ((cnE tP x) && ((cnE tX t1) && true)) (sl (Nat.beq t2.alt 1) (some ((b (!t2.bs0)), [])) none) none) none) none)
noncomputable def aa7 (x : List Pln) : Bool := I6 (one r1B) (aa6 x)
noncomputable def aa8 (x : List Pln) : Bool := okO (one r1B) (aa6 x)
noncomputable def Ca3 : Sum := da4 (U3 tP) (fun x => .guard (aa8 x) (.ret ((one r1B).enc (aa7 x), [])))
theorem Va0 : i5 prog G 92 Ca3 := xa0 (bd b92 Bb5) (one r1B) (o := aa6) fun x => r5 (by kernel_rfl)
noncomputable def vc7 : List (Nat × Sum) := [(87, va7), (88, Gb0), (89, pa8)]
theorem kc6 : j8 prog G vc7 := ⟨ya8, Nb8, Fa7, trivial⟩
noncomputable def za0 (x : List Pln) : Option (b7 × List b8) := let t1 := (X4 [(rt tP x)]); let t2 := (La0 [(rt tP x)]); let t3 := (Q6 (rt tP t2)); (sl ((okE tP x) && true) (sl (X5 [(rt tP x)]) (sl (!t1) (some ((.v (.slice none 0 0)), [])) (sl ((okE tP x) && true) (sl (La1 [(rt tP x)]) (sl (okE tP t2) (sl (Q7 (rt tP t2)) (some ((eL tX t3), [])) none) none) none) none)) none) none)
noncomputable def Z4 (x : List Pln) : List Pt := I6 (one (r1L tX)) (za0 x)
noncomputable def Z5 (x : List Pln) : Bool := okO (one (r1L tX)) (za0 x)
noncomputable def za1 : Sum := da4 (U3 tP) (fun x => .guard (Z5 x) (.ret ((one (r1L tX)).enc (Z4 x), [])))
theorem Ga9 : i5 prog G 18 za1 := xa0 (bd b18 kc6) (one (r1L tX)) (o := za0) fun x => r5 (by kernel_rfl)
noncomputable def Tc5 : List (Nat × Sum) := [(87, va7), (88, Gb0), (92, Ca3)]
theorem Ec9 : j8 prog G Tc5 := ⟨ya8, Nb8, Va0, trivial⟩
noncomputable def Pa4 (x : List Pln) : Option (b7 × List b8) := let t1 := (X4 [(rt tP x)]); let t2 := (La0 [(rt tP x)]); let t3 := (aa7 (rt tP t2)); (sl ((okE tP x) && true) (sl (X5 [(rt tP x)]) (sl t1 (sl ((okE tP x) && true) (sl (La1 [(rt tP x)]) (sl (okE tP t2) (sl (aa8 (rt tP t2)) (some ((b t3), [])) none) none) none) none) (some ((b false), []))) none) none)
noncomputable def ka7 (x : List Pln) : Bool := I6 (one r1B) (Pa4 x)
noncomputable def ka8 (x : List Pln) : Bool := okO (one r1B) (Pa4 x)
noncomputable def Pa5 : Sum := da4 (U3 tP) (fun x => .guard (ka8 x) (.ret ((one r1B).enc (ka7 x), [])))
theorem Wa5 : i5 prog G 20 Pa5 := xa0 (bd b20 Ec9) (one r1B) (o := Pa4) fun x => r5 (by kernel_rfl)
noncomputable def Fc0 : List (Nat × Sum) := []
theorem vc8 : j8 prog G Fc0 := trivial
noncomputable def Ha0 (x : Int) (y : Int) : Option (b7 × List b8) := (sl (y == 0) none (sl (y == 0) none (sl (decide ((Int.tmod x y) < 0)) (some ((i (W ((W (Int.tdiv x y)) - 1))), [])) (some ((i (W (Int.tdiv x y))), [])))))
noncomputable def X9 (x : Int) (y : Int) : Int := I6 (one r1I) (Ha0 x y)
noncomputable def Y0 (x : Int) (y : Int) : Bool := okO (one r1I) (Ha0 x y)
noncomputable def Vb2 : Sum := ga9 cI cI (fun x y => .guard (Y0 x y) (.ret ((one r1I).enc (X9 x y), [])))
theorem Fc1 : i5 prog G 95 Vb2 := Za1 (bd b95 vc8) (one r1I) (o := Ha0) fun x y => r5 (by kernel_rfl)
noncomputable def Kb0 : List (Nat × Sum) := [(20, Pa5), (94, qb9), (18, za1), (95, Vb2)]
theorem vc9 : j8 prog G Kb0 := ⟨Wa5, Jb6, Ga9, Fc1, trivial⟩
structure ta2 where
 R4 : List Pt
 ae7 : Int
structure T6 where
 ba4 : Int
 Y8 : Int
 Y9 : Int
 Z0 : Int
 Gb7 : Int
 Gb8 : Int
 Gb9 : Int
noncomputable def kc7 (p : ta2) (s : T6) : St := ⟨(.unk :: (.unk :: ((.ptr 0 0 0 0) :: ((.ptr 1 0 0 0) :: (.unk :: ((.ptr 2 0 0 0) :: ((.ptr 3 0 0 0) :: (ra 11 ((eL tX p.R4) :: ((i p.ae7) :: ((i s.ba4) :: (ra 62 [])))))))))))), [⟨0, 3, [[(i 0), (i 0), (i 0)]], true, false, 0⟩, ⟨0, 3, [[(i 0), (i 0), (i 0)]], true, false, 0⟩, ⟨0, 3, [[(i s.Y8), (i s.Y9), (i s.Z0)]], true, false, 0⟩, ⟨0, 3, [[(i s.Gb7), (i s.Gb8), (i s.Gb9)]], true, false, 0⟩]⟩
noncomputable def ia8 {α : Type} (k : T6 → α) (e : Nat → α) (z : α) (p : ta2) (s : T6) : α := let t1 := (X9 (gL tX p.R4 s.ba4.toNat).px (gL tX p.R4 s.ba4.toNat).pw); let t2 := (X9 (gL tX p.R4 s.ba4.toNat).py (gL tX p.R4 s.ba4.toNat).pw); let t3 := (X9 (gL tX p.R4 s.ba4.toNat).pz (gL tX p.R4 s.ba4.toNat).pw); let t4 := (X9 (W (0 - (gL tX p.R4 s.ba4.toNat).px)) (gL tX p.R4 s.ba4.toNat).pw); let t5 := (X9 (W (0 - (gL tX p.R4 s.ba4.toNat).py)) (gL tX p.R4 s.ba4.toNat).pw); let t6 := (X9 (W (0 - (gL tX p.R4 s.ba4.toNat).pz)) (gL tX p.R4 s.ba4.toNat).pw); (sl (decide (s.ba4 < p.ae7)) (sl (inB s.ba4 (List.length p.R4)) (sl (Y0 (gL tX p.R4 s.ba4.toNat).px (gL tX p.R4 s.ba4.toNat).pw) (sl (Y0 (gL tX p.R4 s.ba4.toNat).py (gL tX p.R4 s.ba4.toNat).pw) (sl (Y0 (gL tX p.R4 s.ba4.toNat).pz (gL tX p.R4 s.ba4.toNat).pw) (sl (Y0 (W (0 - (gL tX p.R4 s.ba4.toNat).px)) (gL tX p.R4 s.ba4.toNat).pw) (sl (Y0 (W (0 - (gL tX p.R4 s.ba4.toNat).py)) (gL tX p.R4 s.ba4.toNat).pw) (sl (Y0 (W (0 - (gL tX p.R4 s.ba4.toNat).pz)) (gL tX p.R4 s.ba4.toNat).pw) (k ⟨(W (s.ba4 + 1)), (if t1 < s.Y8 then t1 else s.Y8), (if t2 < s.Y9 then t2 else s.Y9), (if t3 < s.Z0 then t3 else s.Z0), (if (W (0 - t4)) > s.Gb7 then (W (0 - t4)) else s.Gb7), (if (W (0 - t5)) > s.Gb8 then (W (0 - t5)) else s.Gb8), (if (W (0 - t6)) > s.Gb9 then (W (0 - t6)) else s.Gb9)⟩) z) z) z) z) z) z) z) (e 1))
noncomputable def ca7 (p : ta2) (s : T6) : Stp T6 := ia8 .next .exit .fail p s
noncomputable def bb7 : Lo ta2 T6 := ⟨En Kb0, 0, oe1, [1, 1, 1, 1, 0, 1, 4, 4], [2, 3, 5, 6, 18, 19, 20], .p, [⟨((.s (.o .unk)) :: ((.s (.o .unk)) :: ((.s (.o (.ptr 0 0 0 0))) :: ((.s (.o (.ptr 1 0 0 0))) :: ((.s (.o .unk)) :: ((.s (.o (.ptr 2 0 0 0))) :: ((.s (.o (.ptr 3 0 0 0))) :: (ru2 11 ((.s (.c 4 (nL tX))) :: ((.s (.o (.int .i64))) :: ((.s (.o (.int .i64))) :: (ru2 62 [])))))))))))), [⟨0, 3, true, (some [[(.o (.lit .i64 0)), (.o (.lit .i64 0)), (.o (.lit .i64 0))]])⟩, ⟨0, 3, true, (some [[(.o (.lit .i64 0)), (.o (.lit .i64 0)), (.o (.lit .i64 0))]])⟩, ⟨0, 3, true, (some [[(.o (.int .i64)), (.o (.int .i64)), (.o (.int .i64))]])⟩, ⟨0, 3, true, (some [[(.o (.int .i64)), (.o (.int .i64)), (.o (.int .i64))]])⟩], fun a H => (⟨(rL tX (slT a 18)), (toI (slT a 19))⟩, ⟨(toI (slT a 20)), (toI (slT (rwT (elT H 2) 0) 0)), (toI (slT (rwT (elT H 2) 0) 1)), (toI (slT (rwT (elT H 2) 0) 2)), (toI (slT (rwT (elT H 3) 0) 0)), (toI (slT (rwT (elT H 3) 0) 1)), (toI (slT (rwT (elT H 3) 0) 2))⟩)⟩], ca7, [(some 0, fun p s => ⟨(.unk :: (.unk :: ((.ptr 0 0 0 0) :: ((.ptr 1 0 0 0) :: (.unk :: ((.ptr 2 0 0 0) :: ((.ptr 3 0 0 0) :: (ra 11 ((eL tX p.R4) :: ((i p.ae7) :: ((i s.ba4) :: ((b (decide (s.ba4 < p.ae7))) :: (ra 61 []))))))))))))), [⟨0, 3, [[(i 0), (i 0), (i 0)]], true, false, 0⟩, ⟨0, 3, [[(i 0), (i 0), (i 0)]], true, false, 0⟩, ⟨0, 3, [[(i s.Y8), (i s.Y9), (i s.Z0)]], true, false, 0⟩, ⟨0, 3, [[(i s.Gb7), (i s.Gb8), (i s.Gb9)]], true, false, 0⟩]⟩)], kc7⟩
theorem kc8 : bb7.Ok := Lo.ok [] (by kernel_rfl) .nil rfl (.cons (fun a H => by kernel_rfl) .nil) fun p s => (.of @ia8 (fun F _ _ _ _ _ => by unfold ia8; (repeat' apply m8 (f := F)) <;> rfl) (by kernel_rfl))
noncomputable def Ha1 (x : List Pln) : Option (b7 × List b8) := let t1 := (ka7 (rt tP x)); let t2 := (N2 (⟨24, 24, 24⟩ : V3) (-1)); let t3 := (Z4 (rt tP x)); let t4 := (lp (ca7 (⟨(rt tX t3), (↑(List.length t3) : Int)⟩ : ta2)) (⟨0, 24, 24, 24, t2.x, t2.y, t2.z⟩ : T6)); (sl (okE tP x) (sl (ka8 (rt tP x)) (sl (!t1) (some ((.tup [(.agg [(i 0), (i 0), (i 0)]), (.agg [(i 0), (i 0), (i 0)]), (b false)]), [])) (sl (okE tP x) (sl (Z5 (rt tP x)) (sl ((cnE tX t3) && true) (sl (Nat.beq t4.1 1) (some ((.tup [(.agg [(i t4.2.Y8), (i t4.2.Y9), (i t4.2.Z0)]), (.agg [(i t4.2.Gb7), (i t4.2.Gb8), (i t4.2.Gb9)]), (b true)]), [])) none) none) none) none)) none) none)
noncomputable def Wa6 (x : List Pln) : V3 × V3 × Bool := I6 (bd7 r1V r1V r1B) (Ha1 x)
noncomputable def Wa7 (x : List Pln) : Bool := okO (bd7 r1V r1V r1B) (Ha1 x)
noncomputable def Vb3 : Sum := da4 (U3 tP) (fun x => .guard (Wa7 x) (.ret ((bd7 r1V r1V r1B).enc (Wa6 x), [])))
theorem Fc2 : i5 prog G 22 Vb3 := xa0 (bd b22 vc9) (bd7 r1V r1V r1B) (o := Ha1) fun x => xa1 (.s .p (.s .p (.s .p (.s .p (.s (.s .p (.b (.u bb7.ls))) .p))))) [bb7.pr] (by kernel_rfl) (.cons kc8 .nil) (by kernel_rfl)
end Go.Ev.Ce
end
namespace Go.Ev.Ce
open Go Go.Ev Go.Ev.L Go.Proofs
theorem Dd6 (P : va5) (g n : Int) (hn : n.natAbs ≤ 9223372036854775808) : lp (ya4 P) ⟨g, n⟩ = (1, ⟨eu g n, 0⟩) :=
 vd0 (mk := fun g n => (⟨g, n⟩ : da8)) (fun g n h => by simp [ya4, sa3, Za0, h]) (fun g => by simp [ya4, sa3, Za0]) g n hn
theorem Dd7 (l : List Int) (hl : l.length ≤ 1000000000) (hb : ∀ x ∈ l, x.natAbs ≤ 9223372036854775808) : lp (oa4 ⟨(l.length : Int)⟩) ⟨0, l, 0⟩ = (1, ⟨l.foldl eu 0, l, l.length⟩) := by
 have := Sb3 (step := oa4 ⟨(l.length : Int)⟩) (mk := fun j a => (⟨a, l, (j : Int)⟩ : da9)) (f := eu) (fin := 1) tI l (fun _ _ => True) hl (fun j a hj _ => ⟨by
   simp only [oa4, sa4, Int.toNat_natCast, l9, o2, Dd6 _ _ _ (hb _ (sc8 tI hj)), p6 hj (by omega)]
   rw [bt (zb3 hj), bt (f9 hj)]
   rfl, trivial⟩) (fun a _ => by simp [oa4, sa4, Za0]) 0 (Nat.zero_le _) 0 trivial
 simpa using this.1
theorem Vb4 : ∀ (l : List Int) (g : Int), (l.foldl eu g).natAbs = l.foldl (fun a x => Nat.gcd a x.natAbs) g.natAbs
 | [], _ => rfl
 | x :: l, g => by rw [List.foldl_cons, Vb4 l, List.foldl_cons, Id5]; rfl
theorem ie4 (l : List Int) (hl : l.length ≤ 1000000000) (hb : ∀ x ∈ l, x.natAbs ≤ 9223372036854775807) (h0 : (l.foldl eu 0).natAbs ≤ 9223372036854775807) : ab9 l = some (i ((l.foldl eu 0).natAbs : Int), []) := by
 unfold ab9
 simp only [l9, o2, Dd7 l hl (fun x hx => Nat.le_succ_of_le (hb x hx))]
 generalize l.foldl eu 0 = e at *
 have : W (0 - e) = -e := by rw [Ca0 (by omega) (by omega)]; omega
 rw [this]
 show some (i (if -e > e then -e else e), []) = _
 congr 3
 split <;> omega
theorem Lc6 (x y : Int) (hx : 0 ≤ x) (hy : 0 ≤ y) (hb : y ≤ 9223372036854775807) : Ea8 x y = some (i (Int.gcd x y : Int), []) := by
 unfold Ea8
 have := vd0 (step := ma2 ⟨⟩) (mk := fun g n => (⟨g, n⟩ : T0)) (fun g n h => by simp [ma2, ha5, Za0, h]) (fun g => by simp [ma2, ha5, Za0]) x y (by omega)
 simp only [this, Id6 hx hy]
 rfl
theorem wc0 (x y : Int) (hx : 0 ≤ x) (hy : 0 ≤ y) (hb : y ≤ 9223372036854775807) : M3 x y = (Int.gcd x y : Int) := by unfold M3; rw [Lc6 x y hx hy hb]; rfl
theorem wc1 (x y : Int) (hx : 0 ≤ x) (hy : 0 ≤ y) (hb : y ≤ 9223372036854775807) : M4 x y = true := by unfold M4; rw [Lc6 x y hx hy hb]; rfl
noncomputable def rm (p : Pln) (x : Pt) : Int := W (p.b * x.pw - (p.n.x * x.px + p.n.y * x.py + p.n.z * x.pz))
theorem Tc6 (p : Pln) (x : Pt) : ka6 p x = rm p x := by
 unfold ka6 Da2 rm
 simp only [jb0, Mb3, sc7, Rc1]
theorem vd7 (p : Pln) (x : Pt) : Za7 p x = rm p x := by
 unfold Za7 rm
 simp only [jb0, Mb3, sc7, Rc1]
 congr 1
 omega
structure Bd (p : Pln) : Prop where
 x1 : -4608 ≤ p.n.x
 x2 : p.n.x ≤ 4608
 y1 : -4608 ≤ p.n.y
 y2 : p.n.y ≤ 4608
 z1 : -4608 ≤ p.n.z
 z2 : p.n.z ≤ 4608
 b1 : -2097152 ≤ p.b
 b2 : p.b ≤ 2097152
def mv (p q r : Pln) : V3 :=
 ⟨(E0 q.n r.n).x * p.b + (E0 r.n p.n).x * q.b + (E0 p.n q.n).x * r.b,
  (E0 q.n r.n).y * p.b + (E0 r.n p.n).y * q.b + (E0 p.n q.n).y * r.b,
  (E0 q.n r.n).z * p.b + (E0 r.n p.n).z * q.b + (E0 p.n q.n).z * r.b⟩
def gc (v : V3) (w : Int) : Int := (Nat.gcd (Nat.gcd v.x.natAbs v.y.natAbs) (Nat.gcd v.z.natAbs w.natAbs) : Nat)
def mpt (p q r : Pln) : Pt × Bool :=
 if mw p q r = 0 then (⟨0, 0, 0, 0⟩, false)
 else if mw p q r < 0 then (⟨Int.tdiv (-(mv p q r).x) (gc (mv p q r) (mw p q r)), Int.tdiv (-(mv p q r).y) (gc (mv p q r) (mw p q r)), Int.tdiv (-(mv p q r).z) (gc (mv p q r) (mw p q r)), Int.tdiv (-(mw p q r)) (gc (mv p q r) (mw p q r))⟩, true)
 else (⟨Int.tdiv (mv p q r).x (gc (mv p q r) (mw p q r)), Int.tdiv (mv p q r).y (gc (mv p q r) (mw p q r)), Int.tdiv (mv p q r).z (gc (mv p q r) (mw p q r)), Int.tdiv (mw p q r) (gc (mv p q r) (mw p q r))⟩, true)
def Sm (n : Int) (x : Int) : Prop := -n ≤ x ∧ x ≤ n
theorem Vb5 {a b : V3} (ha : Sm 4608 a.x ∧ Sm 4608 a.y ∧ Sm 4608 a.z) (hb : Sm 4608 b.x ∧ Sm 4608 b.y ∧ Sm 4608 b.z) : Sm 42467328 (E0 a b).x ∧ Sm 42467328 (E0 a b).y ∧ Sm 42467328 (E0 a b).z := by
 obtain ⟨⟨a1, a2⟩, ⟨a3, a4⟩, a5, a6⟩ := ha
 obtain ⟨⟨b1, b2⟩, ⟨b3, b4⟩, b5, b6⟩ := hb
 have h1 := mb a3 a4 b5 b6; have h2 := mb a5 a6 b3 b4; have h3 := mb a5 a6 b1 b2; have h4 := mb a1 a2 b5 b6; have h5 := mb a1 a2 b3 b4; have h6 := mb a3 a4 b1 b2
 unfold Sm E0
 simp only
 omega
theorem Bd.n {p : Pln} (h : Bd p) : Sm 4608 p.n.x ∧ Sm 4608 p.n.y ∧ Sm 4608 p.n.z := ⟨⟨h.x1, h.x2⟩, ⟨h.y1, h.y2⟩, h.z1, h.z2⟩
theorem Ld7 {p q r : Pln} (hp : Bd p) (hq : Bd q) (hr : Bd r) : Sm 600000000000 (mw p q r) := by
 obtain ⟨⟨c1, c2⟩, ⟨c3, c4⟩, c5, c6⟩ := Vb5 hq.n hr.n
 have h1 := mb hp.x1 hp.x2 c1 c2; have h2 := mb hp.y1 hp.y2 c3 c4; have h3 := mb hp.z1 hp.z2 c5 c6
 unfold Sm mw dot
 omega
theorem Ld8 {p q r : Pln} (hp : Bd p) (hq : Bd q) (hr : Bd r) : Sm 300000000000000 (mv p q r).x ∧ Sm 300000000000000 (mv p q r).y ∧ Sm 300000000000000 (mv p q r).z := by
 obtain ⟨⟨c1, c2⟩, ⟨c3, c4⟩, c5, c6⟩ := Vb5 hq.n hr.n
 obtain ⟨⟨d1, d2⟩, ⟨d3, d4⟩, d5, d6⟩ := Vb5 hr.n hp.n
 obtain ⟨⟨e1, e2⟩, ⟨e3, e4⟩, e5, e6⟩ := Vb5 hp.n hq.n
 have a1 := mb c1 c2 hp.b1 hp.b2; have a2 := mb c3 c4 hp.b1 hp.b2; have a3 := mb c5 c6 hp.b1 hp.b2
 have b1 := mb d1 d2 hq.b1 hq.b2; have b2 := mb d3 d4 hq.b1 hq.b2; have b3 := mb d5 d6 hq.b1 hq.b2
 have f1 := mb e1 e2 hr.b1 hr.b2; have f2 := mb e3 e4 hr.b1 hr.b2; have f3 := mb e5 e6 hr.b1 hr.b2
 unfold Sm mv
 simp only
 omega
theorem oc3 (a b : V3) : M1 a b = ⟨W (E0 a b).x, W (E0 a b).y, W (E0 a b).z⟩ := by
 unfold M1 E0
 simp only [sc7, Rc1]
theorem Vb6 (a b : V3) : O0 a b = ⟨W (E0 a b).x, W (E0 a b).y, W (E0 a b).z⟩ := by
 unfold O0 E0
 simp only [sc7, Rc1]
theorem ie5 (p q r : Pln) : dot r.n (E0 p.n q.n) = mw p q r := by unfold mw dot E0; grind
theorem De6 (a b c d : Nat) : [a, b, c, d].foldl Nat.gcd 0 = Nat.gcd (Nat.gcd a b) (Nat.gcd c d) := by
 simp only [List.foldl_cons, List.foldl_nil, Nat.gcd_zero_left]
 rw [Nat.gcd_assoc]
theorem Tc7 {v : V3} {w : Int} (h : w ≠ 0) : 0 < gc v w := by
 unfold gc
 have : 0 < Nat.gcd v.z.natAbs w.natAbs := Nat.gcd_pos_of_pos_right _ (by omega)
 have := Nat.gcd_pos_of_pos_right (Nat.gcd v.x.natAbs v.y.natAbs) this
 omega
theorem Ld9 {v : V3} {w : Int} (h : w ≠ 0) : gc v w ≤ w.natAbs := by
 unfold gc
 have h1 : Nat.gcd v.z.natAbs w.natAbs ≤ w.natAbs := Nat.gcd_le_right _ (by omega)
 have h2 : 0 < Nat.gcd v.z.natAbs w.natAbs := Nat.gcd_pos_of_pos_right _ (by omega)
 have h3 := Nat.gcd_le_right (m := Nat.gcd v.x.natAbs v.y.natAbs) (n := Nat.gcd v.z.natAbs w.natAbs) h2
 omega
theorem ta3 {x : Int} (h : Sm 1000000000000000000 x) : W x = x := Ca0 (by have := h.1; omega) (by have := h.2; omega)
theorem Sm.mono {n m x : Int} (h : Sm n x) (hn : n ≤ m) : Sm m x := ⟨by have := h.1; omega, by have := h.2; omega⟩
theorem F4 {n x g : Int} (h : Sm n x) (hg : 0 < g) : Sm n (Int.tdiv x g) := by
 have h1 : (Int.tdiv x g).natAbs ≤ x.natAbs := by rw [Int.natAbs_tdiv]; exact Nat.div_le_self _ _
 have := h.1; have := h.2
 constructor <;> omega
theorem ie6 {p q r : Pln} (hp : Bd p) (hq : Bd q) (hr : Bd r) (h : (mpt p q r).2 = true) : 0 < (mpt p q r).1.pw ∧ Sm 300000000000000 (mpt p q r).1.px ∧ Sm 300000000000000 (mpt p q r).1.py ∧ Sm 300000000000000 (mpt p q r).1.pz ∧ (mpt p q r).1.pw ≤ 600000000000 := by
 have hw := Ld7 hp hq hr
 obtain ⟨v1, v2, v3⟩ := Ld8 hp hq hr
 have neg : ∀ {n x : Int}, Sm n x → Sm n (-x) := fun h => ⟨by have := h.2; omega, by have := h.1; omega⟩
 have pos : ∀ {x : Int}, 0 < x → x.natAbs = (mw p q r).natAbs → 0 < Int.tdiv x (gc (mv p q r) (mw p q r)) := fun {x} hx he => by
  have h0 : mw p q r ≠ 0 := by omega
  have h1 := Tc7 (v := mv p q r) h0
  have h2 := Ld9 (v := mv p q r) h0
  rw [Int.tdiv_eq_ediv_of_nonneg (by omega)]
  exact Int.ediv_pos_of_pos_of_dvd hx (by omega) (by
   rw [← Int.dvd_natAbs, he]
   exact Int.natCast_dvd_natCast.2 (Nat.dvd_trans (Nat.gcd_dvd_right _ _) (Nat.gcd_dvd_right _ _)))
 unfold mpt at h ⊢
 by_cases h0 : mw p q r = 0
 ·rw [if_pos h0] at h; cases h
 ·rw [if_neg h0]
  have hg := Tc7 (v := mv p q r) h0
  by_cases h1 : mw p q r < 0
  ·rw [if_pos h1]
   exact ⟨pos (by omega) (by omega), F4 (neg v1) hg, F4 (neg v2) hg, F4 (neg v3) hg, (F4 (neg hw) hg).2⟩
  ·rw [if_neg h1]
   exact ⟨pos (by omega) rfl, F4 v1 hg, F4 v2 hg, F4 v3 hg, (F4 hw hg).2⟩
theorem vd8 {p q r : Pln} (hp : Bd p) (hq : Bd q) (hr : Bd r) : Oa1 ⟨p, q, r⟩ = some (.tup [.agg (tX.row (mpt p q r).1), b (mpt p q r).2], []) := by
 have hw := Ld7 hp hq hr
 obtain ⟨v1, v2, v3⟩ := Ld8 hp hq hr
 have e1 : Da2 r.n (M1 p.n q.n) = mw p q r := by
  rw [oc3]
  unfold Da2
  simp only [jb0, Mb3, Id3]
  show W (dot r.n (E0 p.n q.n)) = _
  rw [ie5, ta3 (hw.mono (by omega))]
 have e2 : ka5 (ka5 (ka5 ⟨0, 0, 0⟩ (N2 (M1 q.n r.n) p.b)) (N2 (M1 r.n p.n) q.b)) (N2 (M1 p.n q.n) r.b) = mv p q r := by
  rw [oc3, oc3, oc3]
  unfold ka5 N2
  simp only [jb0, Mb3, pd0, Int.zero_add]
  show (⟨W (mv p q r).x, W (mv p q r).y, W (mv p q r).z⟩ : V3) = _
  rw [ta3 (v1.mono (by omega)), ta3 (v2.mono (by omega)), ta3 (v3.mono (by omega))]
 unfold Oa1
 simp only [e1, e2]
 have hb : ∀ x ∈ [(mv p q r).x, (mv p q r).y, (mv p q r).z, mw p q r], x.natAbs ≤ 9223372036854775807 := by
  intro x hx
  simp only [List.mem_cons, List.not_mem_nil, or_false] at hx
  unfold Sm at *
  rcases hx with rfl | rfl | rfl | rfl <;> omega
 have hf : ([(mv p q r).x, (mv p q r).y, (mv p q r).z, mw p q r].foldl eu 0).natAbs = Nat.gcd (Nat.gcd (mv p q r).x.natAbs (mv p q r).y.natAbs) (Nat.gcd (mv p q r).z.natAbs (mw p q r).natAbs) := by
  rw [Vb4, ← De6]; rfl
 unfold mpt
 by_cases h0 : mw p q r = 0
 ·rw [bt (by rw [h0]; rfl), if_pos h0]
  rfl
 ·have hz : (mw p q r == 0) = false := by simpa using h0
  rw [bf hz, if_neg h0]
  have hgp := Tc7 (v := mv p q r) h0
  have hgl := Ld9 (v := mv p q r) h0
  have hge := ie4 _ (by simp) hb (by rw [hf]; unfold gc at hgl; unfold Sm at hw; omega)
  have hgv : rb3 [(mv p q r).x, (mv p q r).y, (mv p q r).z, mw p q r] = gc (mv p q r) (mw p q r) := by
   unfold rb3; rw [hge, hf]; rfl
  have hgg : rb4 [(mv p q r).x, (mv p q r).y, (mv p q r).z, mw p q r] = true := by
   unfold rb4; rw [hge]; rfl
  rw [hgv, bt hgg]
  generalize hG : gc (mv p q r) (mw p q r) = G at *
  have hGW : W (0 - G) = -G := by unfold Sm at hw; rw [Ca0 (by omega) (by omega)]; omega
  have hGn : (-G == 0) = false := by simp; omega
  have hGp : (G == 0) = false := by simp; omega
  by_cases h1 : mw p q r < 0
  ·rw [bt (decide_eq_true h1), if_pos h1]
   simp only [hGW]
   rw [bf hGn, bf hGn, bf hGn, bf hGn]
   simp only [Int.tdiv_neg, ← Int.neg_tdiv]
   have neg : ∀ {n x : Int}, Sm n x → Sm n (-x) := fun h => ⟨by have := h.2; omega, by have := h.1; omega⟩
   rw [ta3 ((F4 (neg v1) hgp).mono (by omega)), ta3 ((F4 (neg v2) hgp).mono (by omega)), ta3 ((F4 (neg v3) hgp).mono (by omega)), ta3 ((F4 (neg hw) hgp).mono (by omega))]
   rfl
  ·rw [bf (decide_eq_false h1), if_neg h1, bf hGp, bf hGp, bf hGp, bf hGp]
   rw [ta3 ((F4 v1 hgp).mono (by omega)), ta3 ((F4 v2 hgp).mono (by omega)), ta3 ((F4 v3 hgp).mono (by omega)), ta3 ((F4 hw hgp).mono (by omega))]
   rfl
theorem ie7 {p q r : Pln} (hp : Bd p) (hq : Bd q) (hr : Bd r) : Oa2 ⟨p, q, r⟩ = mpt p q r := by unfold Oa2; rw [vd8 hp hq hr]; rfl
theorem ie8 {p q r : Pln} (hp : Bd p) (hq : Bd q) (hr : Bd r) : Oa3 ⟨p, q, r⟩ = true := by unfold Oa3; rw [vd8 hp hq hr]; rfl
theorem fd3 {p q r : Pln} (hp : Bd p) (hq : Bd q) (hr : Bd r) : Za9 p q r = some (.tup [.agg (tX.row (mpt p q r).1), b (mpt p q r).2], []) := by
 have hw := Ld7 hp hq hr
 obtain ⟨v1, v2, v3⟩ := Ld8 hp hq hr
 have e1 : Ca9 p.n (O0 q.n r.n) = mw p q r := by
  rw [Vb6]
  unfold Ca9
  simp only [jb0, Mb3, Id3]
  show W (dot p.n (E0 q.n r.n)) = _
  rw [show dot p.n (E0 q.n r.n) = mw p q r from rfl, ta3 (hw.mono (by omega))]
 have e2 : Xa9 (Xa9 (M2 (O0 q.n r.n) p.b) (M2 (O0 r.n p.n) q.b)) (M2 (O0 p.n q.n) r.b) = mv p q r := by
  rw [Vb6, Vb6, Vb6]
  unfold Xa9 M2
  simp only [jb0, Mb3, pd0]
  show (⟨W (mv p q r).x, W (mv p q r).y, W (mv p q r).z⟩ : V3) = _
  rw [ta3 (v1.mono (by omega)), ta3 (v2.mono (by omega)), ta3 (v3.mono (by omega))]
 have neg : ∀ {n x : Int}, Sm n x → Sm n (-x) := fun h => ⟨by have := h.2; omega, by have := h.1; omega⟩
 have e3 : M2 (mv p q r) (-1) = ⟨-(mv p q r).x, -(mv p q r).y, -(mv p q r).z⟩ := by
  unfold M2
  have : ∀ x : Int, x * -1 = -x := fun x => by omega
  simp only [this]
  rw [ta3 ((neg v1).mono (by omega)), ta3 ((neg v2).mono (by omega)), ta3 ((neg v3).mono (by omega))]
 have ab : ∀ {x : Int}, Sm 300000000000000 x → (if W (0 - x) > x then W (0 - x) else x) = (x.natAbs : Int) := fun {x} h => by
  have : W (0 - x) = -x := by rw [show 0 - x = -x by omega]; exact ta3 ((neg h).mono (by omega))
  rw [this]
  split <;> omega
 unfold Za9
 simp only [e1, e2, e3]
 rw [ab v1, ab v2, ab v3, ab (neg v1), ab (neg v2), ab (neg v3)]
 simp only [Int.natAbs_neg]
 unfold mpt
 by_cases h0 : mw p q r = 0
 ·rw [bt (by rw [h0]; rfl), if_pos h0]
  rfl
 ·have hz : (mw p q r == 0) = false := by simpa using h0
  rw [bf hz, if_neg h0]
  have hgp := Tc7 (v := mv p q r) h0
  have hgl := Ld9 (v := mv p q r) h0
  have hw0 := hw
  unfold Sm at hw0
  have q1 : ((mv p q r).y.natAbs : Int) ≤ 9223372036854775807 := by unfold Sm at v2; omega
  have k1 := wc0 ((mv p q r).x.natAbs : Int) ((mv p q r).y.natAbs : Int) (by omega) (by omega) q1
  have k2 := wc1 ((mv p q r).x.natAbs : Int) ((mv p q r).y.natAbs : Int) (by omega) (by omega) q1
  have c1 : Int.gcd ((mv p q r).x.natAbs : Int) ((mv p q r).y.natAbs : Int) = Nat.gcd (mv p q r).x.natAbs (mv p q r).y.natAbs := by simp [Int.gcd]
  have fin : ∀ w : Int, 0 < w → w.natAbs = (mw p q r).natAbs → M3 ((mv p q r).z.natAbs : Int) w = (Nat.gcd (mv p q r).z.natAbs (mw p q r).natAbs : Nat) ∧ M4 ((mv p q r).z.natAbs : Int) w = true ∧
    M3 (Nat.gcd (mv p q r).x.natAbs (mv p q r).y.natAbs : Nat) (Nat.gcd (mv p q r).z.natAbs (mw p q r).natAbs : Nat) = gc (mv p q r) (mw p q r) ∧ M4 (Nat.gcd (mv p q r).x.natAbs (mv p q r).y.natAbs : Nat) (Nat.gcd (mv p q r).z.natAbs (mw p q r).natAbs : Nat) = true := by
   intro w hw1 hw2
   have l1 : Nat.gcd (mv p q r).z.natAbs (mw p q r).natAbs ≤ (mw p q r).natAbs := Nat.gcd_le_right _ (by omega)
   refine ⟨?_, wc1 _ _ (by omega) (by omega) (by omega), ?_, wc1 _ _ (by omega) (by omega) (by omega)⟩
   ·rw [wc0 _ _ (by omega) (by omega) (by omega)]
    have : Int.gcd ((mv p q r).z.natAbs : Int) w = Nat.gcd (mv p q r).z.natAbs (mw p q r).natAbs := by unfold Int.gcd; rw [hw2]; simp
    rw [this]
   ·rw [wc0 _ _ (by omega) (by omega) (by omega)]
    rfl
  by_cases h1 : mw p q r < 0
  ·rw [bt (decide_eq_true h1), if_pos h1]
   have hWw : W (0 - mw p q r) = -mw p q r := by rw [Ca0 (by omega) (by omega)]; omega
   rw [hWw]
   obtain ⟨f1, f2, f3, f4⟩ := fin (-mw p q r) (by omega) (by omega)
   simp only [k1, k2, c1, f1, f2, f3, f4]
   generalize gc (mv p q r) (mw p q r) = G at *
   have hGp : (G == 0) = false := by simp; omega
   simp only [hGp]
   rw [ta3 ((F4 (neg v1) hgp).mono (by omega)), ta3 ((F4 (neg v2) hgp).mono (by omega)), ta3 ((F4 (neg v3) hgp).mono (by omega)), ta3 ((F4 (neg hw) hgp).mono (by omega))]
   rfl
  ·rw [bf (decide_eq_false h1), if_neg h1]
   obtain ⟨f1, f2, f3, f4⟩ := fin (mw p q r) (by omega) rfl
   simp only [k1, k2, c1, f1, f2, f3, f4]
   generalize gc (mv p q r) (mw p q r) = G at *
   have hGp : (G == 0) = false := by simp; omega
   simp only [hGp]
   rw [ta3 ((F4 v1 hgp).mono (by omega)), ta3 ((F4 v2 hgp).mono (by omega)), ta3 ((F4 v3 hgp).mono (by omega)), ta3 ((F4 hw hgp).mono (by omega))]
   rfl
theorem Vd1 {p q r : Pln} (hp : Bd p) (hq : Bd q) (hr : Bd r) : ab0 p q r = mpt p q r := by unfold ab0; rw [fd3 hp hq hr]; rfl
theorem Vd2 {p q r : Pln} (hp : Bd p) (hq : Bd q) (hr : Bd r) : ab1 p q r = true := by unfold ab1; rw [fd3 hp hq hr]; rfl
end Go.Ev.Ce
