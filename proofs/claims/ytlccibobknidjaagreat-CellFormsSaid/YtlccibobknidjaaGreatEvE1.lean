/- Own work: a part of the proof. -/
import Derived.Shelf.Spec.SlicesGrow
import Derived.Test.YtlccibobknidjaaGreatEvD0
import Derived.KernelRfl
import Derived.Test.YtlccibobknidjaaGreatEvD3
import Derived.Test.YtlccibobknidjaaGreatEvSp4
import Derived.Test.YtlccibobknidjaaGreatEvD2
set_option linter.unusedVariables false
set_option linter.unusedSimpArgs false
set_option linter.unnecessarySimpa false
set_option linter.unusedSectionVars false
namespace Go.Proofs
open Go.Shelf
shelf_lay_g Lays8.n4 Nm8 4 at Tryz 216 as Ce.growP
end Go.Proofs
namespace Go.Ev.Ce
open Go Go.Ev Go.Proofs
noncomputable def Sc2 : List b7 := [i 0, i 0, i 0, i 0]
noncomputable def wa1 : Sum := fun args blks => match args, blks with
 | [.v (.slice none 0 0), .v (.int .i64 n)], [] => .ite (n == 0) (.ret (.v (.slice none 0 0), []))
   (.guard (Bool.and (decide (0 < n)) (Nat.ble (n.toNat * 32) room)) (.ret (.sl 0 0 0 0, [⟨50, 4, List.replicate n.toNat Sc2, true, false, 0⟩])))
 | _, _ => .fail
theorem z50 : zeT Tryz.prog 50 = some Sc2 := by kernel_rfl
theorem s50 : szT Tryz.prog 50 = 4 := by kernel_rfl
theorem y50 : byT Tryz.prog 50 = 32 := by kernel_rfl
theorem t25 : Ce.growP_ren.t 25 = 50 := by kernel_rfl
theorem f4 : Ce.growP_ren.f 4 = 216 := by kernel_rfl
set_option maxRecDepth 100000 in
theorem Bb7 : f6 prog G 216 wa1 := by
 intro args blks r out he W ρ F w args' hH hlen hargs hG
 refine ⟨⟨_, Tryz.func216, by kernel_rfl, of_decide_eq_true (by kernel_rfl)⟩, ?_⟩
 unfold wa1 at he
 split at he
 case h_2 => cases he
 rename_i n
 match args', hlen with
 | [v0, v1], _ =>
 have e0 := Y5 (hargs 0 _ _ rfl rfl)
 have e1 := Y5 (hargs 1 _ _ rfl rfl)
 subst e0 e1
 rcases DT.run_ite_some he with ⟨h0, he⟩ | ⟨h0, he⟩
 ·have h0 : n = 0 := by simpa using h0
  subst h0
  injection he with he; injection he with q1 q2; subst q1 q2
  have := Any8.slices_Grow_room Ce.growP none 0 0 0 w (Nat.le_refl _) (by omega) (by omega) (by omega)
  rw [f4] at this
  refine this.mono fun e w' ⟨h1, h2⟩ => ?_
  subst h1 h2
  exact ⟨_, rfl, ρ, F, .refl, hH, .ofv _⟩
 ·obtain ⟨hg, he⟩ := DT.run_guard_some he
  rw [Bool.and_eq_true, decide_eq_true_eq] at hg
  obtain ⟨hpos, hroom⟩ := hg
  have hroom := Nat.le_of_ble_eq_true hroom
  unfold room at hroom
  obtain ⟨m, rfl⟩ := Int.eq_ofNat_of_zero_le (Int.le_of_lt hpos)
  have hm : 0 < m := by omega
  have he : some (b7.sl 0 0 0 0, [(⟨50, 4, List.replicate m Sc2, true, false, 0⟩ : b8)]) = some (r, out) := he
  injection he with he; injection he with q1 q2; subst q1 q2
  obtain ⟨ti, zv, hi, hzz, hzr, hone⟩ := Ja6 (E := En []) z50
  have hi : Tryz.prog.info? 50 = some ti := hi
  have hts : ti.size = 4 := by have := s50; simp only [szT, hi] at this; exact this
  have hby : ti.bytes = 32 := by have := y50; simp only [byT, hi] at this; exact this
  have hzs : zv.cells.size = 4 := by
   have := congrArg List.length hzr
   simpa [Sc2] using this.symm
  have hroom' : m * 32 ≤ 140737488355328 := hroom
  have := Any8.slices_Grow_grow Ce.growP ti zv (by rw [t25]; exact hi) hzz (by omega) none 0 0 m [] w (Nat.le_refl _) (by omega) (by rw [hby]; omega) (by omega) (by simp) (fun _ => rfl) (fun a ha => by cases ha)
  rw [f4, t25] at this
  refine this.mono fun e w' ⟨h1, h2⟩ => ?_
  have hcap := grownCap_ge w (0 + m) 0 50
  have hcap2 := grownCap_le_maxLen w (0 + m) 0 50 (by unfold maxLen; omega)
  subst h1
  generalize grownCap w (0 + m) 0 50 = G' at *
  have hsz : ∀ q, (Builtin.zeroCells zv.cells q).size = q * 4 := fun q => by simp [Builtin.zeroCells, hzs]
  have hcc : (#[] ++ Builtin.zeroCells zv.cells (0 + m - 0) ++ Builtin.zeroCells zv.cells (G' - (0 + m))).size = G' * 4 := by
   rw [Array.size_append, Array.size_append, hsz, hsz]
   simp
   omega
  have hobj : w'.heap[w.heap.size]? = some (.cells (#[] ++ Builtin.zeroCells zv.cells (0 + m - 0) ++ Builtin.zeroCells zv.cells (G' - (0 + m))) 50 (0, 0)) := by
   rw [h2]
   exact World.alloc_heap_new w.drew _
  have hold : ∀ k, k < w.heap.size → w'.heap[k]? = w.heap[k]? := fun k hk => by
   rw [h2]
   simp only [World.alloc, Array.getElem?_push, World.drew]
   rw [if_neg (by omega)]
  have hws : w'.heap.size = w.heap.size + 1 := by rw [h2]; exact Array.size_push ..
  obtain ⟨h6, h7⟩ := hH.newAt (w' := w') (by rw [h2]; rfl) (by rw [h2]; rfl) (by rw [h2]; rfl) (by rw [h2]; exact Nat.le_succ _) (by omega) hold w.heap.size (Nat.le_refl _) 50 4 (List.replicate m Sc2) _ 50 hobj
   (fun j r hr => by rw [List.getElem?_replicate] at hr; split at hr <;> cases hr; rfl) (by rw [List.length_replicate, hcc]; omega)
   (fun j r c x hr hx => by
    have hjm : j < m := by
     have := (List.getElem?_eq_some_iff.1 hr).1
     simpa using this
    rw [List.getElem?_replicate, if_pos hjm] at hr
    injection hr with hr
    subst hr
    have hc4 : c < 4 := (List.getElem?_eq_some_iff.1 hx).1
    rw [hzr, List.getElem?_map] at hx
    have hcz : c < zv.cells.size := by omega
    have hq : zv.cells.toList[c]? = some zv.cells[c] := by simp [hcz]
    rw [hq] at hx
    injection hx with hx
    subst hx
    refine ⟨zv.cells[c], ?_, .v _ (hone _ (by simp))⟩
    have hlt : j * 4 + c < m * 4 := by omega
    rw [Array.append_assoc, Array.empty_append, Array.getElem?_append_left (by rw [hsz]; omega)]
    have hm4 : (j * 4 + c) % 4 = c := by omega
    simp only [Builtin.zeroCells, hzs]
    rw [Array.getElem?_map, Array.getElem?_range]
    rw [if_pos (by omega)]
    simp [hm4, hcz])
   (fun _ => rfl)
  refine ⟨_, rfl, _, F, h6, h7, .val (.cell ?_)⟩
  refine .sl 0 0 0 0 _ _ { et := 50, es := 4, elems := List.replicate m Sc2, own := true, dead := false, g := 0 } rfl rfl (Nat.le_refl _) (Nat.zero_le _) rfl hcap2 fun _ => ⟨.inr ?_, ?_, by simp⟩
  ·simp [ρnew]
  ·simp only [ρnew, List.length_nil, if_true]
   rw [hcc, Nat.zero_add]
end Go.Ev.Ce
section
namespace Go.Ev.Ce
open Go Go.Ev Go.Ev.L Go.Proofs
set_option maxRecDepth 100000
noncomputable def ka3 : List (Nat × Sum) := [(216, wa1)]
theorem nb3 : i7 prog G ka3 := ⟨Bb7, trivial⟩
structure J9 where
 oa9 : List (List Pln)
 Ac1 : List (List Pln)
 Ia9 : Int
structure o7 where
 is3 : Int
 Q4 : Int
noncomputable def jb4 (p : J9) (s : o7) : St := ⟨((eL (tLs tP) p.oa9) :: (.unk :: (.unk :: ((i s.is3) :: (ra 5 ((eL (tLs tP) p.Ac1) :: ((i p.Ia9) :: ((i s.Q4) :: (ra 24 []))))))))), []⟩
noncomputable def G1 {α : Type} (k : o7 → α) (e : Nat → α) (z : α) (p : J9) (s : o7) : α := (sl (decide (s.Q4 < p.Ia9)) (sl (inB s.Q4 (List.length p.Ac1)) (sl (decide ((W (s.is3 + (↑(List.length (gL (tLs tP) p.Ac1 s.Q4.toNat)) : Int))) < 0)) z (k ⟨(W (s.is3 + (↑(List.length (gL (tLs tP) p.Ac1 s.Q4.toNat)) : Int))), (W (s.Q4 + 1))⟩)) z) (e 1))
noncomputable def C5 (p : J9) (s : o7) : Stp o7 := G1 .next .exit .fail p s
noncomputable def ia2 : Lo J9 o7 := ⟨En ka3, 0, Jd5, [1, 1, 0, 1, 4, 4], [0, 3, 9, 10, 11], .p, [⟨((.s (.c 1 (nL (tLs tP)))) :: ((.s (.o .unk)) :: ((.s (.o .unk)) :: ((.s (.o (.int .i64))) :: (ru2 5 ((.s (.c 1 (nL (tLs tP)))) :: ((.s (.o (.int .i64))) :: ((.s (.o (.int .i64))) :: (ru2 24 []))))))))), [], fun a H => (⟨(rL (tLs tP) (slT a 0)), (rL (tLs tP) (slT a 9)), (toI (slT a 10))⟩, ⟨(toI (slT a 3)), (toI (slT a 11))⟩)⟩], C5, [(some 0, fun p s => ⟨((eL (tLs tP) p.oa9) :: (.unk :: (.unk :: ((i s.is3) :: (ra 5 ((eL (tLs tP) p.Ac1) :: ((i p.Ia9) :: ((i s.Q4) :: ((b (decide (s.Q4 < p.Ia9))) :: (ra 23 [])))))))))), []⟩)], jb4⟩
theorem jb5 : ia2.OkM := Lo.okM [] (by kernel_rfl) .nil rfl (.cons (fun a H => by kernel_rfl) .nil) fun p s => (.of @G1 (fun F _ _ _ _ _ => by unfold G1; (repeat' apply k9 (f := F)) <;> rfl) (by kernel_rfl))
structure o8 where
 ga6 : List (List Pln)
 jd8 : Int
structure i9 where
 ph : Nat
 eb6 : Int
 ns6 : Nat
 eh0 : List (List b7)
noncomputable def db4 (p : o8) (s : i9) : St := ⟨(ra 6 ((.v (.slice none 0 0)) :: (ra 18 ((eL (tLs tP) p.ga6) :: ((i p.jd8) :: ((i s.eb6) :: (ra 8 []))))))), []⟩
noncomputable def db5 (p : o8) (s : i9) : St := ⟨(ra 6 ((.sl 0 0 s.ns6 0) :: (ra 18 ((eL (tLs tP) p.ga6) :: ((i p.jd8) :: ((i s.eb6) :: (ra 8 []))))))), [⟨50, 4, s.eh0, true, false, 0⟩]⟩
noncomputable def jb6 (p : o8) (s : i9) : St := (sel (Nat.beq s.ph 1) (db5 p s) (db4 p s))
noncomputable def s5 {α : Type} (k : i9 → α) (e : Nat → α) (z : α) (p : o8) (s : i9) : α := (sl (decide (s.eb6 < p.jd8)) (sl (inB s.eb6 (List.length p.ga6)) (sl (Nat.beq (len (n3 (fun k => (tP).row (gL tP (gL (tLs tP) p.ga6 s.eb6.toNat) k)) (List.range (List.length (gL (tLs tP) p.ga6 s.eb6.toNat))))) 0) (k ⟨0, (W (s.eb6 + 1)), 0, []⟩) z) z) (e 1))
noncomputable def s6 {α : Type} (k : i9 → α) (e : Nat → α) (z : α) (p : o8) (s : i9) : α := (sl (decide (s.eb6 < p.jd8)) (sl (inB s.eb6 (List.length p.ga6)) (sl (Nat.ble (s.ns6 + (len (n3 (fun k => (tP).row (gL tP (gL (tLs tP) p.ga6 s.eb6.toNat) k)) (List.range (List.length (gL (tLs tP) p.ga6 s.eb6.toNat)))))) (len s.eh0)) (k ⟨1, (W (s.eb6 + 1)), (s.ns6 + (len (n3 (fun k => (tP).row (gL tP (gL (tLs tP) p.ga6 s.eb6.toNat) k)) (List.range (List.length (gL (tLs tP) p.ga6 s.eb6.toNat)))))), (app (C9 s.eh0 s.ns6) (app (n3 (fun k => (tP).row (gL tP (gL (tLs tP) p.ga6 s.eb6.toNat) k)) (List.range (List.length (gL (tLs tP) p.ga6 s.eb6.toNat)))) (e7 s.eh0 (s.ns6 + (len (n3 (fun k => (tP).row (gL tP (gL (tLs tP) p.ga6 s.eb6.toNat) k)) (List.range (List.length (gL (tLs tP) p.ga6 s.eb6.toNat)))))))))⟩) z) z) (e 2))
noncomputable def w7 (p : o8) (s : i9) : Stp i9 := (sel (Nat.beq s.ph 1) (s6 .next .exit .fail p s) (s5 .next .exit .fail p s))
noncomputable def ia3 : Lo o8 i9 := ⟨En ka3, 0, Jd5, [1, 1, 1, 1, 0, 1, 4, 4], [6, 25, 26, 27], .p, [⟨(ru2 6 ((.s (.o .nil)) :: (ru2 18 ((.s (.c 1 (nL (tLs tP)))) :: ((.s (.o (.int .i64))) :: ((.s (.o (.int .i64))) :: (ru2 8 []))))))), [], fun a H => (⟨(rL (tLs tP) (slT a 25)), (toI (slT a 26))⟩, ⟨0, (toI (slT a 27)), 0, []⟩)⟩, ⟨(ru2 6 ((.s (.o (.sl 0 0 (some 0) none))) :: (ru2 18 ((.s (.c 1 (nL (tLs tP)))) :: ((.s (.o (.int .i64))) :: ((.s (.o (.int .i64))) :: (ru2 8 []))))))), [⟨50, 4, true, none⟩], fun a H => (⟨(rL (tLs tP) (slT a 25)), (toI (slT a 26))⟩, ⟨1, (toI (slT a 27)), (slN (slT a 6)), (elT H 0)⟩)⟩], w7, [(some 2, fun p s => ⟨(ra 6 ((.v (.slice none 0 0)) :: (ra 18 ((eL (tLs tP) p.ga6) :: ((i p.jd8) :: ((i s.eb6) :: ((b (decide (s.eb6 < p.jd8))) :: (ra 7 [])))))))), []⟩), (some 2, fun p s => ⟨(ra 6 ((.sl 0 0 s.ns6 0) :: (ra 18 ((eL (tLs tP) p.ga6) :: ((i p.jd8) :: ((i s.eb6) :: ((b (decide (s.eb6 < p.jd8))) :: (ra 7 [])))))))), [⟨50, 4, s.eh0, true, false, 0⟩]⟩)], jb6⟩
theorem jb7 : ia3.OkM := Lo.okM [] (by kernel_rfl) .nil rfl (.cons (fun a H => by kernel_rfl) (.cons (fun a H => by kernel_rfl) .nil)) fun p s => (.sel (Nat.beq s.ph 1) (.of @s6 (fun F _ _ _ _ _ => by unfold s6; (repeat' apply k9 (f := F)) <;> rfl) (by kernel_rfl)) (.of @s5 (fun F _ _ _ _ _ => by unfold s5; (repeat' apply k9 (f := F)) <;> rfl) (by kernel_rfl)))
structure ba2 where
 alt : Nat
 ns0 : Nat
 eh0 : List (List b7)
noncomputable def G7 {α : Type} (kk : ba2 → α) (x : List (List Pln)) : α := let t1 := (lp (C5 (⟨(rt (tLs tP) x), (rt (tLs tP) x), (↑(List.length x) : Int)⟩ : J9)) (⟨0, 0⟩ : o7)); let t2 := (lp (w7 (⟨(rt (tLs tP) (rt (tLs tP) x)), (↑(List.length (rt (tLs tP) x)) : Int)⟩ : o8)) (⟨0, 0, 0, []⟩ : i9)); let t3 := (lp (w7 (⟨(rt (tLs tP) (rt (tLs tP) x)), (↑(List.length (rt (tLs tP) x)) : Int)⟩ : o8)) (⟨1, 0, 0, (List.replicate t1.2.is3.toNat Sc2)⟩ : i9)); (sl ((cnE (tLs tP) x) && ((cnE (tLs tP) x) && true)) (sl (Nat.beq t1.1 1) (sl (t1.2.is3 == 0) (sl ((cnE (tLs tP) (rt (tLs tP) x)) && true) (sl (Nat.beq t2.1 1) (kk ⟨1, 0, []⟩) (sl (Nat.beq t2.1 2) (kk ⟨2, t2.2.ns6, t2.2.eh0⟩) (kk ⟨0, 0, []⟩))) (kk ⟨0, 0, []⟩)) (sl (Bool.and (decide (0 < t1.2.is3)) (Nat.ble (t1.2.is3.toNat * 32) room)) (sl ((cnE (tLs tP) (rt (tLs tP) x)) && true) (sl (Nat.beq t3.1 1) (kk ⟨1, 0, []⟩) (sl (Nat.beq t3.1 2) (kk ⟨2, t3.2.ns6, t3.2.eh0⟩) (kk ⟨0, 0, []⟩))) (kk ⟨0, 0, []⟩)) (kk ⟨0, 0, []⟩))) (kk ⟨0, 0, []⟩)) (kk ⟨0, 0, []⟩))
noncomputable def ba3 (x : List (List Pln)) : ba2 := G7 (fun r => r) x
noncomputable def ka4 (r : ba2) : DT (b7 × List b8) := (.ite (Nat.beq r.alt 1) (.ret ((.v (.slice none 0 0)), [])) (.ite (Nat.beq r.alt 2) (.ret ((.sl 0 0 r.ns0 0), [⟨50, 4, r.eh0, true, false, 0⟩])) .fail))
theorem vb8 {α β : Type} (F : α → β) (kk : ba2 → α) (x : List (List Pln)) : F (G7 kk x) = G7 (fun r => F (kk r)) x := by unfold G7; (repeat' apply k9 (f := F)) <;> rfl
noncomputable def Ja2 : Sum := ba5 (T5 (tLs tP)) (fun x => ka4 (ba3 x))
theorem sb1 : f6 prog G 169 Ja2 := Rb5 (bd Be8 nb3) fun x => be6 (.s .p (.s .p (.s (.s .p (.b (.u ia2.lsM))) (.s .p (.s (.s .p (.b (.u ia3.lsM))) .p))))) [ia2.prM, ia3.prM] (by kernel_rfl) (.cons jb5 (.cons jb7 .nil)) (Eq.trans (b := G7 (fun r => (ka4 r).run) x) (by kernel_rfl) (vb8 (fun r => (ka4 r).run) (fun r => r) x).symm)
noncomputable def pd6 : List (Nat × Sum) := [(169, Ja2)]
theorem ed0 : i7 prog G pd6 := ⟨sb1, trivial⟩
noncomputable def nb4 (x : List (List Pln)) : Option (b7 × List b8) := let t1 := (ba3 (rt (tLs tP) x)); (sl (okE (tLs tP) x) (sl (Nat.beq t1.alt 1) (some ((.sl 0 0 6 0), [⟨50, 4, [[(i 1), (i 0), (i 0), (i 24)], [(i (-1)), (i 0), (i 0), (i 24)], [(i 0), (i 1), (i 0), (i 24)], [(i 0), (i (-1)), (i 0), (i 24)], [(i 0), (i 0), (i 1), (i 24)], [(i 0), (i 0), (i (-1)), (i 24)]], true, false, 0⟩])) (sl (Nat.beq t1.alt 2) (sl (Nat.beq t1.ns0 (len t1.eh0) && Nat.ble ((t1.ns0 + 1) * 32) room) (sl (Nat.beq (t1.ns0 + 1) (len (app t1.eh0 [[(i 1), (i 0), (i 0), (i 24)]])) && Nat.ble (((t1.ns0 + 1) + 1) * 32) room) (sl (Nat.beq ((t1.ns0 + 1) + 1) (len (app (app t1.eh0 [[(i 1), (i 0), (i 0), (i 24)]]) [[(i (-1)), (i 0), (i 0), (i 24)]])) && Nat.ble ((((t1.ns0 + 1) + 1) + 1) * 32) room) (sl (Nat.beq (((t1.ns0 + 1) + 1) + 1) (len (app (app (app t1.eh0 [[(i 1), (i 0), (i 0), (i 24)]]) [[(i (-1)), (i 0), (i 0), (i 24)]]) [[(i 0), (i 1), (i 0), (i 24)]])) && Nat.ble (((((t1.ns0 + 1) + 1) + 1) + 1) * 32) room) (sl (Nat.beq ((((t1.ns0 + 1) + 1) + 1) + 1) (len (app (app (app (app t1.eh0 [[(i 1), (i 0), (i 0), (i 24)]]) [[(i (-1)), (i 0), (i 0), (i 24)]]) [[(i 0), (i 1), (i 0), (i 24)]]) [[(i 0), (i (-1)), (i 0), (i 24)]])) && Nat.ble ((((((t1.ns0 + 1) + 1) + 1) + 1) + 1) * 32) room) (sl (Nat.beq (((((t1.ns0 + 1) + 1) + 1) + 1) + 1) (len (app (app (app (app (app t1.eh0 [[(i 1), (i 0), (i 0), (i 24)]]) [[(i (-1)), (i 0), (i 0), (i 24)]]) [[(i 0), (i 1), (i 0), (i 24)]]) [[(i 0), (i (-1)), (i 0), (i 24)]]) [[(i 0), (i 0), (i 1), (i 24)]])) && Nat.ble (((((((t1.ns0 + 1) + 1) + 1) + 1) + 1) + 1) * 32) room) (some ((.sl 0 0 ((((((t1.ns0 + 1) + 1) + 1) + 1) + 1) + 1) 0), [⟨50, 4, (app (app (app (app (app (app t1.eh0 [[(i 1), (i 0), (i 0), (i 24)]]) [[(i (-1)), (i 0), (i 0), (i 24)]]) [[(i 0), (i 1), (i 0), (i 24)]]) [[(i 0), (i (-1)), (i 0), (i 24)]]) [[(i 0), (i 0), (i 1), (i 24)]]) [[(i 0), (i 0), (i (-1)), (i 24)]]), true, false, 0⟩])) none) none) none) none) none) none) none)) none)
noncomputable def Ka6 (x : List (List Pln)) : List Pln := G6 (one (r1L tP)) (nb4 x)
noncomputable def Ka7 (x : List (List Pln)) : Bool := okO (one (r1L tP)) (nb4 x)
noncomputable def Fb9 : Sum := ba5 (T5 (tLs tP)) (fun x => .guard (Ka7 x) (.ret ((one (r1L tP)).enc (Ka6 x), [])))
theorem Nb2 : f6 prog G 88 Fb9 := ua0 (bd b88 ed0) (one (r1L tP)) (o := nb4) fun x => p7 (by kernel_rfl)
structure O3 where
 oa9 : List (List Pln)
noncomputable def ra8 : List (Nat × Sum) := [(168, Bb6)]
theorem Va0 : i7 prog G ra8 := ⟨jc6, trivial⟩
structure D5 where
 oa9 : List (List Pln)
 is7 : Int
structure l7 where
 is8 : Int
noncomputable def Sa2 (p : D5) (s : l7) : St := ⟨((eL (tLs tP) p.oa9) :: ((.fn 168 []) :: (ra 5 ((i p.is7) :: ((i s.is8) :: (ra 10 [])))))), []⟩
noncomputable def z7 {α : Type} (k : l7 → α) (e : Nat → α) (z : α) (p : D5) (s : l7) : α := let t1 := (Ga0 (rt tP (gL (tLs tP) p.oa9 s.is8.toNat))); (sl (decide (s.is8 < p.is7)) (sl (inB s.is8 (List.length p.oa9)) (sl (okE tP (gL (tLs tP) p.oa9 s.is8.toNat)) (sl (Ga1 (rt tP (gL (tLs tP) p.oa9 s.is8.toNat))) (sl t1 (e 1) (k ⟨(W (s.is8 + 1))⟩)) z) z) z) (e 2))
noncomputable def B6 (p : D5) (s : l7) : Stp l7 := z7 .next .exit .fail p s
noncomputable def X0 : Lo D5 l7 := ⟨En ra8, 0, be2, [1, 0, 1, 4, 4], [0, 1, 7, 8], .p, [⟨((.s (.c 1 (nL (tLs tP)))) :: ((.s (.o (.fn 168))) :: (ru2 5 ((.s (.o (.int .i64))) :: ((.s (.o (.int .i64))) :: (ru2 10 [])))))), [], fun a H => (⟨(rL (tLs tP) (slT a 0)), (toI (slT a 7))⟩, ⟨(toI (slT a 8))⟩)⟩], B6, [(none, fun p s => ⟨[(i s.is8)], []⟩), (some 0, fun p s => ⟨((eL (tLs tP) p.oa9) :: ((.fn 168 []) :: (ra 5 ((i p.is7) :: ((i s.is8) :: ((b (decide (s.is8 < p.is7))) :: (ra 9 []))))))), []⟩)], Sa2⟩
theorem Sa3 : X0.Ok := Lo.ok [] (by kernel_rfl) .nil rfl (.cons (fun a H => by kernel_rfl) .nil) fun p s => (.of @z7 (fun F _ _ _ _ _ => by unfold z7; (repeat' apply k9 (f := F)) <;> rfl) (by kernel_rfl))
structure O4 where
 alt : Nat
 is0 : Int
noncomputable def A4 {α : Type} (kk : O4 → α) (x : O3) : α := let t1 := (lp (B6 (⟨(rt (tLs tP) x.oa9), (↑(List.length x.oa9) : Int)⟩ : D5)) (⟨0⟩ : l7)); (sl ((cnE (tLs tP) x.oa9) && true) (sl (Nat.beq t1.1 1) (kk ⟨1, t1.2.is8⟩) (sl (Nat.beq t1.1 2) (kk ⟨1, (-1)⟩) (kk ⟨0, 0⟩))) (kk ⟨0, 0⟩))
noncomputable def ba7 (x : O3) : O4 := A4 (fun r => r) x
noncomputable def Z8 (x : O3) (r : O4) : DT (b7 × List b8) := (.ite (Nat.beq r.alt 1) (.ret ((i r.is0), [])) .fail)
theorem db6 {α β : Type} (F : α → β) (kk : O4 → α) (x : O3) : F (A4 kk x) = A4 (fun r => F (kk r)) x := by unfold A4; (repeat' apply k9 (f := F)) <;> rfl
noncomputable def va2 : Sum := Ya0 ⟨[(.s (.c 1 (nL (tLs tP)))), (.s (.o (.fn 168)))], [], fun a H => (⟨(rL (tLs tP) (slT a 0))⟩, ())⟩ (fun x => Z8 x (ba7 x))
theorem ab0 : f6 prog G 207 va2 := N7 (enc := fun x => ⟨[(eL (tLs tP) x.oa9), (.fn 168 [])], []⟩) (fun a H => by kernel_rfl) (bd Ae9 Va0) fun x => wa0 (.s .p (.s (.s .p (.b (.u X0.ls))) .p)) [X0.pr] (by kernel_rfl) (.cons Sa3 .nil) (Eq.trans (b := A4 (fun r => (Z8 x r).run) x) (by kernel_rfl) (db6 (fun r => (Z8 x r).run) (fun r => r) x).symm)
structure I4 where
 oa9 : List (List Pln)
noncomputable def Oa5 : List (Nat × Sum) := [(207, va2)]
theorem Ka8 : i7 prog G Oa5 := ⟨ab0, trivial⟩
structure I5 where
 alt : Nat
 bs0 : Bool
noncomputable def u9 {α : Type} (kk : I5 → α) (x : I4) : α := let t1 := (ba7 ⟨(rt (tLs tP) x.oa9)⟩); (sl ((cnE (tLs tP) x.oa9) && true) (sl (Nat.beq t1.alt 1) (kk ⟨1, (decide (t1.is0 ≥ 0))⟩) (kk ⟨0, false⟩)) (kk ⟨0, false⟩))
noncomputable def U3 (x : I4) : I5 := u9 (fun r => r) x
noncomputable def S7 (x : I4) (r : I5) : DT (b7 × List b8) := (.ite (Nat.beq r.alt 1) (.ret ((b r.bs0), [])) .fail)
theorem Sa4 {α β : Type} (F : α → β) (kk : I5 → α) (x : I4) : F (u9 kk x) = u9 (fun r => F (kk r)) x := by unfold u9; (repeat' apply k9 (f := F)) <;> rfl
noncomputable def la9 : Sum := Ya0 ⟨[(.s (.c 1 (nL (tLs tP)))), (.s (.o (.fn 168)))], [], fun a H => (⟨(rL (tLs tP) (slT a 0))⟩, ())⟩ (fun x => S7 x (U3 x))
theorem Oa6 : f6 prog G 157 la9 := N7 (enc := fun x => ⟨[(eL (tLs tP) x.oa9), (.fn 168 [])], []⟩) (fun a H => by kernel_rfl) (bd ye7 Ka8) fun x => p7 (Eq.trans (b := u9 (fun r => (S7 x r).run) x) (by kernel_rfl) (Sa4 (fun r => (S7 x r).run) (fun r => r) x).symm)
noncomputable def Dc6 : List (Nat × Sum) := [(157, la9)]
theorem uc6 : i7 prog G Dc6 := ⟨Oa6, trivial⟩
noncomputable def Ga2 (x : List (List Pln)) : Option (b7 × List b8) := let t1 := (U3 ⟨(rt (tLs tP) x)⟩); (sl ((cnE (tLs tP) x) && true) (sl (Nat.beq t1.alt 1) (some ((b (!t1.bs0)), [])) none) none)
noncomputable def X1 (x : List (List Pln)) : Bool := G6 (one r1B) (Ga2 x)
noncomputable def X2 (x : List (List Pln)) : Bool := okO (one r1B) (Ga2 x)
noncomputable def ua6 : Sum := ba5 (T5 (tLs tP)) (fun x => .guard (X2 x) (.ret ((one r1B).enc (X1 x), [])))
theorem xa7 : f6 prog G 87 ua6 := ua0 (bd b87 uc6) (one r1B) (o := Ga2) fun x => p7 (by kernel_rfl)
structure X3 where
 ja2 : Int
 ja3 : Int
 ja4 : Int
 cb3 : Int
 g7 : Int
 c7 : Int
 g8 : Int
 d8 : Int
noncomputable def nb5 : List (Nat × Sum) := [(102, gb3)]
theorem jb8 : i7 prog G nb5 := ⟨rb5, trivial⟩
structure M8 where
 bs0 : Bool
noncomputable def M9 {α : Type} (kk : M8 → α) (x : X3) : α := let t1 := (ja7 (⟨(⟨x.g7, x.c7, x.g8⟩ : V3), x.d8⟩ : Pln) (⟨x.ja2, x.ja3, x.ja4, x.cb3⟩ : Pt)); (kk ⟨(decide (t1 > 0))⟩)
noncomputable def ka5 (x : X3) : M8 := M9 (fun r => r) x
noncomputable def ia4 (x : X3) (r : M8) : DT (b7 × List b8) := .ret ((b r.bs0), [⟨0, 4, [[(i x.g7), (i x.c7), (i x.g8), (i x.d8)]], true, false, 0⟩])
theorem sb2 {α β : Type} (F : α → β) (kk : M8 → α) (x : X3) : F (M9 kk x) = M9 (fun r => F (kk r)) x := by unfold M9; (repeat' apply k9 (f := F)) <;> rfl
noncomputable def Ga3 : Sum := Ya0 ⟨[(.agg [(.o (.int .i64)), (.o (.int .i64)), (.o (.int .i64)), (.o (.int .i64))]), (.s (.o (.ptr 0 0 0 0)))], [⟨0, 4, true, (some [[(.o (.int .i64)), (.o (.int .i64)), (.o (.int .i64)), (.o (.int .i64))]])⟩], fun a H => (⟨(toI (slT (cellsOf (slT a 0)) 0)), (toI (slT (cellsOf (slT a 0)) 1)), (toI (slT (cellsOf (slT a 0)) 2)), (toI (slT (cellsOf (slT a 0)) 3)), (toI (slT (rwT (elT H 0) 0) 0)), (toI (slT (rwT (elT H 0) 0) 1)), (toI (slT (rwT (elT H 0) 0) 2)), (toI (slT (rwT (elT H 0) 0) 3))⟩, ())⟩ (fun x => ia4 x (ka5 x))
theorem nb6 : f6 prog G 176 Ga3 := N7 (enc := fun x => ⟨[(.agg [(i x.ja2), (i x.ja3), (i x.ja4), (i x.cb3)]), (.ptr 0 0 0 0)], [⟨0, 4, [[(i x.g7), (i x.c7), (i x.g8), (i x.d8)]], true, false, 0⟩]⟩) (fun a H => by kernel_rfl) (bd ze9 jb8) fun x => p7 (Eq.trans (b := M9 (fun r => (ia4 x r).run) x) (by kernel_rfl) (sb2 (fun r => (ia4 x r).run) (fun r => r) x).symm)
structure R3 where
 y6 : List Pt
 g7 : Int
 c7 : Int
 g8 : Int
 d8 : Int
noncomputable def va3 : List (Nat × Sum) := [(176, Ga3)]
theorem ab1 : i7 prog G va3 := ⟨nb6, trivial⟩
structure E6 where
 y6 : List Pt
 is7 : Int
 g7 : Int
 c7 : Int
 g8 : Int
 d8 : Int
structure n7 where
 is8 : Int
noncomputable def Va1 (p : E6) (s : n7) : St := ⟨((eL tX p.y6) :: ((.fn 176 [(.ptr 0 0 0 0)]) :: (ra 5 ((i p.is7) :: ((i s.is8) :: (ra 10 [])))))), [⟨0, 4, [[(i p.g7), (i p.c7), (i p.g8), (i p.d8)]], true, false, 0⟩]⟩
noncomputable def B7 {α : Type} (k : n7 → α) (e : Nat → α) (z : α) (p : E6) (s : n7) : α := let t1 := (ka5 ⟨(gL tX p.y6 s.is8.toNat).px, (gL tX p.y6 s.is8.toNat).py, (gL tX p.y6 s.is8.toNat).pz, (gL tX p.y6 s.is8.toNat).pw, p.g7, p.c7, p.g8, p.d8⟩); (sl (decide (s.is8 < p.is7)) (sl (inB s.is8 (List.length p.y6)) (sl t1.bs0 (e 1) (k ⟨(W (s.is8 + 1))⟩)) z) (e 2))
noncomputable def D6 (p : E6) (s : n7) : Stp n7 := B7 .next .exit .fail p s
noncomputable def Z9 : Lo E6 n7 := ⟨En va3, 1, Jd6, [1, 0, 1, 4, 4], [0, 1, 7, 8], .p, [⟨((.s (.c 4 (nL tX))) :: ((.fn 176 [(.o (.ptr 0 0 0 0))]) :: (ru2 5 ((.s (.o (.int .i64))) :: ((.s (.o (.int .i64))) :: (ru2 10 [])))))), [⟨0, 4, true, (some [[(.o (.int .i64)), (.o (.int .i64)), (.o (.int .i64)), (.o (.int .i64))]])⟩], fun a H => (⟨(rL tX (slT a 0)), (toI (slT a 7)), (toI (slT (rwT (elT H 0) 0) 0)), (toI (slT (rwT (elT H 0) 0) 1)), (toI (slT (rwT (elT H 0) 0) 2)), (toI (slT (rwT (elT H 0) 0) 3))⟩, ⟨(toI (slT a 8))⟩)⟩], D6, [(none, fun p s => ⟨[(i s.is8)], [⟨0, 4, [[(i p.g7), (i p.c7), (i p.g8), (i p.d8)]], true, false, 0⟩]⟩), (some 0, fun p s => ⟨((eL tX p.y6) :: ((.fn 176 [(.ptr 0 0 0 0)]) :: (ra 5 ((i p.is7) :: ((i s.is8) :: ((b (decide (s.is8 < p.is7))) :: (ra 9 []))))))), [⟨0, 4, [[(i p.g7), (i p.c7), (i p.g8), (i p.d8)]], true, false, 0⟩]⟩)], Va1⟩
theorem Va2 : Z9.Ok := Lo.ok [] (by kernel_rfl) .nil rfl (.cons (fun a H => by kernel_rfl) .nil) fun p s => (.of @B7 (fun F _ _ _ _ _ => by unfold B7; (repeat' apply k9 (f := F)) <;> rfl) (by kernel_rfl))
structure R4 where
 alt : Nat
 is0 : Int
noncomputable def C6 {α : Type} (kk : R4 → α) (x : R3) : α := let t1 := (lp (D6 (⟨(rt tX x.y6), (↑(List.length x.y6) : Int), x.g7, x.c7, x.g8, x.d8⟩ : E6)) (⟨0⟩ : n7)); (sl ((cnE tX x.y6) && true) (sl (Nat.beq t1.1 1) (kk ⟨1, t1.2.is8⟩) (sl (Nat.beq t1.1 2) (kk ⟨1, (-1)⟩) (kk ⟨0, 0⟩))) (kk ⟨0, 0⟩))
noncomputable def fa7 (x : R3) : R4 := C6 (fun r => r) x
noncomputable def ba8 (x : R3) (r : R4) : DT (b7 × List b8) := (.ite (Nat.beq r.alt 1) (.ret ((i r.is0), [⟨0, 4, [[(i x.g7), (i x.c7), (i x.g8), (i x.d8)]], true, false, 0⟩])) .fail)
theorem jb9 {α β : Type} (F : α → β) (kk : R4 → α) (x : R3) : F (C6 kk x) = C6 (fun r => F (kk r)) x := by unfold C6; (repeat' apply k9 (f := F)) <;> rfl
noncomputable def xa8 : Sum := Ya0 ⟨[(.s (.c 4 (nL tX))), (.fn 176 [(.o (.ptr 0 0 0 0))])], [⟨0, 4, true, (some [[(.o (.int .i64)), (.o (.int .i64)), (.o (.int .i64)), (.o (.int .i64))]])⟩], fun a H => (⟨(rL tX (slT a 0)), (toI (slT (rwT (elT H 0) 0) 0)), (toI (slT (rwT (elT H 0) 0) 1)), (toI (slT (rwT (elT H 0) 0) 2)), (toI (slT (rwT (elT H 0) 0) 3))⟩, ())⟩ (fun x => ba8 x (fa7 x))
theorem db7 : f6 prog G 185 xa8 := N7 (enc := fun x => ⟨[(eL tX x.y6), (.fn 176 [(.ptr 0 0 0 0)])], [⟨0, 4, [[(i x.g7), (i x.c7), (i x.g8), (i x.d8)]], true, false, 0⟩]⟩) (fun a H => by kernel_rfl) (bd qe6 ab1) fun x => wa0 (.s .p (.s (.s .p (.b (.u Z9.ls))) .p)) [Z9.pr] (by kernel_rfl) (.cons Va2 .nil) (Eq.trans (b := C6 (fun r => (ba8 x r).run) x) (by kernel_rfl) (jb9 (fun r => (ba8 x r).run) (fun r => r) x).symm)
structure K4 where
 y6 : List Pt
 g7 : Int
 c7 : Int
 g8 : Int
 d8 : Int
noncomputable def Sa5 : List (Nat × Sum) := [(185, xa8)]
theorem Oa7 : i7 prog G Sa5 := ⟨db7, trivial⟩
structure K5 where
 alt : Nat
 bs0 : Bool
noncomputable def w9 {α : Type} (kk : K5 → α) (x : K4) : α := let t1 := (fa7 ⟨(rt tX x.y6), x.g7, x.c7, x.g8, x.d8⟩); (sl ((cnE tX x.y6) && true) (sl (Nat.beq t1.alt 1) (kk ⟨1, (decide (t1.is0 ≥ 0))⟩) (kk ⟨0, false⟩)) (kk ⟨0, false⟩))
noncomputable def X4 (x : K4) : K5 := w9 (fun r => r) x
noncomputable def U4 (x : K4) (r : K5) : DT (b7 × List b8) := (.ite (Nat.beq r.alt 1) (.ret ((b r.bs0), [⟨0, 4, [[(i x.g7), (i x.c7), (i x.g8), (i x.d8)]], true, false, 0⟩])) .fail)
theorem Va3 {α β : Type} (F : α → β) (kk : K5 → α) (x : K4) : F (w9 kk x) = w9 (fun r => F (kk r)) x := by unfold w9; (repeat' apply k9 (f := F)) <;> rfl
noncomputable def pa2 : Sum := Ya0 ⟨[(.s (.c 4 (nL tX))), (.fn 176 [(.o (.ptr 0 0 0 0))])], [⟨0, 4, true, (some [[(.o (.int .i64)), (.o (.int .i64)), (.o (.int .i64)), (.o (.int .i64))]])⟩], fun a H => (⟨(rL tX (slT a 0)), (toI (slT (rwT (elT H 0) 0) 0)), (toI (slT (rwT (elT H 0) 0) 1)), (toI (slT (rwT (elT H 0) 0) 2)), (toI (slT (rwT (elT H 0) 0) 3))⟩, ())⟩ (fun x => U4 x (X4 x))
theorem Sa6 : f6 prog G 113 pa2 := N7 (enc := fun x => ⟨[(eL tX x.y6), (.fn 176 [(.ptr 0 0 0 0)])], [⟨0, 4, [[(i x.g7), (i x.c7), (i x.g8), (i x.d8)]], true, false, 0⟩]⟩) (fun a H => by kernel_rfl) (bd qe5 Oa7) fun x => p7 (Eq.trans (b := w9 (fun r => (U4 x r).run) x) (by kernel_rfl) (Va3 (fun r => (U4 x r).run) (fun r => r) x).symm)
structure da9 where
 ja2 : Int
 ja3 : Int
 ja4 : Int
 cb3 : Int
 j6 : List Pt
noncomputable def vb9 : List (Nat × Sum) := [(113, pa2)]
theorem sb3 : i7 prog G vb9 := ⟨Sa6, trivial⟩
structure S8 where
 alt : Nat
 bs0 : Bool
noncomputable def K0 {α : Type} (kk : S8 → α) (x : da9) : α := let t1 := (X4 ⟨(rt tX x.j6), x.ja2, x.ja3, x.ja4, x.cb3⟩); (sl ((cnE tX x.j6) && true) (sl (Nat.beq t1.alt 1) (kk ⟨1, (!t1.bs0)⟩) (kk ⟨0, false⟩)) (kk ⟨0, false⟩))
noncomputable def ea0 (x : da9) : S8 := K0 (fun r => r) x
noncomputable def oa7 (x : da9) (r : S8) : DT (b7 × List b8) := (.ite (Nat.beq r.alt 1) (.ret ((b r.bs0), [⟨0, 1, [[(eL tX x.j6)]], true, false, 0⟩])) .fail)
theorem Bb8 {α β : Type} (F : α → β) (kk : S8 → α) (x : da9) : F (K0 kk x) = K0 (fun r => F (kk r)) x := by unfold K0; (repeat' apply k9 (f := F)) <;> rfl
noncomputable def Oa8 : Sum := Ya0 ⟨[(.agg [(.o (.int .i64)), (.o (.int .i64)), (.o (.int .i64)), (.o (.int .i64))]), (.s (.o (.ptr 0 0 0 0)))], [⟨0, 1, true, (some [[(.c 4 (nL tX))]])⟩], fun a H => (⟨(toI (slT (cellsOf (slT a 0)) 0)), (toI (slT (cellsOf (slT a 0)) 1)), (toI (slT (cellsOf (slT a 0)) 2)), (toI (slT (cellsOf (slT a 0)) 3)), (rL tX (slT (rwT (elT H 0) 0) 0))⟩, ())⟩ (fun x => oa7 x (ea0 x))
theorem wb0 : f6 prog G 175 Oa8 := N7 (enc := fun x => ⟨[(.agg [(i x.ja2), (i x.ja3), (i x.ja4), (i x.cb3)]), (.ptr 0 0 0 0)], [⟨0, 1, [[(eL tX x.j6)]], true, false, 0⟩]⟩) (fun a H => by kernel_rfl) (bd ze8 sb3) fun x => p7 (Eq.trans (b := K0 (fun r => (oa7 x r).run) x) (by kernel_rfl) (Bb8 (fun r => (oa7 x r).run) (fun r => r) x).symm)
structure O5 where
 c8 : List Pln
 j6 : List Pt
noncomputable def ra9 : List (Nat × Sum) := [(175, Oa8)]
theorem Va4 : i7 prog G ra9 := ⟨wb0, trivial⟩
structure D7 where
 c8 : List Pln
 is7 : Int
structure l8 where
 is8 : Int
 j6 : List Pt
noncomputable def Sa7 (p : D7) (s : l8) : St := ⟨((eL tP p.c8) :: ((.fn 175 [(.ptr 0 0 0 0)]) :: (ra 5 ((i p.is7) :: ((i s.is8) :: (ra 10 [])))))), [⟨0, 1, [[(eL tX s.j6)]], true, false, 0⟩]⟩
noncomputable def z8 {α : Type} (k : l8 → α) (e : Nat → α) (z : α) (p : D7) (s : l8) : α := let t1 := (ea0 ⟨(gL tP p.c8 s.is8.toNat).n.x, (gL tP p.c8 s.is8.toNat).n.y, (gL tP p.c8 s.is8.toNat).n.z, (gL tP p.c8 s.is8.toNat).b, (rt tX s.j6)⟩); (sl (decide (s.is8 < p.is7)) (sl (inB s.is8 (List.length p.c8)) (sl ((cnE tX s.j6) && true) (sl (Nat.beq t1.alt 1) (sl t1.bs0 (e 1) (k ⟨(W (s.is8 + 1)), (rt tX s.j6)⟩)) z) z) z) (e 2))
noncomputable def B8 (p : D7) (s : l8) : Stp l8 := z8 .next .exit .fail p s
noncomputable def X5 : Lo D7 l8 := ⟨En ra9, 1, be5, [1, 0, 1, 4, 4], [0, 1, 7, 8], .p, [⟨((.s (.c 4 (nL tP))) :: ((.fn 175 [(.o (.ptr 0 0 0 0))]) :: (ru2 5 ((.s (.o (.int .i64))) :: ((.s (.o (.int .i64))) :: (ru2 10 [])))))), [⟨0, 1, true, (some [[(.c 4 (nL tX))]])⟩], fun a H => (⟨(rL tP (slT a 0)), (toI (slT a 7))⟩, ⟨(toI (slT a 8)), (rL tX (slT (rwT (elT H 0) 0) 0))⟩)⟩], B8, [(none, fun p s => ⟨[(i s.is8)], [⟨0, 1, [[(eL tX (rt tX s.j6))]], true, false, 0⟩]⟩), (some 0, fun p s => ⟨((eL tP p.c8) :: ((.fn 175 [(.ptr 0 0 0 0)]) :: (ra 5 ((i p.is7) :: ((i s.is8) :: ((b (decide (s.is8 < p.is7))) :: (ra 9 []))))))), [⟨0, 1, [[(eL tX s.j6)]], true, false, 0⟩]⟩)], Sa7⟩
theorem Sa8 : X5.Ok := Lo.ok [] (by kernel_rfl) .nil rfl (.cons (fun a H => by kernel_rfl) .nil) fun p s => (.of @z8 (fun F _ _ _ _ _ => by unfold z8; (repeat' apply k9 (f := F)) <;> rfl) (by kernel_rfl))
structure O6 where
 alt : Nat
 is0 : Int
 j6 : List Pt
noncomputable def A5 {α : Type} (kk : O6 → α) (x : O5) : α := let t1 := (lp (B8 (⟨(rt tP x.c8), (↑(List.length x.c8) : Int)⟩ : D7)) (⟨0, (rt tX x.j6)⟩ : l8)); (sl ((cnE tP x.c8) && ((cnE tX x.j6) && true)) (sl (Nat.beq t1.1 1) (kk ⟨1, t1.2.is8, (rt tX t1.2.j6)⟩) (sl (Nat.beq t1.1 2) (kk ⟨1, (-1), t1.2.j6⟩) (kk ⟨0, 0, []⟩))) (kk ⟨0, 0, []⟩))
noncomputable def ba9 (x : O5) : O6 := A5 (fun r => r) x
noncomputable def aa0 (x : O5) (r : O6) : DT (b7 × List b8) := (.ite (Nat.beq r.alt 1) (.ret ((i r.is0), [⟨0, 1, [[(eL tX r.j6)]], true, false, 0⟩])) .fail)
theorem db8 {α β : Type} (F : α → β) (kk : O6 → α) (x : O5) : F (A5 kk x) = A5 (fun r => F (kk r)) x := by unfold A5; (repeat' apply k9 (f := F)) <;> rfl
noncomputable def va4 : Sum := Ya0 ⟨[(.s (.c 4 (nL tP))), (.fn 175 [(.o (.ptr 0 0 0 0))])], [⟨0, 1, true, (some [[(.c 4 (nL tX))]])⟩], fun a H => (⟨(rL tP (slT a 0)), (rL tX (slT (rwT (elT H 0) 0) 0))⟩, ())⟩ (fun x => aa0 x (ba9 x))
theorem ab2 : f6 prog G 221 va4 := N7 (enc := fun x => ⟨[(eL tP x.c8), (.fn 175 [(.ptr 0 0 0 0)])], [⟨0, 1, [[(eL tX x.j6)]], true, false, 0⟩]⟩) (fun a H => by kernel_rfl) (bd Be6 Va4) fun x => wa0 (.s .p (.s (.s .p (.b (.u X5.ls))) .p)) [X5.pr] (by kernel_rfl) (.cons Sa8 .nil) (Eq.trans (b := A5 (fun r => (aa0 x r).run) x) (by kernel_rfl) (db8 (fun r => (aa0 x r).run) (fun r => r) x).symm)
structure I6 where
 c8 : List Pln
 j6 : List Pt
noncomputable def Oa9 : List (Nat × Sum) := [(221, va4)]
theorem Ka9 : i7 prog G Oa9 := ⟨ab2, trivial⟩
structure I7 where
 alt : Nat
 bs0 : Bool
 j6 : List Pt
noncomputable def v7 {α : Type} (kk : I7 → α) (x : I6) : α := let t1 := (ba9 ⟨(rt tP x.c8), (rt tX x.j6)⟩); (sl ((cnE tP x.c8) && ((cnE tX x.j6) && true)) (sl (Nat.beq t1.alt 1) (kk ⟨1, (decide (t1.is0 ≥ 0)), t1.j6⟩) (kk ⟨0, false, []⟩)) (kk ⟨0, false, []⟩))
noncomputable def U5 (x : I6) : I7 := v7 (fun r => r) x
noncomputable def S9 (x : I6) (r : I7) : DT (b7 × List b8) := (.ite (Nat.beq r.alt 1) (.ret ((b r.bs0), [⟨0, 1, [[(eL tX r.j6)]], true, false, 0⟩])) .fail)
theorem Sa9 {α β : Type} (F : α → β) (kk : I7 → α) (x : I6) : F (v7 kk x) = v7 (fun r => F (kk r)) x := by unfold v7; (repeat' apply k9 (f := F)) <;> rfl
noncomputable def ma0 : Sum := Ya0 ⟨[(.s (.c 4 (nL tP))), (.fn 175 [(.o (.ptr 0 0 0 0))])], [⟨0, 1, true, (some [[(.c 4 (nL tX))]])⟩], fun a H => (⟨(rL tP (slT a 0)), (rL tX (slT (rwT (elT H 0) 0) 0))⟩, ())⟩ (fun x => S9 x (U5 x))
theorem Pa0 : f6 prog G 174 ma0 := N7 (enc := fun x => ⟨[(eL tP x.c8), (.fn 175 [(.ptr 0 0 0 0)])], [⟨0, 1, [[(eL tX x.j6)]], true, false, 0⟩]⟩) (fun a H => by kernel_rfl) (bd ze7 Ka9) fun x => p7 (Eq.trans (b := v7 (fun r => (S9 x r).run) x) (by kernel_rfl) (Sa9 (fun r => (S9 x r).run) (fun r => r) x).symm)
noncomputable def Hb3 : List (Nat × Sum) := [(89, oa6), (174, ma0)]
theorem Bb9 : i7 prog G Hb3 := ⟨Fa4, Pa0, trivial⟩
noncomputable def aa1 (x : List Pln) : Option (b7 × List b8) := let t1 := (P9 (rt tP x)); let t2 := (U5 ⟨(rt tP x), (rt tX t1)⟩); (sl (okE tP x) (sl (Q0 (rt tP x)) (sl ((cnE tP x) && ((cnE tX t1) && true)) (sl (Nat.beq t2.alt 1) (some ((b (!t2.bs0)), [])) none) none) none) none)
noncomputable def aa2 (x : List Pln) : Bool := G6 (one r1B) (aa1 x)
noncomputable def aa3 (x : List Pln) : Bool := okO (one r1B) (aa1 x)
noncomputable def Ba3 : Sum := ba5 (T5 tP) (fun x => .guard (aa3 x) (.ret ((one r1B).enc (aa2 x), [])))
theorem Ua1 : f6 prog G 92 Ba3 := ua0 (bd b92 Bb9) (one r1B) (o := aa1) fun x => p7 (by kernel_rfl)
noncomputable def uc7 : List (Nat × Sum) := [(87, ua6), (88, Fb9), (89, oa6)]
theorem jc7 : i7 prog G uc7 := ⟨xa7, Nb2, Fa4, trivial⟩
noncomputable def xa9 (x : List Pln) : Option (b7 × List b8) := let t1 := (X1 [(rt tP x)]); let t2 := (Ka6 [(rt tP x)]); let t3 := (P9 (rt tP t2)); (sl ((okE tP x) && true) (sl (X2 [(rt tP x)]) (sl (!t1) (some ((.v (.slice none 0 0)), [])) (sl ((okE tP x) && true) (sl (Ka7 [(rt tP x)]) (sl (okE tP t2) (sl (Q0 (rt tP t2)) (some ((eL tX t3), [])) none) none) none) none)) none) none)
noncomputable def R5 (x : List Pln) : List Pt := G6 (one (r1L tX)) (xa9 x)
noncomputable def R6 (x : List Pln) : Bool := okO (one (r1L tX)) (xa9 x)
noncomputable def na2 : Sum := ba5 (T5 tP) (fun x => .guard (R6 x) (.ret ((one (r1L tX)).enc (R5 x), [])))
theorem sa0 : f6 prog G 18 na2 := ua0 (bd b18 jc7) (one (r1L tX)) (o := xa9) fun x => p7 (by kernel_rfl)
noncomputable def Sc3 : List (Nat × Sum) := [(87, ua6), (88, Fb9), (92, Ba3)]
theorem Dc7 : i7 prog G Sc3 := ⟨xa7, Nb2, Ua1, trivial⟩
noncomputable def Pa1 (x : List Pln) : Option (b7 × List b8) := let t1 := (X1 [(rt tP x)]); let t2 := (Ka6 [(rt tP x)]); let t3 := (aa2 (rt tP t2)); (sl ((okE tP x) && true) (sl (X2 [(rt tP x)]) (sl t1 (sl ((okE tP x) && true) (sl (Ka7 [(rt tP x)]) (sl (okE tP t2) (sl (aa3 (rt tP t2)) (some ((b t3), [])) none) none) none) none) (some ((b false), []))) none) none)
noncomputable def ea1 (x : List Pln) : Bool := G6 (one r1B) (Pa1 x)
noncomputable def ea2 (x : List Pln) : Bool := okO (one r1B) (Pa1 x)
noncomputable def Ca6 : Sum := ba5 (T5 tP) (fun x => .guard (ea2 x) (.ret ((one r1B).enc (ea1 x), [])))
theorem Ga4 : f6 prog G 20 Ca6 := ua0 (bd b20 Dc7) (one r1B) (o := Pa1) fun x => p7 (by kernel_rfl)
noncomputable def Dc8 : List (Nat × Sum) := []
theorem uc8 : i7 prog G Dc8 := trivial
noncomputable def Ga5 (x : Int) (y : Int) : Option (b7 × List b8) := (sl (y == 0) none (sl (y == 0) none (sl (decide ((Int.tmod x y) < 0)) (some ((i (W ((W (Int.tdiv x y)) - 1))), [])) (some ((i (W (Int.tdiv x y))), [])))))
noncomputable def X6 (x : Int) (y : Int) : Int := G6 (one r1I) (Ga5 x y)
noncomputable def X7 (x : Int) (y : Int) : Bool := okO (one r1I) (Ga5 x y)
noncomputable def Ub6 : Sum := ga8 cI cI (fun x y => .guard (X7 x y) (.ret ((one r1I).enc (X6 x y), [])))
theorem Dc9 : f6 prog G 95 Ub6 := cb4 (bd b95 uc8) (one r1I) (o := Ga5) fun x y => p7 (by kernel_rfl)
noncomputable def Jb6 : List (Nat × Sum) := [(20, Ca6), (94, rb4), (18, na2), (95, Ub6)]
theorem uc9 : i7 prog G Jb6 := ⟨Ga4, Jb3, sa0, Dc9, trivial⟩
structure sa1 where
 Q5 : List Pt
 Zd0 : Int
structure T0 where
 aa9 : Int
 K6 : Int
 K7 : Int
 K8 : Int
 Ia6 : Int
 Ia7 : Int
 Ia8 : Int
noncomputable def jc8 (p : sa1) (s : T0) : St := ⟨(.unk :: (.unk :: ((.ptr 0 0 0 0) :: ((.ptr 1 0 0 0) :: (.unk :: ((.ptr 2 0 0 0) :: ((.ptr 3 0 0 0) :: (ra 11 ((eL tX p.Q5) :: ((i p.Zd0) :: ((i s.aa9) :: (ra 62 [])))))))))))), [⟨0, 3, [[(i 0), (i 0), (i 0)]], true, false, 0⟩, ⟨0, 3, [[(i 0), (i 0), (i 0)]], true, false, 0⟩, ⟨0, 3, [[(i s.K6), (i s.K7), (i s.K8)]], true, false, 0⟩, ⟨0, 3, [[(i s.Ia6), (i s.Ia7), (i s.Ia8)]], true, false, 0⟩]⟩
noncomputable def ia5 {α : Type} (k : T0 → α) (e : Nat → α) (z : α) (p : sa1) (s : T0) : α := let t1 := (X6 (gL tX p.Q5 s.aa9.toNat).px (gL tX p.Q5 s.aa9.toNat).pw); let t2 := (X6 (gL tX p.Q5 s.aa9.toNat).py (gL tX p.Q5 s.aa9.toNat).pw); let t3 := (X6 (gL tX p.Q5 s.aa9.toNat).pz (gL tX p.Q5 s.aa9.toNat).pw); let t4 := (X6 (W (0 - (gL tX p.Q5 s.aa9.toNat).px)) (gL tX p.Q5 s.aa9.toNat).pw); let t5 := (X6 (W (0 - (gL tX p.Q5 s.aa9.toNat).py)) (gL tX p.Q5 s.aa9.toNat).pw); let t6 := (X6 (W (0 - (gL tX p.Q5 s.aa9.toNat).pz)) (gL tX p.Q5 s.aa9.toNat).pw); (sl (decide (s.aa9 < p.Zd0)) (sl (inB s.aa9 (List.length p.Q5)) (sl (X7 (gL tX p.Q5 s.aa9.toNat).px (gL tX p.Q5 s.aa9.toNat).pw) (sl (X7 (gL tX p.Q5 s.aa9.toNat).py (gL tX p.Q5 s.aa9.toNat).pw) (sl (X7 (gL tX p.Q5 s.aa9.toNat).pz (gL tX p.Q5 s.aa9.toNat).pw) (sl (X7 (W (0 - (gL tX p.Q5 s.aa9.toNat).px)) (gL tX p.Q5 s.aa9.toNat).pw) (sl (X7 (W (0 - (gL tX p.Q5 s.aa9.toNat).py)) (gL tX p.Q5 s.aa9.toNat).pw) (sl (X7 (W (0 - (gL tX p.Q5 s.aa9.toNat).pz)) (gL tX p.Q5 s.aa9.toNat).pw) (k ⟨(W (s.aa9 + 1)), (if t1 < s.K6 then t1 else s.K6), (if t2 < s.K7 then t2 else s.K7), (if t3 < s.K8 then t3 else s.K8), (if (W (0 - t4)) > s.Ia6 then (W (0 - t4)) else s.Ia6), (if (W (0 - t5)) > s.Ia7 then (W (0 - t5)) else s.Ia7), (if (W (0 - t6)) > s.Ia8 then (W (0 - t6)) else s.Ia8)⟩) z) z) z) z) z) z) z) (e 1))
noncomputable def ca4 (p : sa1) (s : T0) : Stp T0 := ia5 .next .exit .fail p s
noncomputable def ab3 : Lo sa1 T0 := ⟨En Jb6, 0, me7, [1, 1, 1, 1, 0, 1, 4, 4], [2, 3, 5, 6, 18, 19, 20], .p, [⟨((.s (.o .unk)) :: ((.s (.o .unk)) :: ((.s (.o (.ptr 0 0 0 0))) :: ((.s (.o (.ptr 1 0 0 0))) :: ((.s (.o .unk)) :: ((.s (.o (.ptr 2 0 0 0))) :: ((.s (.o (.ptr 3 0 0 0))) :: (ru2 11 ((.s (.c 4 (nL tX))) :: ((.s (.o (.int .i64))) :: ((.s (.o (.int .i64))) :: (ru2 62 [])))))))))))), [⟨0, 3, true, (some [[(.o (.lit .i64 0)), (.o (.lit .i64 0)), (.o (.lit .i64 0))]])⟩, ⟨0, 3, true, (some [[(.o (.lit .i64 0)), (.o (.lit .i64 0)), (.o (.lit .i64 0))]])⟩, ⟨0, 3, true, (some [[(.o (.int .i64)), (.o (.int .i64)), (.o (.int .i64))]])⟩, ⟨0, 3, true, (some [[(.o (.int .i64)), (.o (.int .i64)), (.o (.int .i64))]])⟩], fun a H => (⟨(rL tX (slT a 18)), (toI (slT a 19))⟩, ⟨(toI (slT a 20)), (toI (slT (rwT (elT H 2) 0) 0)), (toI (slT (rwT (elT H 2) 0) 1)), (toI (slT (rwT (elT H 2) 0) 2)), (toI (slT (rwT (elT H 3) 0) 0)), (toI (slT (rwT (elT H 3) 0) 1)), (toI (slT (rwT (elT H 3) 0) 2))⟩)⟩], ca4, [(some 0, fun p s => ⟨(.unk :: (.unk :: ((.ptr 0 0 0 0) :: ((.ptr 1 0 0 0) :: (.unk :: ((.ptr 2 0 0 0) :: ((.ptr 3 0 0 0) :: (ra 11 ((eL tX p.Q5) :: ((i p.Zd0) :: ((i s.aa9) :: ((b (decide (s.aa9 < p.Zd0))) :: (ra 61 []))))))))))))), [⟨0, 3, [[(i 0), (i 0), (i 0)]], true, false, 0⟩, ⟨0, 3, [[(i 0), (i 0), (i 0)]], true, false, 0⟩, ⟨0, 3, [[(i s.K6), (i s.K7), (i s.K8)]], true, false, 0⟩, ⟨0, 3, [[(i s.Ia6), (i s.Ia7), (i s.Ia8)]], true, false, 0⟩]⟩)], jc8⟩
theorem jc9 : ab3.Ok := Lo.ok [] (by kernel_rfl) .nil rfl (.cons (fun a H => by kernel_rfl) .nil) fun p s => (.of @ia5 (fun F _ _ _ _ _ => by unfold ia5; (repeat' apply k9 (f := F)) <;> rfl) (by kernel_rfl))
noncomputable def Ga6 (x : List Pln) : Option (b7 × List b8) := let t1 := (ea1 (rt tP x)); let t2 := (M7 (⟨24, 24, 24⟩ : V3) (-1)); let t3 := (R5 (rt tP x)); let t4 := (lp (ca4 (⟨(rt tX t3), (↑(List.length t3) : Int)⟩ : sa1)) (⟨0, 24, 24, 24, t2.x, t2.y, t2.z⟩ : T0)); (sl (okE tP x) (sl (ea2 (rt tP x)) (sl (!t1) (some ((.tup [(.agg [(i 0), (i 0), (i 0)]), (.agg [(i 0), (i 0), (i 0)]), (b false)]), [])) (sl (okE tP x) (sl (R6 (rt tP x)) (sl ((cnE tX t3) && true) (sl (Nat.beq t4.1 1) (some ((.tup [(.agg [(i t4.2.K6), (i t4.2.K7), (i t4.2.K8)]), (.agg [(i t4.2.Ia6), (i t4.2.Ia7), (i t4.2.Ia8)]), (b true)]), [])) none) none) none) none)) none) none)
noncomputable def Ga7 (x : List Pln) : V3 × V3 × Bool := G6 (Rb6 r1V r1V r1B) (Ga6 x)
noncomputable def Ga8 (x : List Pln) : Bool := okO (Rb6 r1V r1V r1B) (Ga6 x)
noncomputable def sb4 : Sum := ba5 (T5 tP) (fun x => .guard (Ga8 x) (.ret ((Rb6 r1V r1V r1B).enc (Ga7 x), [])))
theorem Jb7 : f6 prog G 22 sb4 := ua0 (bd b22 uc9) (Rb6 r1V r1V r1B) (o := Ga6) fun x => wa0 (.s .p (.s .p (.s .p (.s .p (.s (.s .p (.b (.u ab3.ls))) .p))))) [ab3.pr] (by kernel_rfl) (.cons jc9 .nil) (by kernel_rfl)
end Go.Ev.Ce
end
namespace Go.Ev.Ce
open Go Go.Ev Go.Ev.L Go.Proofs
theorem Cd0 (P : ua2) (g n : Int) (hn : n.natAbs ≤ 9223372036854775808) : lp (xa3 P) ⟨g, n⟩ = (1, ⟨eu g n, 0⟩) :=
 td7 (mk := fun g n => (⟨g, n⟩ : da5)) (fun g n h => by simp [xa3, ra1, Xa8, h]) (fun g => by simp [xa3, ra1, Xa8]) g n hn
theorem Cd1 (l : List Int) (hl : l.length ≤ 1000000000) (hb : ∀ x ∈ l, x.natAbs ≤ 9223372036854775808) : lp (na1 ⟨(l.length : Int)⟩) ⟨0, l, 0⟩ = (1, ⟨l.foldl eu 0, l, l.length⟩) := by
 have := Fb2 (step := na1 ⟨(l.length : Int)⟩) (mk := fun j a => (⟨a, l, (j : Int)⟩ : da6)) (f := eu) (fin := 1) tI l (fun _ _ => True) hl (fun j a hj _ => ⟨by
   simp only [na1, ra2, Int.toNat_natCast, l4, m8, Cd0 _ _ _ (hb _ (Yb8 tI hj)), o5 hj (by omega)]
   rw [bt (zb6 hj), bt (e8 hj)]
   rfl, trivial⟩) (fun a _ => by simp [na1, ra2, Xa8]) 0 (Nat.zero_le _) 0 trivial
 simpa using this.1
theorem Ub7 : ∀ (l : List Int) (g : Int), (l.foldl eu g).natAbs = l.foldl (fun a x => Nat.gcd a x.natAbs) g.natAbs
 | [], _ => rfl
 | x :: l, g => by rw [List.foldl_cons, Ub7 l, List.foldl_cons, Gd6]; rfl
theorem ge5 (l : List Int) (hl : l.length ≤ 1000000000) (hb : ∀ x ∈ l, x.natAbs ≤ 9223372036854775807) (h0 : (l.foldl eu 0).natAbs ≤ 9223372036854775807) : Za5 l = some (i ((l.foldl eu 0).natAbs : Int), []) := by
 unfold Za5
 simp only [l4, m8, Cd1 l hl (fun x hx => Nat.le_succ_of_le (hb x hx))]
 generalize l.foldl eu 0 = e at *
 have : W (0 - e) = -e := by rw [va9 (by omega) (by omega)]; omega
 rw [this]
 show some (i (if -e > e then -e else e), []) = _
 congr 3
 split <;> omega
theorem Kc0 (x y : Int) (hx : 0 ≤ x) (hy : 0 ≤ y) (hb : y ≤ 9223372036854775807) : Ea3 x y = some (i (Int.gcd x y : Int), []) := by
 unfold Ea3
 have := td7 (step := la0 ⟨⟩) (mk := fun g n => (⟨g, n⟩ : S4)) (fun g n h => by simp [la0, ga9, Xa8, h]) (fun g => by simp [la0, ga9, Xa8]) x y (by omega)
 simp only [this, Gd7 hx hy]
 rfl
theorem vc0 (x y : Int) (hx : 0 ≤ x) (hy : 0 ≤ y) (hb : y ≤ 9223372036854775807) : L8 x y = (Int.gcd x y : Int) := by unfold L8; rw [Kc0 x y hx hy hb]; rfl
theorem vc1 (x y : Int) (hx : 0 ≤ x) (hy : 0 ≤ y) (hb : y ≤ 9223372036854775807) : L9 x y = true := by unfold L9; rw [Kc0 x y hx hy hb]; rfl
noncomputable def rm (p : Pln) (x : Pt) : Int := W (p.b * x.pw - (p.n.x * x.px + p.n.y * x.py + p.n.z * x.pz))
theorem Sc4 (p : Pln) (x : Pt) : ja7 p x = rm p x := by
 unfold ja7 Ca4 rm
 simp only [ib0, Mb0, rc5, Pc6]
theorem ud4 (p : Pln) (x : Pt) : Ya4 p x = rm p x := by
 unfold Ya4 rm
 simp only [ib0, Mb0, rc5, Pc6]
 congr 1
 omega
structure Bd (p : Pln) : Prop where
 x1 : -4608 ≤ p.n.x
 x2 : p.n.x ≤ 4608
 y1 : -4608 ≤ p.n.y
 y2 : p.n.y ≤ 4608
 z1 : -4608 ≤ p.n.z
 z2 : p.n.z ≤ 4608
 b1 : -2097152 ≤ p.b
 b2 : p.b ≤ 2097152
def mv (p q r : Pln) : V3 :=
 ⟨(D1 q.n r.n).x * p.b + (D1 r.n p.n).x * q.b + (D1 p.n q.n).x * r.b,
  (D1 q.n r.n).y * p.b + (D1 r.n p.n).y * q.b + (D1 p.n q.n).y * r.b,
  (D1 q.n r.n).z * p.b + (D1 r.n p.n).z * q.b + (D1 p.n q.n).z * r.b⟩
def gc (v : V3) (w : Int) : Int := (Nat.gcd (Nat.gcd v.x.natAbs v.y.natAbs) (Nat.gcd v.z.natAbs w.natAbs) : Nat)
def mpt (p q r : Pln) : Pt × Bool :=
 if mw p q r = 0 then (⟨0, 0, 0, 0⟩, false)
 else if mw p q r < 0 then (⟨Int.tdiv (-(mv p q r).x) (gc (mv p q r) (mw p q r)), Int.tdiv (-(mv p q r).y) (gc (mv p q r) (mw p q r)), Int.tdiv (-(mv p q r).z) (gc (mv p q r) (mw p q r)), Int.tdiv (-(mw p q r)) (gc (mv p q r) (mw p q r))⟩, true)
 else (⟨Int.tdiv (mv p q r).x (gc (mv p q r) (mw p q r)), Int.tdiv (mv p q r).y (gc (mv p q r) (mw p q r)), Int.tdiv (mv p q r).z (gc (mv p q r) (mw p q r)), Int.tdiv (mw p q r) (gc (mv p q r) (mw p q r))⟩, true)
def Sm (n : Int) (x : Int) : Prop := -n ≤ x ∧ x ≤ n
theorem Ub8 {a b : V3} (ha : Sm 4608 a.x ∧ Sm 4608 a.y ∧ Sm 4608 a.z) (hb : Sm 4608 b.x ∧ Sm 4608 b.y ∧ Sm 4608 b.z) : Sm 42467328 (D1 a b).x ∧ Sm 42467328 (D1 a b).y ∧ Sm 42467328 (D1 a b).z := by
 obtain ⟨⟨a1, a2⟩, ⟨a3, a4⟩, a5, a6⟩ := ha
 obtain ⟨⟨b1, b2⟩, ⟨b3, b4⟩, b5, b6⟩ := hb
 have h1 := mb a3 a4 b5 b6; have h2 := mb a5 a6 b3 b4; have h3 := mb a5 a6 b1 b2; have h4 := mb a1 a2 b5 b6; have h5 := mb a1 a2 b3 b4; have h6 := mb a3 a4 b1 b2
 unfold Sm D1
 simp only
 omega
theorem Bd.n {p : Pln} (h : Bd p) : Sm 4608 p.n.x ∧ Sm 4608 p.n.y ∧ Sm 4608 p.n.z := ⟨⟨h.x1, h.x2⟩, ⟨h.y1, h.y2⟩, h.z1, h.z2⟩
theorem Jd8 {p q r : Pln} (hp : Bd p) (hq : Bd q) (hr : Bd r) : Sm 600000000000 (mw p q r) := by
 obtain ⟨⟨c1, c2⟩, ⟨c3, c4⟩, c5, c6⟩ := Ub8 hq.n hr.n
 have h1 := mb hp.x1 hp.x2 c1 c2; have h2 := mb hp.y1 hp.y2 c3 c4; have h3 := mb hp.z1 hp.z2 c5 c6
 unfold Sm mw dot
 omega
theorem Jd9 {p q r : Pln} (hp : Bd p) (hq : Bd q) (hr : Bd r) : Sm 300000000000000 (mv p q r).x ∧ Sm 300000000000000 (mv p q r).y ∧ Sm 300000000000000 (mv p q r).z := by
 obtain ⟨⟨c1, c2⟩, ⟨c3, c4⟩, c5, c6⟩ := Ub8 hq.n hr.n
 obtain ⟨⟨d1, d2⟩, ⟨d3, d4⟩, d5, d6⟩ := Ub8 hr.n hp.n
 obtain ⟨⟨e1, e2⟩, ⟨e3, e4⟩, e5, e6⟩ := Ub8 hp.n hq.n
 have a1 := mb c1 c2 hp.b1 hp.b2; have a2 := mb c3 c4 hp.b1 hp.b2; have a3 := mb c5 c6 hp.b1 hp.b2
 have b1 := mb d1 d2 hq.b1 hq.b2; have b2 := mb d3 d4 hq.b1 hq.b2; have b3 := mb d5 d6 hq.b1 hq.b2
 have f1 := mb e1 e2 hr.b1 hr.b2; have f2 := mb e3 e4 hr.b1 hr.b2; have f3 := mb e5 e6 hr.b1 hr.b2
 unfold Sm mv
 simp only
 omega
theorem nc1 (a b : V3) : L6 a b = ⟨W (D1 a b).x, W (D1 a b).y, W (D1 a b).z⟩ := by
 unfold L6 D1
 simp only [rc5, Pc6]
theorem Ub9 (a b : V3) : N3 a b = ⟨W (D1 a b).x, W (D1 a b).y, W (D1 a b).z⟩ := by
 unfold N3 D1
 simp only [rc5, Pc6]
theorem ge6 (p q r : Pln) : dot r.n (D1 p.n q.n) = mw p q r := by unfold mw dot D1; grind
theorem Be9 (a b c d : Nat) : [a, b, c, d].foldl Nat.gcd 0 = Nat.gcd (Nat.gcd a b) (Nat.gcd c d) := by
 simp only [List.foldl_cons, List.foldl_nil, Nat.gcd_zero_left]
 rw [Nat.gcd_assoc]
theorem Sc5 {v : V3} {w : Int} (h : w ≠ 0) : 0 < gc v w := by
 unfold gc
 have : 0 < Nat.gcd v.z.natAbs w.natAbs := Nat.gcd_pos_of_pos_right _ (by omega)
 have := Nat.gcd_pos_of_pos_right (Nat.gcd v.x.natAbs v.y.natAbs) this
 omega
theorem Kd0 {v : V3} {w : Int} (h : w ≠ 0) : gc v w ≤ w.natAbs := by
 unfold gc
 have h1 : Nat.gcd v.z.natAbs w.natAbs ≤ w.natAbs := Nat.gcd_le_right _ (by omega)
 have h2 : 0 < Nat.gcd v.z.natAbs w.natAbs := Nat.gcd_pos_of_pos_right _ (by omega)
 have h3 := Nat.gcd_le_right (m := Nat.gcd v.x.natAbs v.y.natAbs) (n := Nat.gcd v.z.natAbs w.natAbs) h2
 omega
theorem sa2 {x : Int} (h : Sm 1000000000000000000 x) : W x = x := va9 (by have := h.1; omega) (by have := h.2; omega)
theorem Sm.mono {n m x : Int} (h : Sm n x) (hn : n ≤ m) : Sm m x := ⟨by have := h.1; omega, by have := h.2; omega⟩
theorem E1 {n x g : Int} (h : Sm n x) (hg : 0 < g) : Sm n (Int.tdiv x g) := by
 have h1 : (Int.tdiv x g).natAbs ≤ x.natAbs := by rw [Int.natAbs_tdiv]; exact Nat.div_le_self _ _
 have := h.1; have := h.2
 constructor <;> omega
theorem ge7 {p q r : Pln} (hp : Bd p) (hq : Bd q) (hr : Bd r) (h : (mpt p q r).2 = true) : 0 < (mpt p q r).1.pw ∧ Sm 300000000000000 (mpt p q r).1.px ∧ Sm 300000000000000 (mpt p q r).1.py ∧ Sm 300000000000000 (mpt p q r).1.pz ∧ (mpt p q r).1.pw ≤ 600000000000 := by
 have hw := Jd8 hp hq hr
 obtain ⟨v1, v2, v3⟩ := Jd9 hp hq hr
 have neg : ∀ {n x : Int}, Sm n x → Sm n (-x) := fun h => ⟨by have := h.2; omega, by have := h.1; omega⟩
 have pos : ∀ {x : Int}, 0 < x → x.natAbs = (mw p q r).natAbs → 0 < Int.tdiv x (gc (mv p q r) (mw p q r)) := fun {x} hx he => by
  have h0 : mw p q r ≠ 0 := by omega
  have h1 := Sc5 (v := mv p q r) h0
  have h2 := Kd0 (v := mv p q r) h0
  rw [Int.tdiv_eq_ediv_of_nonneg (by omega)]
  exact Int.ediv_pos_of_pos_of_dvd hx (by omega) (by
   rw [← Int.dvd_natAbs, he]
   exact Int.natCast_dvd_natCast.2 (Nat.dvd_trans (Nat.gcd_dvd_right _ _) (Nat.gcd_dvd_right _ _)))
 unfold mpt at h ⊢
 by_cases h0 : mw p q r = 0
 ·rw [if_pos h0] at h; cases h
 ·rw [if_neg h0]
  have hg := Sc5 (v := mv p q r) h0
  by_cases h1 : mw p q r < 0
  ·rw [if_pos h1]
   exact ⟨pos (by omega) (by omega), E1 (neg v1) hg, E1 (neg v2) hg, E1 (neg v3) hg, (E1 (neg hw) hg).2⟩
  ·rw [if_neg h1]
   exact ⟨pos (by omega) rfl, E1 v1 hg, E1 v2 hg, E1 v3 hg, (E1 hw hg).2⟩
theorem ud5 {p q r : Pln} (hp : Bd p) (hq : Bd q) (hr : Bd r) : Na8 ⟨p, q, r⟩ = some (.tup [.agg (tX.row (mpt p q r).1), b (mpt p q r).2], []) := by
 have hw := Jd8 hp hq hr
 obtain ⟨v1, v2, v3⟩ := Jd9 hp hq hr
 have e1 : Ca4 r.n (L6 p.n q.n) = mw p q r := by
  rw [nc1]
  unfold Ca4
  simp only [ib0, Mb0, Gd4]
  show W (dot r.n (D1 p.n q.n)) = _
  rw [ge6, sa2 (hw.mono (by omega))]
 have e2 : ja6 (ja6 (ja6 ⟨0, 0, 0⟩ (M7 (L6 q.n r.n) p.b)) (M7 (L6 r.n p.n) q.b)) (M7 (L6 p.n q.n) r.b) = mv p q r := by
  rw [nc1, nc1, nc1]
  unfold ja6 M7
  simp only [ib0, Mb0, nd9, Int.zero_add]
  show (⟨W (mv p q r).x, W (mv p q r).y, W (mv p q r).z⟩ : V3) = _
  rw [sa2 (v1.mono (by omega)), sa2 (v2.mono (by omega)), sa2 (v3.mono (by omega))]
 unfold Na8
 simp only [e1, e2]
 have hb : ∀ x ∈ [(mv p q r).x, (mv p q r).y, (mv p q r).z, mw p q r], x.natAbs ≤ 9223372036854775807 := by
  intro x hx
  simp only [List.mem_cons, List.not_mem_nil, or_false] at hx
  unfold Sm at *
  rcases hx with rfl | rfl | rfl | rfl <;> omega
 have hf : ([(mv p q r).x, (mv p q r).y, (mv p q r).z, mw p q r].foldl eu 0).natAbs = Nat.gcd (Nat.gcd (mv p q r).x.natAbs (mv p q r).y.natAbs) (Nat.gcd (mv p q r).z.natAbs (mw p q r).natAbs) := by
  rw [Ub7, ← Be9]; rfl
 unfold mpt
 by_cases h0 : mw p q r = 0
 ·rw [bt (by rw [h0]; rfl), if_pos h0]
  rfl
 ·have hz : (mw p q r == 0) = false := by simpa using h0
  rw [bf hz, if_neg h0]
  have hgp := Sc5 (v := mv p q r) h0
  have hgl := Kd0 (v := mv p q r) h0
  have hge := ge5 _ (by simp) hb (by rw [hf]; unfold gc at hgl; unfold Sm at hw; omega)
  have hgv : rb8 [(mv p q r).x, (mv p q r).y, (mv p q r).z, mw p q r] = gc (mv p q r) (mw p q r) := by
   unfold rb8; rw [hge, hf]; rfl
  have hgg : rb9 [(mv p q r).x, (mv p q r).y, (mv p q r).z, mw p q r] = true := by
   unfold rb9; rw [hge]; rfl
  rw [hgv, bt hgg]
  generalize hG : gc (mv p q r) (mw p q r) = G at *
  have hGW : W (0 - G) = -G := by unfold Sm at hw; rw [va9 (by omega) (by omega)]; omega
  have hGn : (-G == 0) = false := by simp; omega
  have hGp : (G == 0) = false := by simp; omega
  by_cases h1 : mw p q r < 0
  ·rw [bt (decide_eq_true h1), if_pos h1]
   simp only [hGW]
   rw [bf hGn, bf hGn, bf hGn, bf hGn]
   simp only [Int.tdiv_neg, ← Int.neg_tdiv]
   have neg : ∀ {n x : Int}, Sm n x → Sm n (-x) := fun h => ⟨by have := h.2; omega, by have := h.1; omega⟩
   rw [sa2 ((E1 (neg v1) hgp).mono (by omega)), sa2 ((E1 (neg v2) hgp).mono (by omega)), sa2 ((E1 (neg v3) hgp).mono (by omega)), sa2 ((E1 (neg hw) hgp).mono (by omega))]
   rfl
  ·rw [bf (decide_eq_false h1), if_neg h1, bf hGp, bf hGp, bf hGp, bf hGp]
   rw [sa2 ((E1 v1 hgp).mono (by omega)), sa2 ((E1 v2 hgp).mono (by omega)), sa2 ((E1 v3 hgp).mono (by omega)), sa2 ((E1 hw hgp).mono (by omega))]
   rfl
theorem ge8 {p q r : Pln} (hp : Bd p) (hq : Bd q) (hr : Bd r) : Na9 ⟨p, q, r⟩ = mpt p q r := by unfold Na9; rw [ud5 hp hq hr]; rfl
theorem ge9 {p q r : Pln} (hp : Bd p) (hq : Bd q) (hr : Bd r) : Oa0 ⟨p, q, r⟩ = true := by unfold Oa0; rw [ud5 hp hq hr]; rfl
theorem ed1 {p q r : Pln} (hp : Bd p) (hq : Bd q) (hr : Bd r) : Ya6 p q r = some (.tup [.agg (tX.row (mpt p q r).1), b (mpt p q r).2], []) := by
 have hw := Jd8 hp hq hr
 obtain ⟨v1, v2, v3⟩ := Jd9 hp hq hr
 have e1 : Ba9 p.n (N3 q.n r.n) = mw p q r := by
  rw [Ub9]
  unfold Ba9
  simp only [ib0, Mb0, Gd4]
  show W (dot p.n (D1 q.n r.n)) = _
  rw [show dot p.n (D1 q.n r.n) = mw p q r from rfl, sa2 (hw.mono (by omega))]
 have e2 : Wa6 (Wa6 (L7 (N3 q.n r.n) p.b) (L7 (N3 r.n p.n) q.b)) (L7 (N3 p.n q.n) r.b) = mv p q r := by
  rw [Ub9, Ub9, Ub9]
  unfold Wa6 L7
  simp only [ib0, Mb0, nd9]
  show (⟨W (mv p q r).x, W (mv p q r).y, W (mv p q r).z⟩ : V3) = _
  rw [sa2 (v1.mono (by omega)), sa2 (v2.mono (by omega)), sa2 (v3.mono (by omega))]
 have neg : ∀ {n x : Int}, Sm n x → Sm n (-x) := fun h => ⟨by have := h.2; omega, by have := h.1; omega⟩
 have e3 : L7 (mv p q r) (-1) = ⟨-(mv p q r).x, -(mv p q r).y, -(mv p q r).z⟩ := by
  unfold L7
  have : ∀ x : Int, x * -1 = -x := fun x => by omega
  simp only [this]
  rw [sa2 ((neg v1).mono (by omega)), sa2 ((neg v2).mono (by omega)), sa2 ((neg v3).mono (by omega))]
 have ab : ∀ {x : Int}, Sm 300000000000000 x → (if W (0 - x) > x then W (0 - x) else x) = (x.natAbs : Int) := fun {x} h => by
  have : W (0 - x) = -x := by rw [show 0 - x = -x by omega]; exact sa2 ((neg h).mono (by omega))
  rw [this]
  split <;> omega
 unfold Ya6
 simp only [e1, e2, e3]
 rw [ab v1, ab v2, ab v3, ab (neg v1), ab (neg v2), ab (neg v3)]
 simp only [Int.natAbs_neg]
 unfold mpt
 by_cases h0 : mw p q r = 0
 ·rw [bt (by rw [h0]; rfl), if_pos h0]
  rfl
 ·have hz : (mw p q r == 0) = false := by simpa using h0
  rw [bf hz, if_neg h0]
  have hgp := Sc5 (v := mv p q r) h0
  have hgl := Kd0 (v := mv p q r) h0
  have hw0 := hw
  unfold Sm at hw0
  have q1 : ((mv p q r).y.natAbs : Int) ≤ 9223372036854775807 := by unfold Sm at v2; omega
  have k1 := vc0 ((mv p q r).x.natAbs : Int) ((mv p q r).y.natAbs : Int) (by omega) (by omega) q1
  have k2 := vc1 ((mv p q r).x.natAbs : Int) ((mv p q r).y.natAbs : Int) (by omega) (by omega) q1
  have c1 : Int.gcd ((mv p q r).x.natAbs : Int) ((mv p q r).y.natAbs : Int) = Nat.gcd (mv p q r).x.natAbs (mv p q r).y.natAbs := by simp [Int.gcd]
  have fin : ∀ w : Int, 0 < w → w.natAbs = (mw p q r).natAbs → L8 ((mv p q r).z.natAbs : Int) w = (Nat.gcd (mv p q r).z.natAbs (mw p q r).natAbs : Nat) ∧ L9 ((mv p q r).z.natAbs : Int) w = true ∧
    L8 (Nat.gcd (mv p q r).x.natAbs (mv p q r).y.natAbs : Nat) (Nat.gcd (mv p q r).z.natAbs (mw p q r).natAbs : Nat) = gc (mv p q r) (mw p q r) ∧ L9 (Nat.gcd (mv p q r).x.natAbs (mv p q r).y.natAbs : Nat) (Nat.gcd (mv p q r).z.natAbs (mw p q r).natAbs : Nat) = true := by
   intro w hw1 hw2
   have l1 : Nat.gcd (mv p q r).z.natAbs (mw p q r).natAbs ≤ (mw p q r).natAbs := Nat.gcd_le_right _ (by omega)
   refine ⟨?_, vc1 _ _ (by omega) (by omega) (by omega), ?_, vc1 _ _ (by omega) (by omega) (by omega)⟩
   ·rw [vc0 _ _ (by omega) (by omega) (by omega)]
    have : Int.gcd ((mv p q r).z.natAbs : Int) w = Nat.gcd (mv p q r).z.natAbs (mw p q r).natAbs := by unfold Int.gcd; rw [hw2]; simp
    rw [this]
   ·rw [vc0 _ _ (by omega) (by omega) (by omega)]
    rfl
  by_cases h1 : mw p q r < 0
  ·rw [bt (decide_eq_true h1), if_pos h1]
   have hWw : W (0 - mw p q r) = -mw p q r := by rw [va9 (by omega) (by omega)]; omega
   rw [hWw]
   obtain ⟨f1, f2, f3, f4⟩ := fin (-mw p q r) (by omega) (by omega)
   simp only [k1, k2, c1, f1, f2, f3, f4]
   generalize gc (mv p q r) (mw p q r) = G at *
   have hGp : (G == 0) = false := by simp; omega
   simp only [hGp]
   rw [sa2 ((E1 (neg v1) hgp).mono (by omega)), sa2 ((E1 (neg v2) hgp).mono (by omega)), sa2 ((E1 (neg v3) hgp).mono (by omega)), sa2 ((E1 (neg hw) hgp).mono (by omega))]
   rfl
  ·rw [bf (decide_eq_false h1), if_neg h1]
   obtain ⟨f1, f2, f3, f4⟩ := fin (mw p q r) (by omega) rfl
   simp only [k1, k2, c1, f1, f2, f3, f4]
   generalize gc (mv p q r) (mw p q r) = G at *
   have hGp : (G == 0) = false := by simp; omega
   simp only [hGp]
   rw [sa2 ((E1 v1 hgp).mono (by omega)), sa2 ((E1 v2 hgp).mono (by omega)), sa2 ((E1 v3 hgp).mono (by omega)), sa2 ((E1 hw hgp).mono (by omega))]
   rfl
theorem Td6 {p q r : Pln} (hp : Bd p) (hq : Bd q) (hr : Bd r) : Ya7 p q r = mpt p q r := by unfold Ya7; rw [ed1 hp hq hr]; rfl
theorem Td7 {p q r : Pln} (hp : Bd p) (hq : Bd q) (hr : Bd r) : Ya8 p q r = true := by unfold Ya8; rw [ed1 hp hq hr]; rfl
end Go.Ev.Ce
