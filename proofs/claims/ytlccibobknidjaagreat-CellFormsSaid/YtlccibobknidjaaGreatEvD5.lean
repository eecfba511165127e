/- Own work: a part of the proof. -/
import Derived.Test.YtlccibobknidjaaGreatEvE3
import Derived.Test.YtlccibobknidjaaGreatEvE1
import Derived.Test.YtlccibobknidjaaGreatEvD2
set_option linter.unusedVariables false
set_option linter.unusedSimpArgs false
set_option linter.unnecessarySimpa false
set_option linter.unusedSectionVars false
namespace Go.Ev.Ce
open Go Go.Ev Go.Ev.L Go.Proofs
noncomputable def slP (l : List Pln) : b7 × List b8 := (.sl 0 0 l.length 0, [⟨50, 4, bL tP l, true, false, 0⟩])
theorem Nb5 (l : List Pln) : (one (r1L tP)).rd (slP l) = some l := by
 show Bool.rec (motive := fun _ => Option (List Pln)) none (some (slR tP (bL tP l) 0 l.length)) (Bool.and true (okS tP (bL tP l) 0 l.length)) = _
 rw [Lb8, Lb9]
 rfl
theorem ud9 {α : Type} (t : Ty α) (l : List α) : (one (r1L t)).rd (eL t l, []) = some l := by
 show Bool.rec (motive := fun _ => Option (List α)) none (some (rt t l)) (Bool.and (Nat.beq t.es t.es) (okE t l)) = _
 rw [l4, J4, Nat.beq_refl]
 rfl
noncomputable def ws : List Pln := [⟨⟨1, 0, 0⟩, 24⟩, ⟨⟨-1, 0, 0⟩, 24⟩, ⟨⟨0, 1, 0⟩, 24⟩, ⟨⟨0, -1, 0⟩, 24⟩, ⟨⟨0, 0, 1⟩, 24⟩, ⟨⟨0, 0, -1⟩, 24⟩]
theorem be8 : Bds ws := by
 intro p hp
 have : okp p = true := by
  have h : ws.all okp = true := by decide
  exact List.all_eq_true.1 h p hp
 exact Sc6 this
noncomputable def Kd4 (lo hi : V3) : List Pln := [⟨⟨1, 0, 0⟩, hi.x⟩, ⟨⟨-1, 0, 0⟩, W (0 - lo.x)⟩, ⟨⟨0, 1, 0⟩, hi.y⟩, ⟨⟨0, -1, 0⟩, W (0 - lo.y)⟩, ⟨⟨0, 0, 1⟩, hi.z⟩, ⟨⟨0, 0, -1⟩, W (0 - lo.z)⟩]
theorem Kd5 (lo hi : V3) : Fb8 lo hi = some (slP (Kd4 lo hi)) := rfl
theorem be9 (lo hi : V3) : mb5 lo hi = Kd4 lo hi := by unfold mb5; rw [Kd5]; exact na3 _ (Nb5 _)
theorem ce0 (lo hi : V3) : Wa7 lo hi = true := by unfold Wa7; rw [Kd5]; exact ya0 _ (Nb5 _)
theorem ie0 : Kd4 ⟨-24, -24, -24⟩ ⟨24, 24, 24⟩ = ws := by
 simp only [Kd4, ws]
 rw [show W (0 - -24) = 24 from by rw [Ad1]; rfl]
theorem Vd4 {l : List Pln} : Nat.beq (len (bL tP l)) 0 = l.isEmpty := by rw [N6]; cases l <;> rfl
theorem Kd6 (c : List Pln) (hc : c.length ≤ 1000000000) : mb6 c = some (slP (c ++ ws)) := by
 unfold mb6
 simp only [Xa9, be9, ce0, ie0, Vd4]
 have h6 : (0 + len (bL tP c)) = c.length := by rw [N6]; omega
 have hw : len (bL tP ws) = 6 := rfl
 rw [h6, hw]
 have e1 : Nat.ble (c.length * 32) room = true := ka1 (by omega)
 have e2 : Nat.ble ((c.length + 6) * 32) room = true := ka1 (by omega)
 have e3 : app (app [] (bL tP c)) (bL tP ws) = bL tP (c ++ ws) := Ea2 tP c ws
 have e4 : Nat.beq c.length (len (app [] (bL tP c))) = true := by
  rw [show app [] (bL tP c) = bL tP c from rfl, N6, Nat.beq_refl]
 rw [e1, e2, e3, e4]
 cases c with
 | nil => rfl
 | cons p c =>
  show some (b7.sl 0 0 ((p :: c).length + 6) 0, [(⟨50, 4, bL tP (p :: c ++ ws), true, false, 0⟩ : b8)]) = _
  unfold slP
  rw [List.length_append]
  rfl
theorem ce1 (c : List Pln) (hc : c.length ≤ 1000000000) : mb7 c = c ++ ws := by unfold mb7; rw [Kd6 c hc]; exact na3 _ (Nb5 _)
theorem ce2 (c : List Pln) (hc : c.length ≤ 1000000000) : mb8 c = true := by unfold mb8; rw [Kd6 c hc]; exact ya0 _ (Nb5 _)
theorem Kd7 {l : List (List Pln)} {j : Nat} (h : j < l.length) : gL (tLs tP) l j = l[j] := Ma9 (tLs tP) h
theorem Kd8 (ls : List (List Pln)) (hn : ls.length ≤ 1000000000) (hl : ls.flatten.length ≤ 1000000000) : ∃ m, lp (C5 ⟨ls, ls, (ls.length : Int)⟩) ⟨0, 0⟩ = (1, ⟨(ls.flatten.length : Int), m⟩) := by
 have h := Ga9 (step := C5 ⟨ls, ls, (ls.length : Int)⟩) (mk := fun j (n : Nat) => (⟨(n : Int), (j : Int)⟩ : o7)) (f := fun l _ n => n + l.length) (g := fun l n => n + l.flatten.length) (fin := fun _ => 1) ls
  (fun j n => n + (ls.drop j).flatten.length = ls.flatten.length) hn (fun _ => rfl) (fun x r a => by simp only [List.flatten_cons, List.length_append]; omega)
  (fun j n hj hi => by
   rw [List.drop_eq_getElem_cons hj, List.flatten_cons, List.length_append] at hi
   have hW : W ((n : Int) + (ls[j].length : Int)) = ((n + ls[j].length : Nat) : Int) := by rw [va9 (by omega) (by omega)]; omega
   refine ⟨?_, by show n + ls[j].length + (ls.drop (j + 1)).flatten.length = _; omega⟩
   simp only [C5, G1, Int.toNat_natCast, Kd7 hj, hW, o5 hj (by omega)]
   rw [btD (m9 hj), bt (e8 hj), bfD (by omega)])
  (fun j n hj _ => by
   simp only [C5, G1]
   rw [bfD (by omega)]) 0 0 (by simp)
 have h := h.1
 rw [List.drop_zero, Nat.zero_add] at h
 exact ⟨_, h⟩
theorem Kd9 {ls : List (List Pln)} (h : ls.flatten = []) {j : Nat} (hj : j < ls.length) : ls[j] = [] := by
 rw [List.flatten_eq_nil_iff] at h
 exact h _ (List.getElem_mem hj)
theorem Vd5 (ls : List (List Pln)) (hn : ls.length ≤ 1000000000) (hl : ls.flatten = []) : ∃ s, lp (w7 ⟨ls, (ls.length : Int)⟩) ⟨0, 0, 0, []⟩ = (1, s) := by
 have h := Ga9 (step := w7 ⟨ls, (ls.length : Int)⟩) (mk := fun j (_ : Unit) => (⟨0, (j : Int), 0, []⟩ : i9)) (f := fun _ _ n => n) (g := fun _ n => n) (fin := fun _ => 1) ls
  (fun _ _ => True) hn (fun _ => rfl) (fun x r a => rfl)
  (fun j n hj hi => by
   refine ⟨?_, trivial⟩
   show s5 Stp.next Stp.exit Stp.fail _ _ = _
   simp only [s5, Int.toNat_natCast, Kd7 hj, Kd9 hl hj, o5 hj (by omega)]
   rw [btD (m9 hj), bt (e8 hj)]
   rfl)
  (fun j n hj _ => by
   show s5 Stp.next Stp.exit Stp.fail _ _ = _
   simp only [s5]
   rw [bfD (by omega)]) 0 () trivial
 exact ⟨_, h.1⟩
noncomputable def kb0 (t : Nat) (d : List Pln) : List (List b7) := app (bL tP d) (List.replicate (t - d.length) Sc2)
theorem Ld0 (t : Nat) (d : List Pln) (h : d.length ≤ t) : len (kb0 t d) = t := by
 unfold kb0
 rw [B3, j9, List.length_append, ← j9, N6, List.length_replicate]
 omega
theorem Ld1 (t : Nat) (d l : List Pln) (h : d.length + l.length ≤ t) : app (C9 (kb0 t d) d.length) (app (bL tP l) (e7 (kb0 t d) (d.length + len (bL tP l)))) = kb0 t (d ++ l) := by
 have hd : (bL tP d).length = d.length := by rw [← j9, N6]
 unfold kb0
 rw [N6, ← Ea2]
 simp only [B3, B0, B1]
 rw [List.take_left' hd, List.append_assoc]
 congr 2
 rw [List.drop_append, List.drop_eq_nil_of_le (by omega), List.nil_append, hd, List.drop_replicate, List.length_append]
 congr 1
 omega
theorem Ld2 (ls : List (List Pln)) (hn : ls.length ≤ 1000000000) : ∃ m, lp (w7 ⟨ls, (ls.length : Int)⟩) ⟨1, 0, 0, List.replicate ls.flatten.length Sc2⟩ = (2, ⟨1, m, ls.flatten.length, bL tP ls.flatten⟩) := by
 have h := Ga9 (step := w7 ⟨ls, (ls.length : Int)⟩) (mk := fun j (d : List Pln) => (⟨1, (j : Int), d.length, kb0 ls.flatten.length d⟩ : i9)) (f := fun l _ d => d ++ l) (g := fun l d => d ++ l.flatten) (fin := fun _ => 2) ls
  (fun j d => d.length + (ls.drop j).flatten.length = ls.flatten.length) hn (fun _ => by simp) (fun x r a => by simp)
  (fun j d hj hi => by
   rw [List.drop_eq_getElem_cons hj, List.flatten_cons, List.length_append] at hi
   refine ⟨?_, by show (d ++ ls[j]).length + (ls.drop (j + 1)).flatten.length = _; rw [List.length_append]; omega⟩
   show s6 Stp.next Stp.exit Stp.fail _ _ = _
   simp only [s6, Int.toNat_natCast, Kd7 hj, o5 hj (by omega), Xa9]
   rw [Ld1 _ _ _ (by omega), Ld0 _ _ (by omega), N6, btD (m9 hj), bt (e8 hj), bt (by rw [Nat.ble_eq]; omega), List.length_append])
  (fun j d hj _ => by
   show s6 Stp.next Stp.exit Stp.fail _ _ = _
   simp only [s6]
   rw [bfD (by omega)]) 0 [] (by simp)
 have h := h.1
 rw [List.drop_zero, List.nil_append] at h
 have e : kb0 ls.flatten.length ls.flatten = bL tP ls.flatten := by unfold kb0; rw [Nat.sub_self, B3]; simp
 rw [e] at h
 exact ⟨_, h⟩
theorem ce3 (ls : List (List Pln)) (hn : ls.length ≤ 1000000000) (hl : ls.flatten.length ≤ 1000000000) : nb4 ls = some (slP (ls.flatten ++ ws)) := by
 have hc : ba3 ls = if ls.flatten = [] then ⟨1, 0, []⟩ else ⟨2, ls.flatten.length, bL tP ls.flatten⟩ := by
  unfold ba3 G7
  simp only [l4, m8]
  obtain ⟨m, hm⟩ := Kd8 ls hn hl
  rw [hm]
  by_cases h0 : ls.flatten = []
  ·obtain ⟨s, hs⟩ := Vd5 ls hn h0
   rw [if_pos h0, hs]
   rw [show (⟨(ls.flatten.length : Int), m⟩ : o7) = ⟨0, m⟩ by rw [h0]; rfl]
   rfl
  ·obtain ⟨m', hm'⟩ := Ld2 ls hn
   rw [if_neg h0]
   simp only [Int.toNat_natCast]
   rw [hm']
   have h1 : 0 < ls.flatten.length := List.length_pos_iff.2 h0
   have e1 : ((ls.flatten.length : Int) == 0) = false := by rw [beq_eq_false_iff_ne]; omega
   have e2 : Bool.and (decide ((0 : Int) < (ls.flatten.length : Int))) (Nat.ble (ls.flatten.length * 32) room) = true := by
    rw [ka1 (by omega), decide_eq_true (by omega)]
    rfl
   rw [e1, e2]
   rfl
 unfold nb4
 simp only [l4, J4, hc]
 by_cases h0 : ls.flatten = []
 ·rw [if_pos h0, h0]; rfl
 ·rw [if_neg h0]
  generalize ls.flatten = c at *
  have e : ∀ (d : List Pln) (p : Pln), app (bL tP d) [[i p.n.x, i p.n.y, i p.n.z, i p.b]] = bL tP (d ++ [p]) := fun d p => Ea2 tP d [p]
  have c1 := e c ⟨⟨1, 0, 0⟩, 24⟩
  have c2 := e (c ++ [⟨⟨1, 0, 0⟩, 24⟩]) ⟨⟨-1, 0, 0⟩, 24⟩
  have c3 := e (c ++ [⟨⟨1, 0, 0⟩, 24⟩] ++ [⟨⟨-1, 0, 0⟩, 24⟩]) ⟨⟨0, 1, 0⟩, 24⟩
  have c4 := e (c ++ [⟨⟨1, 0, 0⟩, 24⟩] ++ [⟨⟨-1, 0, 0⟩, 24⟩] ++ [⟨⟨0, 1, 0⟩, 24⟩]) ⟨⟨0, -1, 0⟩, 24⟩
  have c5 := e (c ++ [⟨⟨1, 0, 0⟩, 24⟩] ++ [⟨⟨-1, 0, 0⟩, 24⟩] ++ [⟨⟨0, 1, 0⟩, 24⟩] ++ [⟨⟨0, -1, 0⟩, 24⟩]) ⟨⟨0, 0, 1⟩, 24⟩
  have c6 := e (c ++ [⟨⟨1, 0, 0⟩, 24⟩] ++ [⟨⟨-1, 0, 0⟩, 24⟩] ++ [⟨⟨0, 1, 0⟩, 24⟩] ++ [⟨⟨0, -1, 0⟩, 24⟩] ++ [⟨⟨0, 0, 1⟩, 24⟩]) ⟨⟨0, 0, -1⟩, 24⟩
  simp only at c1 c2 c3 c4 c5 c6
  simp only [c1, c2, c3, c4, c5, c6, N6, List.length_append, List.length_singleton]
  have g : ∀ n : Nat, n ≤ 1000000010 → (Nat.beq n n && Nat.ble ((n + 1) * 32) room) = true := fun n h => by rw [Nat.beq_refl, ka1 (by omega)]; rfl
  rw [g _ (by omega), g _ (by omega), g _ (by omega), g _ (by omega), g _ (by omega), g _ (by omega)]
  show some (b7.sl 0 0 (c.length + 1 + 1 + 1 + 1 + 1 + 1) 0, [(⟨50, 4, bL tP _, true, false, 0⟩ : b8)]) = _
  unfold slP
  rw [List.length_append]
  simp only [List.append_assoc]
  rfl
theorem qe9 (ls : List (List Pln)) (hn : ls.length ≤ 1000000000) (hl : ls.flatten.length ≤ 1000000000) : Ka6 ls = ls.flatten ++ ws := by unfold Ka6; rw [ce3 ls hn hl]; exact na3 _ (Nb5 _)
theorem re0 (ls : List (List Pln)) (hn : ls.length ≤ 1000000000) (hl : ls.flatten.length ≤ 1000000000) : Ka7 ls = true := by unfold Ka7; rw [ce3 ls hn hl]; exact ya0 _ (Nb5 _)
theorem ce4 (c : List Pln) (hc : c.length ≤ 1000000000) : Ka6 [c] = c ++ ws := by
 have : [c].flatten = c := by simp
 rw [qe9 [c] (by simp) (by rw [this]; exact hc), this]
theorem ce5 (c : List Pln) (hc : c.length ≤ 1000000000) : Ka7 [c] = true := by
 have : [c].flatten = c := by simp
 exact re0 [c] (by simp) (by rw [this]; exact hc)
theorem Kc7 (ls : List (List Pln)) (hn : ls.length ≤ 1000000000) (hl : ∀ c ∈ ls, c.length ≤ 1000000000) : Ga2 ls = some (b (ls.all fun c => chk c == 0), []) := by
 have hv : ∀ c ∈ ls, Ga0 c = !(chk c == 0) ∧ Ga1 c = true := fun c hc => by
  have : ra7 c = some (b (!(chk c == 0)), []) := by
   unfold ra7
   simp only [l4, J4, Sc8 c (hl c hc), Sc9 c (hl c hc)]
   rfl
  unfold Ga0 Ga1
  rw [this]
  exact ⟨rfl, rfl⟩
 have h := fb7 (step := B6 ⟨ls, (ls.length : Int)⟩) (mk := fun j => (⟨(j : Int)⟩ : l7)) (c := fun c => !(chk c == 0)) (u := 1) (fin := 2) (tLs tP) ls hn
  (fun j hj => by
   have hm := hv _ (Yb8 (tLs tP) hj)
   simp only [B6, z7, Int.toNat_natCast, l4, J4, hm.1, hm.2, o5 hj (by omega)]
   rw [btD (m9 hj), bt (e8 hj), o6, o6])
  (by simp only [B6, z7]; rw [bfD (T1 (Nat.lt_irrefl _))]) 0 (Nat.zero_le _)
 rw [List.drop_zero] at h
 have e : (ls.any fun c => !(chk c == 0)) = !ls.all fun c => chk c == 0 := by rw [List.not_all_eq_any_not]
 unfold Ga2 U3 u9 ba7 A4
 simp only [l4, m8]
 rw [show (⟨0⟩ : l7) = ⟨((0 : Nat) : Int)⟩ from rfl, h, e]
 cases ls.all fun c => chk c == 0 with
 | true => rfl
 | false =>
  simp only [Bool.not_false, if_true, Nat.zero_add]
  show sl true (sl (Nat.beq 1 1) (some (b (!(decide (((ls.findIdx fun c => !(chk c == 0) : Nat) : Int) ≥ 0))), [])) _) _ = _
  rw [show decide (((ls.findIdx fun c => !(chk c == 0) : Nat) : Int) ≥ 0) = true from decide_eq_true (by omega)]
  rfl
theorem fd1 (ls : List (List Pln)) (hn : ls.length ≤ 1000000000) (hl : ∀ c ∈ ls, c.length ≤ 1000000000) : X1 ls = ls.all fun c => chk c == 0 := by unfold X1; rw [Kc7 ls hn hl]; rfl
theorem fd2 (ls : List (List Pln)) (hn : ls.length ≤ 1000000000) (hl : ∀ c ∈ ls, c.length ≤ 1000000000) : X2 ls = true := by unfold X2; rw [Kc7 ls hn hl]; rfl
theorem Vb4 (c : List Pln) (hc : c.length ≤ 1000000000) : X1 [c] = (chk c == 0) := by
 rw [fd1 [c] (by simp) (by simpa using hc)]
 simp
theorem Vb5 (c : List Pln) (hc : c.length ≤ 1000000000) : X2 [c] = true := fd2 [c] (by simp) (by simpa using hc)
noncomputable def pos (X : List Pt) (p : Pln) : Bool := X.any fun x => decide (rm p x > 0)
noncomputable def fd3 (r : List Pln) : Bool := r.all (pos (cor r))
theorem Ld3 (p : Pln) (X : List Pt) (hX : X.length ≤ 1000000000) : ea0 ⟨p.n.x, p.n.y, p.n.z, p.b, X⟩ = ⟨1, !pos X p⟩ := by
 have hw : ∀ x : Pt, ka5 ⟨x.px, x.py, x.pz, x.pw, p.n.x, p.n.y, p.n.z, p.b⟩ = ⟨decide (rm p x > 0)⟩ := fun x => by
  show M8.mk (decide (ja7 p x > 0)) = _
  rw [Sc4]
 have h := fb7 (step := D6 ⟨X, (X.length : Int), p.n.x, p.n.y, p.n.z, p.b⟩) (mk := fun j => (⟨(j : Int)⟩ : n7)) (c := fun x => decide (rm p x > 0)) (u := 1) (fin := 2) tX X hX
  (fun j hj => by
   simp only [D6, B7, Int.toNat_natCast, hw, o5 hj (by omega)]
   rw [btD (m9 hj), bt (e8 hj)])
  (by simp only [D6, B7]; rw [bfD (T1 (Nat.lt_irrefl _))]) 0 (Nat.zero_le _)
 rw [List.drop_zero] at h
 unfold ea0 K0 X4 w9 fa7 C6 pos
 simp only [l4, m8]
 rw [show (⟨0⟩ : n7) = ⟨((0 : Nat) : Int)⟩ from rfl, h]
 cases X.any fun x => decide (rm p x > 0) with
 | false => rfl
 | true =>
  simp only [if_true, Nat.zero_add]
  show S8.mk 1 (!(decide (((X.findIdx fun x => decide (rm p x > 0) : Nat) : Int) ≥ 0))) = _
  rw [show decide (((X.findIdx fun x => decide (rm p x > 0) : Nat) : Int) ≥ 0) = true from decide_eq_true (by omega)]
theorem vd0 (r : List Pln) (hb : Bds r) (hr : r.length ≤ 200) : aa1 r = some (b (fd3 r), []) := by
 have hX : (cor r).length ≤ 1000000000 := Nat.le_trans (Tc1 r hb hr) (by omega)
 have h := fb7 (step := B8 ⟨r, (r.length : Int)⟩) (mk := fun j => (⟨(j : Int), cor r⟩ : l8)) (c := fun p => !pos (cor r) p) (u := 1) (fin := 2) tP r (by omega)
  (fun j hj => by
   simp only [B8, z8, Int.toNat_natCast, l4, m8, Ld3 _ _ hX, o5 hj (by omega)]
   rw [btD (m9 hj), bt (e8 hj)]
   rfl)
  (by simp only [B8, z8]; rw [bfD (T1 (Nat.lt_irrefl _))]) 0 (Nat.zero_le _)
 rw [List.drop_zero] at h
 have e : (r.any fun p => !pos (cor r) p) = !r.all (pos (cor r)) := by rw [List.not_all_eq_any_not]
 unfold aa1 U5 v7 ba9 A5 fd3
 simp only [l4, m8, J4, Kc5 r hb hr, Kc6 r hb hr]
 rw [show (⟨0, cor r⟩ : l8) = ⟨((0 : Nat) : Int), cor r⟩ from rfl, h, e]
 cases r.all (pos (cor r)) with
 | true => rfl
 | false =>
  simp only [Bool.not_false, if_true, Nat.zero_add]
  show some (b (!(decide (((r.findIdx fun p => !pos (cor r) p : Nat) : Int) ≥ 0))), []) = _
  rw [show decide (((r.findIdx fun p => !pos (cor r) p : Nat) : Int) ≥ 0) = true from decide_eq_true (by omega)]
  rfl
theorem Ld4 (r : List Pln) (hb : Bds r) (hr : r.length ≤ 200) : aa2 r = fd3 r := by unfold aa2; rw [vd0 r hb hr]; rfl
theorem Ld5 (r : List Pln) (hb : Bds r) (hr : r.length ≤ 200) : aa3 r = true := by unfold aa3; rw [vd0 r hb hr]; rfl
theorem pd8 (r : List Pln) (X : List Pt) (hr : r.length ≤ 200) (hX : X.length ≤ 1000000000) (a : Nat) (ha : a < r.length) : ∃ m, lp (na0 ⟨r, X, (a : Int)⟩) ⟨false, 0⟩ = (1, ⟨pos X r[a], m⟩) := by
 have h := Fb2 (step := na0 ⟨r, X, (a : Int)⟩) (mk := fun j (c : Bool) => (⟨c, (j : Int)⟩ : da2)) (f := fun c x => c || decide (rm r[a] x > 0)) (fin := 1) tX X (fun _ _ => True) hX
  (fun j c hj _ => ⟨by
   simp only [na0, qa8, Int.toNat_natCast, ud4, o5 hj (by omega), Ma9 tP ha, e8 ha, e8 hj]
   rw [btD (m9 hj)]
   cases c <;> rfl, trivial⟩)
  (fun c _ => by simp only [na0, qa8]; rw [bfD (T1 (Nat.lt_irrefl _))]) 0 (Nat.zero_le _) false trivial
 have h := h.1
 rw [List.drop_zero] at h
 have e : ∀ (l : List Pt) (c : Bool), l.foldl (fun c x => c || decide (rm r[a] x > 0)) c = (c || l.any fun x => decide (rm r[a] x > 0)) := by
  intro l
  induction l with
  | nil => intro c; simp
  | cons x l ih => intro c; rw [List.foldl_cons, ih, List.any_cons, Bool.or_assoc]
 rw [e, Bool.false_or] at h
 exact ⟨_, h⟩
theorem vd1 (r : List Pln) (hb : Bds r) (hr : r.length ≤ 200) : Za2 r = some (b (fd3 r), []) := by
 have hX : (cor r).length ≤ 1000000000 := Nat.le_trans (Tc1 r hb hr) (by omega)
 have h := ib1 (step := xa1 ⟨⟩) (mk := fun j => (⟨r, cor r, (j : Int)⟩ : W6)) (c := fun p => !pos (cor r) p) (u := 1) (fin := 2) tP r (by omega)
  (fun j hj => by
   obtain ⟨m, hm⟩ := pd8 r (cor r) hr hX j hj
   simp only [xa1, qa9, l4, m8, hm, o5 hj (by omega), Ma9 tP hj]
   rw [btD (m9 hj)]
   rfl)
  (by simp only [xa1, qa9]; rw [bfD (T1 (Nat.lt_irrefl _))]) 0 (Nat.zero_le _)
 rw [List.drop_zero] at h
 have e : (r.any fun p => !pos (cor r) p) = !r.all (pos (cor r)) := by rw [List.not_all_eq_any_not]
 unfold Za2 fd3
 simp only [l4, m8, J4, vc9 r hb hr, wc0 r hb hr]
 rw [show (⟨r, cor r, 0⟩ : W6) = ⟨r, cor r, ((0 : Nat) : Int)⟩ from rfl, h, e]
 cases r.all (pos (cor r)) <;> rfl
theorem ie1 (r : List Pln) (hb : Bds r) (hr : r.length ≤ 200) : rb1 r = fd3 r := by unfold rb1; rw [vd1 r hb hr]; rfl
theorem ie2 (r : List Pln) (hb : Bds r) (hr : r.length ≤ 200) : rb2 r = true := by unfold rb2; rw [vd1 r hb hr]; rfl
theorem sb6 {c : List Pln} (h : (chk c == 0) = true) : Bds (c ++ ws) ∧ (c ++ ws).length ≤ 200 := by
 rw [beq_iff_eq, ed7] at h
 refine ⟨fun p hp => ?_, by rw [List.length_append, show ws.length = 6 from rfl]; omega⟩
 rcases List.mem_append.1 hp with hp | hp
 ·exact Sc6 (h.2 p hp)
 ·exact be8 p hp
noncomputable def pts (c : List Pln) : List Pt := if chk c == 0 then cor (c ++ ws) else []
noncomputable def ful (c : List Pln) : Bool := (chk c == 0) && fd3 (c ++ ws)
theorem fd4 {c : List Pln} (hc : c.length ≤ 1000000000) : ∃ x, xa9 c = some x ∧ (one (r1L tX)).rd x = some (pts c) := by
 unfold xa9 pts
 simp only [l4, J4, Vb4 c hc, Vb5 c hc, ce4 c hc, ce5 c hc]
 cases h : chk c == 0 with
 | false => exact ⟨_, rfl, rfl⟩
 | true =>
  obtain ⟨h1, h2⟩ := sb6 h
  rw [Kc5 _ h1 h2, Kc6 _ h1 h2]
  exact ⟨_, rfl, ud9 tX _⟩
theorem nb7 {c : List Pln} (hc : c.length ≤ 1000000000) : R5 c = pts c := by
 obtain ⟨x, h1, h2⟩ := fd4 hc
 unfold R5; rw [h1]; exact na3 _ h2
theorem nb8 {c : List Pln} (hc : c.length ≤ 1000000000) : R6 c = true := by
 obtain ⟨x, h1, h2⟩ := fd4 hc
 unfold R6; rw [h1]; exact ya0 _ h2
theorem Kc8 {c : List Pln} (hc : c.length ≤ 1000000000) : ∃ x, Ea7 c = some x ∧ (one (r1L tX)).rd x = some (pts c) := by
 unfold Ea7 pts
 simp only [l4, J4, vc6 c hc, vc7 c hc, ce1 c hc, ce2 c hc]
 have e : (chk c != 0) = !(chk c == 0) := rfl
 rw [e]
 cases h : chk c == 0 with
 | false => exact ⟨_, rfl, rfl⟩
 | true =>
  obtain ⟨h1, h2⟩ := sb6 h
  rw [vc9 _ h1 h2, wc0 _ h1 h2]
  exact ⟨_, rfl, ud9 tX _⟩
theorem Kc9 {c : List Pln} (hc : c.length ≤ 1000000000) : Ea8 c = pts c := by
 obtain ⟨x, h1, h2⟩ := Kc8 hc
 unfold Ea8; rw [h1]; exact na3 _ h2
theorem Lc0 {c : List Pln} (hc : c.length ≤ 1000000000) : Ea9 c = true := by
 obtain ⟨x, h1, h2⟩ := Kc8 hc
 unfold Ea9; rw [h1]; exact ya0 _ h2
theorem vd2 {c : List Pln} (hc : c.length ≤ 1000000000) : Pa1 c = some (b (ful c), []) := by
 unfold Pa1 ful
 simp only [l4, J4, Vb4 c hc, Vb5 c hc, ce4 c hc, ce5 c hc]
 cases h : chk c == 0 with
 | false => rfl
 | true =>
  obtain ⟨h1, h2⟩ := sb6 h
  rw [Ld4 _ h1 h2, Ld5 _ h1 h2]
  rfl
theorem cc2 {c : List Pln} (hc : c.length ≤ 1000000000) : ea1 c = ful c := by unfold ea1; rw [vd2 hc]; rfl
theorem cc3 {c : List Pln} (hc : c.length ≤ 1000000000) : ea2 c = true := by unfold ea2; rw [vd2 hc]; rfl
theorem fd5 {c : List Pln} (hc : c.length ≤ 1000000000) : Za3 c = some (b (ful c), []) := by
 unfold Za3 ful
 simp only [l4, J4, vc6 c hc, vc7 c hc, ce1 c hc, ce2 c hc]
 cases h : chk c == 0 with
 | false => rfl
 | true =>
  obtain ⟨h1, h2⟩ := sb6 h
  rw [ie1 _ h1 h2, ie2 _ h1 h2]
  rfl
theorem vd3 {c : List Pln} (hc : c.length ≤ 1000000000) : Ba2 c = ful c := by unfold Ba2; rw [fd5 hc]; rfl
theorem Tc5 {c : List Pln} (hc : c.length ≤ 1000000000) : ra0 c = true := by unfold ra0; rw [fd5 hc]; rfl
end Go.Ev.Ce
section
namespace Go.Ev.Ce
open Go Go.Ev Go.Ev.L Go.Proofs
set_option maxRecDepth 100000
structure za9 where
 is1 : Int
 f0 : List Int
 c7 : Int
noncomputable def cc4 : List (Nat × Sum) := [(47, Wa8)]
theorem Vb6 : i7 prog G cc4 := ⟨Za4, trivial⟩
structure Aa0 where
 alt : Nat
 is0 : Int
 c7 : Int
noncomputable def ca5 {α : Type} (kk : Aa0 → α) (x : za9) : α := let t1 := (ha4 (gL tI x.f0 (W ((W (x.c7 + 1)) - 1)).toNat) x.is1); (sl (decide (x.c7 ≥ (↑(List.length x.f0) : Int))) (kk ⟨1, 0, x.c7⟩) (sl (inB (W ((W (x.c7 + 1)) - 1)) (List.length x.f0)) (sl (ca3 (gL tI x.f0 (W ((W (x.c7 + 1)) - 1)).toNat) x.is1) (kk ⟨1, t1, (W (x.c7 + 1))⟩) (kk ⟨0, 0, 0⟩)) (kk ⟨0, 0, 0⟩)))
noncomputable def j8 (x : za9) : Aa0 := ca5 (fun r => r) x
noncomputable def La0 (x : za9) (r : Aa0) : DT (b7 × List b8) := (.ite (Nat.beq r.alt 1) (.ret ((i r.is0), [⟨0, 2, [[(eL tI x.f0), (i r.c7)]], true, false, 0⟩])) .fail)
theorem kc0 {α β : Type} (F : α → β) (kk : Aa0 → α) (x : za9) : F (ca5 kk x) = ca5 (fun r => F (kk r)) x := by unfold ca5; (repeat' apply k9 (f := F)) <;> rfl
noncomputable def ma1 : Sum := Ya0 ⟨[(.s (.o (.ptr 0 0 0 0))), (.s (.o (.int .i64)))], [⟨0, 2, true, (some [[(.c 1 (nL tI)), (.o (.int .i64))]])⟩], fun a H => (⟨(toI (slT a 1)), (rL tI (slT (rwT (elT H 0) 0) 0)), (toI (slT (rwT (elT H 0) 0) 1))⟩, ())⟩ (fun x => La0 x (j8 x))
theorem ua7 : f6 prog G 98 ma1 := N7 (enc := fun x => ⟨[(.ptr 0 0 0 0), (i x.is1)], [⟨0, 2, [[(eL tI x.f0), (i x.c7)]], true, false, 0⟩]⟩) (fun a H => by kernel_rfl) (bd b98 Vb6) fun x => p7 (Eq.trans (b := ca5 (fun r => (La0 x r).run) x) (by kernel_rfl) (kc0 (fun r => (La0 x r).run) (fun r => r) x).symm)
structure Gb0 where
 is1 : Int
 f0 : List Int
 c7 : Int
noncomputable def pd9 : List (Nat × Sum) := [(98, ma1)]
theorem fd6 : i7 prog G pd9 := ⟨ua7, trivial⟩
structure Gb1 where
 alt : Nat
 ja2 : Int
 ja3 : Int
 ja4 : Int
 f0 : List Int
 c7 : Int
noncomputable def Wa9 {α : Type} (kk : Gb1 → α) (x : Gb0) : α := let t1 := (j8 ⟨(W ((W (2 * x.is1)) + 1)), (rt tI x.f0), x.c7⟩); let t2 := (j8 ⟨(W ((W (2 * x.is1)) + 1)), (rt tI (rt tI x.f0)), t1.c7⟩); let t3 := (j8 ⟨(W ((W (2 * x.is1)) + 1)), (rt tI (rt tI (rt tI x.f0))), t2.c7⟩); (sl ((cnE tI x.f0) && true) (sl (Nat.beq t1.alt 1) (sl ((cnE tI (rt tI x.f0)) && true) (sl (Nat.beq t2.alt 1) (sl ((cnE tI (rt tI (rt tI x.f0))) && true) (sl (Nat.beq t3.alt 1) (kk ⟨1, (W (t1.is0 - x.is1)), (W (t2.is0 - x.is1)), (W (t3.is0 - x.is1)), (rt tI (rt tI (rt tI x.f0))), t3.c7⟩) (kk ⟨0, 0, 0, 0, [], 0⟩)) (kk ⟨0, 0, 0, 0, [], 0⟩)) (kk ⟨0, 0, 0, 0, [], 0⟩)) (kk ⟨0, 0, 0, 0, [], 0⟩)) (kk ⟨0, 0, 0, 0, [], 0⟩)) (kk ⟨0, 0, 0, 0, [], 0⟩))
noncomputable def La1 (x : Gb0) : Gb1 := Wa9 (fun r => r) x
noncomputable def Nb6 (x : Gb0) (r : Gb1) : DT (b7 × List b8) := (.ite (Nat.beq r.alt 1) (.ret ((.agg [(i r.ja2), (i r.ja3), (i r.ja4)]), [⟨0, 2, [[(eL tI r.f0), (i r.c7)]], true, false, 0⟩])) .fail)
theorem Cd3 {α β : Type} (F : α → β) (kk : Gb1 → α) (x : Gb0) : F (Wa9 kk x) = Wa9 (fun r => F (kk r)) x := by unfold Wa9; (repeat' apply k9 (f := F)) <;> rfl
noncomputable def cc5 : Sum := Ya0 ⟨[(.s (.o (.ptr 0 0 0 0))), (.s (.o (.int .i64)))], [⟨0, 2, true, (some [[(.c 1 (nL tI)), (.o (.int .i64))]])⟩], fun a H => (⟨(toI (slT a 1)), (rL tI (slT (rwT (elT H 0) 0) 0)), (toI (slT (rwT (elT H 0) 0) 1))⟩, ())⟩ (fun x => Nb6 x (La1 x))
theorem wc3 : f6 prog G 97 cc5 := N7 (enc := fun x => ⟨[(.ptr 0 0 0 0), (i x.is1)], [⟨0, 2, [[(eL tI x.f0), (i x.c7)]], true, false, 0⟩]⟩) (fun a H => by kernel_rfl) (bd b97 fd6) fun x => p7 (Eq.trans (b := Wa9 (fun r => (Nb6 x r).run) x) (by kernel_rfl) (Cd3 (fun r => (Nb6 x r).run) (fun r => r) x).symm)
noncomputable def qd0 : List (Nat × Sum) := []
theorem fd7 : i7 prog G qd0 := trivial
noncomputable def Ca7 (x : V3) (y : V3) : V3 := (⟨(W (x.x - y.x)), (W (x.y - y.y)), (W (x.z - y.z))⟩ : V3)
noncomputable def cc6 : Sum := ga8 (P7 tV) (P7 tV) (fun x y => .ret ((one r1V).enc (Ca7 x y), []))
theorem wc4 : f6 prog G 187 cc6 := ta9 (bd Ae7 fd7) fun x y => p7 (by kernel_rfl)
noncomputable def Cd4 : List (Nat × Sum) := [(166, ua1)]
theorem qd1 : i7 prog G Cd4 := ⟨Ea6, trivial⟩
noncomputable def Cb2 (x : V3) : Option (b7 × List b8) := (sl (decide (x.x < (-24))) (some ((b false), [])) (sl (decide (x.x > 24)) (some ((b false), [])) (sl (decide (x.y < (-24))) (some ((b false), [])) (sl (decide (x.y > 24)) (some ((b false), [])) (sl (decide (x.z < (-24))) (some ((b false), [])) (sl (decide (x.z > 24)) (some ((b false), [])) (some ((b true), []))))))))
noncomputable def Pa3 (x : V3) : Bool := G6 (one r1B) (Cb2 x)
noncomputable def Pa4 (x : V3) : Bool := okO (one r1B) (Cb2 x)
noncomputable def Vb7 : Sum := ba5 (P7 tV) (fun x => .guard (Pa4 x) (.ret ((one r1B).enc (Pa3 x), [])))
theorem cc7 : f6 prog G 109 Vb7 := ua0 (bd xe5 qd1) (one r1B) (o := Cb2) fun x => p7 (by kernel_rfl)
noncomputable def wc5 : List (Nat × Sum) := [(109, Vb7), (187, cc6), (186, Ab6), (167, Mb6), (130, Fb7)]
theorem kc1 : i7 prog G wc5 := ⟨cc7, wc4, Sb6, fc6, Mb3, trivial⟩
noncomputable def ya1 (x : V3) (y : V3) (z : V3) : Option (b7 × List b8) := let t1 := (Pa3 x); let t2 := (Pa3 y); let t3 := (Pa3 z); let t4 := (Ca7 y x); let t5 := (Ca7 z x); let t6 := (N3 t4 t5); let t7 := (Ba1 t6); let t8 := (Ba9 t7.1 x); (sl (Pa4 x) (sl (!t1) (some ((.tup [(.agg [(i 0), (i 0), (i 0), (i 0)]), (b false)]), [])) (sl (Pa4 y) (sl (!t2) (some ((.tup [(.agg [(i 0), (i 0), (i 0), (i 0)]), (b false)]), [])) (sl (Pa4 z) (sl (!t3) (some ((.tup [(.agg [(i 0), (i 0), (i 0), (i 0)]), (b false)]), [])) (sl (Za1 t6) (sl (t7.2 == 0) (some ((.tup [(.agg [(i 0), (i 0), (i 0), (i 0)]), (b false)]), [])) (some ((.tup [(.agg [(i t7.1.x), (i t7.1.y), (i t7.1.z), (i t8)]), (b true)]), []))) none)) none)) none)) none)
noncomputable def fa8 (x : V3) (y : V3) (z : V3) : Pln × Bool := G6 (two r1P r1B) (ya1 x y z)
noncomputable def fa9 (x : V3) (y : V3) (z : V3) : Bool := okO (two r1P r1B) (ya1 x y z)
noncomputable def Ma2 : Sum := ic3 (P7 tV) (P7 tV) (P7 tV) (fun x y z => .guard (fa9 x y z) (.ret ((two r1P r1B).enc (fa8 x y z), [])))
theorem ab4 : f6 prog G 115 Ma2 := Rd4 (bd xe9 kc1) (two r1P r1B) (o := ya1) fun x y z => p7 (by kernel_rfl)
noncomputable def fd8 : List (Nat × Sum) := [(98, ma1), (97, cc5), (115, Ma2), (47, Wa8)]
theorem Tc6 : i7 prog G fd8 := ⟨ua7, wc3, ab4, Za4, trivial⟩
noncomputable def ab5 (x : List Int) : Option (b7 × List b8) := let t1 := (j8 ⟨8, (rt tI x), 0⟩); let t2 := (j8 ⟨17, (rt tI (rt tI x)), t1.c7⟩); let t3 := (La1 ⟨8, (rt tI (rt tI (rt tI x))), t2.c7⟩); let t4 := (La1 ⟨8, (rt tI t3.f0), t3.c7⟩); let t5 := (La1 ⟨8, (rt tI t4.f0), t4.c7⟩); let t6 := (fa8 (⟨t3.ja2, t3.ja3, t3.ja4⟩ : V3) (⟨t4.ja2, t4.ja3, t4.ja4⟩ : V3) (⟨t5.ja2, t5.ja3, t5.ja4⟩ : V3)); let t7 := (ha4 (W (t2.is0 - 8)) 3); (sl ((cnE tI x) && true) (sl (Nat.beq t1.alt 1) (sl ((cnE tI (rt tI x)) && true) (sl (Nat.beq t2.alt 1) (sl ((cnE tI (rt tI (rt tI x))) && true) (sl (Nat.beq t3.alt 1) (sl ((cnE tI t3.f0) && true) (sl (Nat.beq t4.alt 1) (sl ((cnE tI t4.f0) && true) (sl (Nat.beq t5.alt 1) (sl (fa9 (⟨t3.ja2, t3.ja3, t3.ja4⟩ : V3) (⟨t4.ja2, t4.ja3, t4.ja4⟩ : V3) (⟨t5.ja2, t5.ja3, t5.ja4⟩ : V3)) (sl (decide (t1.is0 > 1)) (sl t6.2 (some ((.agg [(i t6.1.n.x), (i t6.1.n.y), (i t6.1.n.z), (i t6.1.b)]), [])) (sl (ca3 (W (t2.is0 - 8)) 3) (sl (t7 == 1) (some ((.agg [(i 0), (i (W (1 - (W (2 * (Int.tmod t1.is0 2)))))), (i 0), (i (W (t2.is0 - 8)))]), [])) (sl (t7 == 2) (some ((.agg [(i 0), (i 0), (i (W (1 - (W (2 * (Int.tmod t1.is0 2)))))), (i (W (t2.is0 - 8)))]), [])) (some ((.agg [(i (W (1 - (W (2 * (Int.tmod t1.is0 2)))))), (i 0), (i 0), (i (W (t2.is0 - 8)))]), [])))) none)) (sl (ca3 (W (t2.is0 - 8)) 3) (sl (t7 == 1) (some ((.agg [(i 0), (i (W (1 - (W (2 * (Int.tmod t1.is0 2)))))), (i 0), (i (W (t2.is0 - 8)))]), [])) (sl (t7 == 2) (some ((.agg [(i 0), (i 0), (i (W (1 - (W (2 * (Int.tmod t1.is0 2)))))), (i (W (t2.is0 - 8)))]), [])) (some ((.agg [(i (W (1 - (W (2 * (Int.tmod t1.is0 2)))))), (i 0), (i 0), (i (W (t2.is0 - 8)))]), [])))) none)) none) none) none) none) none) none) none) none) none) none) none)
noncomputable def wc6 (x : List Int) : Pln := G6 (one r1P) (ab5 x)
noncomputable def sb7 (x : List Int) : Bool := okO (one r1P) (ab5 x)
noncomputable def wc7 : Sum := ba5 (T5 tI) (fun x => .guard (sb7 x) (.ret ((one r1P).enc (wc6 x), [])))
theorem fd9 : f6 prog G 35 wc7 := ua0 (bd b35 Tc6) (one r1P) (o := ab5) fun x => p7 (by kernel_rfl)
noncomputable def gd0 : List (Nat × Sum) := [(187, cc6)]
theorem Tc7 : i7 prog G gd0 := ⟨wc4, trivial⟩
noncomputable def sb8 (x : Pln) : Pln := let t1 := (Ca7 (⟨0, 0, 0⟩ : V3) x.n); (⟨t1, (W (0 - x.b))⟩ : Pln)
noncomputable def Nb7 : Sum := ba5 (P7 tP) (fun x => .ret ((one r1P).enc (sb8 x), []))
theorem gc2 : f6 prog G 119 Nb7 := Rb5 (bd ye1 Tc7) fun x => p7 (by kernel_rfl)
noncomputable def gd1 : List (Nat × Sum) := [(86, Bb0), (109, Vb7), (130, Fb7)]
theorem Tc8 : i7 prog G gd1 := ⟨Tb6, cc7, Mb3, trivial⟩
noncomputable def ab6 (x : Pln) (y : V3) : Option (b7 × List b8) := let t1 := (Na3 x); let t2 := (Pa3 y); let t3 := (Ba9 x.n y); (sl (Na4 x) (sl (!t1) (some ((i 0), [])) (sl (Pa4 y) (sl (!t2) (some ((i 0), [])) (sl (decide ((W (t3 - x.b)) < 0)) (some ((i (-1)), [])) (sl (decide ((W (t3 - x.b)) > 0)) (some ((i 1), [])) (some ((i 0), []))))) none)) none)
noncomputable def sb9 (x : Pln) (y : V3) : Int := G6 (one r1I) (ab6 x y)
noncomputable def tb0 (x : Pln) (y : V3) : Bool := okO (one r1I) (ab6 x y)
noncomputable def Nb8 : Sum := ga8 (P7 tP) (P7 tV) (fun x y => .guard (tb0 x y) (.ret ((one r1I).enc (sb9 x y), [])))
theorem gc3 : f6 prog G 194 Nb8 := cb4 (bd Ae8 Tc8) (one r1I) (o := ab6) fun x y => p7 (by kernel_rfl)
noncomputable def Cb3 : List (Nat × Sum) := []
theorem kc2 : i7 prog G Cb3 := trivial
structure ma2 where
 g7 : Int
 c7 : Int
 g8 : Int
 d8 : Int
 E2 : Int
 E3 : Int
 E4 : Int
 E5 : Int
structure N5 where
 is7 : Int
noncomputable def cc8 (p : ma2) (s : N5) : St := ⟨(ra 5 ((.ptr 0 0 0 0) :: ((.ptr 1 0 0 0) :: ((i s.is7) :: (ra 42 []))))), [⟨0, 4, [[(i p.g7), (i p.c7), (i p.g8), (i p.d8)]], true, false, 0⟩, ⟨0, 4, [[(i p.E2), (i p.E3), (i p.E4), (i p.E5)]], true, false, 0⟩]⟩
noncomputable def ea3 {α : Type} (k : N5 → α) (e : Nat → α) (z : α) (p : ma2) (s : N5) : α := (sl (decide (s.is7 < 4)) (sl (inB s.is7 4) (sl ((Nat.ble ((0 + (s.is7.toNat * 1)) + 1) 4) && (J5 [(CK.int .i64)] (e7 [(i p.g7), (i p.c7), (i p.g8), (i p.d8)] (0 + (s.is7.toNat * 1))))) (sl (inB s.is7 4) (sl ((Nat.ble ((0 + (s.is7.toNat * 1)) + 1) 4) && (J5 [(CK.int .i64)] (e7 [(i p.E2), (i p.E3), (i p.E4), (i p.E5)] (0 + (s.is7.toNat * 1))))) (sl (decide ((toI (hdA (e7 [(i p.g7), (i p.c7), (i p.g8), (i p.d8)] (0 + (s.is7.toNat * 1))))) < (toI (hdA (e7 [(i p.E2), (i p.E3), (i p.E4), (i p.E5)] (0 + (s.is7.toNat * 1))))))) (e 1) (sl (inB s.is7 4) (sl ((Nat.ble ((0 + (s.is7.toNat * 1)) + 1) 4) && (J5 [(CK.int .i64)] (e7 [(i p.g7), (i p.c7), (i p.g8), (i p.d8)] (0 + (s.is7.toNat * 1))))) (sl (inB s.is7 4) (sl ((Nat.ble ((0 + (s.is7.toNat * 1)) + 1) 4) && (J5 [(CK.int .i64)] (e7 [(i p.E2), (i p.E3), (i p.E4), (i p.E5)] (0 + (s.is7.toNat * 1))))) (sl (decide ((toI (hdA (e7 [(i p.g7), (i p.c7), (i p.g8), (i p.d8)] (0 + (s.is7.toNat * 1))))) > (toI (hdA (e7 [(i p.E2), (i p.E3), (i p.E4), (i p.E5)] (0 + (s.is7.toNat * 1))))))) (e 2) (k ⟨(W (s.is7 + 1))⟩)) z) z) z) z)) z) z) z) z) (e 3))
noncomputable def Z0 (p : ma2) (s : N5) : Stp N5 := ea3 .next .exit .fail p s
noncomputable def Ta0 : Lo ma2 N5 := ⟨En Cb3, 0, ae8, [1, 1, 1, 0, 1, 4, 4], [5, 6, 7], .p, [⟨(ru2 5 ((.s (.o (.ptr 0 0 0 0))) :: ((.s (.o (.ptr 1 0 0 0))) :: ((.s (.o (.int .i64))) :: (ru2 42 []))))), [⟨0, 4, true, (some [[(.o (.int .i64)), (.o (.int .i64)), (.o (.int .i64)), (.o (.int .i64))]])⟩, ⟨0, 4, true, (some [[(.o (.int .i64)), (.o (.int .i64)), (.o (.int .i64)), (.o (.int .i64))]])⟩], fun a H => (⟨(toI (slT (rwT (elT H 0) 0) 0)), (toI (slT (rwT (elT H 0) 0) 1)), (toI (slT (rwT (elT H 0) 0) 2)), (toI (slT (rwT (elT H 0) 0) 3)), (toI (slT (rwT (elT H 1) 0) 0)), (toI (slT (rwT (elT H 1) 0) 1)), (toI (slT (rwT (elT H 1) 0) 2)), (toI (slT (rwT (elT H 1) 0) 3))⟩, ⟨(toI (slT a 7))⟩)⟩], Z0, [(none, fun p s => ⟨[(i (-1))], []⟩), (none, fun p s => ⟨[(i 1)], []⟩), (some 0, fun p s => ⟨(ra 5 ((.ptr 0 0 0 0) :: ((.ptr 1 0 0 0) :: ((i s.is7) :: (ra 24 ((i s.is7) :: ((b (decide (s.is7 < 4))) :: (ra 16 [])))))))), [⟨0, 4, [[(i p.g7), (i p.c7), (i p.g8), (i p.d8)]], true, false, 0⟩, ⟨0, 4, [[(i p.E2), (i p.E3), (i p.E4), (i p.E5)]], true, false, 0⟩]⟩)], cc8⟩
theorem cc9 : Ta0.Ok := Lo.ok [] (by kernel_rfl) .nil rfl (.cons (fun a H => by kernel_rfl) .nil) fun p s => (.of @ea3 (fun F _ _ _ _ _ => by unfold ea3; (repeat' apply k9 (f := F)) <;> rfl) (by kernel_rfl))
noncomputable def ya2 (x : Pln) (y : Pln) : Option (b7 × List b8) := let t1 := (lp (Z0 (⟨x.n.x, x.n.y, x.n.z, x.b, y.n.x, y.n.y, y.n.z, y.b⟩ : ma2)) (⟨0⟩ : N5)); (sl (Nat.beq t1.1 1) (some ((i (-1)), [])) (sl (Nat.beq t1.1 2) (some ((i 1), [])) (sl (Nat.beq t1.1 3) (some ((i 0), [])) none)))
noncomputable def ya3 (x : Pln) (y : Pln) : Int := G6 (one r1I) (ya2 x y)
noncomputable def kb1 (x : Pln) (y : Pln) : Bool := okO (one r1I) (ya2 x y)
noncomputable def Jb8 : Sum := ga8 (P7 tP) (P7 tP) (fun x y => .guard (kb1 x y) (.ret ((one r1I).enc (ya3 x y), [])))
theorem wc8 : f6 prog G 180 Jb8 := cb4 (bd Ae1 kc2) (one r1I) (o := ya2) fun x y => wa0 (.s .p (.s .p (.s .p (.s (.s .p (.b (.u Ta0.ls))) .p)))) [Ta0.pr] (by kernel_rfl) (.cons cc9 .nil) (by kernel_rfl)
noncomputable def qd2 : List (Nat × Sum) := [(47, Wa8)]
theorem gd2 : i7 prog G qd2 := ⟨Za4, trivial⟩
noncomputable def nb9 (x : Pln) (y : V3) : Option (b7 × List b8) := let t1 := (ha4 y.z 9); let t2 := (ha4 y.x 5); (sl (ca3 y.z 9) (sl (inB t1 9) (sl ((Nat.ble 1 (len (i5 [[(i y.y)], [(i 0)], [(i 4608)], [(i 4609)], [(i (-4609))], [(i (W (2 * x.n.x)))], [(i 2097152)], [(i 2097153)], [(i (-2097152))]] (0 + t1.toNat)))) && (J5 [(CK.int .i64)] (i5 [[(i y.y)], [(i 0)], [(i 4608)], [(i 4609)], [(i (-4609))], [(i (W (2 * x.n.x)))], [(i 2097152)], [(i 2097153)], [(i (-2097152))]] (0 + t1.toNat)))) (sl (ca3 y.x 5) (sl (t2 == 0) (some ((.agg [(i (toI (hdA (i5 [[(i y.y)], [(i 0)], [(i 4608)], [(i 4609)], [(i (-4609))], [(i (W (2 * x.n.x)))], [(i 2097152)], [(i 2097153)], [(i (-2097152))]] (0 + t1.toNat))))), (i x.n.y), (i x.n.z), (i x.b)]), [])) (sl (t2 == 1) (some ((.agg [(i x.n.x), (i (toI (hdA (i5 [[(i y.y)], [(i 0)], [(i 4608)], [(i 4609)], [(i (-4609))], [(i (W (2 * x.n.x)))], [(i 2097152)], [(i 2097153)], [(i (-2097152))]] (0 + t1.toNat))))), (i x.n.z), (i x.b)]), [])) (sl (t2 == 2) (some ((.agg [(i x.n.x), (i x.n.y), (i (toI (hdA (i5 [[(i y.y)], [(i 0)], [(i 4608)], [(i 4609)], [(i (-4609))], [(i (W (2 * x.n.x)))], [(i 2097152)], [(i 2097153)], [(i (-2097152))]] (0 + t1.toNat))))), (i x.b)]), [])) (sl (t2 == 3) (some ((.agg [(i x.n.x), (i x.n.y), (i x.n.z), (i (toI (hdA (i5 [[(i y.y)], [(i 0)], [(i 4608)], [(i 4609)], [(i (-4609))], [(i (W (2 * x.n.x)))], [(i 2097152)], [(i 2097153)], [(i (-2097152))]] (0 + t1.toNat)))))]), [])) (sl (t2 == 4) (some ((.agg [(i (W (2 * x.n.x))), (i (W (2 * x.n.y))), (i (W (2 * x.n.z))), (i x.b)]), [])) (some ((.agg [(i x.n.x), (i x.n.y), (i x.n.z), (i x.b)]), []))))))) none) none) none) none)
noncomputable def Lc1 (x : Pln) (y : V3) : Pln := G6 (one r1P) (nb9 x y)
noncomputable def dc0 (x : Pln) (y : V3) : Bool := okO (one r1P) (nb9 x y)
noncomputable def Lc2 : Sum := ga8 (P7 tP) (P7 tV) (fun x y => .guard (dc0 x y) (.ret ((one r1P).enc (Lc1 x y), [])))
theorem qd3 : f6 prog G 118 Lc2 := cb4 (bd ye0 gd2) (one r1P) (o := nb9) fun x y => p7 (by kernel_rfl)
end Go.Ev.Ce
end
