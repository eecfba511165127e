/- Own work: a part of the proof. -/
import Derived.Test.YtlccibobknidjaaGreatEvE3
import Derived.Test.YtlccibobknidjaaGreatEvE1
import Derived.Test.YtlccibobknidjaaGreatEvD2
set_option linter.unusedVariables false
set_option linter.unusedSimpArgs false
set_option linter.unnecessarySimpa false
set_option linter.unusedSectionVars false
namespace Go.Ev.Ce
open Go Go.Ev Go.Ev.L Go.Proofs
noncomputable def slP (l : List Pln) : b7 × List b8 := (.sl 0 0 l.length 0, [⟨50, 4, bL tP l, true, false, 0⟩])
theorem Ob1 (l : List Pln) : (one (r1L tP)).rd (slP l) = some l := by
 show Bool.rec (motive := fun _ => Option (List Pln)) none (some (slR tP (bL tP l) 0 l.length)) (Bool.and true (okS tP (bL tP l) 0 l.length)) = _
 rw [zb0, zb1]
 rfl
theorem wd4 {α : Type} (t : Ty α) (l : List α) : (one (r1L t)).rd (eL t l, []) = some l := by
 show Bool.rec (motive := fun _ => Option (List α)) none (some (rt t l)) (Bool.and (Nat.beq t.es t.es) (okE t l)) = _
 rw [l9, G3, Nat.beq_refl]
 rfl
noncomputable def ws : List Pln := [⟨⟨1, 0, 0⟩, 24⟩, ⟨⟨-1, 0, 0⟩, 24⟩, ⟨⟨0, 1, 0⟩, 24⟩, ⟨⟨0, -1, 0⟩, 24⟩, ⟨⟨0, 0, 1⟩, 24⟩, ⟨⟨0, 0, -1⟩, 24⟩]
theorem de5 : Bds ws := by
 intro p hp
 have : okp p = true := by
  have h : ws.all okp = true := by decide
  exact List.all_eq_true.1 h p hp
 exact Tc8 this
noncomputable def Md3 (lo hi : V3) : List Pln := [⟨⟨1, 0, 0⟩, hi.x⟩, ⟨⟨-1, 0, 0⟩, W (0 - lo.x)⟩, ⟨⟨0, 1, 0⟩, hi.y⟩, ⟨⟨0, -1, 0⟩, W (0 - lo.y)⟩, ⟨⟨0, 0, 1⟩, hi.z⟩, ⟨⟨0, 0, -1⟩, W (0 - lo.z)⟩]
theorem Md4 (lo hi : V3) : Fb8 lo hi = some (slP (Md3 lo hi)) := rfl
theorem de6 (lo hi : V3) : mb8 lo hi = Md3 lo hi := by unfold mb8; rw [Md4]; exact va8 _ (Ob1 _)
theorem de7 (lo hi : V3) : Ya0 lo hi = true := by unfold Ya0; rw [Md4]; exact Ha3 _ (Ob1 _)
theorem je8 : Md3 ⟨-24, -24, -24⟩ ⟨24, 24, 24⟩ = ws := by
 simp only [Md3, ws]
 rw [show W (0 - -24) = 24 from by rw [Bd8]; rfl]
theorem wd5 {l : List Pln} : Nat.beq (len (bL tP l)) 0 = l.isEmpty := by rw [I5]; cases l <;> rfl
theorem Md5 (c : List Pln) (hc : c.length ≤ 1000000000) : mb9 c = some (slP (c ++ ws)) := by
 unfold mb9
 simp only [Na2, de6, de7, je8, wd5]
 have h6 : (0 + len (bL tP c)) = c.length := by rw [I5]; omega
 have hw : len (bL tP ws) = 6 := rfl
 rw [h6, hw]
 have e1 : Nat.ble (c.length * 32) room = true := ba6 (by omega)
 have e2 : Nat.ble ((c.length + 6) * 32) room = true := ba6 (by omega)
 have e3 : app (app [] (bL tP c)) (bL tP ws) = bL tP (c ++ ws) := Ba9 tP c ws
 have e4 : Nat.beq c.length (len (app [] (bL tP c))) = true := by
  rw [show app [] (bL tP c) = bL tP c from rfl, I5, Nat.beq_refl]
 rw [e1, e2, e3, e4]
 cases c with
 | nil => rfl
 | cons p c =>
  show some (b7.sl 0 0 ((p :: c).length + 6) 0, [(⟨50, 4, bL tP (p :: c ++ ws), true, false, 0⟩ : b8)]) = _
  unfold slP
  rw [List.length_append]
  rfl
theorem Mc3 (c : List Pln) (hc : c.length ≤ 1000000000) : va3 c = c ++ ws := by unfold va3; rw [Md5 c hc]; exact va8 _ (Ob1 _)
theorem Mc4 (c : List Pln) (hc : c.length ≤ 1000000000) : va4 c = true := by unfold va4; rw [Md5 c hc]; exact Ha3 _ (Ob1 _)
theorem Md6 {l : List (List Pln)} {j : Nat} (h : j < l.length) : gL (tLs tP) l j = l[j] := Na3 (tLs tP) h
theorem Md7 (ls : List (List Pln)) (hn : ls.length ≤ 1000000000) (hl : ls.flatten.length ≤ 1000000000) : ∃ m, lp (D2 ⟨ls, ls, (ls.length : Int)⟩) ⟨0, 0⟩ = (1, ⟨(ls.flatten.length : Int), m⟩) := by
 have h := Ha2 (step := D2 ⟨ls, ls, (ls.length : Int)⟩) (mk := fun j (n : Nat) => (⟨(n : Int), (j : Int)⟩ : p7)) (f := fun l _ n => n + l.length) (g := fun l n => n + l.flatten.length) (fin := fun _ => 1) ls
  (fun j n => n + (ls.drop j).flatten.length = ls.flatten.length) hn (fun _ => rfl) (fun x r a => by simp only [List.flatten_cons, List.length_append]; omega)
  (fun j n hj hi => by
   rw [List.drop_eq_getElem_cons hj, List.flatten_cons, List.length_append] at hi
   have hW : W ((n : Int) + (ls[j].length : Int)) = ((n + ls[j].length : Nat) : Int) := by rw [Ca0 (by omega) (by omega)]; omega
   refine ⟨?_, by show n + ls[j].length + (ls.drop (j + 1)).flatten.length = _; omega⟩
   simp only [D2, H4, Int.toNat_natCast, Md6 hj, hW, p6 hj (by omega)]
   rw [btD (o5 hj), bt (f9 hj), bfD (by omega)])
  (fun j n hj _ => by
   simp only [D2, H4]
   rw [bfD (by omega)]) 0 0 (by simp)
 have h := h.1
 rw [List.drop_zero, Nat.zero_add] at h
 exact ⟨_, h⟩
theorem Md8 {ls : List (List Pln)} (h : ls.flatten = []) {j : Nat} (hj : j < ls.length) : ls[j] = [] := by
 rw [List.flatten_eq_nil_iff] at h
 exact h _ (List.getElem_mem hj)
theorem Wd9 (ls : List (List Pln)) (hn : ls.length ≤ 1000000000) (hl : ls.flatten = []) : ∃ s, lp (y9 ⟨ls, (ls.length : Int)⟩) ⟨0, 0, 0, []⟩ = (1, s) := by
 have h := Ha2 (step := y9 ⟨ls, (ls.length : Int)⟩) (mk := fun j (_ : Unit) => (⟨0, (j : Int), 0, []⟩ : k8)) (f := fun _ _ n => n) (g := fun _ n => n) (fin := fun _ => 1) ls
  (fun _ _ => True) hn (fun _ => rfl) (fun x r a => rfl)
  (fun j n hj hi => by
   refine ⟨?_, trivial⟩
   show v8 Stp.next Stp.exit Stp.fail _ _ = _
   simp only [v8, Int.toNat_natCast, Md6 hj, Md8 hl hj, p6 hj (by omega)]
   rw [btD (o5 hj), bt (f9 hj)]
   rfl)
  (fun j n hj _ => by
   show v8 Stp.next Stp.exit Stp.fail _ _ = _
   simp only [v8]
   rw [bfD (by omega)]) 0 () trivial
 exact ⟨_, h.1⟩
noncomputable def kb7 (t : Nat) (d : List Pln) : List (List b7) := app (bL tP d) (List.replicate (t - d.length) Tc4)
theorem Md9 (t : Nat) (d : List Pln) (h : d.length ≤ t) : len (kb7 t d) = t := by
 unfold kb7
 rw [C0, l6, List.length_append, ← l6, I5, List.length_replicate]
 omega
theorem Nd0 (t : Nat) (d l : List Pln) (h : d.length + l.length ≤ t) : app (D6 (kb7 t d) d.length) (app (bL tP l) (d8 (kb7 t d) (d.length + len (bL tP l)))) = kb7 t (d ++ l) := by
 have hd : (bL tP d).length = d.length := by rw [← l6, I5]
 unfold kb7
 rw [I5, ← Ba9]
 simp only [C0, B8, B9]
 rw [List.take_left' hd, List.append_assoc]
 congr 2
 rw [List.drop_append, List.drop_eq_nil_of_le (by omega), List.nil_append, hd, List.drop_replicate, List.length_append]
 congr 1
 omega
theorem Nd1 (ls : List (List Pln)) (hn : ls.length ≤ 1000000000) : ∃ m, lp (y9 ⟨ls, (ls.length : Int)⟩) ⟨1, 0, 0, List.replicate ls.flatten.length Tc4⟩ = (2, ⟨1, m, ls.flatten.length, bL tP ls.flatten⟩) := by
 have h := Ha2 (step := y9 ⟨ls, (ls.length : Int)⟩) (mk := fun j (d : List Pln) => (⟨1, (j : Int), d.length, kb7 ls.flatten.length d⟩ : k8)) (f := fun l _ d => d ++ l) (g := fun l d => d ++ l.flatten) (fin := fun _ => 2) ls
  (fun j d => d.length + (ls.drop j).flatten.length = ls.flatten.length) hn (fun _ => by simp) (fun x r a => by simp)
  (fun j d hj hi => by
   rw [List.drop_eq_getElem_cons hj, List.flatten_cons, List.length_append] at hi
   refine ⟨?_, by show (d ++ ls[j]).length + (ls.drop (j + 1)).flatten.length = _; rw [List.length_append]; omega⟩
   show v9 Stp.next Stp.exit Stp.fail _ _ = _
   simp only [v9, Int.toNat_natCast, Md6 hj, p6 hj (by omega), Na2]
   rw [Nd0 _ _ _ (by omega), Md9 _ _ (by omega), I5, btD (o5 hj), bt (f9 hj), bt (by rw [Nat.ble_eq]; omega), List.length_append])
  (fun j d hj _ => by
   show v9 Stp.next Stp.exit Stp.fail _ _ = _
   simp only [v9]
   rw [bfD (by omega)]) 0 [] (by simp)
 have h := h.1
 rw [List.drop_zero, List.nil_append] at h
 have e : kb7 ls.flatten.length ls.flatten = bL tP ls.flatten := by unfold kb7; rw [Nat.sub_self, C0]; simp
 rw [e] at h
 exact ⟨_, h⟩
theorem de8 (ls : List (List Pln)) (hn : ls.length ≤ 1000000000) (hl : ls.flatten.length ≤ 1000000000) : nb6 ls = some (slP (ls.flatten ++ ws)) := by
 have hc : ba9 ls = if ls.flatten = [] then ⟨1, 0, []⟩ else ⟨2, ls.flatten.length, bL tP ls.flatten⟩ := by
  unfold ba9 H9
  simp only [l9, o2]
  obtain ⟨m, hm⟩ := Md7 ls hn hl
  rw [hm]
  by_cases h0 : ls.flatten = []
  ·obtain ⟨s, hs⟩ := Wd9 ls hn h0
   rw [if_pos h0, hs]
   rw [show (⟨(ls.flatten.length : Int), m⟩ : p7) = ⟨0, m⟩ by rw [h0]; rfl]
   rfl
  ·obtain ⟨m', hm'⟩ := Nd1 ls hn
   rw [if_neg h0]
   simp only [Int.toNat_natCast]
   rw [hm']
   have h1 : 0 < ls.flatten.length := List.length_pos_iff.2 h0
   have e1 : ((ls.flatten.length : Int) == 0) = false := by rw [beq_eq_false_iff_ne]; omega
   have e2 : Bool.and (decide ((0 : Int) < (ls.flatten.length : Int))) (Nat.ble (ls.flatten.length * 32) room) = true := by
    rw [ba6 (by omega), decide_eq_true (by omega)]
    rfl
   rw [e1, e2]
   rfl
 unfold nb6
 simp only [l9, G3, hc]
 by_cases h0 : ls.flatten = []
 ·rw [if_pos h0, h0]; rfl
 ·rw [if_neg h0]
  generalize ls.flatten = c at *
  have e : ∀ (d : List Pln) (p : Pln), app (bL tP d) [[i p.n.x, i p.n.y, i p.n.z, i p.b]] = bL tP (d ++ [p]) := fun d p => Ba9 tP d [p]
  have c1 := e c ⟨⟨1, 0, 0⟩, 24⟩
  have c2 := e (c ++ [⟨⟨1, 0, 0⟩, 24⟩]) ⟨⟨-1, 0, 0⟩, 24⟩
  have c3 := e (c ++ [⟨⟨1, 0, 0⟩, 24⟩] ++ [⟨⟨-1, 0, 0⟩, 24⟩]) ⟨⟨0, 1, 0⟩, 24⟩
  have c4 := e (c ++ [⟨⟨1, 0, 0⟩, 24⟩] ++ [⟨⟨-1, 0, 0⟩, 24⟩] ++ [⟨⟨0, 1, 0⟩, 24⟩]) ⟨⟨0, -1, 0⟩, 24⟩
  have c5 := e (c ++ [⟨⟨1, 0, 0⟩, 24⟩] ++ [⟨⟨-1, 0, 0⟩, 24⟩] ++ [⟨⟨0, 1, 0⟩, 24⟩] ++ [⟨⟨0, -1, 0⟩, 24⟩]) ⟨⟨0, 0, 1⟩, 24⟩
  have c6 := e (c ++ [⟨⟨1, 0, 0⟩, 24⟩] ++ [⟨⟨-1, 0, 0⟩, 24⟩] ++ [⟨⟨0, 1, 0⟩, 24⟩] ++ [⟨⟨0, -1, 0⟩, 24⟩] ++ [⟨⟨0, 0, 1⟩, 24⟩]) ⟨⟨0, 0, -1⟩, 24⟩
  simp only at c1 c2 c3 c4 c5 c6
  simp only [c1, c2, c3, c4, c5, c6, I5, List.length_append, List.length_singleton]
  have g : ∀ n : Nat, n ≤ 1000000010 → (Nat.beq n n && Nat.ble ((n + 1) * 32) room) = true := fun n h => by rw [Nat.beq_refl, ba6 (by omega)]; rfl
  rw [g _ (by omega), g _ (by omega), g _ (by omega), g _ (by omega), g _ (by omega), g _ (by omega)]
  show some (b7.sl 0 0 (c.length + 1 + 1 + 1 + 1 + 1 + 1) 0, [(⟨50, 4, bL tP _, true, false, 0⟩ : b8)]) = _
  unfold slP
  rw [List.length_append]
  simp only [List.append_assoc]
  rfl
theorem se5 (ls : List (List Pln)) (hn : ls.length ≤ 1000000000) (hl : ls.flatten.length ≤ 1000000000) : La0 ls = ls.flatten ++ ws := by unfold La0; rw [de8 ls hn hl]; exact va8 _ (Ob1 _)
theorem se6 (ls : List (List Pln)) (hn : ls.length ≤ 1000000000) (hl : ls.flatten.length ≤ 1000000000) : La1 ls = true := by unfold La1; rw [de8 ls hn hl]; exact Ha3 _ (Ob1 _)
theorem de9 (c : List Pln) (hc : c.length ≤ 1000000000) : La0 [c] = c ++ ws := by
 have : [c].flatten = c := by simp
 rw [se5 [c] (by simp) (by rw [this]; exact hc), this]
theorem ee0 (c : List Pln) (hc : c.length ≤ 1000000000) : La1 [c] = true := by
 have : [c].flatten = c := by simp
 exact se6 [c] (by simp) (by rw [this]; exact hc)
theorem Mc5 (ls : List (List Pln)) (hn : ls.length ≤ 1000000000) (hl : ∀ c ∈ ls, c.length ≤ 1000000000) : Ga7 ls = some (b (ls.all fun c => chk c == 0), []) := by
 have hv : ∀ c ∈ ls, Ga5 c = !(chk c == 0) ∧ Ga6 c = true := fun c hc => by
  have : sa9 c = some (b (!(chk c == 0)), []) := by
   unfold sa9
   simp only [l9, G3, wd0 c (hl c hc), wd1 c (hl c hc)]
   rfl
  unfold Ga5 Ga6
  rw [this]
  exact ⟨rfl, rfl⟩
 have h := hb6 (step := C6 ⟨ls, (ls.length : Int)⟩) (mk := fun j => (⟨(j : Int)⟩ : n7)) (c := fun c => !(chk c == 0)) (u := 1) (fin := 2) (tLs tP) ls hn
  (fun j hj => by
   have hm := hv _ (sc8 (tLs tP) hj)
   simp only [C6, A4, Int.toNat_natCast, l9, G3, hm.1, hm.2, p6 hj (by omega)]
   rw [btD (o5 hj), bt (f9 hj), o8, o8])
  (by simp only [C6, A4]; rw [bfD (W6 (Nat.lt_irrefl _))]) 0 (Nat.zero_le _)
 rw [List.drop_zero] at h
 have e : (ls.any fun c => !(chk c == 0)) = !ls.all fun c => chk c == 0 := by rw [List.not_all_eq_any_not]
 unfold Ga7 U9 w7 ca1 B1
 simp only [l9, o2]
 rw [show (⟨0⟩ : n7) = ⟨((0 : Nat) : Int)⟩ from rfl, h, e]
 cases ls.all fun c => chk c == 0 with
 | true => rfl
 | false =>
  simp only [Bool.not_false, if_true, Nat.zero_add]
  show sl true (sl (Nat.beq 1 1) (some (b (!(decide (((ls.findIdx fun c => !(chk c == 0) : Nat) : Int) ≥ 0))), [])) _) _ = _
  rw [show decide (((ls.findIdx fun c => !(chk c == 0) : Nat) : Int) ≥ 0) = true from decide_eq_true (by omega)]
  rfl
theorem gd3 (ls : List (List Pln)) (hn : ls.length ≤ 1000000000) (hl : ∀ c ∈ ls, c.length ≤ 1000000000) : X4 ls = ls.all fun c => chk c == 0 := by unfold X4; rw [Mc5 ls hn hl]; rfl
theorem gd4 (ls : List (List Pln)) (hn : ls.length ≤ 1000000000) (hl : ∀ c ∈ ls, c.length ≤ 1000000000) : X5 ls = true := by unfold X5; rw [Mc5 ls hn hl]; rfl
theorem Wb1 (c : List Pln) (hc : c.length ≤ 1000000000) : X4 [c] = (chk c == 0) := by
 rw [gd3 [c] (by simp) (by simpa using hc)]
 simp
theorem Wb2 (c : List Pln) (hc : c.length ≤ 1000000000) : X5 [c] = true := gd4 [c] (by simp) (by simpa using hc)
noncomputable def pos (X : List Pt) (p : Pln) : Bool := X.any fun x => decide (rm p x > 0)
noncomputable def gd5 (r : List Pln) : Bool := r.all (pos (cor r))
theorem Nd2 (p : Pln) (X : List Pt) (hX : X.length ≤ 1000000000) : ea3 ⟨p.n.x, p.n.y, p.n.z, p.b, X⟩ = ⟨1, !pos X p⟩ := by
 have hw : ∀ x : Pt, la5 ⟨x.px, x.py, x.pz, x.pw, p.n.x, p.n.y, p.n.z, p.b⟩ = ⟨decide (rm p x > 0)⟩ := fun x => by
  show N3.mk (decide (ka6 p x > 0)) = _
  rw [Tc6]
 have h := hb6 (step := E5 ⟨X, (X.length : Int), p.n.x, p.n.y, p.n.z, p.b⟩) (mk := fun j => (⟨(j : Int)⟩ : o4)) (c := fun x => decide (rm p x > 0)) (u := 1) (fin := 2) tX X hX
  (fun j hj => by
   simp only [E5, C7, Int.toNat_natCast, hw, p6 hj (by omega)]
   rw [btD (o5 hj), bt (f9 hj)])
  (by simp only [E5, C7]; rw [bfD (W6 (Nat.lt_irrefl _))]) 0 (Nat.zero_le _)
 rw [List.drop_zero] at h
 unfold ea3 K8 X7 z5 fa9 D3 pos
 simp only [l9, o2]
 rw [show (⟨0⟩ : o4) = ⟨((0 : Nat) : Int)⟩ from rfl, h]
 cases X.any fun x => decide (rm p x > 0) with
 | false => rfl
 | true =>
  simp only [if_true, Nat.zero_add]
  show T4.mk 1 (!(decide (((X.findIdx fun x => decide (rm p x > 0) : Nat) : Int) ≥ 0))) = _
  rw [show decide (((X.findIdx fun x => decide (rm p x > 0) : Nat) : Int) ≥ 0) = true from decide_eq_true (by omega)]
theorem wd6 (r : List Pln) (hb : Bds r) (hr : r.length ≤ 200) : aa6 r = some (b (gd5 r), []) := by
 have hX : (cor r).length ≤ 1000000000 := Nat.le_trans (Uc1 r hb hr) (by omega)
 have h := hb6 (step := C8 ⟨r, (r.length : Int)⟩) (mk := fun j => (⟨(j : Int), cor r⟩ : n8)) (c := fun p => !pos (cor r) p) (u := 1) (fin := 2) tP r (by omega)
  (fun j hj => by
   simp only [C8, A5, Int.toNat_natCast, l9, o2, Nd2 _ _ hX, p6 hj (by omega)]
   rw [btD (o5 hj), bt (f9 hj)]
   rfl)
  (by simp only [C8, A5]; rw [bfD (W6 (Nat.lt_irrefl _))]) 0 (Nat.zero_le _)
 rw [List.drop_zero] at h
 have e : (r.any fun p => !pos (cor r) p) = !r.all (pos (cor r)) := by rw [List.not_all_eq_any_not]
 unfold aa6 V1 w8 ca3 B3 gd5
 simp only [l9, o2, G3, Mc1 r hb hr, Mc2 r hb hr]
 rw [show (⟨0, cor r⟩ : n8) = ⟨((0 : Nat) : Int), cor r⟩ from rfl, h, e]
 cases r.all (pos (cor r)) with
 | true => rfl
 | false =>
  simp only [Bool.not_false, if_true, Nat.zero_add]
  show some (b (!(decide (((r.findIdx fun p => !pos (cor r) p : Nat) : Int) ≥ 0))), []) = _
  rw [show decide (((r.findIdx fun p => !pos (cor r) p : Nat) : Int) ≥ 0) = true from decide_eq_true (by omega)]
  rfl
theorem Nd3 (r : List Pln) (hb : Bds r) (hr : r.length ≤ 200) : aa7 r = gd5 r := by unfold aa7; rw [wd6 r hb hr]; rfl
theorem Nd4 (r : List Pln) (hb : Bds r) (hr : r.length ≤ 200) : aa8 r = true := by unfold aa8; rw [wd6 r hb hr]; rfl
theorem qd9 (r : List Pln) (X : List Pt) (hr : r.length ≤ 200) (hX : X.length ≤ 1000000000) (a : Nat) (ha : a < r.length) : ∃ m, lp (oa2 ⟨r, X, (a : Int)⟩) ⟨false, 0⟩ = (1, ⟨pos X r[a], m⟩) := by
 have h := Sb3 (step := oa2 ⟨r, X, (a : Int)⟩) (mk := fun j (c : Bool) => (⟨c, (j : Int)⟩ : da7)) (f := fun c x => c || decide (rm r[a] x > 0)) (fin := 1) tX X (fun _ _ => True) hX
  (fun j c hj _ => ⟨by
   simp only [oa2, ra9, Int.toNat_natCast, vd7, p6 hj (by omega), Na3 tP ha, f9 ha, f9 hj]
   rw [btD (o5 hj)]
   cases c <;> rfl, trivial⟩)
  (fun c _ => by simp only [oa2, ra9]; rw [bfD (W6 (Nat.lt_irrefl _))]) 0 (Nat.zero_le _) false trivial
 have h := h.1
 rw [List.drop_zero] at h
 have e : ∀ (l : List Pt) (c : Bool), l.foldl (fun c x => c || decide (rm r[a] x > 0)) c = (c || l.any fun x => decide (rm r[a] x > 0)) := by
  intro l
  induction l with
  | nil => intro c; simp
  | cons x l ih => intro c; rw [List.foldl_cons, ih, List.any_cons, Bool.or_assoc]
 rw [e, Bool.false_or] at h
 exact ⟨_, h⟩
theorem wd7 (r : List Pln) (hb : Bds r) (hr : r.length ≤ 200) : ab7 r = some (b (gd5 r), []) := by
 have hX : (cor r).length ≤ 1000000000 := Nat.le_trans (Uc1 r hb hr) (by omega)
 have h := Za3 (step := ya3 ⟨⟩) (mk := fun j => (⟨r, cor r, (j : Int)⟩ : W9)) (c := fun p => !pos (cor r) p) (u := 1) (fin := 2) tP r (by omega)
  (fun j hj => by
   obtain ⟨m, hm⟩ := qd9 r (cor r) hr hX j hj
   simp only [ya3, sa0, l9, o2, hm, p6 hj (by omega), Na3 tP hj]
   rw [btD (o5 hj)]
   rfl)
  (by simp only [ya3, sa0]; rw [bfD (W6 (Nat.lt_irrefl _))]) 0 (Nat.zero_le _)
 rw [List.drop_zero] at h
 have e : (r.any fun p => !pos (cor r) p) = !r.all (pos (cor r)) := by rw [List.not_all_eq_any_not]
 unfold ab7 gd5
 simp only [l9, o2, G3, wc7 r hb hr, wc8 r hb hr]
 rw [show (⟨r, cor r, 0⟩ : W9) = ⟨r, cor r, ((0 : Nat) : Int)⟩ from rfl, h, e]
 cases r.all (pos (cor r)) <;> rfl
theorem xc1 (r : List Pln) (hb : Bds r) (hr : r.length ≤ 200) : sa1 r = gd5 r := by unfold sa1; rw [wd7 r hb hr]; rfl
theorem xc2 (r : List Pln) (hb : Bds r) (hr : r.length ≤ 200) : sa2 r = true := by unfold sa2; rw [wd7 r hb hr]; rfl
theorem sb1 {c : List Pln} (h : (chk c == 0) = true) : Bds (c ++ ws) ∧ (c ++ ws).length ≤ 200 := by
 rw [beq_iff_eq, fd9] at h
 refine ⟨fun p hp => ?_, by rw [List.length_append, show ws.length = 6 from rfl]; omega⟩
 rcases List.mem_append.1 hp with hp | hp
 ·exact Tc8 (h.2 p hp)
 ·exact de5 p hp
noncomputable def pts (c : List Pln) : List Pt := if chk c == 0 then cor (c ++ ws) else []
noncomputable def ful (c : List Pln) : Bool := (chk c == 0) && gd5 (c ++ ws)
theorem gd6 {c : List Pln} (hc : c.length ≤ 1000000000) : ∃ x, za0 c = some x ∧ (one (r1L tX)).rd x = some (pts c) := by
 unfold za0 pts
 simp only [l9, G3, Wb1 c hc, Wb2 c hc, de9 c hc, ee0 c hc]
 cases h : chk c == 0 with
 | false => exact ⟨_, rfl, rfl⟩
 | true =>
  obtain ⟨h1, h2⟩ := sb1 h
  rw [Mc1 _ h1 h2, Mc2 _ h1 h2]
  exact ⟨_, rfl, wd4 tX _⟩
theorem Cb0 {c : List Pln} (hc : c.length ≤ 1000000000) : Z4 c = pts c := by
 obtain ⟨x, h1, h2⟩ := gd6 hc
 unfold Z4; rw [h1]; exact va8 _ h2
theorem Cb1 {c : List Pln} (hc : c.length ≤ 1000000000) : Z5 c = true := by
 obtain ⟨x, h1, h2⟩ := gd6 hc
 unfold Z5; rw [h1]; exact Ha3 _ h2
theorem Mc6 {c : List Pln} (hc : c.length ≤ 1000000000) : ∃ x, Fa2 c = some x ∧ (one (r1L tX)).rd x = some (pts c) := by
 unfold Fa2 pts
 simp only [l9, G3, Bb8 c hc, Bb9 c hc, Mc3 c hc, Mc4 c hc]
 have e : (chk c != 0) = !(chk c == 0) := rfl
 rw [e]
 cases h : chk c == 0 with
 | false => exact ⟨_, rfl, rfl⟩
 | true =>
  obtain ⟨h1, h2⟩ := sb1 h
  rw [wc7 _ h1 h2, wc8 _ h1 h2]
  exact ⟨_, rfl, wd4 tX _⟩
theorem Dd9 {c : List Pln} (hc : c.length ≤ 1000000000) : Va6 c = pts c := by
 obtain ⟨x, h1, h2⟩ := Mc6 hc
 unfold Va6; rw [h1]; exact va8 _ h2
theorem Ed0 {c : List Pln} (hc : c.length ≤ 1000000000) : Va7 c = true := by
 obtain ⟨x, h1, h2⟩ := Mc6 hc
 unfold Va7; rw [h1]; exact Ha3 _ h2
theorem wd8 {c : List Pln} (hc : c.length ≤ 1000000000) : Pa4 c = some (b (ful c), []) := by
 unfold Pa4 ful
 simp only [l9, G3, Wb1 c hc, Wb2 c hc, de9 c hc, ee0 c hc]
 cases h : chk c == 0 with
 | false => rfl
 | true =>
  obtain ⟨h1, h2⟩ := sb1 h
  rw [Nd3 _ h1 h2, Nd4 _ h1 h2]
  rfl
theorem xc3 {c : List Pln} (hc : c.length ≤ 1000000000) : ka7 c = ful c := by unfold ka7; rw [wd8 hc]; rfl
theorem xc4 {c : List Pln} (hc : c.length ≤ 1000000000) : ka8 c = true := by unfold ka8; rw [wd8 hc]; rfl
theorem gd7 {c : List Pln} (hc : c.length ≤ 1000000000) : ab8 c = some (b (ful c), []) := by
 unfold ab8 ful
 simp only [l9, G3, Bb8 c hc, Bb9 c hc, Mc3 c hc, Mc4 c hc]
 cases h : chk c == 0 with
 | false => rfl
 | true =>
  obtain ⟨h1, h2⟩ := sb1 h
  rw [xc1 _ h1 h2, xc2 _ h1 h2]
  rfl
theorem Xd0 {c : List Pln} (hc : c.length ≤ 1000000000) : Ka4 c = ful c := by unfold Ka4; rw [gd7 hc]; rfl
theorem wd9 {c : List Pln} (hc : c.length ≤ 1000000000) : Ca2 c = true := by unfold Ca2; rw [gd7 hc]; rfl
end Go.Ev.Ce
section
namespace Go.Ev.Ce
open Go Go.Ev Go.Ev.L Go.Proofs
set_option maxRecDepth 100000
structure Aa7 where
 is1 : Int
 g7 : List Int
 c8 : Int
noncomputable def dc2 : List (Nat × Sum) := [(47, nb1)]
theorem Wb3 : j8 prog G dc2 := ⟨qb8, trivial⟩
structure Aa8 where
 alt : Nat
 is0 : Int
 c8 : Int
noncomputable def ca8 {α : Type} (kk : Aa8 → α) (x : Aa7) : α := let t1 := (oa3 (gL tI x.g7 (W ((W (x.c8 + 1)) - 1)).toNat) x.is1); (sl (decide (x.c8 ≥ (↑(List.length x.g7) : Int))) (kk ⟨1, 0, x.c8⟩) (sl (inB (W ((W (x.c8 + 1)) - 1)) (List.length x.g7)) (sl (ha8 (gL tI x.g7 (W ((W (x.c8 + 1)) - 1)).toNat) x.is1) (kk ⟨1, t1, (W (x.c8 + 1))⟩) (kk ⟨0, 0, 0⟩)) (kk ⟨0, 0, 0⟩)))
noncomputable def l5 (x : Aa7) : Aa8 := ca8 (fun r => r) x
noncomputable def La4 (x : Aa7) (r : Aa8) : DT (b7 × List b8) := (.ite (Nat.beq r.alt 1) (.ret ((i r.is0), [⟨0, 2, [[(eL tI x.g7), (i r.c8)]], true, false, 0⟩])) .fail)
theorem kc9 {α β : Type} (F : α → β) (kk : Aa8 → α) (x : Aa7) : F (ca8 kk x) = ca8 (fun r => F (kk r)) x := by unfold ca8; (repeat' apply m8 (f := F)) <;> rfl
noncomputable def na2 : Sum := Za2 ⟨[(.s (.o (.ptr 0 0 0 0))), (.s (.o (.int .i64)))], [⟨0, 2, true, (some [[(.c 1 (nL tI)), (.o (.int .i64))]])⟩], fun a H => (⟨(toI (slT a 1)), (rL tI (slT (rwT (elT H 0) 0) 0)), (toI (slT (rwT (elT H 0) 0) 1))⟩, ())⟩ (fun x => La4 x (l5 x))
theorem va9 : i5 prog G 98 na2 := O4 (enc := fun x => ⟨[(.ptr 0 0 0 0), (i x.is1)], [⟨0, 2, [[(eL tI x.g7), (i x.c8)]], true, false, 0⟩]⟩) (fun a H => by kernel_rfl) (bd b98 Wb3) fun x => r5 (Eq.trans (b := ca8 (fun r => (La4 x r).run) x) (by kernel_rfl) (kc9 (fun r => (La4 x r).run) (fun r => r) x).symm)
structure Gb1 where
 is1 : Int
 g7 : List Int
 c8 : Int
noncomputable def rd0 : List (Nat × Sum) := [(98, na2)]
theorem gd8 : j8 prog G rd0 := ⟨va9, trivial⟩
structure Gb2 where
 alt : Nat
 ja8 : Int
 ja9 : Int
 ka0 : Int
 g7 : List Int
 c8 : Int
noncomputable def Ya1 {α : Type} (kk : Gb2 → α) (x : Gb1) : α := let t1 := (l5 ⟨(W ((W (2 * x.is1)) + 1)), (rt tI x.g7), x.c8⟩); let t2 := (l5 ⟨(W ((W (2 * x.is1)) + 1)), (rt tI (rt tI x.g7)), t1.c8⟩); let t3 := (l5 ⟨(W ((W (2 * x.is1)) + 1)), (rt tI (rt tI (rt tI x.g7))), t2.c8⟩); (sl ((cnE tI x.g7) && true) (sl (Nat.beq t1.alt 1) (sl ((cnE tI (rt tI x.g7)) && true) (sl (Nat.beq t2.alt 1) (sl ((cnE tI (rt tI (rt tI x.g7))) && true) (sl (Nat.beq t3.alt 1) (kk ⟨1, (W (t1.is0 - x.is1)), (W (t2.is0 - x.is1)), (W (t3.is0 - x.is1)), (rt tI (rt tI (rt tI x.g7))), t3.c8⟩) (kk ⟨0, 0, 0, 0, [], 0⟩)) (kk ⟨0, 0, 0, 0, [], 0⟩)) (kk ⟨0, 0, 0, 0, [], 0⟩)) (kk ⟨0, 0, 0, 0, [], 0⟩)) (kk ⟨0, 0, 0, 0, [], 0⟩)) (kk ⟨0, 0, 0, 0, [], 0⟩))
noncomputable def La5 (x : Gb1) : Gb2 := Ya1 (fun r => r) x
noncomputable def Ob2 (x : Gb1) (r : Gb2) : DT (b7 × List b8) := (.ite (Nat.beq r.alt 1) (.ret ((.agg [(i r.ja8), (i r.ja9), (i r.ka0)]), [⟨0, 2, [[(eL tI r.g7), (i r.c8)]], true, false, 0⟩])) .fail)
theorem Ed1 {α β : Type} (F : α → β) (kk : Gb2 → α) (x : Gb1) : F (Ya1 kk x) = Ya1 (fun r => F (kk r)) x := by unfold Ya1; (repeat' apply m8 (f := F)) <;> rfl
noncomputable def dc3 : Sum := Za2 ⟨[(.s (.o (.ptr 0 0 0 0))), (.s (.o (.int .i64)))], [⟨0, 2, true, (some [[(.c 1 (nL tI)), (.o (.int .i64))]])⟩], fun a H => (⟨(toI (slT a 1)), (rL tI (slT (rwT (elT H 0) 0) 0)), (toI (slT (rwT (elT H 0) 0) 1))⟩, ())⟩ (fun x => Ob2 x (La5 x))
theorem xc5 : i5 prog G 97 dc3 := O4 (enc := fun x => ⟨[(.ptr 0 0 0 0), (i x.is1)], [⟨0, 2, [[(eL tI x.g7), (i x.c8)]], true, false, 0⟩]⟩) (fun a H => by kernel_rfl) (bd b97 gd8) fun x => r5 (Eq.trans (b := Ya1 (fun r => (Ob2 x r).run) x) (by kernel_rfl) (Ed1 (fun r => (Ob2 x r).run) (fun r => r) x).symm)
noncomputable def rd1 : List (Nat × Sum) := []
theorem gd9 : j8 prog G rd1 := trivial
noncomputable def Da4 (x : V3) (y : V3) : V3 := (⟨(W (x.x - y.x)), (W (x.y - y.y)), (W (x.z - y.z))⟩ : V3)
noncomputable def dc4 : Sum := ga9 (N8 tV) (N8 tV) (fun x y => .ret ((one r1V).enc (Da4 x y), []))
theorem xc6 : i5 prog G 187 dc4 := va1 (bd Ce4 gd9) fun x y => r5 (by kernel_rfl)
noncomputable def Ed2 : List (Nat × Sum) := [(166, va2)]
theorem rd2 : j8 prog G Ed2 := ⟨Fa1, trivial⟩
noncomputable def Cb2 (x : V3) : Option (b7 × List b8) := (sl (decide (x.x < (-24))) (some ((b false), [])) (sl (decide (x.x > 24)) (some ((b false), [])) (sl (decide (x.y < (-24))) (some ((b false), [])) (sl (decide (x.y > 24)) (some ((b false), [])) (sl (decide (x.z < (-24))) (some ((b false), [])) (sl (decide (x.z > 24)) (some ((b false), [])) (some ((b true), []))))))))
noncomputable def Pa7 (x : V3) : Bool := I6 (one r1B) (Cb2 x)
noncomputable def Pa8 (x : V3) : Bool := okO (one r1B) (Cb2 x)
noncomputable def Wb4 : Sum := da4 (N8 tV) (fun x => .guard (Pa8 x) (.ret ((one r1B).enc (Pa7 x), [])))
theorem dc5 : i5 prog G 109 Wb4 := xa0 (bd ze2 rd2) (one r1B) (o := Cb2) fun x => r5 (by kernel_rfl)
noncomputable def xc7 : List (Nat × Sum) := [(109, Wb4), (187, dc4), (186, Ab3), (167, Mb9), (130, Fb7)]
theorem lc0 : j8 prog G xc7 := ⟨dc5, xc6, Tb2, gc5, Mb6, trivial⟩
noncomputable def za2 (x : V3) (y : V3) (z : V3) : Option (b7 × List b8) := let t1 := (Pa7 x); let t2 := (Pa7 y); let t3 := (Pa7 z); let t4 := (Da4 y x); let t5 := (Da4 z x); let t6 := (O0 t4 t5); let t7 := (Ca1 t6); let t8 := (Ca9 t7.1 x); (sl (Pa8 x) (sl (!t1) (some ((.tup [(.agg [(i 0), (i 0), (i 0), (i 0)]), (b false)]), [])) (sl (Pa8 y) (sl (!t2) (some ((.tup [(.agg [(i 0), (i 0), (i 0), (i 0)]), (b false)]), [])) (sl (Pa8 z) (sl (!t3) (some ((.tup [(.agg [(i 0), (i 0), (i 0), (i 0)]), (b false)]), [])) (sl (ab6 t6) (sl (t7.2 == 0) (some ((.tup [(.agg [(i 0), (i 0), (i 0), (i 0)]), (b false)]), [])) (some ((.tup [(.agg [(i t7.1.x), (i t7.1.y), (i t7.1.z), (i t8)]), (b true)]), []))) none)) none)) none)) none)
noncomputable def ga0 (x : V3) (y : V3) (z : V3) : Pln × Bool := I6 (two r1P r1B) (za2 x y z)
noncomputable def ga1 (x : V3) (y : V3) (z : V3) : Bool := okO (two r1P r1B) (za2 x y z)
noncomputable def Ma5 : Sum := Zb9 (N8 tV) (N8 tV) (N8 tV) (fun x y z => .guard (ga1 x y z) (.ret ((two r1P r1B).enc (ga0 x y z), [])))
theorem bb8 : i5 prog G 115 Ma5 := ge5 (bd ze6 lc0) (two r1P r1B) (o := za2) fun x y z => r5 (by kernel_rfl)
noncomputable def hd4 : List (Nat × Sum) := [(98, na2), (97, dc3), (115, Ma5), (47, nb1)]
theorem Uc5 : j8 prog G hd4 := ⟨va9, xc5, bb8, qb8, trivial⟩
noncomputable def bb9 (x : List Int) : Option (b7 × List b8) := let t1 := (l5 ⟨8, (rt tI x), 0⟩); let t2 := (l5 ⟨17, (rt tI (rt tI x)), t1.c8⟩); let t3 := (La5 ⟨8, (rt tI (rt tI (rt tI x))), t2.c8⟩); let t4 := (La5 ⟨8, (rt tI t3.g7), t3.c8⟩); let t5 := (La5 ⟨8, (rt tI t4.g7), t4.c8⟩); let t6 := (ga0 (⟨t3.ja8, t3.ja9, t3.ka0⟩ : V3) (⟨t4.ja8, t4.ja9, t4.ka0⟩ : V3) (⟨t5.ja8, t5.ja9, t5.ka0⟩ : V3)); let t7 := (oa3 (W (t2.is0 - 8)) 3); (sl ((cnE tI x) && true) (sl (Nat.beq t1.alt 1) (sl ((cnE tI (rt tI x)) && true) (sl (Nat.beq t2.alt 1) (sl ((cnE tI (rt tI (rt tI x))) && true) (sl (Nat.beq t3.alt 1) (sl ((cnE tI t3.g7) && true) (sl (Nat.beq t4.alt 1) (sl ((cnE tI t4.g7) && true) (sl (Nat.beq t5.alt 1) (sl (ga1 (⟨t3.ja8, t3.ja9, t3.ka0⟩ : V3) (⟨t4.ja8, t4.ja9, t4.ka0⟩ : V3) (⟨t5.ja8, t5.ja9, t5.ka0⟩ : V3)) (sl (decide (t1.is0 > 1)) (sl t6.2 (some ((.agg [(i t6.1.n.x), (i t6.1.n.y), (i t6.1.n.z), (i t6.1.b)]), [])) (sl (ha8 (W (t2.is0 - 8)) 3) (sl (t7 == 1) (some ((.agg [(i 0), (i (W (1 - (W (2 * (Int.tmod t1.is0 2)))))), (i 0), (i (W (t2.is0 - 8)))]), [])) (sl (t7 == 2) (some ((.agg [(i 0), (i 0), (i (W (1 - (W (2 * (Int.tmod t1.is0 2)))))), (i (W (t2.is0 - 8)))]), [])) (some ((.agg [(i (W (1 - (W (2 * (Int.tmod t1.is0 2)))))), (i 0), (i 0), (i (W (t2.is0 - 8)))]), [])))) none)) (sl (ha8 (W (t2.is0 - 8)) 3) (sl (t7 == 1) (some ((.agg [(i 0), (i (W (1 - (W (2 * (Int.tmod t1.is0 2)))))), (i 0), (i (W (t2.is0 - 8)))]), [])) (sl (t7 == 2) (some ((.agg [(i 0), (i 0), (i (W (1 - (W (2 * (Int.tmod t1.is0 2)))))), (i (W (t2.is0 - 8)))]), [])) (some ((.agg [(i (W (1 - (W (2 * (Int.tmod t1.is0 2)))))), (i 0), (i 0), (i (W (t2.is0 - 8)))]), [])))) none)) none) none) none) none) none) none) none) none) none) none) none)
noncomputable def xc8 (x : List Int) : Pln := I6 (one r1P) (bb9 x)
noncomputable def sb2 (x : List Int) : Bool := okO (one r1P) (bb9 x)
noncomputable def xc9 : Sum := da4 (U3 tI) (fun x => .guard (sb2 x) (.ret ((one r1P).enc (xc8 x), [])))
theorem hd5 : i5 prog G 35 xc9 := xa0 (bd b35 Uc5) (one r1P) (o := bb9) fun x => r5 (by kernel_rfl)
noncomputable def hd6 : List (Nat × Sum) := [(187, dc4)]
theorem Uc6 : j8 prog G hd6 := ⟨xc6, trivial⟩
noncomputable def sb3 (x : Pln) : Pln := let t1 := (Da4 (⟨0, 0, 0⟩ : V3) x.n); (⟨t1, (W (0 - x.b))⟩ : Pln)
noncomputable def Ob3 : Sum := da4 (N8 tP) (fun x => .ret ((one r1P).enc (sb3 x), []))
theorem hc5 : i5 prog G 119 Ob3 := Sb1 (bd ze8 Uc6) fun x => r5 (by kernel_rfl)
noncomputable def hd7 : List (Nat × Sum) := [(86, Ab7), (109, Wb4), (130, Fb7)]
theorem Uc7 : j8 prog G hd7 := ⟨Ub2, dc5, Mb6, trivial⟩
noncomputable def cb0 (x : Pln) (y : V3) : Option (b7 × List b8) := let t1 := (Na7 x); let t2 := (Pa7 y); let t3 := (Ca9 x.n y); (sl (Na8 x) (sl (!t1) (some ((i 0), [])) (sl (Pa8 y) (sl (!t2) (some ((i 0), [])) (sl (decide ((W (t3 - x.b)) < 0)) (some ((i (-1)), [])) (sl (decide ((W (t3 - x.b)) > 0)) (some ((i 1), [])) (some ((i 0), []))))) none)) none)
noncomputable def sb4 (x : Pln) (y : V3) : Int := I6 (one r1I) (cb0 x y)
noncomputable def sb5 (x : Pln) (y : V3) : Bool := okO (one r1I) (cb0 x y)
noncomputable def Ob4 : Sum := ga9 (N8 tP) (N8 tV) (fun x y => .guard (sb5 x y) (.ret ((one r1I).enc (sb4 x y), [])))
theorem hc6 : i5 prog G 194 Ob4 := Za1 (bd Ce5 Uc7) (one r1I) (o := cb0) fun x y => r5 (by kernel_rfl)
noncomputable def Cb3 : List (Nat × Sum) := []
theorem lc1 : j8 prog G Cb3 := trivial
structure na3 where
 g9 : Int
 c8 : Int
 i4 : Int
 e7 : Int
 F5 : Int
 F6 : Int
 F7 : Int
 F8 : Int
structure O2 where
 is7 : Int
noncomputable def dc6 (p : na3) (s : O2) : St := ⟨(ra 5 ((.ptr 0 0 0 0) :: ((.ptr 1 0 0 0) :: ((i s.is7) :: (ra 42 []))))), [⟨0, 4, [[(i p.g9), (i p.c8), (i p.i4), (i p.e7)]], true, false, 0⟩, ⟨0, 4, [[(i p.F5), (i p.F6), (i p.F7), (i p.F8)]], true, false, 0⟩]⟩
noncomputable def ea4 {α : Type} (k : O2 → α) (e : Nat → α) (z : α) (p : na3) (s : O2) : α := (sl (decide (s.is7 < 4)) (sl (inB s.is7 4) (sl ((Nat.ble ((0 + (s.is7.toNat * 1)) + 1) 4) && (I0 [(CK.int .i64)] (d8 [(i p.g9), (i p.c8), (i p.i4), (i p.e7)] (0 + (s.is7.toNat * 1))))) (sl (inB s.is7 4) (sl ((Nat.ble ((0 + (s.is7.toNat * 1)) + 1) 4) && (I0 [(CK.int .i64)] (d8 [(i p.F5), (i p.F6), (i p.F7), (i p.F8)] (0 + (s.is7.toNat * 1))))) (sl (decide ((toI (hdA (d8 [(i p.g9), (i p.c8), (i p.i4), (i p.e7)] (0 + (s.is7.toNat * 1))))) < (toI (hdA (d8 [(i p.F5), (i p.F6), (i p.F7), (i p.F8)] (0 + (s.is7.toNat * 1))))))) (e 1) (sl (inB s.is7 4) (sl ((Nat.ble ((0 + (s.is7.toNat * 1)) + 1) 4) && (I0 [(CK.int .i64)] (d8 [(i p.g9), (i p.c8), (i p.i4), (i p.e7)] (0 + (s.is7.toNat * 1))))) (sl (inB s.is7 4) (sl ((Nat.ble ((0 + (s.is7.toNat * 1)) + 1) 4) && (I0 [(CK.int .i64)] (d8 [(i p.F5), (i p.F6), (i p.F7), (i p.F8)] (0 + (s.is7.toNat * 1))))) (sl (decide ((toI (hdA (d8 [(i p.g9), (i p.c8), (i p.i4), (i p.e7)] (0 + (s.is7.toNat * 1))))) > (toI (hdA (d8 [(i p.F5), (i p.F6), (i p.F7), (i p.F8)] (0 + (s.is7.toNat * 1))))))) (e 2) (k ⟨(W (s.is7 + 1))⟩)) z) z) z) z)) z) z) z) z) (e 3))
noncomputable def Z7 (p : na3) (s : O2) : Stp O2 := ea4 .next .exit .fail p s
noncomputable def Ta8 : Lo na3 O2 := ⟨En Cb3, 0, ce5, [1, 1, 1, 0, 1, 4, 4], [5, 6, 7], .p, [⟨(ru2 5 ((.s (.o (.ptr 0 0 0 0))) :: ((.s (.o (.ptr 1 0 0 0))) :: ((.s (.o (.int .i64))) :: (ru2 42 []))))), [⟨0, 4, true, (some [[(.o (.int .i64)), (.o (.int .i64)), (.o (.int .i64)), (.o (.int .i64))]])⟩, ⟨0, 4, true, (some [[(.o (.int .i64)), (.o (.int .i64)), (.o (.int .i64)), (.o (.int .i64))]])⟩], fun a H => (⟨(toI (slT (rwT (elT H 0) 0) 0)), (toI (slT (rwT (elT H 0) 0) 1)), (toI (slT (rwT (elT H 0) 0) 2)), (toI (slT (rwT (elT H 0) 0) 3)), (toI (slT (rwT (elT H 1) 0) 0)), (toI (slT (rwT (elT H 1) 0) 1)), (toI (slT (rwT (elT H 1) 0) 2)), (toI (slT (rwT (elT H 1) 0) 3))⟩, ⟨(toI (slT a 7))⟩)⟩], Z7, [(none, fun p s => ⟨[(i (-1))], []⟩), (none, fun p s => ⟨[(i 1)], []⟩), (some 0, fun p s => ⟨(ra 5 ((.ptr 0 0 0 0) :: ((.ptr 1 0 0 0) :: ((i s.is7) :: (ra 24 ((i s.is7) :: ((b (decide (s.is7 < 4))) :: (ra 16 [])))))))), [⟨0, 4, [[(i p.g9), (i p.c8), (i p.i4), (i p.e7)]], true, false, 0⟩, ⟨0, 4, [[(i p.F5), (i p.F6), (i p.F7), (i p.F8)]], true, false, 0⟩]⟩)], dc6⟩
theorem dc7 : Ta8.Ok := Lo.ok [] (by kernel_rfl) .nil rfl (.cons (fun a H => by kernel_rfl) .nil) fun p s => (.of @ea4 (fun F _ _ _ _ _ => by unfold ea4; (repeat' apply m8 (f := F)) <;> rfl) (by kernel_rfl))
noncomputable def za3 (x : Pln) (y : Pln) : Option (b7 × List b8) := let t1 := (lp (Z7 (⟨x.n.x, x.n.y, x.n.z, x.b, y.n.x, y.n.y, y.n.z, y.b⟩ : na3)) (⟨0⟩ : O2)); (sl (Nat.beq t1.1 1) (some ((i (-1)), [])) (sl (Nat.beq t1.1 2) (some ((i 1), [])) (sl (Nat.beq t1.1 3) (some ((i 0), [])) none)))
noncomputable def za4 (x : Pln) (y : Pln) : Int := I6 (one r1I) (za3 x y)
noncomputable def kb8 (x : Pln) (y : Pln) : Bool := okO (one r1I) (za3 x y)
noncomputable def Kb1 : Sum := ga9 (N8 tP) (N8 tP) (fun x y => .guard (kb8 x y) (.ret ((one r1I).enc (za4 x y), [])))
theorem yc0 : i5 prog G 180 Kb1 := Za1 (bd Be8 lc1) (one r1I) (o := za3) fun x y => xa1 (.s .p (.s .p (.s .p (.s (.s .p (.b (.u Ta8.ls))) .p)))) [Ta8.pr] (by kernel_rfl) (.cons dc7 .nil) (by kernel_rfl)
noncomputable def rd3 : List (Nat × Sum) := [(47, nb1)]
theorem hd8 : j8 prog G rd3 := ⟨qb8, trivial⟩
noncomputable def nb9 (x : Pln) (y : V3) : Option (b7 × List b8) := let t1 := (oa3 y.z 9); let t2 := (oa3 y.x 5); (sl (ha8 y.z 9) (sl (inB t1 9) (sl ((Nat.ble 1 (len (d9 [[(i y.y)], [(i 0)], [(i 4608)], [(i 4609)], [(i (-4609))], [(i (W (2 * x.n.x)))], [(i 2097152)], [(i 2097153)], [(i (-2097152))]] (0 + t1.toNat)))) && (I0 [(CK.int .i64)] (d9 [[(i y.y)], [(i 0)], [(i 4608)], [(i 4609)], [(i (-4609))], [(i (W (2 * x.n.x)))], [(i 2097152)], [(i 2097153)], [(i (-2097152))]] (0 + t1.toNat)))) (sl (ha8 y.x 5) (sl (t2 == 0) (some ((.agg [(i (toI (hdA (d9 [[(i y.y)], [(i 0)], [(i 4608)], [(i 4609)], [(i (-4609))], [(i (W (2 * x.n.x)))], [(i 2097152)], [(i 2097153)], [(i (-2097152))]] (0 + t1.toNat))))), (i x.n.y), (i x.n.z), (i x.b)]), [])) (sl (t2 == 1) (some ((.agg [(i x.n.x), (i (toI (hdA (d9 [[(i y.y)], [(i 0)], [(i 4608)], [(i 4609)], [(i (-4609))], [(i (W (2 * x.n.x)))], [(i 2097152)], [(i 2097153)], [(i (-2097152))]] (0 + t1.toNat))))), (i x.n.z), (i x.b)]), [])) (sl (t2 == 2) (some ((.agg [(i x.n.x), (i x.n.y), (i (toI (hdA (d9 [[(i y.y)], [(i 0)], [(i 4608)], [(i 4609)], [(i (-4609))], [(i (W (2 * x.n.x)))], [(i 2097152)], [(i 2097153)], [(i (-2097152))]] (0 + t1.toNat))))), (i x.b)]), [])) (sl (t2 == 3) (some ((.agg [(i x.n.x), (i x.n.y), (i x.n.z), (i (toI (hdA (d9 [[(i y.y)], [(i 0)], [(i 4608)], [(i 4609)], [(i (-4609))], [(i (W (2 * x.n.x)))], [(i 2097152)], [(i 2097153)], [(i (-2097152))]] (0 + t1.toNat)))))]), [])) (sl (t2 == 4) (some ((.agg [(i (W (2 * x.n.x))), (i (W (2 * x.n.y))), (i (W (2 * x.n.z))), (i x.b)]), [])) (some ((.agg [(i x.n.x), (i x.n.y), (i x.n.z), (i x.b)]), []))))))) none) none) none) none)
noncomputable def Mc7 (x : Pln) (y : V3) : Pln := I6 (one r1P) (nb9 x y)
noncomputable def dc8 (x : Pln) (y : V3) : Bool := okO (one r1P) (nb9 x y)
noncomputable def Mc8 : Sum := ga9 (N8 tP) (N8 tV) (fun x y => .guard (dc8 x y) (.ret ((one r1P).enc (Mc7 x y), [])))
theorem rd4 : i5 prog G 118 Mc8 := Za1 (bd ze7 hd8) (one r1P) (o := nb9) fun x y => r5 (by kernel_rfl)
end Go.Ev.Ce
end
