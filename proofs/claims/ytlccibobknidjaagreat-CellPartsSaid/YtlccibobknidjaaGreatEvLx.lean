/- Own work: a part of the proof. -/
import Derived.Test.YtlccibobknidjaaGreatEvE8
import Derived.Test.YtlccibobknidjaaGreatEvDE
import Derived.Test.YtlccibobknidjaaGreatEvDG
import Derived.Test.YtlccibobknidjaaGreatEvFz
import Derived.ChangeStays
import Derived.ChangeSame
import Derived.OpenShut
import Derived.RowKit
import Derived.Test.YtlccibobknidjaaGreatEvSp7
set_option linter.unusedVariables false
set_option linter.unusedSimpArgs false
set_option linter.unnecessarySimpa false
set_option linter.unusedSectionVars false
namespace Go.Ev.Ce
open Go Go.Ev Go.Ev.L Go.Proofs
theorem Ce1 (p q : Pln) : oa7 p q = some (i (ja6 p q), []) := by
 have key : ∃ t s, lp (G2 ⟨p.n.x, p.n.y, p.n.z, p.b, q.n.x, q.n.y, q.n.z, q.b⟩) ⟨0⟩ = (t, s) ∧ ((t = 1 ∧ ja6 p q = -1) ∨ (t = 2 ∧ ja6 p q = 1) ∨ (t = 3 ∧ ja6 p q = 0)) := by
  refine ua0 (step := G2 ⟨p.n.x, p.n.y, p.n.z, p.b, q.n.x, q.n.y, q.n.z, q.b⟩) (mk := fun j (_ : Unit) => (⟨(j : Int)⟩ : N8)) 4
   (fun j _ => (1 ≤ j → p.n.x = q.n.x) ∧ (2 ≤ j → p.n.y = q.n.y) ∧ (3 ≤ j → p.n.z = q.n.z) ∧ (4 ≤ j → p.b = q.b))
   (fun t s => (t = 1 ∧ ja6 p q = -1) ∨ (t = 2 ∧ ja6 p q = 1) ∨ (t = 3 ∧ ja6 p q = 0)) (by omega) (fun j x hj hI => ?_) (fun j x hj hI => ?_) 0 () ⟨by omega, by omega, by omega, by omega⟩
  ·have hn := o9 hj (show 4 ≤ 4611686018427387904 by omega)
   simp only [G2, T0, Int.toNat_natCast, hn]
   have hlt : (j : Int) < 4 := by omega
   have hin := f0 hj
   have g : ∀ x1 x2 x3 x4 : Int, ((Nat.ble ((0 + (j * 1)) + 1) 4) && (J8 [(CK.int .i64)] (e7 [(i x1), (i x2), (i x3), (i x4)] (0 + (j * 1))))) = true := by
    intro x1 x2 x3 x4
    match j, hj with
    | 0, _ => rfl
    | 1, _ => rfl
    | 2, _ => rfl
    | 3, _ => rfl
   rw [btD hlt]
   simp only [hin, g, q7]
   obtain ⟨i1, i2, i3, i4⟩ := hI
   match j, hj with
   | 0, _ =>
    show Nx (sl (decide (p.n.x < q.n.x)) _ (sl (decide (p.n.x > q.n.x)) _ _)) _ _
    refine Nx.sl (fun h => .ex ?_) fun h => Nx.sl (fun h' => .ex ?_) fun h' => .nx ⟨(), rfl, ?_⟩ <;> simp only [decide_eq_true_eq, decide_eq_false_iff_not] at h
    ·left; exact ⟨rfl, by simp [ja6, pb8, h]⟩
    ·right; left; simp only [decide_eq_true_eq] at h'; exact ⟨rfl, by simp [ja6, pb8, h, h']⟩
    ·simp only [decide_eq_false_iff_not] at h'; exact ⟨by omega, by omega, by omega, by omega⟩
   | 1, _ =>
    have j1 := i1 (by omega)
    show Nx (sl (decide (p.n.y < q.n.y)) _ (sl (decide (p.n.y > q.n.y)) _ _)) _ _
    refine Nx.sl (fun h => .ex ?_) fun h => Nx.sl (fun h' => .ex ?_) fun h' => .nx ⟨(), rfl, ?_⟩ <;> simp only [decide_eq_true_eq, decide_eq_false_iff_not] at h
    ·left; exact ⟨rfl, by simp [ja6, pb8, h, j1]⟩
    ·right; left; simp only [decide_eq_true_eq] at h'; exact ⟨rfl, by simp [ja6, pb8, h, h', j1]⟩
    ·simp only [decide_eq_false_iff_not] at h'; exact ⟨fun _ => j1, by omega, by omega, by omega⟩
   | 2, _ =>
    have j1 := i1 (by omega); have j2 := i2 (by omega)
    show Nx (sl (decide (p.n.z < q.n.z)) _ (sl (decide (p.n.z > q.n.z)) _ _)) _ _
    refine Nx.sl (fun h => .ex ?_) fun h => Nx.sl (fun h' => .ex ?_) fun h' => .nx ⟨(), rfl, ?_⟩ <;> simp only [decide_eq_true_eq, decide_eq_false_iff_not] at h
    ·left; exact ⟨rfl, by simp [ja6, pb8, h, j1, j2]⟩
    ·right; left; simp only [decide_eq_true_eq] at h'; exact ⟨rfl, by simp [ja6, pb8, h, h', j1, j2]⟩
    ·simp only [decide_eq_false_iff_not] at h'; exact ⟨fun _ => j1, fun _ => j2, by omega, by omega⟩
   | 3, _ =>
    have j1 := i1 (by omega); have j2 := i2 (by omega); have j3 := i3 (by omega)
    show Nx (sl (decide (p.b < q.b)) _ (sl (decide (p.b > q.b)) _ _)) _ _
    refine Nx.sl (fun h => .ex ?_) fun h => Nx.sl (fun h' => .ex ?_) fun h' => .nx ⟨(), rfl, ?_⟩ <;> simp only [decide_eq_true_eq, decide_eq_false_iff_not] at h
    ·left; exact ⟨rfl, by simp [ja6, pb8, h, j1, j2, j3]⟩
    ·right; left; simp only [decide_eq_true_eq] at h'; exact ⟨rfl, by simp [ja6, pb8, h, h', j1, j2, j3]⟩
    ·simp only [decide_eq_false_iff_not] at h'; exact ⟨fun _ => j1, fun _ => j2, fun _ => j3, by omega⟩
  ·simp only [G2, T0]
   rw [bfD (by omega)]
   obtain ⟨i1, i2, i3, i4⟩ := hI
   have j1 := i1 (by omega); have j2 := i2 (by omega); have j3 := i3 (by omega); have j4 := i4 (by omega)
   exact ⟨_, rfl, .inr (.inr ⟨rfl, by simp [ja6, pb8, j1, j2, j3, j4]⟩)⟩
 obtain ⟨t, s, h1, h2⟩ := key
 unfold oa7
 simp only
 rw [h1]
 rcases h2 with ⟨rfl, e⟩ | ⟨rfl, e⟩ | ⟨rfl, e⟩ <;> rw [e] <;> rfl
theorem Oe7 (p q : Pln) : Y7 p q = ja6 p q := by unfold Y7; rw [Ce1]; rfl
def atP (x : List Pln) (y : Pln) : Nat := x.findIdx fun p => !decide (ja6 p y < 0)
noncomputable def ins (x : List Pln) (y : Pln) : List Pln := if (atP x y < x.length ∧ eqP (gL tP x (atP x y)) y = true) then x else Lb0 x y (atP x y)
theorem Vc1 (x : List Pln) (y : Pln) (hx : x.length ≤ 1000000) : Rd (one (r1L tP)) (Cb4 x y) (fun r => r = ins x y) := by
 have h := gb6 (step := Ea9 ⟨x, y.n.x, y.n.y, y.n.z, y.b⟩) (mk := fun j => (⟨(j : Int)⟩ : na2)) (c := fun p => !decide (ja6 p y < 0)) (u := 1) (fin := 2) tP x (by omega)
  (fun j hj => by
   simp only [Ea9, Ja5, Int.toNat_natCast, ne4, Oe7, o9 hj (show x.length ≤ 4611686018427387904 by omega)]
   rw [btD (n9 hj), bt (f0 hj), q7]
   show sl (decide (ja6 (gL tP x j) y < 0)) _ _ = _
   cases decide (ja6 (gL tP x j) y < 0) <;> rfl)
  (by simp only [Ea9, Ja5]; rw [bfD (P1 (Nat.lt_irrefl _))]) 0 (Nat.zero_le _)
 rw [List.drop_zero] at h
 have key : ∃ t, lp (Ea9 ⟨x, y.n.x, y.n.y, y.n.z, y.b⟩) ⟨0⟩ = (t, ⟨((atP x y : Nat) : Int)⟩) ∧ (t = 1 ∨ t = 2) := by
  rw [show (⟨0⟩ : na2) = ⟨((0 : Nat) : Int)⟩ from rfl, h]
  split
  ·exact ⟨1, by rw [Nat.zero_add]; rfl, .inl rfl⟩
  ·rename_i hn
   refine ⟨2, ?_, .inr rfl⟩
   have : atP x y = x.length := by
    unfold atP
    rw [List.findIdx_eq_length]
    intro p hp
    cases hb : (!decide (ja6 p y < 0)) with
    | false => rfl
    | true => exact absurd (List.any_eq_true.2 ⟨p, hp, hb⟩) hn
   rw [this]
 obtain ⟨t, h1, h2⟩ := key
 have h3 : atP x y ≤ x.length := List.findIdx_le_length
 have hdef : ins x y = if (atP x y < x.length ∧ eqP (gL tP x (atP x y)) y = true) then x else Lb0 x y (atP x y) := rfl
 generalize atP x y = n at *
 have hlo : inB (n : Int) (x.length + 1) = true := f0 (by omega)
 have hd : (bL tP (x.take n)).length = n := by rw [← l9, O5, List.length_take]; omega
 have hlen : (Lb0 x y n).length = x.length + 1 := by unfold Lb0; simp only [List.length_append, List.length_cons, List.length_take, List.length_drop]; omega
 have lt : len (bL tP (x.take n)) = n := by rw [l9]; exact hd
 have ld : len (bL tP (x.drop n)) = x.length - n := by rw [O5, List.length_drop]
 have b1 : (Nat.beq 1 1 && Nat.ble ((1 + (x.length - n)) * 32) room) = true := by rw [da8 (by omega)]; rfl
 have b2 : (Nat.beq 0 0 && Nat.ble ((0 + n) * 32) room) = true := by rw [da8 (by omega)]; rfl
 have e0 : app [] (bL tP (x.take n)) = bL tP (x.take n) := rfl
 have b3 : (Nat.beq (0 + n) n && Nat.ble (((0 + n) + 1) * 32) room) = true := by rw [da8 (by omega), Nat.zero_add, Nat.beq_refl]; rfl
 have l3 : len (bL tP (x.take n ++ [y])) = n + 1 := by rw [O5, List.length_append, List.length_take]; simp only [List.length_singleton]; omega
 have b4 : (Nat.beq ((0 + n) + 1) (n + 1) && Nat.ble ((((0 + n) + 1) + (x.length - n)) * 32) room) = true := by rw [da8 (by omega), Nat.zero_add, Nat.beq_refl]; rfl
 have z0 : ∀ {k : Nat}, Nat.beq k 0 = true → k = 0 := fun {k} h => Nat.eq_of_beq_eq_true h
 have fin : ins x y = Lb0 x y n → ∀ m r, m = x.length + 1 → r = bL tP (Lb0 x y n) → Rd (one (r1L tP)) (some (.sl 0 0 m 0, [⟨50, 4, r, true, false, 0⟩])) (fun r => r = ins x y) :=
  fun hq m r hm hr => yb9 (by rw [hlen]; exact hm) hr hq.symm
 have tail : ins x y = Lb0 x y n → Rd (one (r1L tP)) (sl (Nat.beq n 0) (sl (Nat.beq (x.length - n) 0) (some ((.sl 0 0 1 0), [⟨50, 4, [[(i y.n.x), (i y.n.y), (i y.n.z), (i y.b)]], true, false, 0⟩]))
   (some ((.sl 0 0 (1 + (x.length - n)) 0), [⟨50, 4, (app [[(i y.n.x), (i y.n.y), (i y.n.z), (i y.b)]] (bL tP (x.drop n))), true, false, 0⟩])))
   (sl (Nat.beq (x.length - n) 0) (some ((.sl 0 0 ((0 + n) + 1) 0), [⟨50, 4, bL tP (x.take n ++ [y]), true, false, 0⟩]))
    (some ((.sl 0 0 (((0 + n) + 1) + (x.length - n)) 0), [⟨50, 4, (app (bL tP (x.take n ++ [y])) (bL tP (x.drop n))), true, false, 0⟩])))) (fun r => r = ins x y) := fun hq => by
  refine Rd.sl (fun q1 => Rd.sl (fun q2 => ?_) (fun q2 => ?_)) (fun q1 => Rd.sl (fun q2 => ?_) (fun q2 => ?_))
  ·have := z0 q1; have := z0 q2
   refine fin hq _ _ (by omega) ?_
   have : x = [] := List.eq_nil_of_length_eq_zero (by omega)
   subst this
   rw [show n = 0 by omega]; rfl
  ·have := z0 q1; subst this
   exact fin hq _ _ (by omega) rfl
  ·have := z0 q2
   refine fin hq _ _ (by omega) ?_
   unfold Lb0
   rw [show x.drop n = [] from List.drop_eq_nil_of_le (by omega)]
  ·refine fin hq _ _ (by omega) ?_
   rw [La7]
   unfold Lb0
   rw [List.append_assoc]; rfl
 unfold Cb4
 simp only [m0, m8]
 rw [h1]
 simp only [Int.toNat_natCast, Sc7 x n h3, Sc8, lt, ld, b1, b2, e0, b3, Sb7, l3, b4, hlo, q7]
 have main : Rd (one (r1L tP)) (sl (decide ((n : Int) < (x.length : Int))) (sl (inB (n : Int) x.length) (sl (((gL tP x n).n.x == y.n.x) && (((gL tP x n).n.y == y.n.y) && (((gL tP x n).n.z == y.n.z) && (((gL tP x n).b == y.b) && true)))) (some (eL tP x, []))
   (sl (Nat.beq n 0) (sl (Nat.beq (x.length - n) 0) (some ((.sl 0 0 1 0), [⟨50, 4, [[(i y.n.x), (i y.n.y), (i y.n.z), (i y.b)]], true, false, 0⟩]))
   (some ((.sl 0 0 (1 + (x.length - n)) 0), [⟨50, 4, (app [[(i y.n.x), (i y.n.y), (i y.n.z), (i y.b)]] (bL tP (x.drop n))), true, false, 0⟩])))
   (sl (Nat.beq (x.length - n) 0) (some ((.sl 0 0 ((0 + n) + 1) 0), [⟨50, 4, bL tP (x.take n ++ [y]), true, false, 0⟩]))
    (some ((.sl 0 0 (((0 + n) + 1) + (x.length - n)) 0), [⟨50, 4, (app (bL tP (x.take n ++ [y])) (bL tP (x.drop n))), true, false, 0⟩]))))) none)
   (sl (Nat.beq n 0) (sl (Nat.beq (x.length - n) 0) (some ((.sl 0 0 1 0), [⟨50, 4, [[(i y.n.x), (i y.n.y), (i y.n.z), (i y.b)]], true, false, 0⟩]))
   (some ((.sl 0 0 (1 + (x.length - n)) 0), [⟨50, 4, (app [[(i y.n.x), (i y.n.y), (i y.n.z), (i y.b)]] (bL tP (x.drop n))), true, false, 0⟩])))
   (sl (Nat.beq (x.length - n) 0) (some ((.sl 0 0 ((0 + n) + 1) 0), [⟨50, 4, bL tP (x.take n ++ [y]), true, false, 0⟩]))
    (some ((.sl 0 0 (((0 + n) + 1) + (x.length - n)) 0), [⟨50, 4, (app (bL tP (x.take n ++ [y])) (bL tP (x.drop n))), true, false, 0⟩]))))) (fun r => r = ins x y) := by
  by_cases hn : n < x.length
  ·rw [btD (n9 hn), bt (f0 hn)]
   exact Rd.sl (fun q => ⟨_, x, rfl, id3 tP x, by rw [hdef, if_pos ⟨hn, q⟩]⟩) fun q => tail (by
    rw [hdef, if_neg fun h => ?_]
    have h := h.2
    rw [show eqP (gL tP x n) y = false from q] at h
    cases h)
  ·rw [bfD (P1 hn)]
   exact tail (by rw [hdef, if_neg fun h => hn h.1])
 rcases h2 with rfl | rfl
 ·exact main
 ·exact main
def Ac7 (l : List Pln) : Prop := l.Pairwise LtP
theorem xc4 {x y z : Pln} (h1 : LtP x y) (h2 : LtP y z) : LtP x z := by unfold LtP at *; omega
theorem td9 (x : Pln) : ¬ LtP x x := by unfold LtP; omega
theorem Ud8 (x y : Pln) : LtP x y ∨ x = y ∨ LtP y x := by
 by_cases h1 : LtP x y
 ·exact .inl h1
 ·by_cases h2 : LtP y x
  ·exact .inr (.inr h2)
  ·refine .inr (.inl ?_)
   unfold LtP at h1 h2
   have e1 : x.n.x = y.n.x := by omega
   have e2 : x.n.y = y.n.y := by omega
   have e3 : x.n.z = y.n.z := by omega
   have e4 : x.b = y.b := by omega
   cases x with | mk n b => cases y with | mk m c => cases n; cases m; simp_all
theorem jd7 : ∀ {l r : List Pln}, Ac7 l → Ac7 r → (∀ p, p ∈ l ↔ p ∈ r) → l = r
 | [], [], _, _, _ => rfl
 | [], b :: r, _, _, h => by have := (h b).2 List.mem_cons_self; cases this
 | a :: l, [], _, _, h => by have := (h a).1 List.mem_cons_self; cases this
 | a :: l, b :: r, hl, hr, h => by
  obtain ⟨hl1, hl2⟩ := List.pairwise_cons.1 hl
  obtain ⟨hr1, hr2⟩ := List.pairwise_cons.1 hr
  have hab : a = b := by
   rcases List.mem_cons.1 ((h a).1 List.mem_cons_self) with e | h1
   ·exact e
   ·rcases List.mem_cons.1 ((h b).2 List.mem_cons_self) with e | h2
    ·exact e.symm
    ·exact absurd (xc4 (hr1 a h1) (hl1 b h2)) (td9 b)
  subst hab
  rw [jd7 hl2 hr2 fun p => ?_]
  constructor
  ·intro hp
   rcases List.mem_cons.1 ((h p).1 (List.mem_cons_of_mem _ hp)) with e | h1
   ·subst e; exact absurd (hl1 p hp) (td9 p)
   ·exact h1
  ·intro hp
   rcases List.mem_cons.1 ((h p).2 (List.mem_cons_of_mem _ hp)) with e | h1
   ·subst e; exact absurd (hr1 p hp) (td9 p)
   ·exact h1
def gc8 : List Pln → Pln → List Pln
 | [], y => [y]
 | a :: l, y => if ja6 a y < 0 then a :: gc8 l y else if eqP a y then a :: l else y :: a :: l
theorem qe3 (y : Pln) : ∀ x, ins x y = gc8 x y
 | [] => rfl
 | a :: l => by
  have ih := qe3 y l
  unfold gc8
  by_cases h : ja6 a y < 0
  ·rw [if_pos h, ← ih]
   have e : atP (a :: l) y = atP l y + 1 := by unfold atP; rw [List.findIdx_cons]; simp [h]
   unfold ins
   rw [e]
   have e2 : gL tP (a :: l) (atP l y + 1) = gL tP l (atP l y) := rfl
   rw [e2]
   simp only [List.length_cons, Nat.add_lt_add_iff_right]
   split
   ·rfl
   ·rfl
  ·rw [if_neg h]
   have e : atP (a :: l) y = 0 := by unfold atP; rw [List.findIdx_cons]; simp [h]
   unfold ins
   rw [e]
   have e2 : gL tP (a :: l) 0 = a := rfl
   rw [e2]
   simp only [List.length_cons, Nat.zero_lt_succ, true_and]
   split
   ·rfl
   ·rfl
theorem qc7 (y p : Pln) : ∀ x, p ∈ gc8 x y ↔ p = y ∨ p ∈ x
 | [] => by simp [gc8]
 | a :: l => by
  unfold gc8
  have ih := qc7 y p l
  split
  ·simp only [List.mem_cons, ih]
   constructor
   ·rintro (h | h | h)
    ·exact .inr (.inl h)
    ·exact .inl h
    ·exact .inr (.inr h)
   ·rintro (h | h | h)
    ·exact .inr (.inl h)
    ·exact .inl h
    ·exact .inr (.inr h)
  ·split
   ·rename_i h
    rw [vb4] at h
    subst h
    simp only [List.mem_cons]
    constructor
    ·exact fun h => .inr h
    ·rintro (h | h)
     ·exact .inl h
     ·exact h
   ·simp only [List.mem_cons]
theorem Gd2 (y : Pln) : ∀ {x}, Ac7 x → Ac7 (gc8 x y)
 | [], _ => List.pairwise_singleton _ _
 | a :: l, h => by
  obtain ⟨h1, h2⟩ := List.pairwise_cons.1 h
  unfold gc8
  split
  ·rename_i hc
   rw [sd7] at hc
   refine List.pairwise_cons.2 ⟨fun p hp => ?_, Gd2 y h2⟩
   rcases (qc7 y p l).1 hp with e | hp
   ·subst e; exact hc
   ·exact h1 p hp
  ·rename_i hc
   rw [sd7] at hc
   split
   ·exact h
   ·rename_i hne
    have hlt : LtP y a := by
     rcases Ud8 y a with h | h | h
     ·exact h
     ·exact absurd ((vb4 _ _).2 h.symm) hne
     ·exact absurd h hc
    refine List.pairwise_cons.2 ⟨fun p hp => ?_, h⟩
    rcases List.mem_cons.1 hp with e | hp
    ·subst e; exact hlt
    ·exact xc4 hlt (h1 p hp)
end Go.Ev.Ce
namespace Go.Ev.Ce
open Go Go.Ev Go.Ev.L Go.Proofs
theorem ud0 {σ : Type} {step : σ → Stp σ} {s : σ} {t : Nat} (h : step s = .exit t) : lp step s = (t, s) := by rw [fe8]; exact Kc7 h
theorem jd8 : Ja3 [] = [] := List.eq_nil_of_length_eq_zero (Xb2 [])
theorem Gd3 : lean [] = [] := by
 unfold lean
 rw [td2, if_pos rfl, List.filter_nil, jd8]
 rfl
theorem jf3 (X : List Pt) : T5 ⟨X⟩ = ⟨1, X⟩ := by
 unfold T5 B8 ka4 E0
 simp only [m0, m8]
 rw [ud0 (step := ca9 ⟨X⟩) (s := ⟨⟩) (t := 1) rfl]
 rfl
theorem Ze4 : Z4 ⟨⟩ = ⟨1⟩ := by
 have h1 : B6 ⟨⟩ = ⟨1⟩ := by
  unfold B6 p6
  simp only
  rw [ud0 (step := J3 ⟨⟩) (s := ⟨⟩) (t := 1) rfl]
  rfl
 have h2 : L4 ⟨⟩ = ⟨1⟩ := by
  unfold L4 w7
  simp only
  rw [ud0 (step := F8 ⟨⟩) (s := ⟨⟩) (t := 1) (by
   unfold F8 E2
   simp only [h1]
   rfl)]
  rfl
 unfold Z4 G5
 simp only [h2]
 rfl
theorem Gd4 (x : Unit) : Ta6 x = some (.v (.slice none 0 0), []) := by
 have hn : ([] : List Pln).length ≤ 1000000000 := by simp
 unfold Ta6
 simp only [m0, m8, Rb6 hn, Rb7 hn, ob0 hn, ob1 hn, td2, jf3, Ze4]
 rfl
theorem Gd5 (x : Addr × Nat) : Rd (one (r1L tP)) (Ta7 x) (fun r => r = []) := by
 have hn : ([] : List Pln).length ≤ 1000000000 := by simp
 have hX := oc9 []
 obtain ⟨m, r, e1, e2, e3, e4⟩ := jd3 [] (pts []) hn (by omega)
 have hr : r = [] := List.eq_nil_of_length_eq_zero (by simpa using e4)
 subst hr
 have hm : m = 0 := by simpa using e2
 subst hm
 obtain ⟨m2, r2, k1, k2, k3⟩ := Uc1 [] 0 (by simp) hn
 have e1 : D8 ⟨0, [], pts []⟩ = _ := e1
 unfold Ta7
 simp only [m0, m8, Rb6 hn, Rb7 hn, ob0 hn, ob1 hn, td2, e1]
 have hs : app (bL tP (Ja3 (slR tP (bL tP []) 0 0))) (e7 (bL tP []) 0) = bL tP [] := by
  rw [show slR tP (bL tP []) 0 0 = [] from rfl, jd8]; rfl
 rw [hs, k1]
 have hfin : r2.take m2 = [] := by rw [k3]; rfl
 exact Pd0 (P := fun r => r = []) k2 rfl hfin
noncomputable def Jb4 (l : List Pln) : List Pln := lean l
noncomputable def Jb5 (l : List Pln) : Bool := decide (l.length ≤ 1000000)
noncomputable def qc8 : Sum := R3 (W7 tP) fun l => .guard (Jb5 l) (.ret ((one (r1L tP)).enc (Jb4 l), []))
theorem dd2 : g9 prog G 25 qc8 := by
 refine Oe6 (td5 pc9 fun a r hr => ?_) (td5 cd4 fun a r hr => ?_) (td5 cd6 fun a r hr => ?_)
 ·obtain ⟨p, c⟩ := a
  obtain ⟨hg, hr⟩ := DT.run_guard_some hr
  have hl : c.length ≤ 1000000 := by
   have := of_decide_eq_true hg
   simp only [List.length_cons] at this
   omega
  rw [pe7 p c hl, pe8 p c hl]
  exact hr
 ·obtain ⟨hg, hr⟩ := DT.run_guard_some hr
  have e : Ib7 a = lean [] := by unfold Ib7; rw [Gd4, Gd3]; exact wa9 _ rfl
  have e2 : Ib8 a = true := by unfold Ib8; rw [Gd4]; exact Ia2 (r := []) _ rfl
  rw [e, e2]
  exact hr
 ·obtain ⟨hg, hr⟩ := DT.run_guard_some hr
  have e : qc4 a = lean [] := by rw [Gd3]; exact (Gd5 a).p
  rw [e, show qc5 a = true from (Gd5 a).g]
  exact hr
end Go.Ev.Ce
namespace Go.Ev.Ce
open Go Go.Ev Go.Ev.L Go.Proofs
theorem Ud9 {c : List Pln} (hc : c.length ≤ 1000000000) (v : V3) : Cb3 c v = some (b (has c v), []) := by
 unfold Cb3 has
 simp only [m0, J9, Pc6 c hc, Pc7 c hc, me9, Ud0, Xe0 c _ hc, Xe1 c _ hc]
 cases chk c == 0 with
 | false => rfl
 | true => cases inV v <;> rfl
theorem Oe8 {c : List Pln} (hc : c.length ≤ 1000000000) (v : V3) : Xb3 c v = has c v := by unfold Xb3; rw [Ud9 hc]; rfl
theorem Oe9 {c : List Pln} (hc : c.length ≤ 1000000000) (v : V3) : Xb4 c v = true := by unfold Xb4; rw [Ud9 hc]; rfl
end Go.Ev.Ce
namespace Go.Ev.Ce
def rmZ (p : Pln) (x : Pt) : Int := p.b * x.pw - (p.n.x * x.px + p.n.y * x.py + p.n.z * x.pz)
structure Inr (r : List Pln) (x : Pt) : Prop where
 w : 0 < x.pw
 h : ∀ p ∈ r, 0 ≤ rmZ p x
def xc5 (p : Pln) : Pln := ⟨⟨-p.n.x, -p.n.y, -p.n.z⟩, -p.b⟩
theorem qb6 (p : Pln) (x : Pt) : rmZ (xc5 p) x = -rmZ p x := by unfold rmZ xc5; grind
structure Cn (r : List Pln) (x : Pt) : Prop extends Inr r x where
 c : ∃ p q s, p ∈ r ∧ q ∈ r ∧ s ∈ r ∧ mw p q s ≠ 0 ∧ rmZ p x = 0 ∧ rmZ q x = 0 ∧ rmZ s x = 0
def Bdd (r : List Pln) : Prop := ∀ d : V3, d ≠ ⟨0, 0, 0⟩ → ∃ p ∈ r, 0 < dot p.n d
def go (x : Pt) (q : Pln) (d : V3) : Pt := ⟨x.px * dot q.n d + rmZ q x * d.x, x.py * dot q.n d + rmZ q x * d.y, x.pz * dot q.n d + rmZ q x * d.z, x.pw * dot q.n d⟩
theorem Gd6 (p q : Pln) (x : Pt) (d : V3) : rmZ p (go x q d) = dot q.n d * rmZ p x - rmZ q x * dot p.n d := by simp only [rmZ, go, dot]; grind
theorem Ya2 {a b c : Int} (hc : 0 < c) (h : a * c ≤ b * c) : a ≤ b := Int.le_of_mul_le_mul_right h hc
theorem first (x : Pt) (d : V3) : ∀ r : List Pln, (∀ p ∈ r, 0 ≤ rmZ p x) → (∃ p ∈ r, 0 < dot p.n d) → ∃ q ∈ r, 0 < dot q.n d ∧ ∀ p ∈ r, 0 < dot p.n d → rmZ q x * dot p.n d ≤ rmZ p x * dot q.n d
 | [], _, h => by obtain ⟨p, hp, _⟩ := h; cases hp
 | a :: r, hx, h => by
  by_cases hr : ∃ p ∈ r, 0 < dot p.n d
  ·obtain ⟨q, hq, h1, h2⟩ := first x d r (fun p hp => hx p (List.mem_cons_of_mem _ hp)) hr
   by_cases ha : 0 < dot a.n d
   ·by_cases hc : rmZ q x * dot a.n d ≤ rmZ a x * dot q.n d
    ·refine ⟨q, List.mem_cons_of_mem _ hq, h1, fun p hp h3 => ?_⟩
     rcases List.mem_cons.1 hp with rfl | hp
     ·exact hc
     ·exact h2 p hp h3
    ·refine ⟨a, List.mem_cons_self, ha, fun p hp h3 => ?_⟩
     rcases List.mem_cons.1 hp with rfl | hp
     ·exact Int.le_refl _
     ·have h4 := h2 p hp h3
      have h5 : rmZ a x * dot q.n d < rmZ q x * dot a.n d := by omega
      have h6 := Int.mul_le_mul_of_nonneg_right h4 (Int.le_of_lt ha)
      have h7 := Int.mul_lt_mul_of_pos_right h5 h3
      have e1 : rmZ q x * dot p.n d * dot a.n d = rmZ q x * dot a.n d * dot p.n d := by grind
      have e2 : rmZ a x * dot q.n d * dot p.n d = rmZ a x * dot p.n d * dot q.n d := by grind
      have e3 : rmZ p x * dot q.n d * dot a.n d = rmZ p x * dot a.n d * dot q.n d := by grind
      refine Ya2 h1 ?_
      omega
   ·refine ⟨q, List.mem_cons_of_mem _ hq, h1, fun p hp h3 => ?_⟩
    rcases List.mem_cons.1 hp with rfl | hp
    ·exact absurd h3 ha
    ·exact h2 p hp h3
  ·have ha : 0 < dot a.n d := by
    obtain ⟨p, hp, h3⟩ := h
    rcases List.mem_cons.1 hp with rfl | hp
    ·exact h3
    ·exact absurd ⟨p, hp, h3⟩ hr
   refine ⟨a, List.mem_cons_self, ha, fun p hp h3 => ?_⟩
   rcases List.mem_cons.1 hp with rfl | hp
   ·exact Int.le_refl _
   ·exact absurd ⟨p, hp, h3⟩ hr
theorem step {r : List Pln} {x : Pt} (hx : Inr r x) (d : V3) (h : ∃ p ∈ r, 0 < dot p.n d) : ∃ q ∈ r, 0 < dot q.n d ∧ Inr r (go x q d) := by
 obtain ⟨q, hq, h1, h2⟩ := first x d r hx.h h
 refine ⟨q, hq, h1, ⟨Int.mul_pos hx.w h1, fun p hp => ?_⟩⟩
 rw [Gd6]
 have h3 := hx.h p hp
 have h4 := hx.h q hq
 by_cases h5 : 0 < dot p.n d
 ·have := h2 p hp h5
  have e : rmZ p x * dot q.n d = dot q.n d * rmZ p x := Int.mul_comm _ _
  omega
 ·have h6 := Int.mul_nonneg (Int.le_of_lt h1) h3
  have h7 : rmZ q x * dot p.n d ≤ 0 := Int.mul_nonpos_of_nonneg_of_nonpos h4 (by omega)
  omega
theorem qe4 {h q : Pln} {x : Pt} {d : V3} (h1 : 0 ≤ rmZ q x) (h2 : 0 ≤ dot h.n d) : rmZ h (go x q d) * x.pw ≤ rmZ h x * (go x q d).pw ∨ x.pw ≤ 0 := by
 rcases Int.lt_or_le 0 x.pw with hw | hw
 ·left
  rw [Gd6]
  have := Int.mul_nonneg h1 h2
  have h3 := Int.mul_nonneg this (Int.le_of_lt hw)
  have e : rmZ h x * (go x q d).pw = dot q.n d * rmZ h x * x.pw := by unfold go; grind
  have e2 : (dot q.n d * rmZ h x - rmZ q x * dot h.n d) * x.pw = dot q.n d * rmZ h x * x.pw - rmZ q x * dot h.n d * x.pw := by grind
  omega
 ·exact .inr hw
def neg (d : V3) : V3 := ⟨-d.x, -d.y, -d.z⟩
theorem Vd0 (a d : V3) : dot a (neg d) = -dot a d := by unfold dot neg; grind
theorem Pe0 {d : V3} (h : d ≠ ⟨0, 0, 0⟩) : neg d ≠ ⟨0, 0, 0⟩ := fun h' => h (by
 cases d; unfold neg at h'; simp only [V3.mk.injEq] at h' ⊢; omega)
theorem turn (h : Pln) {d : V3} (hd : d ≠ ⟨0, 0, 0⟩) : ∃ e, e ≠ (⟨0, 0, 0⟩ : V3) ∧ 0 ≤ dot h.n e ∧ ∀ a, dot a d = 0 → dot a e = 0 := by
 by_cases h1 : 0 ≤ dot h.n d
 ·exact ⟨d, hd, h1, fun _ h => h⟩
 ·exact ⟨neg d, Pe0 hd, by rw [Vd0]; omega, fun a h => by rw [Vd0, h]; rfl⟩
theorem Pe1 {n : V3} (hn : n ≠ ⟨0, 0, 0⟩) : ∃ d, d ≠ (⟨0, 0, 0⟩ : V3) ∧ dot n d = 0 := by
 by_cases h : n.x = 0 ∧ n.y = 0
 ·exact ⟨⟨1, 0, 0⟩, by simp, by unfold dot; simp [h.1]⟩
 ·refine ⟨⟨n.y, -n.x, 0⟩, fun h' => h ?_, by unfold dot; grind⟩
  simp only [V3.mk.injEq] at h'
  omega
theorem V3.ext' {a b : V3} (h1 : a.x = b.x) (h2 : a.y = b.y) (h3 : a.z = b.z) : a = b := by cases a; cases b; simp_all
theorem Gd7 {m n d : V3} (hm : m ≠ ⟨0, 0, 0⟩) (h1 : dot m d = 0) (h2 : dot n d ≠ 0) : p7 m n ≠ ⟨0, 0, 0⟩ := fun h => by
 unfold p7 at h
 simp only [V3.mk.injEq] at h
 obtain ⟨c1, c2, c3⟩ := h
 unfold dot at h1 h2
 have e1 : m.x * (n.x * d.x + n.y * d.y + n.z * d.z) = 0 := by grind
 have e2 : m.y * (n.x * d.x + n.y * d.y + n.z * d.z) = 0 := by grind
 have e3 : m.z * (n.x * d.x + n.y * d.y + n.z * d.z) = 0 := by grind
 have k : ∀ {a : Int}, a * (n.x * d.x + n.y * d.y + n.z * d.z) = 0 → a = 0 := fun h => (Int.mul_eq_zero.1 h).resolve_right h2
 exact hm (V3.ext' (k e1) (k e2) (k e3))
theorem Ac8 (a b : V3) : dot a (p7 a b) = 0 := by unfold dot p7; grind
theorem Ac9 (a b : V3) : dot b (p7 a b) = 0 := by unfold dot p7; grind
theorem qe5 {p q : Pln} {x : Pt} {d : V3} (h : rmZ p x = 0) (h' : dot p.n d = 0) : rmZ p (go x q d) = 0 := by rw [Gd6, h, h']; simp
theorem qe6 (q : Pln) (x : Pt) (d : V3) : rmZ q (go x q d) = 0 := by rw [Gd6]; grind
theorem Ze5 {q : Pln} {d : V3} (h : 0 < dot q.n d) : q.n ≠ ⟨0, 0, 0⟩ := fun h' => by rw [h'] at h; unfold dot at h; simp at h
theorem He8 {a b c u v w : Int} (hu : 0 < u) (hv : 0 < v) (hw : 0 < w) (h1 : a * v ≤ b * u) (h2 : b * w ≤ c * v) : a * w ≤ c * u := by
 have h3 := Int.mul_le_mul_of_nonneg_right h1 (Int.le_of_lt hw)
 have h4 := Int.mul_le_mul_of_nonneg_right h2 (Int.le_of_lt hu)
 have e1 : a * v * w = a * w * v := by grind
 have e2 : b * u * w = b * w * u := by grind
 have e3 : c * v * u = c * u * v := by grind
 exact Ya2 hv (by omega)
theorem qe7 {r : List Pln} (hb : Bdd r) (h : Pln) {x : Pt} (hx : Inr r x) : ∃ v, Cn r v ∧ rmZ h v * x.pw ≤ rmZ h x * v.pw := by
 obtain ⟨d0, n0, p0, _⟩ := turn h (d := ⟨1, 0, 0⟩) (by simp)
 obtain ⟨q1, m1, k1, i1⟩ := step hx d0 (hb d0 n0)
 have l1 := (qe4 (h := h) (x := x) (hx.h q1 m1) p0).resolve_right (by have := hx.w; omega)
 obtain ⟨e1, ne1, he1⟩ := Pe1 (Ze5 k1)
 obtain ⟨d1, n1, p1, z1⟩ := turn h ne1
 obtain ⟨q2, m2, k2, i2⟩ := step i1 d1 (hb d1 n1)
 have l2 := (qe4 (h := h) (x := go x q1 d0) (i1.h q2 m2) p1).resolve_right (by have := i1.w; omega)
 have hc := Gd7 (Ze5 k1) (z1 _ he1) (n := q2.n) (by omega)
 obtain ⟨d2, n2, p2, z2⟩ := turn h hc
 obtain ⟨q3, m3, k3, i3⟩ := step i2 d2 (hb d2 n2)
 have l3 := (qe4 (h := h) (x := go (go x q1 d0) q2 d1) (i2.h q3 m3) p2).resolve_right (by have := i2.w; omega)
 have a1 : rmZ q1 (go (go x q1 d0) q2 d1) = 0 := qe5 (qe6 _ _ _) (z1 _ he1)
 refine ⟨_, ⟨i3, q3, q1, q2, m3, m1, m2, fun h0 => ?_, qe6 _ _ _, qe5 a1 (z2 _ (Ac8 _ _)), qe5 (qe6 _ _ _) (z2 _ (Ac9 _ _))⟩, ?_⟩
 ·have : dot q3.n d2 = 0 := z2 _ h0
  omega
 ·exact He8 i3.w i2.w hx.w l3 (He8 i2.w i1.w hx.w l2 l1)
theorem fb8 {r : List Pln} (hb : Bdd r) {h : Pln} (hv : ∀ v, Cn r v → 0 ≤ rmZ h v) {x : Pt} (hx : Inr r x) : 0 ≤ rmZ h x := by
 obtain ⟨v, h1, h2⟩ := qe7 hb h hx
 have h3 := Int.mul_nonneg (hv v h1) (Int.le_of_lt hx.w)
 exact Ya2 h1.w (by rw [Int.zero_mul]; omega)
def mid (x y : Pt) : Pt := ⟨x.px * y.pw + y.px * x.pw, x.py * y.pw + y.py * x.pw, x.pz * y.pw + y.pz * x.pw, 2 * (x.pw * y.pw)⟩
theorem qe8 (p : Pln) (x y : Pt) : rmZ p (mid x y) = rmZ p x * y.pw + rmZ p y * x.pw := by unfold rmZ mid; grind
theorem Inr.mid {r : List Pln} {x y : Pt} (hx : Inr r x) (hy : Inr r y) : Inr r (mid x y) := ⟨by unfold Ce.mid; exact Int.mul_pos (by decide) (Int.mul_pos hx.w hy.w), fun p hp => by
 rw [qe8]
 exact Int.add_nonneg (Int.mul_nonneg (hx.h p hp) (Int.le_of_lt hy.w)) (Int.mul_nonneg (hy.h p hp) (Int.le_of_lt hx.w))⟩
def ce8 (r : List Pln) : Prop := ∃ x : Pt, 0 < x.pw ∧ ∀ p ∈ r, 0 < rmZ p x
theorem Vd1 {r : List Pln} : ∀ (l : List Pln), (∀ p ∈ l, p ∈ r) → (∃ x, Inr r x) → (∀ p ∈ l, ∃ v, Inr r v ∧ 0 < rmZ p v) → ∃ x, Inr r x ∧ ∀ p ∈ l, 0 < rmZ p x
 | [], _, h, _ => by obtain ⟨x, h⟩ := h; exact ⟨x, h, fun p hp => by cases hp⟩
 | a :: l, hl, h, hv => by
  obtain ⟨x, h1, h2⟩ := Vd1 l (fun p hp => hl p (List.mem_cons_of_mem _ hp)) h (fun p hp => hv p (List.mem_cons_of_mem _ hp))
  obtain ⟨y, h3, h4⟩ := hv a List.mem_cons_self
  refine ⟨mid x y, h1.mid h3, fun p hp => ?_⟩
  rw [qe8]
  rcases List.mem_cons.1 hp with rfl | hp
  ·have := Int.mul_nonneg (h1.h p (hl p List.mem_cons_self)) (Int.le_of_lt h3.w)
   have := Int.mul_pos h4 h1.w
   omega
  ·have := Int.mul_pos (h2 p hp) h3.w
   have := Int.mul_nonneg (h3.h p (hl p (List.mem_cons_of_mem _ hp))) (Int.le_of_lt h1.w)
   omega
theorem qe9 {r : List Pln} (hb : Bdd r) (h0 : r ≠ []) : ce8 r ↔ ∀ p ∈ r, ∃ v, Cn r v ∧ 0 < rmZ p v := by
 constructor
 ·intro ⟨x, hw, hx⟩ p hp
  by_cases h : ∃ v, Cn r v ∧ 0 < rmZ p v
  ·exact h
  ·have hx' : Inr r x := ⟨hw, fun q hq => Int.le_of_lt (hx q hq)⟩
   have := fb8 hb (h := xc5 p) (fun v hv => by
    rw [qb6]
    have : ¬ 0 < rmZ p v := fun h' => h ⟨v, hv, h'⟩
    omega) hx'
   rw [qb6] at this
   have := hx p hp
   omega
 ·intro h
  obtain ⟨p, hp⟩ := List.exists_mem_of_ne_nil r h0
  obtain ⟨v, hv, _⟩ := h p hp
  obtain ⟨x, h1, h2⟩ := Vd1 r (fun _ h => h) ⟨v, hv.toInr⟩ fun p hp => by
   obtain ⟨v, hv, h⟩ := h p hp
   exact ⟨v, hv.toInr, h⟩
  exact ⟨x, h1.w, h2⟩
structure Eqv (x v : Pt) : Prop where
 e1 : x.px * v.pw = v.px * x.pw
 e2 : x.py * v.pw = v.py * x.pw
 e3 : x.pz * v.pw = v.pz * x.pw
theorem Eqv.rm {x v : Pt} (h : Eqv x v) (p : Pln) : rmZ p x * v.pw = rmZ p v * x.pw := by
 obtain ⟨e1, e2, e3⟩ := h
 unfold rmZ
 grind
theorem Eqv.inr {r : List Pln} {x v : Pt} (h : Eqv x v) (hw : 0 < x.pw) (hv : Inr r v) : Inr r x := ⟨hw, fun p hp => by
 have := h.rm p
 have h2 := Int.mul_nonneg (hv.h p hp) (Int.le_of_lt hw)
 exact Ya2 hv.w (by rw [Int.zero_mul]; omega)⟩
end Go.Ev.Ce
namespace Go.Ev.Ce
open Go Go.Ev Go.Ev.L Go.Proofs
theorem Gd8 {p : Pln} {x : Pt} (hp : Bd p) (hx : Okx x) : rm p x = rmZ p x := by
 unfold rm rmZ
 obtain ⟨w1, w2, ⟨a1, a2⟩, ⟨a3, a4⟩, a5, a6⟩ := hx
 have h0 := mb hp.b1 hp.b2 (show -600000000000 ≤ x.pw by omega) w2
 have h1 := mb hp.x1 hp.x2 a1 a2
 have h2 := mb hp.y1 hp.y2 a3 a4
 have h3 := mb hp.z1 hp.z2 a5 a6
 exact Ga0 (by omega) (by omega)
theorem Vd2 {r : List Pln} (hb : Bds r) {x : Pt} (hx : Okx x) : inn r x = true ↔ Inr r x := by
 unfold inn
 rw [List.all_eq_true]
 constructor
 ·intro h
  refine ⟨hx.w1, fun p hp => ?_⟩
  have := h p hp
  rw [Gd8 (hb p hp) hx] at this
  simpa using this
 ·intro h p hp
  rw [Gd8 (hb p hp) hx]
  simpa using h.h p hp
theorem He9 {p q s : Pln} (h : (mpt p q s).2 = true) : mw p q s ≠ 0 ∧ ∃ k : Int, k ≠ 0 ∧ k * (mpt p q s).1.px = (mv p q s).x ∧ k * (mpt p q s).1.py = (mv p q s).y ∧ k * (mpt p q s).1.pz = (mv p q s).z ∧ k * (mpt p q s).1.pw = mw p q s := by
 unfold mpt at h ⊢
 by_cases h0 : mw p q s = 0
 ·rw [if_pos h0] at h; cases h
 refine ⟨h0, ?_⟩
 have hg := Pc1 (v := mv p q s) h0
 have dv : ∀ {x : Int}, (gc (mv p q s) (mw p q s)) ∣ x → gc (mv p q s) (mw p q s) * Int.tdiv x (gc (mv p q s) (mw p q s)) = x := fun h => Int.mul_tdiv_cancel' h
 have d1 : gc (mv p q s) (mw p q s) ∣ (mv p q s).x := by
  rw [← Int.dvd_natAbs]; exact Int.natCast_dvd_natCast.2 (Nat.dvd_trans (Nat.gcd_dvd_left _ _) (Nat.gcd_dvd_left _ _))
 have d2 : gc (mv p q s) (mw p q s) ∣ (mv p q s).y := by
  rw [← Int.dvd_natAbs]; exact Int.natCast_dvd_natCast.2 (Nat.dvd_trans (Nat.gcd_dvd_left _ _) (Nat.gcd_dvd_right _ _))
 have d3 : gc (mv p q s) (mw p q s) ∣ (mv p q s).z := by
  rw [← Int.dvd_natAbs]; exact Int.natCast_dvd_natCast.2 (Nat.dvd_trans (Nat.gcd_dvd_right _ _) (Nat.gcd_dvd_left _ _))
 have d4 : gc (mv p q s) (mw p q s) ∣ mw p q s := by
  rw [← Int.dvd_natAbs]; exact Int.natCast_dvd_natCast.2 (Nat.dvd_trans (Nat.gcd_dvd_right _ _) (Nat.gcd_dvd_right _ _))
 rw [if_neg h0]
 by_cases h1 : mw p q s < 0
 ·rw [if_pos h1]
  have e : ∀ {x : Int}, (gc (mv p q s) (mw p q s)) ∣ x → -(gc (mv p q s) (mw p q s)) * Int.tdiv (-x) (gc (mv p q s) (mw p q s)) = x := fun {x} h => by
   rw [Int.neg_mul, dv ((Int.dvd_neg).2 h), Int.neg_neg]
  exact ⟨-(gc (mv p q s) (mw p q s)), by omega, e d1, e d2, e d3, e d4⟩
 ·rw [if_neg h1]
  exact ⟨gc (mv p q s) (mw p q s), by omega, dv d1, dv d2, dv d3, dv d4⟩
theorem re0 {p q s : Pln} (h : (mpt p q s).2 = true) : rmZ p (mpt p q s).1 = 0 ∧ rmZ q (mpt p q s).1 = 0 ∧ rmZ s (mpt p q s).1 = 0 := by
 obtain ⟨_, k, hk, e1, e2, e3, e4⟩ := He9 h
 generalize (mpt p q s).1 = x at *
 have f : ∀ a : Pln, a.b * mw p q s - (a.n.x * (mv p q s).x + a.n.y * (mv p q s).y + a.n.z * (mv p q s).z) = 0 → rmZ a x = 0 := fun a ha => by
  rw [← e1, ← e2, ← e3, ← e4] at ha
  have : k * rmZ a x = 0 := by rw [← ha]; unfold rmZ; grind
  exact (Int.mul_eq_zero.1 this).resolve_left hk
 refine ⟨f p ?_, f q ?_, f s ?_⟩ <;> (simp only [mw, mv, dot, p7]; grind)
theorem Ce2 {p q s : Pln} (h : mw p q s ≠ 0) : (mpt p q s).2 = true := by
 unfold mpt
 rw [if_neg h]
 split <;> rfl
theorem re1 {p q s : Pln} {x : Pt} (h1 : rmZ p x = 0) (h2 : rmZ q x = 0) (h3 : rmZ s x = 0) : mw p q s * x.px = (mv p q s).x * x.pw ∧ mw p q s * x.py = (mv p q s).y * x.pw ∧ mw p q s * x.pz = (mv p q s).z * x.pw := by
 have i1 : (mv p q s).x * x.pw - mw p q s * x.px = (p7 q.n s.n).x * rmZ p x + (p7 s.n p.n).x * rmZ q x + (p7 p.n q.n).x * rmZ s x := by simp only [mw, mv, dot, p7, rmZ]; grind
 have i2 : (mv p q s).y * x.pw - mw p q s * x.py = (p7 q.n s.n).y * rmZ p x + (p7 s.n p.n).y * rmZ q x + (p7 p.n q.n).y * rmZ s x := by simp only [mw, mv, dot, p7, rmZ]; grind
 have i3 : (mv p q s).z * x.pw - mw p q s * x.pz = (p7 q.n s.n).z * rmZ p x + (p7 s.n p.n).z * rmZ q x + (p7 p.n q.n).z * rmZ s x := by simp only [mw, mv, dot, p7, rmZ]; grind
 rw [h1, h2, h3] at i1 i2 i3
 simp only [Int.mul_zero, Int.add_zero] at i1 i2 i3
 omega
theorem Pe2 {p q s : Pln} {x v : Pt} (h : mw p q s ≠ 0) (h1 : rmZ p x = 0) (h2 : rmZ q x = 0) (h3 : rmZ s x = 0) (k1 : rmZ p v = 0) (k2 : rmZ q v = 0) (k3 : rmZ s v = 0) : Eqv x v := by
 obtain ⟨a1, a2, a3⟩ := re1 h1 h2 h3
 obtain ⟨c1, c2, c3⟩ := re1 k1 k2 k3
 have f : ∀ {a c m : Int}, mw p q s * a = m * x.pw → mw p q s * c = m * v.pw → a * v.pw = c * x.pw := fun {a c m} ha hc => by
  have : mw p q s * (a * v.pw - c * x.pw) = 0 := by grind
  have := (Int.mul_eq_zero.1 this).resolve_left h
  omega
 exact ⟨f a1 c1, f a2 c2, f a3 c3⟩
theorem ce9 {r : List Pln} {p q : Pln} {out : List Pt} {s : Pln} {x : Pt} (h : x ∈ out) : x ∈ Ba8 r p q out s := by
 unfold Ba8
 split
 ·exact List.mem_append_left _ h
 ·exact h
theorem Vc2 {r : List Pln} {p q : Pln} {x : Pt} : ∀ {l : List Pln} {out : List Pt}, x ∈ out → x ∈ nb8 r p q l out
 | [], _, h => h
 | s :: l, out, h => Vc2 (l := l) (out := Ba8 r p q out s) (ce9 h)
theorem qc9 {r : List Pln} {p : Pln} {x : Pt} : ∀ {l : List Pln} {out : List Pt}, x ∈ out → x ∈ nb9 r p l out
 | [], _, h => h
 | _ :: l, _, h => qc9 (l := l) (Vc2 h)
theorem Gd9 {r : List Pln} {x : Pt} : ∀ {l : List Pln} {out : List Pt}, x ∈ out → x ∈ Zc7 r l out
 | [], _, h => h
 | _ :: l, _, h => Gd9 (l := l) (qc9 h)
theorem de0 {r : List Pln} {p q : Pln} {out : List Pt} {s : Pln} (h1 : (mpt p q s).2 = true) (h2 : inn r (mpt p q s).1 = true) : (mpt p q s).1 ∈ Ba8 r p q out s := by
 unfold Ba8
 rw [h1, h2]
 cases h : Rb3 out (mpt p q s).1 with
 | true => simpa using (ke6 _ _).1 h
 | false => simp
theorem Vc3 {r : List Pln} {p q s : Pln} (h1 : (mpt p q s).2 = true) (h2 : inn r (mpt p q s).1 = true) : ∀ {l : List Pln} {out : List Pt}, s ∈ l → (mpt p q s).1 ∈ nb8 r p q l out
 | [], _, h => by cases h
 | t :: l, out, h => by
  show _ ∈ nb8 r p q l (Ba8 r p q out t)
  rcases List.mem_cons.1 h with rfl | h
  ·exact Vc2 (de0 h1 h2)
  ·exact Vc3 h1 h2 h
structure Hit (r : List Pln) (Q : Pt → Prop) (p q s : Pln) : Prop where
 h1 : (mpt p q s).2 = true
 h2 : inn r (mpt p q s).1 = true
 h3 : Q (mpt p q s).1
theorem Hd0 {r : List Pln} {Q : Pt → Prop} {p q s : Pln} (hq : Hit r Q p q s) (hs : Hit r Q p s q) (hne : q ≠ s) : ∀ {l : List Pln} {out : List Pt}, q ∈ l → s ∈ l → ∃ x ∈ nb9 r p l out, Q x
 | [], _, h, _ => by cases h
 | t :: l, out, hql, hsl => by
  show ∃ x ∈ nb9 r p l (nb8 r p t l out), Q x
  rcases List.mem_cons.1 hql with rfl | h1
  ·have h2 := (List.mem_cons.1 hsl).resolve_left fun h => hne h.symm
   exact ⟨_, qc9 (Vc3 hq.h1 hq.h2 h2), hq.h3⟩
  ·rcases List.mem_cons.1 hsl with rfl | h2
   ·exact ⟨_, qc9 (Vc3 hs.h1 hs.h2 h1), hs.h3⟩
   ·exact Hd0 hq hs hne (l := l) h1 h2
theorem Hd1 {r : List Pln} {Q : Pt → Prop} {p q s : Pln} (H : ∀ a c d, (a = p ∨ a = q ∨ a = s) → (c = p ∨ c = q ∨ c = s) → (d = p ∨ d = q ∨ d = s) → a ≠ c → c ≠ d → a ≠ d → Hit r Q a c d) (h1 : p ≠ q) (h2 : q ≠ s) (h3 : p ≠ s) :
  ∀ {l : List Pln} {out : List Pt}, p ∈ l → q ∈ l → s ∈ l → ∃ x ∈ Zc7 r l out, Q x
 | [], _, h, _, _ => by cases h
 | t :: l, out, hp, hq, hs => by
  have fin : ∀ {a c d : Pln} {out : List Pt}, (a = p ∨ a = q ∨ a = s) → (c = p ∨ c = q ∨ c = s) → (d = p ∨ d = q ∨ d = s) → a ≠ c → c ≠ d → a ≠ d → c ∈ l → d ∈ l → ∃ x ∈ Zc7 r l (nb9 r a l out), Q x := fun ha hc hd n1 n2 n3 m1 m2 => by
   obtain ⟨x, hx, hQ⟩ := Hd0 (H _ _ _ ha hc hd n1 n2 n3) (H _ _ _ ha hd hc n3 n2.symm n1) n2 (out := _) m1 m2
   exact ⟨x, Gd9 hx, hQ⟩
  show ∃ x ∈ Zc7 r l (nb9 r t l out), Q x
  rcases List.mem_cons.1 hp with rfl | hp'
  ·exact fin (.inl rfl) (.inr (.inl rfl)) (.inr (.inr rfl)) h1 h2 h3 ((List.mem_cons.1 hq).resolve_left (Ne.symm h1)) ((List.mem_cons.1 hs).resolve_left (Ne.symm h3))
  ·rcases List.mem_cons.1 hq with rfl | hq'
   ·exact fin (.inr (.inl rfl)) (.inl rfl) (.inr (.inr rfl)) (Ne.symm h1) h3 h2 hp' ((List.mem_cons.1 hs).resolve_left (Ne.symm h2))
   ·rcases List.mem_cons.1 hs with rfl | hs'
    ·exact fin (.inr (.inr rfl)) (.inl rfl) (.inr (.inl rfl)) (Ne.symm h3) h1 (Ne.symm h2) hp' hq'
    ·exact Hd1 H h1 h2 h3 hp' hq' hs'
theorem Ze6 {p q s : Pln} (h : mw p q s ≠ 0) : p ≠ q ∧ q ≠ s ∧ p ≠ s := by
 refine ⟨fun e => h ?_, fun e => h ?_, fun e => h ?_⟩ <;> (subst e; simp only [mw, dot, p7]; grind)
theorem Pe3 {r : List Pln} (hb : Bds r) : ∀ x ∈ cor r, Cn r x := Td5 fun p hp q hq s hs h hi => by
 obtain ⟨w1, w2, w3, w4, w5⟩ := Nd8 (hb p hp) (hb q hq) (hb s hs) h
 obtain ⟨e1, e2, e3⟩ := re0 h
 exact ⟨(Vd2 hb ⟨w1, w5, w2, w3, w4⟩).1 hi, p, q, s, hp, hq, hs, (He9 h).1, e1, e2, e3⟩
theorem re2 {r : List Pln} (hb : Bds r) {v : Pt} (hv : Cn r v) : ∃ x ∈ cor r, Eqv x v := by
 obtain ⟨p, q, s, hp, hq, hs, hw, e1, e2, e3⟩ := hv.c
 obtain ⟨n1, n2, n3⟩ := Ze6 hw
 refine Hd1 (fun a c d ha hc hd m1 m2 m3 => ?_) n1 n2 n3 hp hq hs
 have hm : ∀ {a}, (a = p ∨ a = q ∨ a = s) → a ∈ r ∧ rmZ a v = 0 := fun h => by
  rcases h with rfl | rfl | rfl
  ·exact ⟨hp, e1⟩
  ·exact ⟨hq, e2⟩
  ·exact ⟨hs, e3⟩
 have hw' : mw a c d ≠ 0 := by
  have k : mw a c d = mw p q s ∨ mw a c d = -mw p q s := by
   rcases ha with rfl | rfl | rfl <;> rcases hc with rfl | rfl | rfl <;> rcases hd with rfl | rfl | rfl <;> first | exact absurd rfl m1 | exact absurd rfl m2 | exact absurd rfl m3 | exact .inl rfl | (left; simp only [mw, dot, p7]; grind; done) | (right; simp only [mw, dot, p7]; grind; done)
  rcases k with k | k <;> omega
 have h := Ce2 hw'
 obtain ⟨w1, w2, w3, w4, w5⟩ := Nd8 (hb a (hm ha).1) (hb c (hm hc).1) (hb d (hm hd).1) h
 obtain ⟨f1, f2, f3⟩ := re0 h
 have he := Pe2 hw' f1 f2 f3 (hm ha).2 (hm hc).2 (hm hd).2
 exact ⟨h, (Vd2 hb ⟨w1, w5, w2, w3, w4⟩).2 (he.inr w1 hv.toInr), he⟩
theorem re3 (c : List Pln) : Bdd (c ++ ws) := fun d hd => by
 have k : ∀ {n : V3} {m : Int}, (⟨n, m⟩ : Pln) ∈ ws → 0 < dot n d → ∃ p ∈ c ++ ws, 0 < dot p.n d := fun h h' => ⟨_, List.mem_append_right _ h, h'⟩
 by_cases h1 : 0 < d.x
 ·exact k (n := ⟨1, 0, 0⟩) (m := 24) (by simp [ws]) (by unfold dot; simp; omega)
 by_cases h2 : d.x < 0
 ·exact k (n := ⟨-1, 0, 0⟩) (m := 24) (by simp [ws]) (by unfold dot; simp; omega)
 by_cases h3 : 0 < d.y
 ·exact k (n := ⟨0, 1, 0⟩) (m := 24) (by simp [ws]) (by unfold dot; simp; omega)
 by_cases h4 : d.y < 0
 ·exact k (n := ⟨0, -1, 0⟩) (m := 24) (by simp [ws]) (by unfold dot; simp; omega)
 by_cases h5 : 0 < d.z
 ·exact k (n := ⟨0, 0, 1⟩) (m := 24) (by simp [ws]) (by unfold dot; simp; omega)
 by_cases h6 : d.z < 0
 ·exact k (n := ⟨0, 0, -1⟩) (m := 24) (by simp [ws]) (by unfold dot; simp; omega)
 exact absurd (V3.ext' (by show d.x = 0; omega) (by show d.y = 0; omega) (by show d.z = 0; omega)) hd
theorem Vd3 {r : List Pln} (hb : Bds r) {p : Pln} (hp : Bd p) : pos (cor r) p = true ↔ ∃ v, Cn r v ∧ 0 < rmZ p v := by
 unfold pos
 rw [List.any_eq_true]
 constructor
 ·rintro ⟨x, hx, h⟩
  rw [Gd8 hp (Wb7 hb x hx)] at h
  exact ⟨x, Pe3 hb x hx, by simpa using h⟩
 ·rintro ⟨v, hv, h⟩
  obtain ⟨x, hx, he⟩ := re2 hb hv
  refine ⟨x, hx, ?_⟩
  rw [Gd8 hp (Wb7 hb x hx)]
  have h1 := he.rm p
  have h2 := Int.mul_pos h (Wb7 hb x hx).w1
  have : 0 < rmZ p x := Int.lt_of_mul_lt_mul_right (by rw [Int.zero_mul]; omega : 0 * v.pw < rmZ p x * v.pw) (Int.le_of_lt hv.w)
  simpa using this
theorem de1 {r : List Pln} (hb : Bds r) (hd : Bdd r) (h0 : r ≠ []) : Zc9 r = true ↔ ce8 r := by
 rw [qe9 hd h0]
 unfold Zc9
 rw [List.all_eq_true]
 exact ⟨fun h p hp => (Vd3 hb (hb p hp)).1 (h p hp), fun h p hp => (Vd3 hb (hb p hp)).2 (h p hp)⟩
end Go.Ev.Ce
namespace Go.Ev.Ce
def dv (z v : Pt) : V3 := ⟨v.px * z.pw - z.px * v.pw, v.py * z.pw - z.py * v.pw, v.pz * z.pw - z.pz * v.pw⟩
def thr (n : V3) (z : Pt) : Pln := ⟨⟨z.pw * n.x, z.pw * n.y, z.pw * n.z⟩, n.x * z.px + n.y * z.py + n.z * z.pz⟩
theorem re4 (n : V3) (z x : Pt) : rmZ (thr n z) x = -dot n (dv z x) := by simp only [rmZ, thr, dot, dv]; grind
theorem re5 {p : Pln} {z v : Pt} (hz : rmZ p z ≠ 0) (hv : rmZ p v = 0) (hw : 0 < v.pw) : dv z v ≠ ⟨0, 0, 0⟩ := fun h => by
 unfold dv at h
 simp only [V3.mk.injEq] at h
 obtain ⟨e1, e2, e3⟩ := h
 have : rmZ p z * v.pw = rmZ p v * z.pw := by unfold rmZ; grind
 rw [hv, Int.zero_mul] at this
 exact (Int.mul_eq_zero.1 this).elim hz (by omega)
theorem Pe4 {p : Pln} {z : Pt} (hz : rmZ p z ≠ 0) : ∀ l : List Pt, l.length ≤ 2 → (∀ v ∈ l, rmZ p v = 0 ∧ 0 < v.pw) → ∃ n, n ≠ (⟨0, 0, 0⟩ : V3) ∧ ∀ v ∈ l, dot n (dv z v) = 0
 | [], _, _ => ⟨⟨1, 0, 0⟩, by simp, fun v h => by cases h⟩
 | [v], _, h => by
  obtain ⟨h1, h2⟩ := h v (by simp)
  obtain ⟨d, hd, he⟩ := Pe1 (re5 hz h1 h2)
  exact ⟨d, hd, fun u hu => by rw [List.mem_singleton.1 hu, ← he]; unfold dot; grind⟩
 | [v, u], _, h => by
  obtain ⟨h1, h2⟩ := h v (by simp)
  by_cases hc : p7 (dv z v) (dv z u) = ⟨0, 0, 0⟩
  ·obtain ⟨d, hd, he⟩ := Pe1 (re5 hz h1 h2)
   have hu : dot (dv z u) d = 0 := by
    by_cases h0 : dot (dv z u) d = 0
    ·exact h0
    ·exact absurd hc (Gd7 (re5 hz h1 h2) he h0)
   refine ⟨d, hd, fun x hx => ?_⟩
   simp only [List.mem_cons, List.not_mem_nil, or_false] at hx
   rcases hx with rfl | rfl
   ·rw [← he]; unfold dot; grind
   ·rw [← hu]; unfold dot; grind
  ·refine ⟨_, hc, fun x hx => ?_⟩
   simp only [List.mem_cons, List.not_mem_nil, or_false] at hx
   rcases hx with rfl | rfl
   ·rw [← Ac8 (dv z x) (dv z u)]; unfold dot; grind
   ·rw [← Ac9 (dv z v) (dv z x)]; unfold dot; grind
 | _ :: _ :: _ :: _, h, _ => by simp at h
def Pe5 (p : Pln) (z v : Pt) : Pt := ⟨rmZ p v * z.px - rmZ p z * v.px, rmZ p v * z.py - rmZ p z * v.py, rmZ p v * z.pz - rmZ p z * v.pz, rmZ p v * z.pw - rmZ p z * v.pw⟩
theorem ud1 (p q : Pln) (z v : Pt) : rmZ q (Pe5 p z v) = rmZ p v * rmZ q z - rmZ p z * rmZ q v := by
 generalize ha : rmZ p v = a
 generalize hb : rmZ p z = c
 simp only [rmZ, Pe5] at *
 rw [ha, hb]
 grind
theorem Ce3 {r r' : List Pln} (hs : ∀ p ∈ r', p ∈ r) {v : Pt} (h : Cn r' v) (hi : Inr r v) : Cn r v := by
 obtain ⟨p, q, s, hp, hq, hs', hw, e⟩ := h.c
 exact ⟨hi, p, q, s, hs p hp, hs q hq, hs s hs', hw, e⟩
theorem re6 {r : List Pln} (hb : Bdd r) (hB : ce8 r) {h : Pln} (hn : h.n ≠ ⟨0, 0, 0⟩) : ¬ ∀ x, Inr r x → rmZ h x = 0 := fun H => by
 obtain ⟨x, hw, hx⟩ := hB
 have hi : Inr r x := ⟨hw, fun p hp => Int.le_of_lt (hx p hp)⟩
 obtain ⟨q, hq, h1, h2⟩ := step hi h.n (hb h.n hn)
 have h3 := H _ h2
 rw [Gd6, H _ hi] at h3
 have h4 := hx q hq
 have h5 : 0 < dot h.n h.n := by
  have k : ∀ a : Int, a ≠ 0 → 0 < a * a := fun a ha => by
   rcases Int.lt_or_gt_of_ne ha with h | h
   ·exact Int.mul_pos_of_neg_of_neg h h
   ·exact Int.mul_pos h h
  have k0 : ∀ a : Int, 0 ≤ a * a := fun a => by
   by_cases h : a = 0
   ·subst h; decide
   ·exact Int.le_of_lt (k a h)
  have a1 := k0 h.n.x; have a2 := k0 h.n.y; have a3 := k0 h.n.z
  unfold dot
  by_cases c1 : h.n.x = 0
  ·by_cases c2 : h.n.y = 0
   ·have := k h.n.z (fun c3 => hn (V3.ext' c1 c2 c3)); omega
   ·have := k _ c2; omega
  ·have := k _ c1; omega
 have := Int.mul_pos h4 h5
 omega
theorem Ze7 {r r' : List Pln} {p : Pln} (hb : Bdd r) (hB : ce8 r) (hp : p ∈ r) (hr : ∀ q ∈ r, q ∈ r' ∨ q = p)
  (l : List Pt) (hl : l.length ≤ 2) (hl0 : ∀ v ∈ l, rmZ p v = 0 ∧ 0 < v.pw) (hc : ∀ v, Cn r v → rmZ p v = 0 → ∃ x ∈ l, Eqv x v) {z : Pt} (hz : Inr r' z) : Inr r z := by
 by_cases h0 : 0 ≤ rmZ p z
 ·exact ⟨hz.w, fun q hq => (hr q hq).elim (hz.h q) fun e => e ▸ h0⟩
 exfalso
 have hneg : rmZ p z < 0 := by omega
 obtain ⟨n, hn, hv⟩ := Pe4 (p := p) (z := z) (by omega) l hl hl0
 have hn' : (thr n z).n ≠ ⟨0, 0, 0⟩ := fun e => hn (by
  unfold thr at e
  simp only [V3.mk.injEq] at e
  have k : ∀ {a : Int}, z.pw * a = 0 → a = 0 := fun h => (Int.mul_eq_zero.1 h).resolve_left (by have := hz.w; omega)
  exact V3.ext' (k e.1) (k e.2.1) (k e.2.2))
 -- the face lies in that plane
 have hface : ∀ u, Inr r u → rmZ p u = 0 → rmZ (thr n z) u = 0 := fun u hu hu0 => by
  have hbd : Bdd (xc5 p :: r) := fun d hd => by
   obtain ⟨q, hq, h⟩ := hb d hd
   exact ⟨q, List.mem_cons_of_mem _ hq, h⟩
  have hiu : Inr (xc5 p :: r) u := ⟨hu.w, fun q hq => by
   rcases List.mem_cons.1 hq with rfl | hq
   ·rw [qb6, hu0]; decide
   ·exact hu.h q hq⟩
  have hvx : ∀ v, Cn (xc5 p :: r) v → rmZ (thr n z) v = 0 := fun v hcv => by
   have hir : Inr r v := ⟨hcv.w, fun q hq => hcv.h q (List.mem_cons_of_mem _ hq)⟩
   have hp0 : rmZ p v = 0 := by
    have h1 := hcv.h (xc5 p) List.mem_cons_self
    rw [qb6] at h1
    have h2 := hir.h p hp
    omega
   obtain ⟨a, c, d, ha, hc', hd, hw, e1, e2, e3⟩ := hcv.c
   -- a plane that is turned round gives the same qe7
   have fl : ∀ {a c d : Pln}, mw (xc5 a) c d = -mw a c d ∧ mw c (xc5 a) d = -mw c a d ∧ mw c d (xc5 a) = -mw c d a := fun {a c d} => by
    refine ⟨?_, ?_, ?_⟩ <;> (simp only [mw, dot, p7, xc5]; grind)
   have hr0 : ∀ {a : Pln}, rmZ (xc5 a) v = 0 → rmZ a v = 0 := fun h => by rw [qb6] at h; omega
   have hcn : Cn r v := by
    refine ⟨hir, ?_⟩
    rcases List.mem_cons.1 ha with rfl | ha <;> rcases List.mem_cons.1 hc' with rfl | hc' <;> rcases List.mem_cons.1 hd with rfl | hd
    ·exact absurd (by simp only [mw, dot, p7]; grind) hw
    ·exact absurd (by simp only [mw, dot, p7]; grind) hw
    ·exact absurd (by simp only [mw, dot, p7]; grind) hw
    ·exact ⟨p, c, d, hp, hc', hd, by have := (fl (a := p) (c := c) (d := d)).1; omega, hp0, e2, e3⟩
    ·exact absurd (by simp only [mw, dot, p7]; grind) hw
    ·exact ⟨a, p, d, ha, hp, hd, by have := (fl (a := p) (c := a) (d := d)).2.1; omega, e1, hp0, e3⟩
    ·exact ⟨a, c, p, ha, hc', hp, by have := (fl (a := p) (c := a) (d := c)).2.2; omega, e1, e2, hp0⟩
    ·exact ⟨a, c, d, ha, hc', hd, hw, e1, e2, e3⟩
   obtain ⟨x, hx, he⟩ := hc v hcn hp0
   have h1 := he.rm (thr n z)
   rw [re4 n z x, hv x hx] at h1
   have h1 : rmZ (thr n z) v * x.pw = 0 := by omega
   exact (Int.mul_eq_zero.1 h1).resolve_right (by have := (hl0 x hx).2; omega)
  have a1 := fb8 hbd (h := thr n z) (fun v hv => by rw [hvx v hv]; decide) hiu
  have a2 := fb8 hbd (h := xc5 (thr n z)) (fun v hv => by rw [qb6, hvx v hv]; decide) hiu
  rw [qb6] at a2
  omega
 -- so do all vertices
 have hall : ∀ v, Inr r v → rmZ (thr n z) v = 0 := fun v hi => by
  by_cases hv0 : rmZ p v = 0
  ·exact hface v hi hv0
  have hvp : 0 < rmZ p v := by have := hi.h p hp; omega
  have hu : Inr r (Pe5 p z v) := by
   have w1 := Int.mul_pos hvp hz.w
   have w2 : rmZ p z * v.pw < 0 := Int.mul_neg_of_neg_of_pos hneg hi.w
   refine ⟨by show 0 < rmZ p v * z.pw - rmZ p z * v.pw; omega, fun q hq => ?_⟩
   rw [ud1]
   rcases hr q hq with h | rfl
   ·have b1 := Int.mul_nonneg (Int.le_of_lt hvp) (hz.h q h)
    have b2 : rmZ p z * rmZ q v ≤ 0 := Int.mul_nonpos_of_nonpos_of_nonneg (Int.le_of_lt hneg) (hi.h q hq)
    omega
   ·have := Int.mul_comm (rmZ q v) (rmZ q z); omega
  have h1 := hface _ hu (by rw [ud1]; have := Int.mul_comm (rmZ p v) (rmZ p z); omega)
  rw [ud1] at h1
  have h2 : rmZ (thr n z) z = 0 := by rw [re4]; simp only [dot, dv]; grind
  rw [h2] at h1
  have h1 : rmZ p z * rmZ (thr n z) v = 0 := by omega
  exact (Int.mul_eq_zero.1 h1).resolve_left (by omega)
 exact re6 hb hB hn' hall
end Go.Ev.Ce
namespace Go.Ev.Ce
open Go Go.Ev Go.Ev.L Go.Proofs
theorem Vd4 (p : Pln) : ∀ (a : Pln) (l : List Pln), p ∈ a :: ddF a l ↔ p ∈ a :: l
 | a, [] => by simp [ddF]
 | a, x :: l => by
  have ih := Vd4 p x l
  unfold ddF
  split
  ·rename_i h
   rw [vb4] at h
   subst h
   rw [ih]
   simp
  ·simp only [List.mem_cons] at ih ⊢
   rw [ih]
theorem re7 (p : Pln) : ∀ l : List Pln, p ∈ dd l ↔ p ∈ l
 | [] => Iff.rfl
 | x :: l => Vd4 p x l
theorem Vd5 : ∀ (a : Pln) (l : List Pln), (a :: l).Pairwise (fun x y => (!ltOf ja6 y x) = true) → Ac7 (a :: ddF a l)
 | a, [], _ => List.pairwise_singleton _ _
 | a, x :: l, h => by
  obtain ⟨h1, h2⟩ := List.pairwise_cons.1 h
  have ih := Vd5 x l h2
  have hle := h1 x List.mem_cons_self
  rw [Wa8] at hle
  have hle : ¬ LtP x a := by simpa using hle
  unfold ddF
  split
  ·rename_i he
   rw [vb4] at he
   subst he
   exact ih
  ·rename_i hne
   have hlt : LtP a x := by
    rcases Ud8 a x with h | h | h
    ·exact h
    ·exact absurd ((vb4 _ _).2 h.symm) hne
    ·exact absurd h hle
   refine List.pairwise_cons.2 ⟨fun p hp => ?_, ih⟩
   rcases List.mem_cons.1 hp with e | hp'
   ·subst e; exact hlt
   ·exact xc4 hlt ((List.pairwise_cons.1 ih).1 p hp')
theorem Pe6 (l : List Pln) : Ac7 (dd (Ja3 l)) := by
 have h := qc2 l
 cases hs : Ja3 l with
 | nil => exact .nil
 | cons a l' => rw [hs] at h; exact Vd5 a l' h
noncomputable def Ja8 (X : List Pt) (out : List Pln) (p : Pln) : List Pln := if keep X p then gc8 out p else out
theorem jd9 (X : List Pt) (p : Pln) : ∀ (c out : List Pln), p ∈ c.foldl (Ja8 X) out ↔ p ∈ out ∨ p ∈ c.filter (keep X)
 | [], out => by simp
 | a :: c, out => by
  rw [List.foldl_cons, jd9 X p c, List.filter_cons]
  unfold Ja8
  split
  ·rw [qc7, List.mem_cons]
   constructor
   ·rintro ((h | h) | h)
    ·exact .inr (.inl h)
    ·exact .inl h
    ·exact .inr (.inr h)
   ·rintro (h | h | h)
    ·exact .inl (.inr h)
    ·exact .inl (.inl h)
    ·exact .inr h
  ·exact Iff.rfl
theorem kd0 (X : List Pt) : ∀ (c out : List Pln), Ac7 out → Ac7 (c.foldl (Ja8 X) out)
 | [], _, h => h
 | a :: c, out, h => by
  rw [List.foldl_cons]
  refine kd0 X c _ ?_
  unfold Ja8
  split
  ·exact Gd2 a h
  ·exact h
theorem re8 (X : List Pt) (c : List Pln) : c.foldl (Ja8 X) [] = dd (Ja3 (c.filter (keep X))) :=
 jd7 (kd0 X c [] .nil) (Pe6 _) fun p => by
  rw [jd9, re7, (gc3 _).mem_iff]
  simp
theorem Ce4 (x : List Pln) (y : Pln) : gc8 x y ≠ [] := by
 intro h
 have := (qc7 y y x).2 (.inl rfl)
 rw [h] at this
 cases this
theorem Hd2 (y : Pln) : ∀ x : List Pln, (gc8 x y).length ≤ x.length + 1
 | [] => Nat.le_refl _
 | a :: l => by
  have := Hd2 y l
  unfold gc8
  split
  ·simp only [List.length_cons]; omega
  ·split <;> simp only [List.length_cons] <;> omega
theorem re9 (x : List Pln) (y : Pln) (hx : x.length ≤ 1000000) : kb2 x y = gc8 x y := (Vc1 x y hx).p.trans (qe3 y x)
theorem se0 (x : List Pln) (y : Pln) (hx : x.length ≤ 1000000) : kb3 x y = true := (Vc1 x y hx).g
theorem jf4 (l : List Pt) (p : Pln) (n : Nat) : l.foldl (fun n x => if rm p x == 0 then n + 1 else n) n = n + l.countP fun x => rm p x == 0 := by
 induction l generalizing n with
 | nil => rfl
 | cons x l ih =>
  rw [List.foldl_cons, ih, List.countP_cons]
  split <;> omega
theorem se1 (c : List Pln) (X : List Pt) (o : List Pln) (hX : X.length ≤ 1000000000) (a φ : Nat) (hφ : φ ≤ 1) (ha : a < c.length) :
  lp (Ja7 ⟨c, X, (a : Int), o⟩) ⟨φ, 0, 0⟩ = (φ + 1, ⟨φ, (onc X (gL tP c a) : Int), (X.length : Int)⟩) := by
 have h := Vb5 (step := Ja7 ⟨c, X, (a : Int), o⟩) (mk := fun j (n : Nat) => (⟨φ, (n : Int), (j : Int)⟩ : L5)) (f := fun n x => if rm (gL tP c a) x == 0 then n + 1 else n) (fin := φ + 1) tX X (fun j n => n ≤ j) hX
  (fun j n hj hi => by
   have hW : W ((n : Int) + 1) = ((n + 1 : Nat) : Int) := by rw [Ga0 (by omega) (by omega)]; omega
   refine ⟨?_, by show (if rm (gL tP c a) (gL tX X j) == 0 then n + 1 else n) ≤ j + 1; split <;> omega⟩
   have hb : φ = 0 ∨ φ = 1 := by omega
   rcases hb with rfl | rfl
   ·show ia5 Stp.next Stp.exit Stp.fail _ _ = _
    simp only [ia5, Int.toNat_natCast, Gc6, hW, o9 hj (show X.length ≤ 4611686018427387904 by omega)]
    rw [btD (n9 hj), bt (f0 hj), bt (f0 ha)]
    cases rm (gL tP c a) (gL tX X j) == 0 <;> rfl
   ·show ia6 Stp.next Stp.exit Stp.fail _ _ = _
    simp only [ia6, Int.toNat_natCast, Gc6, hW, o9 hj (show X.length ≤ 4611686018427387904 by omega)]
    rw [btD (n9 hj), bt (f0 hj), bt (f0 ha)]
    cases rm (gL tP c a) (gL tX X j) == 0 <;> rfl)
  (fun n _ => by
   have hb : φ = 0 ∨ φ = 1 := by omega
   rcases hb with rfl | rfl
   ·show ia5 Stp.next Stp.exit Stp.fail _ _ = _
    simp only [ia5]; rw [bfD (P1 (Nat.lt_irrefl _))]
   ·show ia6 Stp.next Stp.exit Stp.fail _ _ = _
    simp only [ia6]; rw [bfD (P1 (Nat.lt_irrefl _))]) 0 (Nat.zero_le _) 0 (Nat.le_refl _)
 have h := h.1
 rw [List.drop_zero, jf4, Nat.zero_add] at h
 exact h
def phP (out : List Pln) : Nat := match out with
 | [] => 0
 | _ :: _ => 1
theorem Pe7 (c : List Pln) (X : List Pt) (hc : c.length ≤ 1000000) (hX : X.length ≤ 1000000000) : ∃ t s, lp (Ya1 ⟨⟩) ⟨0, c, X, 0, []⟩ = (t, s) ∧ (t = phP (c.foldl (Ja8 X) []) + 1 ∧ s.qb9 = c.foldl (Ja8 X) []) := by
 refine ua0 (step := Ya1 ⟨⟩) (mk := fun j (out : List Pln) => (⟨phP out, c, X, (j : Int), out⟩ : E3)) c.length (fun j out => out.length ≤ j ∧ out = (c.take j).foldl (Ja8 X) [])
  (fun t s => t = phP (c.foldl (Ja8 X) []) + 1 ∧ s.qb9 = c.foldl (Ja8 X) []) (by omega) (fun j out hj hi => ?_) (fun j out hj hi => ?_) 0 [] ⟨by simp, by simp⟩
 ·obtain ⟨i1, i2⟩ := hi
  have hl : out.length ≤ 1000000 := by omega
  have hn := o9 hj (show c.length ≤ 4611686018427387904 by omega)
  have r0 := se1 c X [] hX j 0 (by omega) hj
  have r1 := se1 c X out hX j 1 (by omega) hj
  have hk : keep X (gL tP c j) = !decide ((onc X (gL tP c j) : Int) < 3) := rfl
  have hge : decide ((onc X (gL tP c j) : Int) ≥ 3) = keep X (gL tP c j) := by
   rw [hk]
   by_cases h : (onc X (gL tP c j) : Int) < 3
   ·rw [decide_eq_true h, decide_eq_false (by omega)]; rfl
   ·rw [decide_eq_false h, decide_eq_true (by omega)]; rfl
  have hnx : ∀ {s : E3}, s = ⟨phP (Ja8 X out (gL tP c j)), c, X, ((j + 1 : Nat) : Int), Ja8 X out (gL tP c j)⟩ → Nx (.next s) (fun t => t = phP (c.foldl (Ja8 X) []) + 1 ∧ (⟨phP out, c, X, (j : Int), out⟩ : E3).qb9 = c.foldl (Ja8 X) [])
    (fun s => ∃ a', s = (⟨phP a', c, X, ((j + 1 : Nat) : Int), a'⟩ : E3) ∧ (a'.length ≤ j + 1 ∧ a' = (c.take (j + 1)).foldl (Ja8 X) [])) := fun {s} hs => by
   refine .nx ⟨_, hs, ?_, ?_⟩
   ·unfold Ja8
    split
    ·have := Hd2 (gL tP c j) out; omega
    ·omega
   ·rw [Hc0 tP hj, List.foldl_append, ← i2]; rfl
  cases out with
  | nil =>
   show Nx (ia7 Stp.next Stp.exit Stp.fail ⟨⟩ _) _ _
   simp only [ia7, m0, m8, J9, Int.toNat_natCast, r0, hge, re9 [] _ hl, se0 [] _ hl, hn]
   rw [btD (n9 hj), bt (f0 hj)]
   cases hkk : keep X (gL tP c j) with
   | true => exact hnx (by unfold Ja8; rw [hkk, if_pos rfl]; rfl)
   | false => exact hnx (by unfold Ja8; rw [hkk]; rfl)
  | cons o os =>
   show Nx (ia8 Stp.next Stp.exit Stp.fail ⟨⟩ _) _ _
   simp only [ia8, m0, m8, J9, Int.toNat_natCast, r1, hge, re9 (o :: os) _ hl, se0 (o :: os) _ hl, hn]
   rw [btD (n9 hj), bt (f0 hj), bt (f0 hj)]
   cases hkk : keep X (gL tP c j) with
   | true =>
    refine hnx ?_
    unfold Ja8
    rw [hkk, if_pos rfl]
    have hp : phP (gc8 (o :: os) (gL tP c j)) = 1 := by
     cases h : gc8 (o :: os) (gL tP c j) with
     | nil => exact absurd h (Ce4 _ _)
     | cons _ _ => rfl
    rw [hp]
   | false => exact hnx (by unfold Ja8; rw [hkk]; rfl)
 ·obtain ⟨i1, i2⟩ := hi
  rw [List.take_of_length_le hj] at i2
  cases out with
  | nil =>
   refine ⟨1, ?_, by rw [← i2]; rfl, i2⟩
   show ia7 Stp.next Stp.exit Stp.fail ⟨⟩ _ = _
   simp only [ia7]
   rw [bfD (by show ¬ ((j : Nat) : Int) < (c.length : Int); omega)]
  | cons o os =>
   refine ⟨2, ?_, by rw [← i2]; rfl, i2⟩
   show ia8 Stp.next Stp.exit Stp.fail ⟨⟩ _ = _
   simp only [ia8]
   rw [bfD (by show ¬ ((j : Nat) : Int) < (c.length : Int); omega)]
theorem Hd3 (c : List Pln) (hc : c.length ≤ 1000000) : Rd (one (r1L tP)) (qb5 c) (fun r => r = lean c) := by
 have hl : c.length ≤ 1000000000 := by omega
 have hX := oc9 c
 obtain ⟨t, s, h1, h2, h3⟩ := Pe7 c (pts c) hc (by omega)
 unfold qb5 lean
 simp only [m0, J9, m8, ze5 hl, Td4 hl, be7 hl, be8 hl]
 rw [h1]
 cases hf : ful c with
 | false => exact ⟨_, [], rfl, rfl, rfl⟩
 | true =>
  simp only [h3]
  rw [← re8]
  subst h2
  cases hF : c.foldl (Ja8 (pts c)) [] with
  | nil => exact ⟨_, [], rfl, rfl, rfl⟩
  | cons o os => exact ⟨_, o :: os, rfl, id3 tP (o :: os), rfl⟩
theorem Ce5 (c : List Pln) (hc : c.length ≤ 1000000) : gc6 c = lean c := (Hd3 c hc).p
theorem Ce6 (c : List Pln) (hc : c.length ≤ 1000000) : gc7 c = true := (Hd3 c hc).g
end Go.Ev.Ce
namespace Go.Ev.Ce
open Go Go.Ev Go.Ev.L Go.Proofs
def Ce7 (l : List Pln) (p : Pln) : Bool := l.any fun q => eqP q p
theorem Hd4 (l : List Pln) (p : Pln) : Ce7 l p = true ↔ p ∈ l := by
 unfold Ce7
 rw [List.any_eq_true]
 exact ⟨fun ⟨q, h, e⟩ => by rw [vb4] at e; exact e ▸ h, fun h => ⟨p, h, (vb4 p p).2 rfl⟩⟩
noncomputable def but (r l : List Pln) : List Pln := r.filter fun p => Ce7 ws p || !Ce7 l p
theorem jb2 (r l : List Pln) (p : Pln) : p ∈ but r l ↔ p ∈ r ∧ (p ∈ ws ∨ p ∉ l) := by
 unfold but
 rw [List.mem_filter, Bool.or_eq_true, Hd4, Bool.not_eq_true', ← Bool.not_eq_true, Hd4]
theorem Vd6 {c : List Pln} (hb : Bds (c ++ ws)) (hB : ce8 (c ++ ws)) : ∀ l : List Pln, (∀ p ∈ l, p ∈ c ∧ onc (cor (c ++ ws)) p ≤ 2) → ∀ z, Inr (but (c ++ ws) l) z → Inr (c ++ ws) z
 | [], _, z, hz => ⟨hz.w, fun p hp => hz.h p ((jb2 _ _ _).2 ⟨hp, .inr (by simp)⟩)⟩
 | a :: l, hl, z, hz => by
  have ih := Vd6 hb hB l fun p hp => hl p (List.mem_cons_of_mem _ hp)
  refine ih z ?_
  obtain ⟨ha, hn⟩ := hl a List.mem_cons_self
  have har : a ∈ c ++ ws := List.mem_append_left _ ha
  by_cases h0 : a ∈ ws ∨ a ∈ l
  ·refine ⟨hz.w, fun p hp => hz.h p ?_⟩
   obtain ⟨h1, h2⟩ := (jb2 _ _ _).1 hp
   refine (jb2 _ _ _).2 ⟨h1, ?_⟩
   rcases h2 with h2 | h2
   ·exact .inl h2
   ·by_cases hpa : p = a
    ·subst hpa
     rcases h0 with h0 | h0
     ·exact .inl h0
     ·exact absurd h0 h2
    ·exact .inr fun h => (List.mem_cons.1 h).elim hpa h2
  ·have hw : a ∉ ws := fun h => h0 (.inl h)
   have hal : a ∉ l := fun h => h0 (.inr h)
   have sub : ∀ p ∈ but (c ++ ws) l, p ∈ c ++ ws := fun p hp => ((jb2 _ _ _).1 hp).1
   refine Ze7 (r := but (c ++ ws) l) (r' := but (c ++ ws) (a :: l)) (p := a) ?_ ?_ ((jb2 _ _ _).2 ⟨har, .inr hal⟩) ?_ ((cor (c ++ ws)).filter fun x => rm a x == 0) ?_ ?_ ?_ hz
   ·intro d hd
    obtain ⟨p, hp, h⟩ := re3 [] d hd
    exact ⟨p, (jb2 _ _ _).2 ⟨List.mem_append_right _ hp, .inl hp⟩, h⟩
   ·obtain ⟨x, h1, h2⟩ := hB
    exact ⟨x, h1, fun p hp => h2 p (sub p hp)⟩
   ·intro q hq
    obtain ⟨h1, h2⟩ := (jb2 _ _ _).1 hq
    by_cases hqa : q = a
    ·exact .inr hqa
    ·exact .inl ((jb2 _ _ _).2 ⟨h1, h2.elim .inl fun h => .inr fun h' => (List.mem_cons.1 h').elim hqa h⟩)
   ·rw [← List.countP_eq_length_filter]; exact hn
   ·intro v hv
    obtain ⟨h1, h2⟩ := List.mem_filter.1 hv
    have hx := Wb7 hb v h1
    rw [Gd8 (hb a har) hx] at h2
    exact ⟨by simpa using h2, hx.w1⟩
   ·intro v hv h0
    have hv' : Cn (c ++ ws) v := Ce3 sub hv (ih v hv.toInr)
    obtain ⟨x, hx, he⟩ := re2 hb hv'
    have hok := Wb7 hb x hx
    refine ⟨x, List.mem_filter.2 ⟨hx, ?_⟩, he⟩
    rw [Gd8 (hb a har) hok]
    have h1 := he.rm a
    rw [h0, Int.zero_mul] at h1
    have := (Int.mul_eq_zero.1 h1).resolve_right (by have := hv.w; omega)
    simpa using this
theorem se2 {c : List Pln} (hf : ful c = true) : (chk c == 0) = true ∧ Bds (c ++ ws) ∧ ce8 (c ++ ws) := by
 unfold ful at hf
 rw [Bool.and_eq_true] at hf
 have hb := (vb0 hf.1).1
 exact ⟨hf.1, hb, (de1 hb (re3 c) (by simp [ws])).1 hf.2⟩
theorem rc0 {c : List Pln} (hf : ful c = true) (p : Pln) : p ∈ lean c ↔ p ∈ c ∧ keep (pts c) p = true := by
 unfold lean
 rw [if_pos hf, re7, (gc3 _).mem_iff, List.mem_filter]
theorem Vc4 (c : List Pln) : (lean c).length ≤ c.length := by
 unfold lean
 split
 ·have h1 : (dd (Ja3 (c.filter (keep (pts c))))).length ≤ (Ja3 (c.filter (keep (pts c)))).length := by
   cases Ja3 (c.filter (keep (pts c))) with
   | nil => exact Nat.le_refl _
   | cons a l => have := Ud6 a l; simp only [dd, List.length_cons]; omega
  rw [Xb2] at h1
  have := List.length_filter_le (keep (pts c)) c
  omega
 ·exact Nat.zero_le _
def ipt (v : V3) : Pt := ⟨v.x, v.y, v.z, 1⟩
theorem Pe8 {v : V3} (h : inV v = true) : Okx (ipt v) := by
 obtain ⟨h1, h2, h3⟩ := (Gc8 v).1 h
 exact ⟨Int.one_pos, by show (1 : Int) ≤ _; omega, h1.mono (by omega), h2.mono (by omega), h3.mono (by omega)⟩
theorem Pe9 {v : V3} (h : inV v = true) : ∀ p ∈ ws, 0 ≤ rmZ p (ipt v) := by
 obtain ⟨⟨a1, a2⟩, ⟨a3, a4⟩, a5, a6⟩ := (Gc8 v).1 h
 intro p hp
 simp only [ws, List.mem_cons, List.not_mem_nil, or_false] at hp
 rcases hp with rfl | rfl | rfl | rfl | rfl | rfl <;> simp only [rmZ, ipt] <;> omega
theorem Vd7 {c : List Pln} {x : Pt} (hb : ∀ p ∈ c, Bd p) (hx : Okx x) : inn c x = true ↔ ∀ p ∈ c, 0 ≤ rmZ p x := by
 unfold inn
 rw [List.all_eq_true]
 refine ⟨fun h p hp => ?_, fun h p hp => ?_⟩
 ·have := h p hp
  rw [Gd8 (hb p hp) hx] at this
  simpa using this
 ·rw [Gd8 (hb p hp) hx]
  simpa using h p hp
theorem se3 {c : List Pln} (hf : ful c = true) (v : V3) : has (lean c) v = has c v := by
 obtain ⟨hc, hb, hB⟩ := se2 hf
 have hcl : (chk (lean c) == 0) = true := by
  rw [beq_iff_eq, Pc8] at hc ⊢
  exact ⟨Nat.le_trans (Vc4 c) hc.1, fun p hp => hc.2 p ((rc0 hf p).1 hp).1⟩
 unfold has
 rw [hc, hcl]
 cases hv : inV v with
 | false => rfl
 | true =>
  have hok := Pe8 hv
  have hbc : ∀ p ∈ c, Bd p := fun p hp => hb p (List.mem_append_left _ hp)
  have hbl : ∀ p ∈ lean c, Bd p := fun p hp => hbc p ((rc0 hf p).1 hp).1
  have key : inn (lean c) (ipt v) = inn c (ipt v) := by
   apply Bool.eq_iff_iff.2
   rw [Vd7 hbl hok, Vd7 hbc hok]
   constructor
   ·intro h
    have hz : Inr (but (c ++ ws) (c.filter fun p => !keep (pts c) p)) (ipt v) := ⟨hok.w1, fun p hp => by
     obtain ⟨h1, h2⟩ := (jb2 _ _ _).1 hp
     by_cases hw : p ∈ ws
     ·exact Pe9 hv p hw
     ·have h2 := h2.resolve_left hw
      have h1 := (List.mem_append.1 h1).resolve_right hw
      have hk : keep (pts c) p = true := by
       cases hk : keep (pts c) p with
       | true => rfl
       | false => exact absurd (List.mem_filter.2 ⟨h1, by rw [hk]; rfl⟩) h2
      exact h p ((rc0 hf p).2 ⟨h1, hk⟩)⟩
    have hpts : pts c = cor (c ++ ws) := by unfold pts; rw [if_pos hc]
    have := Vd6 hb hB _ (fun p hp => by
     obtain ⟨h1, h2⟩ := List.mem_filter.1 hp
     refine ⟨h1, ?_⟩
     rw [hpts] at h2
     unfold keep at h2
     simp only [Bool.not_not, decide_eq_true_eq] at h2
     omega) _ hz
    exact fun p hp => this.h p (List.mem_append_left _ hp)
   ·exact fun h p hp => h p ((rc0 hf p).1 hp).1
  show (true && (true && inn (lean c) (ipt v))) = (true && (true && inn c (ipt v)))
  rw [key]
theorem Vd8 (l : List Int) : Rd (one (r1L tV)) (Ta8 l 2) (fun r => r.length = 2) := by
 have key : ∃ t s, lp (La2 ⟨2⟩) ⟨0, 0, l, 0, 0, []⟩ = (t, s) ∧ (t = 2 ∧ ∃ O : List V3, O.length = 2 ∧ s.ns6 = 2 ∧ s.eh1 = bL tV O) := by
  refine ua0 (step := La2 ⟨2⟩) (mk := fun j (a : List V3 × Int) => (⟨phV a.1, (j : Int), l, a.2, a.1.length, bL tV a.1⟩ : s9)) 2 (fun j a => a.1.length = j ∧ 0 ≤ a.2 ∧ a.2 ≤ 10 * j ∧ j ≤ 2)
   (fun t s => t = 2 ∧ ∃ O : List V3, O.length = 2 ∧ s.ns6 = 2 ∧ s.eh1 = bL tV O) (by omega) (fun j a hj hi => ?_) (fun j a hj hi => ?_) 0 ([], 0) ⟨rfl, by simp, by simp, by omega⟩
  ·obtain ⟨O, d⟩ := a
   obtain ⟨i1, i2, i3, i4⟩ := hi
   simp only at i1 i2 i3
   obtain ⟨v, d1, n1, n2, n3, n4, n5⟩ := ua1 4 l d i2 (by omega) (by omega) (by omega)
   obtain ⟨w, hw⟩ : ∃ w : Nat, v = (w : Int) := ⟨v.toNat, by omega⟩
   subst hw
   have hw4 : w < 4 := by omega
   have hrow : ∃ m : Int, f7 [[(i 8)], [(i 8)], [(i 3)], [(i 24)]] (0 + w) = [i m] ∧ 0 ≤ m ∧ m ≤ 24 := by
    match w, hw4 with
    | 0, _ => exact ⟨8, rfl, by omega, by omega⟩
    | 1, _ => exact ⟨8, rfl, by omega, by omega⟩
    | 2, _ => exact ⟨3, rfl, by omega, by omega⟩
    | 3, _ => exact ⟨24, rfl, by omega, by omega⟩
   obtain ⟨m, hm, m1, m2⟩ := hrow
   obtain ⟨a1, a2, a3, d2, v1, _, _, _, v5, v6⟩ := Sc5 m l d1 (by omega) (by omega) m1 (by omega)
   have e1 : toI (hdA (e7 [i m] 0)) = m := rfl
   have e2 : J8 [(CK.int .i64)] (e7 [i m] 0) = true := rfl
   have e3 : Nat.ble (0 + 1) (len [i m]) = true := rfl
   have e4 : Nat.blt (0 + w) (len [[(i 8)], [(i 8)], [(i 3)], [(i 24)]]) = true := by rw [Nat.zero_add, Nat.blt_eq]; exact hw4
   have hn := o9 hj (show 2 ≤ 4611686018427387904 by omega)
   have fin : Nx (.next (⟨1, ((j + 1 : Nat) : Int), l, d2, O.length + 1, bL tV (O ++ [⟨a1, a2, a3⟩])⟩ : s9)) (fun t => t = 2 ∧ ∃ O' : List V3, O'.length = 2 ∧ (⟨phV O, (j : Int), l, d, O.length, bL tV O⟩ : s9).ns6 = 2 ∧ (⟨phV O, (j : Int), l, d, O.length, bL tV O⟩ : s9).eh1 = bL tV O')
     (fun s => ∃ a' : List V3 × Int, s = (⟨phV a'.1, ((j + 1 : Nat) : Int), l, a'.2, a'.1.length, bL tV a'.1⟩ : s9) ∧ (a'.1.length = j + 1 ∧ 0 ≤ a'.2 ∧ a'.2 ≤ 10 * ((j + 1 : Nat) : Int) ∧ j + 1 ≤ 2)) :=
    .nx ⟨(O ++ [⟨a1, a2, a3⟩], d2), by simp only [Ud2, List.length_append, List.length_singleton], by simp only [List.length_append, List.length_singleton]; omega, by simp only; omega, by simp only; omega, by omega⟩
   cases O with
   | nil =>
    show Nx (sa3 Stp.next Stp.exit Stp.fail _ _) _ _
    simp only [sa3, m0, m8, n1, Int.toNat_natCast, hm, e1, e2, e3, e4, v1, hn]
    rw [btD (show (j : Int) < 2 by omega), bt (f0 hw4)]
    exact fin
   | cons o os =>
    show Nx (X7 Stp.next Stp.exit Stp.fail _ _) _ _
    have rr := He6 (l := o :: os) rfl (by simp only [List.length_cons] at i1 ⊢; omega)
    simp only [X7, m0, m8, n1, Int.toNat_natCast, hm, e1, e2, e3, e4, v1, hn, rr, Sc9]
    rw [btD (show (j : Int) < 2 by omega), bt (f0 hw4)]
    exact fin
  ·obtain ⟨O, d⟩ := a
   obtain ⟨i1, i2, i3, i4⟩ := hi
   simp only at i1
   cases O with
   | nil => simp at i1; omega
   | cons o os =>
    have : j = 2 := by omega
    refine ⟨2, ?_, rfl, o :: os, by omega, by show (o :: os).length = 2; omega, rfl⟩
    show X7 Stp.next Stp.exit Stp.fail _ _ = _
    simp only [X7]
    rw [bfD (by show ¬ ((j : Nat) : Int) < 2; omega)]
 obtain ⟨t, s, h1, rfl, O, h2, h3, h4⟩ := key
 unfold Ta8
 simp only [m0, m8]
 rw [h1]
 simp only [h3, h4]
 exact ⟨_, O, rfl, by rw [← h2]; exact oe1 tV 36 O, h2⟩
end Go.Ev.Ce
section
namespace Go.Ev.Ce
open Go Go.Ev Go.Ev.L Go.Proofs
set_option maxRecDepth 100000
noncomputable def Ma4 : List (Nat × Sum) := [(13, Tb5), (24, qc6), (14, bc5), (25, qc8), (27, Vc0), (26, gc1), (28, gc2), (29, jd5), (20, sa9)]
theorem Zb4 : i6 prog G Ma4 := ⟨Fc1, cd7, Sc3, dd2, Gd1, Ac4, Ac5, Pd5, ta7, trivial⟩
structure G7 where
 bs9 : Bool
 Ga5 : List V3
 ua5 : List Pln
 xc6 : List Pln
 na8 : List (List Pln)
 Hd9 : Int
 Lb7 : Int
 f9 : Int
 b9 : Int
 g7 : Int
 l5 : Int
 l6 : Int
 l7 : Int
 I7 : Int
 I8 : Int
 I9 : Int
 J0 : Int
 J1 : Int
 J2 : Int
structure G8 where
 Ma5 : Int
noncomputable def Tb8 (p : G7) (s : G8) : St := ⟨(ra 7 ((.ptr 0 0 0 0) :: (.unk :: ((b p.bs9) :: ((eL tV p.Ga5) :: (.unk :: ((eL tP p.ua5) :: ((eL tP p.xc6) :: (ra 29 ((eL (tLs tP) p.na8) :: ((i p.Hd9) :: ((i p.Lb7) :: (ra 17 ((.sl 1 0 3 0) :: ((i 3) :: ((i s.Ma5) :: (ra 26 []))))))))))))))))), [⟨0, 3, [[(i p.f9), (i p.b9), (i p.g7)]], true, false, 0⟩, ⟨36, 3, [[(i p.l5), (i p.l6), (i p.l7)], [(i p.I7), (i p.I8), (i p.I9)], [(i p.J0), (i p.J1), (i p.J2)]], true, false, 0⟩]⟩
noncomputable def X3 {α : Type} (k : G8 → α) (e : Nat → α) (z : α) (p : G7) (s : G8) : α := let t1 := (Ma3 (rt tP p.ua5) (⟨(toI (hdA (e7 (f7 [[(i p.l5), (i p.l6), (i p.l7)], [(i p.I7), (i p.I8), (i p.I9)], [(i p.J0), (i p.J1), (i p.J2)]] (0 + s.Ma5.toNat)) 0))), (toI (hdA (tlA (e7 (f7 [[(i p.l5), (i p.l6), (i p.l7)], [(i p.I7), (i p.I8), (i p.I9)], [(i p.J0), (i p.J1), (i p.J2)]] (0 + s.Ma5.toNat)) 0)))), (toI (hdA (tlA (tlA (e7 (f7 [[(i p.l5), (i p.l6), (i p.l7)], [(i p.I7), (i p.I8), (i p.I9)], [(i p.J0), (i p.J1), (i p.J2)]] (0 + s.Ma5.toNat)) 0)))))⟩ : V3)); let t2 := (Xb3 (rt tP p.ua5) (⟨(toI (hdA (e7 (f7 [[(i p.l5), (i p.l6), (i p.l7)], [(i p.I7), (i p.I8), (i p.I9)], [(i p.J0), (i p.J1), (i p.J2)]] (0 + s.Ma5.toNat)) 0))), (toI (hdA (tlA (e7 (f7 [[(i p.l5), (i p.l6), (i p.l7)], [(i p.I7), (i p.I8), (i p.I9)], [(i p.J0), (i p.J1), (i p.J2)]] (0 + s.Ma5.toNat)) 0)))), (toI (hdA (tlA (tlA (e7 (f7 [[(i p.l5), (i p.l6), (i p.l7)], [(i p.I7), (i p.I8), (i p.I9)], [(i p.J0), (i p.J1), (i p.J2)]] (0 + s.Ma5.toNat)) 0)))))⟩ : V3)); let t3 := (aa2 (rt tP p.ua5)); let t4 := (Ma3 (rt tP p.xc6) (⟨(toI (hdA (e7 (f7 [[(i p.l5), (i p.l6), (i p.l7)], [(i p.I7), (i p.I8), (i p.I9)], [(i p.J0), (i p.J1), (i p.J2)]] (0 + s.Ma5.toNat)) 0))), (toI (hdA (tlA (e7 (f7 [[(i p.l5), (i p.l6), (i p.l7)], [(i p.I7), (i p.I8), (i p.I9)], [(i p.J0), (i p.J1), (i p.J2)]] (0 + s.Ma5.toNat)) 0)))), (toI (hdA (tlA (tlA (e7 (f7 [[(i p.l5), (i p.l6), (i p.l7)], [(i p.I7), (i p.I8), (i p.I9)], [(i p.J0), (i p.J1), (i p.J2)]] (0 + s.Ma5.toNat)) 0)))))⟩ : V3)); (sl (decide (s.Ma5 < 3)) (sl (inB s.Ma5 3) (sl (((Nat.blt (0 + s.Ma5.toNat) (len [[(i p.l5), (i p.l6), (i p.l7)], [(i p.I7), (i p.I8), (i p.I9)], [(i p.J0), (i p.J1), (i p.J2)]])) && (Nat.ble (0 + 3) (len (f7 [[(i p.l5), (i p.l6), (i p.l7)], [(i p.I7), (i p.I8), (i p.I9)], [(i p.J0), (i p.J1), (i p.J2)]] (0 + s.Ma5.toNat))))) && (J8 [(CK.int .i64), (CK.int .i64), (CK.int .i64)] (e7 (f7 [[(i p.l5), (i p.l6), (i p.l7)], [(i p.I7), (i p.I8), (i p.I9)], [(i p.J0), (i p.J1), (i p.J2)]] (0 + s.Ma5.toNat)) 0))) (sl (okE tP p.ua5) (sl (Da1 (rt tP p.ua5) (⟨(toI (hdA (e7 (f7 [[(i p.l5), (i p.l6), (i p.l7)], [(i p.I7), (i p.I8), (i p.I9)], [(i p.J0), (i p.J1), (i p.J2)]] (0 + s.Ma5.toNat)) 0))), (toI (hdA (tlA (e7 (f7 [[(i p.l5), (i p.l6), (i p.l7)], [(i p.I7), (i p.I8), (i p.I9)], [(i p.J0), (i p.J1), (i p.J2)]] (0 + s.Ma5.toNat)) 0)))), (toI (hdA (tlA (tlA (e7 (f7 [[(i p.l5), (i p.l6), (i p.l7)], [(i p.I7), (i p.I8), (i p.I9)], [(i p.J0), (i p.J1), (i p.J2)]] (0 + s.Ma5.toNat)) 0)))))⟩ : V3)) (sl (okE tP p.ua5) (sl (Xb4 (rt tP p.ua5) (⟨(toI (hdA (e7 (f7 [[(i p.l5), (i p.l6), (i p.l7)], [(i p.I7), (i p.I8), (i p.I9)], [(i p.J0), (i p.J1), (i p.J2)]] (0 + s.Ma5.toNat)) 0))), (toI (hdA (tlA (e7 (f7 [[(i p.l5), (i p.l6), (i p.l7)], [(i p.I7), (i p.I8), (i p.I9)], [(i p.J0), (i p.J1), (i p.J2)]] (0 + s.Ma5.toNat)) 0)))), (toI (hdA (tlA (tlA (e7 (f7 [[(i p.l5), (i p.l6), (i p.l7)], [(i p.I7), (i p.I8), (i p.I9)], [(i p.J0), (i p.J1), (i p.J2)]] (0 + s.Ma5.toNat)) 0)))))⟩ : V3)) (sl (!(t1 == t2)) (e 1) (sl (okE tP p.ua5) (sl (aa3 (rt tP p.ua5)) (sl t3 (sl (okE tP p.xc6) (sl (Da1 (rt tP p.xc6) (⟨(toI (hdA (e7 (f7 [[(i p.l5), (i p.l6), (i p.l7)], [(i p.I7), (i p.I8), (i p.I9)], [(i p.J0), (i p.J1), (i p.J2)]] (0 + s.Ma5.toNat)) 0))), (toI (hdA (tlA (e7 (f7 [[(i p.l5), (i p.l6), (i p.l7)], [(i p.I7), (i p.I8), (i p.I9)], [(i p.J0), (i p.J1), (i p.J2)]] (0 + s.Ma5.toNat)) 0)))), (toI (hdA (tlA (tlA (e7 (f7 [[(i p.l5), (i p.l6), (i p.l7)], [(i p.I7), (i p.I8), (i p.I9)], [(i p.J0), (i p.J1), (i p.J2)]] (0 + s.Ma5.toNat)) 0)))))⟩ : V3)) (sl (okE tP p.ua5) (sl (Da1 (rt tP p.ua5) (⟨(toI (hdA (e7 (f7 [[(i p.l5), (i p.l6), (i p.l7)], [(i p.I7), (i p.I8), (i p.I9)], [(i p.J0), (i p.J1), (i p.J2)]] (0 + s.Ma5.toNat)) 0))), (toI (hdA (tlA (e7 (f7 [[(i p.l5), (i p.l6), (i p.l7)], [(i p.I7), (i p.I8), (i p.I9)], [(i p.J0), (i p.J1), (i p.J2)]] (0 + s.Ma5.toNat)) 0)))), (toI (hdA (tlA (tlA (e7 (f7 [[(i p.l5), (i p.l6), (i p.l7)], [(i p.I7), (i p.I8), (i p.I9)], [(i p.J0), (i p.J1), (i p.J2)]] (0 + s.Ma5.toNat)) 0)))))⟩ : V3)) (sl (!(t4 == t1)) (e 1) (k ⟨(W (s.Ma5 + 1))⟩)) z) z) z) z) (k ⟨(W (s.Ma5 + 1))⟩)) z) z)) z) z) z) z) z) z) (e 2))
noncomputable def P6 (p : G7) (s : G8) : Stp G8 := X3 .next .exit .fail p s
noncomputable def Ga3 : Lo G7 G8 := ⟨En Ma4, 0, pf4, [1, 1, 1, 0, 1, 4, 4, 1, 1, 0, 4, 1, 1, 1, 1, 4, 4], [7, 9, 10, 12, 13, 43, 44, 45, 63, 64, 65], .p, [⟨(ru2 7 ((.s (.o (.ptr 0 0 0 0))) :: ((.s (.o .unk)) :: ((.s (.o .bool)) :: ((.s (.c 3 (nL tV))) :: ((.s (.o .unk)) :: ((.s (.c 4 (nL tP))) :: ((.s (.c 4 (nL tP))) :: (ru2 29 ((.s (.c 1 (nL (tLs tP)))) :: ((.s (.o (.int .i64))) :: ((.s (.o (.int .i64))) :: (ru2 17 ((.s (.o (.sl 1 0 (some 0) (some 3)))) :: ((.s (.o (.lit .i64 3))) :: ((.s (.o (.int .i64))) :: (ru2 26 []))))))))))))))))), [⟨0, 3, true, (some [[(.o (.int .i64)), (.o (.int .i64)), (.o (.int .i64))]])⟩, ⟨36, 3, true, (some [[(.o (.int .i64)), (.o (.int .i64)), (.o (.int .i64))], [(.o (.int .i64)), (.o (.int .i64)), (.o (.int .i64))], [(.o (.int .i64)), (.o (.int .i64)), (.o (.int .i64))]])⟩], fun a H => (⟨(toB (slT a 9)), (rL tV (slT a 10)), (rL tP (slT a 12)), (rL tP (slT a 13)), (rL (tLs tP) (slT a 43)), (toI (slT a 44)), (toI (slT a 45)), (toI (slT (rwT (elT H 0) 0) 0)), (toI (slT (rwT (elT H 0) 0) 1)), (toI (slT (rwT (elT H 0) 0) 2)), (toI (slT (rwT (elT H 1) 0) 0)), (toI (slT (rwT (elT H 1) 0) 1)), (toI (slT (rwT (elT H 1) 0) 2)), (toI (slT (rwT (elT H 1) 1) 0)), (toI (slT (rwT (elT H 1) 1) 1)), (toI (slT (rwT (elT H 1) 1) 2)), (toI (slT (rwT (elT H 1) 2) 0)), (toI (slT (rwT (elT H 1) 2) 1)), (toI (slT (rwT (elT H 1) 2) 2))⟩, ⟨(toI (slT a 65))⟩)⟩], P6, [(none, fun p s => ⟨[(b false)], []⟩), (some 2, fun p s => ⟨(ra 7 ((.ptr 0 0 0 0) :: (.unk :: ((b p.bs9) :: ((eL tV p.Ga5) :: (.unk :: ((eL tP p.ua5) :: ((eL tP p.xc6) :: (ra 29 ((eL (tLs tP) p.na8) :: ((i p.Hd9) :: ((i p.Lb7) :: (ra 17 ((.sl 1 0 3 0) :: ((i 3) :: ((i s.Ma5) :: ((b (decide (s.Ma5 < 3))) :: (ra 25 [])))))))))))))))))), [⟨0, 3, [[(i p.f9), (i p.b9), (i p.g7)]], true, false, 0⟩, ⟨36, 3, [[(i p.l5), (i p.l6), (i p.l7)], [(i p.I7), (i p.I8), (i p.I9)], [(i p.J0), (i p.J1), (i p.J2)]], true, false, 0⟩]⟩)], Tb8⟩
theorem Tb9 : Ga3.Ok := Lo.ok [] (by kernel_rfl) .nil rfl (.cons (fun a H => by kernel_rfl) .nil) fun p s => (.of @X3 (fun F _ _ _ _ _ => by unfold X3; (repeat' apply k9 (f := F)) <;> rfl) (by kernel_rfl))
structure da5 where
 bs9 : Bool
 Hd9 : Int
 f9 : Int
 b9 : Int
 g7 : Int
structure G9 where
 Ga5 : List V3
 na8 : List (List Pln)
 Lb7 : Int
noncomputable def Ub0 (p : da5) (s : G9) : St := ⟨(ra 7 ((.ptr 0 0 0 0) :: (.unk :: ((b p.bs9) :: ((eL tV s.Ga5) :: (ra 32 ((eL (tLs tP) s.na8) :: ((i p.Hd9) :: ((i s.Lb7) :: (ra 46 [])))))))))), [⟨0, 3, [[(i p.f9), (i p.b9), (i p.g7)]], true, false, 0⟩]⟩
noncomputable def X4 {α : Type} (k : G9 → α) (e : Nat → α) (z : α) (p : da5) (s : G9) : α := let t1 := (Jb4 (rt tP (gL (tLs tP) s.na8 s.Lb7.toNat))); let t2 := (gc6 (rt tP (gL (tLs tP) s.na8 s.Lb7.toNat))); let t3 := (pb0 (rt tP t1) (rt tP t2)); let t4 := (lp (P6 (⟨p.bs9, (rt tV s.Ga5), (rt tP (gL (tLs tP) s.na8 s.Lb7.toNat)), (rt tP t1), (rt (tLs tP) s.na8), p.Hd9, s.Lb7, p.f9, p.b9, p.g7, p.f9, p.b9, p.g7, (gL tV s.Ga5 0).x, (gL tV s.Ga5 0).y, (gL tV s.Ga5 0).z, (gL tV s.Ga5 1).x, (gL tV s.Ga5 1).y, (gL tV s.Ga5 1).z⟩ : G7)) (⟨0⟩ : G8)); (sl (decide (s.Lb7 < p.Hd9)) (sl (inB s.Lb7 (List.length s.na8)) (sl (okE tP (gL (tLs tP) s.na8 s.Lb7.toNat)) (sl (Jb5 (rt tP (gL (tLs tP) s.na8 s.Lb7.toNat))) (sl (okE tP (gL (tLs tP) s.na8 s.Lb7.toNat)) (sl (gc7 (rt tP (gL (tLs tP) s.na8 s.Lb7.toNat))) (sl (okE tP t1) (sl (okE tP t2) (sl (pb1 (rt tP t1) (rt tP t2)) (sl (!t3) (e 1) (sl (inB 0 (List.length s.Ga5)) (sl (inB 1 (List.length s.Ga5)) (sl ((cnE tV s.Ga5) && ((cnE tP (gL (tLs tP) s.na8 s.Lb7.toNat)) && ((cnE tP t1) && ((cnE (tLs tP) s.na8) && true)))) (sl (Nat.beq t4.1 1) (e 1) (sl (Nat.beq t4.1 2) (k ⟨(rt tV s.Ga5), (rt (tLs tP) s.na8), (W (s.Lb7 + 1))⟩) z)) z) z) z)) z) z) z) z) z) z) z) z) (e 2))
noncomputable def P7 (p : da5) (s : G9) : Stp G9 := X4 .next .exit .fail p s
noncomputable def Ga4 : Lo da5 G9 := ⟨En Ma4, 0, pf4, [1, 1, 1, 0, 1, 4, 4], [7, 9, 10, 43, 44, 45], (.s .p (.s .p (.s (.b (.s .p (.s .p (.s .p (.s .p (.b (.u Ga3.ls))))))) .p))), [⟨(ru2 7 ((.s (.o (.ptr 0 0 0 0))) :: ((.s (.o .unk)) :: ((.s (.o .bool)) :: ((.s (.c 3 (nL tV))) :: (ru2 32 ((.s (.c 1 (nL (tLs tP)))) :: ((.s (.o (.int .i64))) :: ((.s (.o (.int .i64))) :: (ru2 46 [])))))))))), [⟨0, 3, true, (some [[(.o (.int .i64)), (.o (.int .i64)), (.o (.int .i64))]])⟩], fun a H => (⟨(toB (slT a 9)), (toI (slT a 44)), (toI (slT (rwT (elT H 0) 0) 0)), (toI (slT (rwT (elT H 0) 0) 1)), (toI (slT (rwT (elT H 0) 0) 2))⟩, ⟨(rL tV (slT a 10)), (rL (tLs tP) (slT a 43)), (toI (slT a 45))⟩)⟩], P7, [(none, fun p s => ⟨[(b false)], []⟩), (some 0, fun p s => ⟨(ra 7 ((.ptr 0 0 0 0) :: (.unk :: ((b p.bs9) :: ((eL tV s.Ga5) :: (ra 32 ((eL (tLs tP) s.na8) :: ((i p.Hd9) :: ((i s.Lb7) :: ((b (decide (s.Lb7 < p.Hd9))) :: (ra 45 []))))))))))), [⟨0, 3, [[(i p.f9), (i p.b9), (i p.g7)]], true, false, 0⟩]⟩)], Ub0⟩
theorem Ub1 : Ga4.Ok := Lo.ok [Ga3.pr] (by kernel_rfl) (.cons Tb9 .nil) rfl (.cons (fun a H => by kernel_rfl) .nil) fun p s => (.of @X4 (fun F _ _ _ _ _ => by unfold X4; (repeat' apply k9 (f := F)) <;> rfl) (by kernel_rfl))
noncomputable def na4 (x : List Int) (y : Q2) (z : List Pln) (w : V3) : Option (b7 × List b8) := let t1 := Ta3; let t2 := (jb1 [w.x, w.y, w.z, y.a.x, y.a.y, y.a.z, y.b.x, y.b.y] 2); let t3 := (yb7 (rt tI x) y (rt tP z)); let t4 := (lp (P7 (⟨t1, (↑(List.length t3) : Int), w.x, w.y, w.z⟩ : da5)) (⟨(rt tV t2), (rt (tLs tP) t3), 0⟩ : G9)); (sl Ta4 (sl (Jb1 [w.x, w.y, w.z, y.a.x, y.a.y, y.a.z, y.b.x, y.b.y] 2) (sl (okE tI x) (sl (okE tP z) (sl (yb8 (rt tI x) y (rt tP z)) (sl ((cnE tV t2) && ((cnE (tLs tP) t3) && true)) (sl (Nat.beq t4.1 1) (some ((b false), [])) (sl (Nat.beq t4.1 2) (some ((b t1), [])) none)) none) none) none) none) none) none)
noncomputable def ya9 (x : List Int) (y : Q2) (z : List Pln) (w : V3) : Bool := K5 (one r1B) (na4 x y z w)
noncomputable def za0 (x : List Int) (y : Q2) (z : List Pln) (w : V3) : Bool := okO (one r1B) (na4 x y z w)
noncomputable def rc1 : Sum := xd6 (W7 tI) (R4 tQ) (W7 tP) (R4 tV) (fun x y z w => .guard (za0 x y z w) (.ret ((one r1B).enc (ya9 x y z w), [])))
theorem gc9 : g9 prog G 4 rc1 := af1 (bd b4 Zb4) (one r1B) (o := na4) fun x y z w => sa6 (.s .p (.s .p (.s .p (.s (.s .p (.b (.u Ga4.ls))) .p)))) [Ga4.pr] (by kernel_rfl) (.cons Ub1 .nil) (by kernel_rfl)
end Go.Ev.Ce
end
namespace Go.Ev.Ce
open Go Go.Ev Go.Ev.L Go.Proofs
theorem de2 (l : List Int) : Jb1 l 2 = true := (Vd8 l).g
theorem de3 (l : List Int) : (jb1 l 2).length = 2 := (Vd8 l).p
noncomputable def ub5 (P : G7) : List V3 := [⟨P.l5, P.l6, P.l7⟩, ⟨P.I7, P.I8, P.I9⟩, ⟨P.J0, P.J1, P.J2⟩]
theorem jf5 (P : G7) {j : Nat} (h : j < 3) : f7 [[(i P.l5), (i P.l6), (i P.l7)], [(i P.I7), (i P.I8), (i P.I9)], [(i P.J0), (i P.J1), (i P.J2)]] (0 + j) = tV.row (gL tV (ub5 P) j) := by
 rw [Nat.zero_add]
 exact X5 tV (l := ub5 P) h
theorem Qe0 (P : G7) (hc : P.ua5.length ≤ 1000000) (hl : P.xc6 = lean P.ua5) : (lp (P6 P) ⟨0⟩).1 = 2 := by
 have h := lb4 (step := P6 P) (mk := fun j => (⟨(j : Int)⟩ : G8)) (c := fun _ => false) (u := 1) (fin := 2) tV (ub5 P) (by simp [ub5])
  (fun j hj => by
   have h3 : j < 3 := hj
   have e1 := jf5 P h3
   generalize gL tV (ub5 P) j = v at *
   have e2 : (⟨(toI (hdA (e7 (tV.row v) 0))), (toI (hdA (tlA (e7 (tV.row v) 0)))), (toI (hdA (tlA (tlA (e7 (tV.row v) 0)))))⟩ : V3) = v := rfl
   have e4 : J8 [(CK.int .i64), (CK.int .i64), (CK.int .i64)] (e7 (tV.row v) 0) = true := rfl
   have e5 : Nat.ble (0 + 3) (len (tV.row v)) = true := rfl
   have e6 : Nat.blt (0 + j) (len [[(i P.l5), (i P.l6), (i P.l7)], [(i P.I7), (i P.I8), (i P.I9)], [(i P.J0), (i P.J1), (i P.J2)]]) = true := by
    rw [Nat.zero_add, Nat.blt_eq]; exact h3
   have hC : P.ua5.length ≤ 1000000000 := by omega
   have hL : (lean P.ua5).length ≤ 1000000000 := by have := Vc4 P.ua5; omega
   simp only [P6, X3, Int.toNat_natCast, e1, e2, e4, e5, e6, m0, J9, hl, oe8 hC, oe9 hC, Oe8 hC, Oe9 hC, oe8 hL, oe9 hL, Rb6 hC, Rb7 hC,
    o9 h3 (by omega), beq_self_eq_true, Bool.and_self, Bool.not_true, q7, Ya7]
   rw [btD (show (j : Int) < 3 by omega), bt (f0 h3)]
   cases hf : ful P.ua5 with
   | false => rfl
   | true => simp only [se3 hf, beq_self_eq_true, Bool.not_true, q7, Ya7])
  (by simp only [P6, X3]; rw [bfD (show ¬ (((ub5 P).length : Nat) : Int) < 3 by simp [ub5])]) 0 (Nat.zero_le _)
 rw [List.drop_zero, show ((ub5 P).any fun _ => false) = false by simp] at h
 exact h
theorem Pd7 (l : List (List Pln)) (V : List V3) (b0 : Bool) (x y z : Int) (hV : V.length = 2) (hl : l.length ≤ 1000000000) (hc : ∀ c ∈ l, c.length ≤ 1000000) :
  (lp (P7 ⟨b0, (l.length : Int), x, y, z⟩) ⟨V, l, 0⟩).1 = 2 := by
 have h := lb4 (step := P7 ⟨b0, (l.length : Int), x, y, z⟩) (mk := fun j => (⟨V, l, (j : Int)⟩ : G9)) (c := fun _ => false) (u := 1) (fin := 2) (tLs tP) l hl
  (fun j hj => by
   have hlen : (gL (tLs tP) l j).length ≤ 1000000 := hc _ (Lc5 (tLs tP) hj)
   have hll := Vc4 (gL (tLs tP) l j)
   have hA : Jb4 (gL (tLs tP) l j) = lean (gL (tLs tP) l j) := rfl
   have hG : Jb5 (gL (tLs tP) l j) = true := decide_eq_true hlen
   have i0 : inB 0 V.length = true := by rw [hV]; rfl
   have i1 : inB 1 V.length = true := by rw [hV]; rfl
   simp only [P7, X4, Int.toNat_natCast, m0, J9, m8, hA, hG, Ce5 _ hlen, Ce6 _ hlen, me6 (lean (gL (tLs tP) l j)) (by omega), me7 (lean (gL (tLs tP) l j)) (by omega), i0, i1,
    o9 hj (show l.length ≤ 4611686018427387904 by omega), Bool.and_self, Bool.not_true, q7, Ya7]
   rw [btD (n9 hj), bt (f0 hj)]
   rw [Qe0 _ hlen rfl]
   rfl)
  (by simp only [P7, X4]; rw [bfD (P1 (Nat.lt_irrefl _))]) 0 (Nat.zero_le _)
 rw [List.drop_zero, show (l.any fun _ => false) = false by simp] at h
 exact h
theorem Hd5 (x : List Int) (y : Q2) (z : List Pln) (w : V3) : na4 x y z w = some (b true, []) := by
 have h := Pd7 (Sb8 x y z) (jb1 [w.x, w.y, w.z, y.a.x, y.a.y, y.a.z, y.b.x, y.b.y] 2) true w.x w.y w.z (de3 _) (by simp [Sb8]) (ce4 x y z)
 unfold na4
 simp only [m0, J9, m8, pe9, qe0, Be2, Be1, de2, h]
 rfl
theorem Ce8 (x : List Int) (y : Q2) (z : List Pln) (w : V3) : ya9 x y z w = true := by unfold ya9; rw [Hd5]; rfl
theorem Ce9 (x : List Int) (y : Q2) (z : List Pln) (w : V3) : za0 x y z w = true := by unfold za0; rw [Hd5]; rfl
end Go.Ev.Ce
namespace Go.Ev
open Go Go.ChangeShapes Go.RowKit
structure Vc5 (w w' : World) : Prop where
 os : w'.os = w.os
 output : w'.output = w.output
 size : w.heap.size ≤ w'.heap.size
 block : ∀ k, k < w.heap.size → w'.heap[k]? = w.heap[k]?
theorem Vc5.kept {w w' : World} (h : Vc5 w w') (may : MemPlace → Prop) : w.keptBut w' may := by
 refine ⟨h.os, h.output, fun i hi => ?_⟩
 rw [h.block i hi]
 cases w.heap[i]? with
 | none => rfl
 | some o => cases o <;> first | exact ⟨rfl, rfl, rfl, fun _ _ => rfl⟩ | exact .inr ⟨rfl, rfl⟩ | rfl
theorem Vc5.frozen {w w' : World} (h : Vc5 w w') (b off : Nat) (hb : b < w.heap.size) : w'.frozen? ⟨b, off, none⟩ = w.frozen? ⟨b, off, none⟩ := by
 simp only [World.frozen?, h.block b hb]
theorem Vc5.cell {w w' : World} (h : Vc5 w w') (b off : Nat) (hb : b < w.heap.size) : w'.cell? ⟨b, off, none⟩ = w.cell? ⟨b, off, none⟩ := by
 simp only [World.cell?, h.block b hb]
theorem Vc5.same {w w' : World} (h : Vc5 w w') (p : MemPlace) (hp : p.block < w.heap.size) : w.sameAt w' p := by
 cases p with
 | cell b off => exact h.cell b off hp
 | map b => exact h.block b hp
theorem Ub2 {α β : Type} {f : α → Option β} : ∀ {l : List α} {r : List β}, l.mapM f = some r → r.length = l.length ∧ ∀ (j : Nat) y, r[j]? = some y → ∃ x, l[j]? = some x ∧ f x = some y
 | [], r, h => by
  have : r = [] := by simpa using h.symm
  subst this; simp
 | x :: l, r, h => by
  rw [List.mapM_cons] at h
  obtain ⟨y, h1, h2⟩ := Option.bind_eq_some_iff.1 h
  obtain ⟨r', h3, h4⟩ := Option.bind_eq_some_iff.1 h2
  have : r = y :: r' := by simpa using h4.symm
  subst this
  obtain ⟨g1, g2⟩ := Ub2 h3
  refine ⟨by simp [g1], fun j z hz => ?_⟩
  cases j with
  | zero => simp at hz; subst hz; exact ⟨x, rfl, h1⟩
  | succ j => simpa using g2 j z (by simpa using hz)
section
variable {D : Type} {enc : TypeId × Value → D} {P : Program}
theorem cc2 {T : TypeId → Prop} (K : Kids P T) (hsz : ∀ {t e : TypeId}, T t → P.underlying t = some (.slice e) → 0 < P.cellsOf e) {w w' : World} {sp : Nat → Bool} (hs : Vc5 w w') :
  ∀ {ts : List TypeId} {vs : List Value} {ds : List (DataW D)} {ps : List MemPlace}, (∀ t ∈ ts, T t) → DataW.TrodAll enc P w 0 (fun _ => true) true ts vs ds ps → (∀ p ∈ ps, p.block < w.heap.size) → (∀ p ∈ ps, sp p.block = true) → DataW.TrodAll enc P w' 0 sp true ts vs ds ps
 | [], [], [], _, _, h, _, _ => h
 | t :: ts, v :: vs, d :: ds, ps, ht, h, hlt, hsp => by
  obtain ⟨p, q, ⟨fuel, h1⟩, h2, rfl⟩ := h
  refine ⟨p, q, ⟨fuel, ?_⟩, cc2 K hsz hs (fun t h => ht t (by simp [h])) h2 (fun x hx => hlt x (by simp [hx])) (fun x hx => hsp x (by simp [hx])), rfl⟩
  exact DataW.trod_stays K hsz (fun h => by cases h) (ht t (by simp)) h1 (fun x hx => hs.same x (hlt x (by simp at hx ⊢; exact .inl hx))) (fun x hx => hsp x (by simp at hx ⊢; exact .inl hx))
 | [], _ :: _, _, _, _, h, _, _ => h.elim
 | [], [], _ :: _, _, _, h, _, _ => h.elim
 | _ :: _, [], _, _, _, h, _, _ => h.elim
 | _ :: _, _ :: _, [], _, _, h, _, _ => h.elim
theorem se4 {T : TypeId → Prop} (K : Kids P T) (hsz : ∀ {t e : TypeId}, T t → P.underlying t = some (.slice e) → 0 < P.cellsOf e) {f : Func} {s : ChangeSpec} {apart fresh handsOn again : Bool} {W W' : World} {args : Array Value} {ds gs : List (DataW D)} {before : List MemPlace} {tb : TypeId}
  (hT : ∀ t ∈ f.params.toList, T t) (hW : DataW.Whole enc P f.params.toList s.vars apart W args.toList ds gs before) (hv : s.vars = []) (hr : f.resultTypes = #[tb]) (hb : P.underlying tb = some .bool)
  (h1 : (s.fn D ds).results = [.lit (.bool true)]) (h2 : (s.fn D ds).args = ds) (h3 : (s.fn D ds).vars = []) (hs : Vc5 W W') :
  s.post enc P f apart fresh handsOn again W args (.bool true) W' := by
 have hlt := hW.lt
 obtain ⟨pa, pv, hA, hV, hps, hz, hn⟩ := id hW
 rw [hv] at hV
 have hpv : gs = [] ∧ pv = [] := by
  cases gs with
  | nil => exact ⟨rfl, hV⟩
  | cons => exact hV.elim
 obtain ⟨rfl, rfl⟩ := hpv
 rw [← List.append_nil ds] at h1 h3
 have h2 : (s.fn D (ds ++ [])).args = ds := by rw [List.append_nil]; exact h2
 have hpa : before = pa := by rw [hps]; simp
 subst hpa
 have hagain : ∀ sp : Nat → Bool, (∀ p ∈ before, sp p.block = true) → DataW.TrodAll enc P W' 0 sp true f.params.toList args.toList ds before := fun sp h => cc2 K hsz hs hT hA hlt h
 have hres : ∀ (b : Nat) (sp : Nat → Bool) (hd : Bool), DataW.TrodAll enc P W' b sp hd f.resultTypes.toList ((Value.bool true).resultList f.resultTypes.size) [.lit (.bool true)] [] := fun b sp hd => by
  rw [hr]
  exact ⟨[], [], ⟨1, by simp [DataW.trod, hb, Value.cells, Value.resultList]⟩, rfl, rfl⟩
 have hvars : ∀ sp : Nat → Bool, DataW.TrodVars enc P W' sp s.vars ([] : List (DataW D)) [] := fun sp => by rw [hv]; exact rfl
 have hok : ∀ (j : Nat) (t : TypeId) (r : Value), f.resultTypes[j]? = some t → ((Value.bool true).resultList f.resultTypes.size)[j]? = some r → Value.okWide P W' .any 0 t r := by
  rw [hr]
  intro j t r h4 h5
  cases j with
  | zero =>
   simp at h4
   subst h4
   have : r = .bool true := by simpa [Value.resultList] using h5.symm
   subst this
   exact okWide_bool_mk hb _
  | succ j => simp at h4
 have hag : DataW.TrodAll enc P W' 0 (fun _ => true) true (f.resultTypes.toList ++ f.params.toList) ((Value.bool true).resultList f.resultTypes.size ++ args.toList) (.lit (.bool true) :: ds) before := by
  have := hagain (fun _ => true) (fun _ _ => rfl)
  rw [hr]
  exact ⟨[], before, ⟨1, by simp [DataW.trod, hb, Value.cells, Value.resultList]⟩, this, rfl⟩
 refine ⟨ds, [], before, [], before, [], hW, ?_, ?_, ?_, hs.kept _, fun _ => ?_⟩
 ·rw [h1]; exact hres _ _ _
 ·rw [h2]; exact hagain _ fun p hp => by simpa using hlt p hp
 ·rw [h3]; exact hvars _
 ·refine ⟨hok, .lit (.bool true) :: ds, [], before, ⟨before, [], hag, hvars _, by simp, ?_, ?_⟩, ?_⟩
  ·intro b off hp
   rw [hs.frozen b off (hlt _ hp)]
   exact hz b off (by simpa using hp)
  ·intro ha; simpa using hn ha
  ·intro p hp _; exact hp
variable {w : World} {base : Nat} {spare : Nat → Bool} {held : Bool}
def ud2 (w : World) : Fz := fun b o => (w.cell? ⟨b, o, none⟩).isSome
theorem Qe1 {fuel : Nat} {t : TypeId} {k : IntKind} {cs : List Value} {x : DataW D × List MemPlace} (ht : P.underlying t = some (.int k)) (h : DataW.trod enc P w base spare held fuel t cs = some x) :
  ∃ n, cs = [.int k n] ∧ (Lit.int k n).wf = true ∧ x.1 = .lit (.int k n) := by
 cases fuel with
 | zero => cases h
 | succ fuel =>
  match cs, h with
  | [], h => simp [DataW.trod, ht] at h
  | [v], h =>
   cases v with
   | int k' n =>
    simp only [DataW.trod, ht] at h
    split at h
    ·rename_i hk
     obtain ⟨rfl, hw⟩ := hk
     injection h with h; subst h
     exact ⟨n, rfl, hw, rfl⟩
    ·cases h
   | _ => simp [DataW.trod, ht] at h
  | a :: b :: r, h => simp [DataW.trod, ht] at h
theorem De0 {fuel : Nat} {t : TypeId} {cs : List Value} {x : DataW D × List MemPlace} (ht : P.underlying t = some .bool) (h : DataW.trod enc P w base spare held fuel t cs = some x) :
  ∃ n, cs = [.bool n] ∧ x.1 = .lit (.bool n) := by
 cases fuel with
 | zero => cases h
 | succ fuel =>
  match cs, h with
  | [], h => simp [DataW.trod, ht] at h
  | [v], h =>
   cases v with
   | bool n =>
    simp only [DataW.trod, ht] at h
    injection h with h; subst h
    exact ⟨n, rfl, rfl⟩
   | _ => simp [DataW.trod, ht] at h
  | a :: b :: r, h => simp [DataW.trod, ht] at h
theorem se5 {fuel : Nat} {t e : TypeId} {n : Nat} {cs : List Value} {x : DataW D × List MemPlace} (ht : P.underlying t = some (.array n e)) (h : DataW.trod enc P w base spare held fuel t cs = some x) :
  cs.length = P.cellsOf t ∧ ∃ (fuel' : Nat) (xs : List (DataW D × List MemPlace)), xs.length = n ∧ x.1 = .agg (xs.map (·.1)) ∧ ∀ (j : Nat) y, xs[j]? = some y → DataW.trod enc P w base spare held fuel' e ((cs.drop (j * P.cellsOf e)).take (P.cellsOf e)) = some y := by
 cases fuel with
 | zero => cases h
 | succ fuel =>
  unfold DataW.trod at h
  rw [ht] at h
  simp only at h
  split at h
  ·rename_i hl
   obtain ⟨xs, h1, h2⟩ := Option.map_eq_some_iff.1 h
   have hx := Ub2 h1
   exact ⟨hl, fuel, xs, by simpa using hx.1, by rw [← h2], fun j y hy => by
    obtain ⟨a, ha, hb⟩ := hx.2 j y hy
    have : j < n := by
     have := (List.getElem?_eq_some_iff.1 hy).1
     rw [hx.1] at this; simpa using this
    rw [List.getElem?_range this] at ha
    injection ha with ha
    subst ha
    exact hb⟩
  ·cases h
theorem de4 {fuel : Nat} {t : TypeId} {fs : Array Field} {cs : List Value} {x : DataW D × List MemPlace} (ht : P.underlying t = some (.struct fs)) (h : DataW.trod enc P w base spare held fuel t cs = some x) :
  cs.length = P.cellsOf t ∧ ∃ (fuel' : Nat) (xs : List (DataW D × List MemPlace)), xs.length = fs.size ∧ x.1 = .agg (xs.map (·.1)) ∧ ∀ (j : Nat) f, fs[j]? = some f → ∃ y, xs[j]? = some y ∧ DataW.trod enc P w base spare held fuel' f.type ((cs.drop f.offset).take (P.cellsOf f.type)) = some y := by
 cases fuel with
 | zero => cases h
 | succ fuel =>
  unfold DataW.trod at h
  rw [ht] at h
  simp only at h
  split at h
  ·rename_i hl
   obtain ⟨xs, h1, h2⟩ := Option.map_eq_some_iff.1 h
   have hx := Ub2 h1
   refine ⟨hl, fuel, xs, by simpa using hx.1, by rw [← h2], fun j f hf => ?_⟩
   have hj : j < xs.length := by
    rw [hx.1]; simpa using (Array.getElem?_eq_some_iff.1 hf).1
   obtain ⟨a, ha, hb⟩ := hx.2 j _ (List.getElem?_eq_getElem hj)
   have : a = f := by
    have : fs.toList[j]? = some f := by simpa using hf
    exact Option.some.inj (ha.symm.trans this)
   subst this
   exact ⟨_, List.getElem?_eq_getElem hj, hb⟩
  ·cases h
theorem se6 {fuel : Nat} {t e : TypeId} {cs : List Value} {x : DataW D × List MemPlace} (ht : P.underlying t = some (.slice e)) (h : DataW.trod enc P w base spare held fuel t cs = some x) :
  cs = [.slice none 0 0] ∨ ∃ (a : Addr) (n cap fuel' : Nat), cs = [.slice (some a) n cap] ∧ n ≤ cap ∧ cap ≤ maxLen ∧ ∀ j, j < n → ∃ row y, w.cells? base (a.add (j * P.cellsOf e)) (P.cellsOf e) = some row ∧ DataW.trod enc P w base spare held fuel' e row = some y := by
 cases fuel with
 | zero => cases h
 | succ fuel =>
  match cs, h with
  | [], h => simp [DataW.trod, ht] at h
  | [v], h =>
   cases v with
   | slice a len cap =>
    cases a with
    | none =>
     simp only [DataW.trod, ht] at h
     split at h <;> first | (rename_i e1; cases e1; done) | skip
     all_goals first | exact .inl rfl | (simp_all; done) | skip
    | some a =>
     refine .inr ?_
     simp only [DataW.trod, ht] at h
     split at h
     ·rename_i hc
      obtain ⟨elems, h1, h2⟩ := Option.bind_eq_some_iff.1 h
      have hx := Ub2 h1
      refine ⟨a, len, cap, fuel, rfl, hc.2.1, hc.2.2, fun j hj => ?_⟩
      have hj' : j < elems.length := by rw [hx.1]; simpa using hj
      obtain ⟨i, hi, hb⟩ := hx.2 j _ (List.getElem?_eq_getElem hj')
      rw [List.getElem?_range hj] at hi
      injection hi with hi
      subst hi
      obtain ⟨row, r1, r2⟩ := Option.bind_eq_some_iff.1 hb
      exact ⟨row, _, r1, r2⟩
     ·cases h
   | _ => simp [DataW.trod, ht] at h
  | a :: b :: r, h => simp [DataW.trod, ht] at h
theorem Vd9 : ∀ (d : Nat) (t : TypeId) (l : List (Nat × CK)), ba0 P d t = some l → ∀ (fuel : Nat) (cs : List Value) (x : DataW D × List MemPlace), DataW.trod enc P w base spare held fuel t cs = some x → ∀ p ∈ l, Da9 cs.toArray p
 | 0, _, _, h, _, _, _, _ => by cases h
 | d + 1, t, l, h, fuel, cs, x, hx => by
  have hpart : ∀ {off n : Nat} {e : TypeId} {l' : List (Nat × CK)} {fuel' : Nat} {y : DataW D × List MemPlace}, Mb8 off n (ba0 P d e) = some l' → DataW.trod enc P w base spare held fuel' e ((cs.drop off).take n) = some y → ∀ p ∈ l', Da9 cs.toArray p := fun {off n e l' fuel' y} h1 h2 p hp => by
   obtain ⟨l2, g1, g2, rfl⟩ := Ma6 h1
   obtain ⟨q, hq, rfl⟩ := List.mem_map.1 hp
   have := Vd9 d e l2 g1 fuel' _ y h2 q hq
   have hlt := g2 q hq
   unfold Da9 at this ⊢
   simp only [List.getElem?_toArray, List.getElem?_take, hlt, if_true, List.getElem?_drop] at this ⊢
   exact this
  have hcat : ∀ {α : Type} (f : α → Option (List (Nat × CK))) (xs : List α) (l : List (Nat × CK)), oa0 (xs.map f) = some l → ∀ p ∈ l, ∃ a ∈ xs, ∃ l', f a = some l' ∧ p ∈ l' := fun {α} f xs => by
   induction xs with
   | nil => intro l h; simp only [List.map_nil, oa0] at h; injection h with h; subst h; simp
   | cons a xs ih =>
    intro l h p hp
    simp only [List.map_cons, oa0] at h
    cases h1 : f a with
    | none => simp [h1] at h
    | some l1 =>
    cases h2 : oa0 (xs.map f) with
    | none => simp [h1, h2] at h
    | some l2 =>
    simp only [h1, h2] at h
    injection h with h; subst h
    rcases List.mem_append.1 hp with hp | hp
    ·exact ⟨a, by simp, l1, h1, hp⟩
    ·obtain ⟨b, hb, r⟩ := ih l2 h2 p hp
     exact ⟨b, by simp [hb], r⟩
  unfold ba0 at h
  cases hu : P.underlying t with
  | none => simp [hu] at h
  | some u =>
  cases u with
  | int k =>
   simp only [hu] at h; injection h with h; subst h
   obtain ⟨n, rfl, _, _⟩ := Qe1 hu hx
   intro p hp; simp at hp; subst hp; exact ⟨n, rfl⟩
  | bool =>
   simp only [hu] at h; injection h with h; subst h
   obtain ⟨n, rfl, _⟩ := De0 hu hx
   intro p hp; simp at hp; subst hp; exact ⟨n, rfl⟩
  | struct fs =>
   simp only [hu] at h
   split at h
   ·cases h
   obtain ⟨_, fuel', xs, _, _, hxs⟩ := de4 hu hx
   intro p hp
   obtain ⟨f, hf, l', h1, h2⟩ := hcat _ _ _ h p hp
   split at h1
   ·cases h1
   obtain ⟨j, hj⟩ := List.getElem?_of_mem hf
   obtain ⟨y, _, hy⟩ := hxs j f (by simpa using hj)
   have hc : P.cellsOf f.type = szT P f.type := by
    unfold Program.cellsOf szT
    cases P.info? f.type <;> rfl
   rw [hc] at hy
   exact hpart h1 hy p h2
  | array n e =>
   simp only [hu] at h
   split at h
   case isFalse => cases h
   obtain ⟨_, fuel', xs, hn, _, hxs⟩ := se5 hu hx
   intro p hp
   obtain ⟨j, hj, l', h1, h2⟩ := hcat _ _ _ h p hp
   have hj' : j < xs.length := by rw [hn]; simpa using hj
   have hy := hxs j _ (List.getElem?_eq_getElem hj')
   have hc : P.cellsOf e = szT P e := by
    unfold Program.cellsOf szT
    cases P.info? e <;> rfl
   rw [hc] at hy
   exact hpart h1 hy p h2
  | _ => simp [hu] at h
def Da7 (k : IntKind) (es : Nat) (g : Nat → Int) : List b7 := (List.range es).map fun c => .v (.int k (g c))
def za8 (k : IntKind) (es : Nat) : List (Nat × CK) := (List.range es).map fun c => (c, .int k)
theorem Wd0 {d : Nat} {t : TypeId} {k : IntKind} {es : Nat} (hf : ba0 P d t = some (za8 k es)) {fuel : Nat} {cs : List Value} {x : DataW D × List MemPlace} (hx : DataW.trod enc P w base spare held fuel t cs = some x) (hl : cs.length = es) :
  ∃ g : Nat → Int, ∀ c, c < es → cs[c]? = some (.int k (g c)) := by
 have h := Vd9 d t _ hf fuel cs x hx
 have h' : ∀ c, ∃ n : Int, c < es → cs[c]? = some (.int k n) := fun c => by
  by_cases hc : c < es
  ·have := h (c, .int k) (List.mem_map.2 ⟨c, by simpa using hc, rfl⟩)
   obtain ⟨n, hn⟩ := this
   exact ⟨n, fun _ => by simpa using hn⟩
  ·exact ⟨0, fun h => absurd h hc⟩
 exact ⟨fun c => Classical.choose (h' c), fun c hc => Classical.choose_spec (h' c) hc⟩
theorem se7 {F : Fz} {w : World} (k : IntKind) (n : Int) : ba5 F w (.v (.int k n)) (.int k n) := .v _ rfl
theorem Vc6 {k : IntKind} {es : Nat} {g : Nat → Int} {c : Nat} {x : b7} (h : (Da7 k es g)[c]? = some x) : c < es ∧ x = .v (.int k (g c)) := by
 unfold Da7 at h
 obtain ⟨h1, h2⟩ := Pa0 h
 exact ⟨h1, h2.symm⟩
theorem dd3 {t e : TypeId} {k : IntKind} {es d : Nat} (ht : P.underlying t = some (.slice e)) (hf : ba0 P d e = some (za8 k es)) (hes : P.cellsOf e = es) (h0 : 0 < es) {fuel : Nat} {cs : List Value} {x : DataW D × List MemPlace} (hx : DataW.trod enc P w 0 spare held fuel t cs = some x) :
  ∃ (v : Value) (n : Nat) (g : Nat → Nat → Int), cs = [v] ∧ n ≤ maxLen ∧ ba5 (ud2 w) w (.tree es n fun j => Da7 k es (g j)) v := by
 rcases se6 ht hx with rfl | ⟨a, n, cap, fuel', rfl, hn, hc, hel⟩
 ·exact ⟨_, 0, fun _ _ => 0, rfl, Nat.zero_le _, .nil _ _⟩
 ·rw [hes] at hel
  have hcell : ∀ j, j < n → ∃ g : Nat → Int, ∀ c, c < es → w.cell? ((a.add (j * es)).add c) = some (.int k (g c)) := fun j hj => by
   obtain ⟨row, y, h1, h2⟩ := hel j hj
   unfold World.cells? at h1
   split at h1
   ·obtain ⟨l1, l2⟩ := Ub2 h1
    have hl : row.length = es := by simpa using l1
    obtain ⟨g, hg⟩ := Wd0 hf h2 hl
    refine ⟨g, fun c hc => ?_⟩
    obtain ⟨i, hi, hi2⟩ := l2 c _ (hg c hc)
    rw [List.getElem?_range hc] at hi
    injection hi with hi
    subst hi
    exact hi2
   ·cases h1
  have hg : ∀ j, ∃ g : Nat → Int, j < n → ∀ c, c < es → w.cell? ((a.add (j * es)).add c) = some (.int k (g c)) := fun j => by
   by_cases hj : j < n
   ·obtain ⟨g, hg⟩ := hcell j hj
    exact ⟨g, fun _ => hg⟩
   ·exact ⟨fun _ => 0, fun h => absurd h hj⟩
  obtain ⟨g, hg⟩ := Classical.axiomOfChoice hg
  have hspot : 0 < n → a.spot = none := fun hn => by
   have := hg 0 hn 0 h0
   simpa [Addr.add] using World.cell?_spot this
  have hw : ∀ j c, j < n → c < es → w.cell? ⟨a.block, a.off + (j * es + c), none⟩ = some (.int k (g j c)) := fun j c hj hc => by
   have := hg j hj c hc
   rw [Z5 (hspot (by omega)), Z5 rfl] at this
   simpa [Nat.add_assoc] using this
  refine ⟨_, n, g, rfl, Nat.le_trans hn hc, .tree es n _ a cap (fun j c => .int k (g j c)) hspot hn (fun i hi => by simp [Da7]) (fun i c hi hc => ?_) hw fun i c hi hc => ?_⟩
  ·unfold ud2
   rw [hw i c hi hc]
   rfl
  ·have := (Vc6 (List.getElem?_eq_getElem hc)).2
   rw [this]
   exact se7 _ _
theorem de5 (w : World) : w9 (fun k => w.heap.size ≤ k) (fun _ => ⟨0, 0, 0⟩) [] (ud2 w) w :=
 ⟨fun id b h => by simp at h, fun id id' b b' h => by simp at h, fun _ _ h => h, fun _ h => h⟩
theorem de6 {G : Nat → List Value} {f : FuncId} {S : Sum} (hS : g9 P G f S) {aargs : List b7} {args : List Value} (hrun : ∃ out, (S aargs []).run = some (b true, out)) (hl : aargs.length = args.length)
  (ha : ∀ (i : Nat) x x', aargs[i]? = some x → args[i]? = some x' → da6 (fun _ => ⟨0, 0, 0⟩) [] (ud2 w) w x x') (hG : ∀ g (c : Nat) x, (G g)[c]? = some x → x.oneCell' = true ∧ w.cell? ⟨g, c, none⟩ = some x) :
  Calls P f args.toArray w fun e w' => e = .returned (.bool true) ∧ Vc5 w w' := by
 obtain ⟨out, hrun⟩ := hrun
 obtain ⟨_, hc⟩ := hS aargs [] (b true) out hrun (fun k => w.heap.size ≤ k) (fun _ => ⟨0, 0, 0⟩) (ud2 w) w args (de5 w) hl (fun i x x' h1 h2 => .val (ha i x x' h1 h2)) (fun g c x hx => by
  obtain ⟨h1, h2⟩ := hG g c x hx
  exact ⟨h1, by unfold ud2; rw [h2]; rfl, h2⟩)
 refine hc.mono fun e w' ⟨r', he, ρ', F', hA, hH, hW⟩ => ?_
 have := da0 hW
 subst this
 exact ⟨he, hA.ext.os, hA.ext.output, hA.ext.size, fun k hk => hA.ext.block k hk (by omega)⟩
theorem Wd1 {ρ : Rho} {H : List b8} {F : Fz} {t : TypeId} {k : IntKind} {es d : Nat} {v : Value} {dd : DataW D} {pp : List MemPlace} {bs : Nat} {r : Reach} (hag : agT P t = true) (hf : ba0 P d t = some (za8 k es)) (hes : P.cellsOf t = es)
  (hok : Value.okWide P w r bs t v) (h : DataW.Trod enc P w base spare held t v dd pp) : ∃ g : Nat → Int, da6 ρ H F w (.agg (Da7 k es g)) v := by
 have hv : ∃ cs : Array Value, v = .agg cs ∧ cs.size = P.cellsOf t := by
  unfold agT at hag
  unfold Value.okWide at hok
  split at hag
  ·rename_i fs hu; rw [hu] at hok; obtain ⟨cs, h1, h2, _⟩ := hok; exact ⟨cs, h1, h2⟩
  ·rename_i n e hu; rw [hu] at hok; obtain ⟨cs, h1, h2, _⟩ := hok; exact ⟨cs, h1, h2⟩
  ·cases hag
 obtain ⟨cs, rfl, hsz⟩ := hv
 obtain ⟨fuel, hx⟩ := h
 have hx : DataW.trod enc P w base spare held fuel t cs.toList = some (dd, pp) := hx
 obtain ⟨g, hg⟩ := Wd0 hf hx (by simpa [hes] using hsz)
 refine ⟨g, .agg _ _ (by simp [Da7, hsz, hes]) fun c x x' h1 h2 => ?_⟩
 obtain ⟨hc, rfl⟩ := Vc6 h1
 have := hg c hc
 have h3 : some x' = some (.int k (g c)) := by rw [← h2]; simpa using this
 injection h3 with h3
 subst h3
 exact .v _
theorem kd1 {ρ : Rho} {H : List b8} {t e : TypeId} {k : IntKind} {es d : Nat} {v : Value} {dd : DataW D} {pp : List MemPlace} {bs : Nat} {r : Reach} (ht : P.underlying t = some (.slice e)) (hf : ba0 P d e = some (za8 k es)) (hes : P.cellsOf e = es) (h0 : 0 < es)
  (hok : Value.okWide P w r bs t v) (h : DataW.Trod enc P w 0 spare held t v dd pp) : ∃ (n : Nat) (g : Nat → Nat → Int), n ≤ maxLen ∧ da6 ρ H (ud2 w) w (.tree es n fun j => Da7 k es (g j)) v := by
 obtain ⟨fuel, hx⟩ := h
 obtain ⟨v', n, g, h1, h2, h3⟩ := dd3 ht hf hes h0 hx
 have hv : v.cells = #[v] := by
  unfold Value.okWide at hok
  rw [ht] at hok
  cases v with
  | agg cs => exfalso; simp [Cell.okWide, Cell.ok, ht] at hok
  | _ => rfl
 rw [hv] at h1
 have : v = v' := by simpa using h1
 subst this
 exact ⟨n, g, h2, .cell (.mem h3)⟩
end
end Go.Ev
namespace Go.Ev.L
open Go Go.Ev
theorem se8 {α : Type} (t : Ty α) (n : Nat) (g : Nat → Nat → Int) (f : (Nat → Int) → α) (h : ∀ j, Da7 .i64 t.es (g j) = t.row (f (g j))) :
  ∃ l, (W7 t).dec (.tree t.es n fun j => Da7 .i64 t.es (g j)) = some l ∧ (W7 t).grd (.tree t.es n fun j => Da7 .i64 t.es (g j)) = true := by
 refine ⟨lsL t n fun j => Da7 .i64 t.es (g j), ?_, Eb6 t (f := fun k => f (g k)) fun k _ => h k⟩
 show Bool.rec (motive := fun _ => Option (List α)) none (some (lsL t n fun j => Da7 .i64 t.es (g j))) (Nat.beq t.es t.es) = _
 rw [Nat.beq_refl]
end Go.Ev.L
namespace Go.Ev.L
open Go Go.Ev
def Rdg {α : Type} (c : Cod α) (x : b7) (a : α) : Prop := c.dec x = some a ∧ c.grd x = true
theorem Hd6 {α : Type} (t : Ty α) (n : Nat) (g : Nat → Nat → Int) (f : (Nat → Int) → α) (h : ∀ j, Da7 .i64 t.es (g j) = t.row (f (g j))) : ∃ l, Rdg (W7 t) (.tree t.es n fun j => Da7 .i64 t.es (g j)) l := se8 t n g f h
theorem se9 (n : Nat) (g : Nat → Nat → Int) : ∃ l, Rdg (W7 tI) (.tree 1 n fun j => Da7 .i64 1 (g j)) l := Hd6 tI n g (fun g => g 0) fun _ => rfl
theorem Wd2 {α : Type} (t : Ty α) {cs : List b7} (h : t.ok cs = true) : ∃ a, Rdg (R4 t) (.agg cs) a := ⟨t.rd cs, by
 show Bool.rec (motive := fun _ => Option α) none (some (t.rd cs)) (t.ok cs) = _
 rw [h], rfl⟩
section
variable {α β γ δ ε : Type} {c : Cod α} {d : Cod β} {e : Cod γ} {f : Cod δ} {c5 : Cod ε} {x y z w v : b7} {a : α} {b' : β} {g : γ} {j : δ} {m : ε} {r : b7 × List b8}
theorem jf6 {k : α → β → γ → δ → DT (b7 × List b8)} (h1 : Rdg c x a) (h2 : Rdg d y b') (h3 : Rdg e z g) (h4 : Rdg f w j) (h : (k a b' g j).run = some r) : (xd6 c d e f k [x, y, z, w] []).run = some r := by
 unfold xd6
 simp only [h1.1, h1.2, h2.1, h2.2, h3.1, h3.2, h4.1, h4.2]
 exact h
end
theorem Qe2 {g p : Bool} (hg : g = true) (hp : p = true) : (DT.guard g (.ret ((one r1B).enc p, ([] : List b8)))).run = some (b true, ([] : List b8)) := by subst hg; subst hp; rfl
end Go.Ev.L
