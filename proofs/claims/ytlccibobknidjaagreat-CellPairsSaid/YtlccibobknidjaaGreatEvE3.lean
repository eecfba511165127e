/- Own work: a part of the proof. -/
import Derived.Test.YtlccibobknidjaaGreatEvE1
import Derived.Test.YtlccibobknidjaaGreatEvD3
set_option linter.unusedVariables false
set_option linter.unusedSimpArgs false
set_option linter.unnecessarySimpa false
set_option linter.unusedSectionVars false
namespace Go.Ev.Ce
open Go Go.Ev Go.Ev.L Go.Proofs
noncomputable def inn (l : List Pln) (x : Pt) : Bool := l.all fun p => !decide (rm p x < 0)
theorem vd9 (l : List Pln) (x : Pt) : inn l x = !l.any fun p => decide (rm p x < 0) := by unfold inn; rw [List.not_any_eq_all_not]
theorem se2 (p : Pln) (x : Pt) : Sa3 ⟨p.n.x, p.n.y, p.n.z, p.b, x.px, x.py, x.pz, x.pw⟩ = ⟨decide (rm p x < 0)⟩ := by
 show ma5.mk (decide (ka6 p x < 0)) = _
 rw [Tc6]
theorem Vd3 (l : List Pln) (x : Pt) (hl : l.length ≤ 1000000000) : O7 ⟨l, x.px, x.py, x.pz, x.pw⟩ = ⟨1, if l.any (fun p => decide (rm p x < 0)) then ((l.findIdx (fun p => decide (rm p x < 0)) : Nat) : Int) else -1⟩ := by
 have h := hb6 (step := C3 ⟨l, (l.length : Int), x.px, x.py, x.pz, x.pw⟩) (mk := fun j => (⟨(j : Int)⟩ : m9)) (c := fun p => decide (rm p x < 0)) (u := 1) (fin := 2) tP l hl
  (fun j hj => by
   simp only [C3, A2, Int.toNat_natCast, se2, p6 hj (by omega)]
   rw [bt (zb3 hj), bt (f9 hj)])
  (by simp only [C3, A2]; rw [bf (qb1 (Nat.lt_irrefl _))]) 0 (Nat.zero_le _)
 rw [List.drop_zero] at h
 unfold O7 A9
 simp only [l9, o2]
 rw [show (⟨0⟩ : m9) = ⟨((0 : Nat) : Int)⟩ from rfl, h]
 split
 ·simp only [Nat.zero_add]; rfl
 ·rfl
theorem Lc7 (l : List Pln) (x : Pt) (hl : l.length ≤ 1000000000) : ya5 l x = some (b (inn l x), []) := by
 unfold ya5 U4 w5
 simp only [l9, o2, Vd3 l x hl, vd9]
 split
 ·rename_i h
  rw [h, show decide (((l.findIdx (fun p => decide (rm p x < 0)) : Nat) : Int) ≥ 0) = true from decide_eq_true (by omega)]; rfl
 ·rename_i h
  rw [Bool.not_eq_true] at h
  rw [h]; rfl
theorem wc2 (l : List Pln) (x : Pt) (hl : l.length ≤ 1000000000) : R8 l x = inn l x := by unfold R8; rw [Lc7 l x hl]; rfl
theorem wc3 (l : List Pln) (x : Pt) (hl : l.length ≤ 1000000000) : R9 l x = true := by unfold R9; rw [Lc7 l x hl]; rfl
theorem de4 (l : List Pln) (x : Pt) (hl : l.length ≤ 1000000000) : Ab4 l x = some (b (inn l x), []) := by
 have h := Za3 (step := Na4 ⟨l, x.px, x.py, x.pz, x.pw⟩) (mk := fun j => (⟨(j : Int)⟩ : la2)) (c := fun p => decide (rm p x < 0)) (u := 1) (fin := 2) tP l hl
  (fun j hj => by
   simp only [Na4, Ea9, Int.toNat_natCast, vd7, p6 hj (by omega)]
   rw [bt (zb3 hj), bt (f9 hj)])
  (by simp only [Na4, Ea9]; rw [bf (qb1 (Nat.lt_irrefl _))]) 0 (Nat.zero_le _)
 rw [List.drop_zero] at h
 unfold Ab4
 simp only [l9, o2, vd9]
 rw [show (⟨0⟩ : la2) = ⟨((0 : Nat) : Int)⟩ from rfl, h]
 split
 ·rename_i h; rw [h]; rfl
 ·rename_i h; rw [Bool.not_eq_true] at h; rw [h]; rfl
theorem se3 (l : List Pln) (x : Pt) (hl : l.length ≤ 1000000000) : ab3 l x = inn l x := by unfold ab3; rw [de4 l x hl]; rfl
theorem se4 (l : List Pln) (x : Pt) (hl : l.length ≤ 1000000000) : ab4 l x = true := by unfold ab4; rw [de4 l x hl]; rfl
def eqX (x q : Pt) : Bool := q.px == x.px && (q.py == x.py && (q.pz == x.pz && (q.pw == x.pw && true)))
theorem Vd4 (x q : Pt) : eqX x q = true ↔ q = x := by
 unfold eqX
 simp only [Bool.and_true, Bool.and_eq_true, beq_iff_eq]
 exact ⟨fun ⟨h1, h2, h3, h4⟩ => by cases q; cases x; simp_all, fun h => by subst h; exact ⟨rfl, rfl, rfl, rfl⟩⟩
def Vb7 (l : List Pt) (x : Pt) : Bool := l.any (eqX x)
theorem fd4 (l : List Pt) (x : Pt) (hl : l.length ≤ 1000000000) : Na5 l x = some (b (Vb7 l x), []) := by
 have h := Za3 (step := ra5 ⟨l, x.px, x.py, x.pz, x.pw⟩) (mk := fun j => (⟨(j : Int)⟩ : R6)) (c := eqX x) (u := 1) (fin := 2) tX l hl
  (fun j hj => by
   simp only [ra5, ma3, Int.toNat_natCast, p6 hj (by omega)]
   rw [bt (zb3 hj), bt (f9 hj)]
   rfl)
  (by simp only [ra5, ma3]; rw [bf (qb1 (Nat.lt_irrefl _))]) 0 (Nat.zero_le _)
 rw [List.drop_zero] at h
 unfold Na5
 simp only [l9, o2]
 rw [show (⟨0⟩ : R6) = ⟨((0 : Nat) : Int)⟩ from rfl, h]
 unfold Vb7
 split
 ·rename_i h; rw [h]; rfl
 ·rename_i h; rw [Bool.not_eq_true] at h; rw [h]; rfl
theorem Vd5 (l : List Pt) (x : Pt) (hl : l.length ≤ 1000000000) : Da0 l x = Vb7 l x := by unfold Da0; rw [fd4 l x hl]; rfl
theorem Vd6 (l : List Pt) (x : Pt) (hl : l.length ≤ 1000000000) : Da1 l x = true := by unfold Da1; rw [fd4 l x hl]; rfl
def smb (n x : Int) : Bool := !decide (x < -n) && !decide (x > n)
theorem Vb8 (n x : Int) : smb n x = true ↔ Sm n x := by unfold smb Sm; simp only [Bool.and_eq_true, Bool.not_eq_true', decide_eq_false_iff_not]; omega
theorem wc4 (n : Int) (l : List Int) (hn : 0 ≤ n ∧ n ≤ 1000000000) (hl : l.length ≤ 1000000000) : sa6 n l = some (b (l.all (smb n)), []) := by
 have hW : W (0 - n) = -n := by rw [Ca0 (by omega) (by omega)]; omega
 have h := Za3 (step := ea0 ⟨n, l, (l.length : Int)⟩) (mk := fun j => (⟨(j : Int)⟩ : G5)) (c := fun x => !smb n x) (u := 1) (fin := 2) tI l hl
  (fun j hj => by
   simp only [ea0, aa0, Int.toNat_natCast, p6 hj (by omega), hW]
   rw [bt (zb3 hj), bt (f9 hj)]
   unfold smb
   cases decide (gL tI l j < -n) <;> cases decide (gL tI l j > n) <;> rfl)
  (by simp only [ea0, aa0]; rw [bf (qb1 (Nat.lt_irrefl _))]) 0 (Nat.zero_le _)
 rw [List.drop_zero] at h
 unfold sa6
 simp only [l9, o2]
 rw [show (⟨0⟩ : G5) = ⟨((0 : Nat) : Int)⟩ from rfl, h]
 have e : (l.any fun x => !smb n x) = !l.all (smb n) := by rw [List.not_all_eq_any_not]
 rw [e]
 cases l.all (smb n) <;> rfl
theorem cc8 (n : Int) (l : List Int) (hn : 0 ≤ n ∧ n ≤ 1000000000) (hl : l.length ≤ 1000000000) : ia3 n l = l.all (smb n) := by unfold ia3; rw [wc4 n l hn hl]; rfl
theorem cc9 (n : Int) (l : List Int) (hn : 0 ≤ n ∧ n ≤ 1000000000) (hl : l.length ≤ 1000000000) : ia4 n l = true := by unfold ia4; rw [wc4 n l hn hl]; rfl
theorem fd5 {n : Int} (h : Sm 1000000000000000000 n) : va6 n = (n.natAbs : Int) := by
 unfold va6
 obtain ⟨h1, h2⟩ := h
 rw [Ca0 (by omega) (by omega)]
 split <;> omega
theorem Vb9 {n : Int} (h : Sm 1000000000000000000 n) : ra6 n = some (i (n.natAbs : Int), []) := by
 unfold ra6
 obtain ⟨h1, h2⟩ := h
 rw [Ca0 (by omega) (by omega)]
 by_cases h : n < 0
 ·rw [bt (decide_eq_true h)]; congr 3; omega
 ·rw [bf (decide_eq_false h)]; congr 3; omega
theorem Bb6 {n : Int} (h : Sm 1000000000000000000 n) : ha6 n = (n.natAbs : Int) := by unfold ha6; rw [Vb9 h]; rfl
theorem Bb7 {n : Int} (h : Sm 1000000000000000000 n) : ha7 n = true := by unfold ha7; rw [Vb9 h]; rfl
def g3 (v : V3) : Int := (Nat.gcd (Nat.gcd v.x.natAbs v.y.natAbs) v.z.natAbs : Nat)
theorem Md0 (g n : Nat) : eu (g : Int) (n : Int) = (Nat.gcd g n : Nat) := by rw [Id6 (by omega) (by omega)]; rfl
theorem Fc3 (P : U1) (g n : Nat) (hn : n ≤ 1000000000000000000) : lp (R2 P) ⟨(g : Int), (n : Int)⟩ = (1, ⟨(Nat.gcd g n : Nat), 0⟩) := by
 have := fc9 (step := R2 P) (mk := fun g n => (⟨g, n⟩ : H8)) (fun g n h => by
  have h0 : n ≠ 0 := by omega
  simp [R2, W4, Za0, h, h0]) (fun g => by simp [R2, W4, Za0]) (g : Int) (n : Int) (by omega) (by omega) (by omega)
 rw [this, Md0]
theorem qd8 (l : List Int) (hl : l.length ≤ 1000000000) (hb : ∀ x ∈ l, Sm 1000000000000000000 x) : ma8 l = some (i (l.foldl (fun g x => Nat.gcd g x.natAbs) 0 : Nat), []) := by
 have h := Sb3 (step := aa1 ⟨(l.length : Int)⟩) (mk := fun j (a : Nat) => (⟨(a : Int), l, (j : Int)⟩ : E2)) (f := fun g x => Nat.gcd g x.natAbs) (fin := 2) tI l (fun _ _ => True) hl (fun j a hj _ => ⟨by
   have hm := hb _ (sc8 tI hj)
   have hne : (gL tI l j == (-9223372036854775808 : Int)) = false := by
    have := hm.1
    rw [beq_eq_false_iff_ne]; omega
   have hs : (gL tI l j).natAbs ≤ 1000000000000000000 := by obtain ⟨h1, h2⟩ := hm; omega
   simp only [aa1, W5, Int.toNat_natCast, l9, o2, fd5 hm, Fc3 _ _ _ hs, p6 hj (by omega)]
   rw [bt (zb3 hj), bt (f9 hj), bf hne]
   rfl, trivial⟩) (fun a _ => by simp only [aa1, W5]; rw [bf (qb1 (Nat.lt_irrefl _))]) 0 (Nat.zero_le _) 0 trivial
 have h := h.1
 rw [List.drop_zero] at h
 unfold ma8
 simp only [l9, o2]
 rw [show (⟨0, l, 0⟩ : E2) = ⟨((0 : Nat) : Int), l, ((0 : Nat) : Int)⟩ from rfl, h]
 rfl
def okp (p : Pln) : Bool := [p.n.x, p.n.y, p.n.z].all (smb 4608) && (g3 p.n == 1 && [p.b].all (smb 2097152))
theorem ie9 (p : Pln) : Bd p ↔ [p.n.x, p.n.y, p.n.z].all (smb 4608) = true ∧ [p.b].all (smb 2097152) = true := by
 simp only [List.all_cons, List.all_nil, Bool.and_true, Bool.and_eq_true, Vb8, Sm]
 exact ⟨fun h => ⟨⟨⟨h.x1, h.x2⟩, ⟨h.y1, h.y2⟩, h.z1, h.z2⟩, h.b1, h.b2⟩, fun ⟨⟨⟨a, b⟩, ⟨c, d⟩, e, f⟩, g, h⟩ => ⟨a, b, c, d, e, f, g, h⟩⟩
theorem Tc8 {p : Pln} (h : okp p = true) : Bd p := by
 unfold okp at h
 rw [Bool.and_eq_true, Bool.and_eq_true] at h
 exact (ie9 p).2 ⟨h.1, h.2.2⟩
theorem sm3 {v : V3} (h : [v.x, v.y, v.z].all (smb 4608) = true) : Sm 4608 v.x ∧ Sm 4608 v.y ∧ Sm 4608 v.z := by
 simpa only [List.all_cons, List.all_nil, Bool.and_true, Bool.and_eq_true, Vb8] using h
theorem fd6 (p : Pln) : ya7 p = some (b (okp p), []) := by
 unfold ya7 okp
 have l3 : [p.n.x, p.n.y, p.n.z].length ≤ 1000000000 := by simp
 have l1 : [p.b].length ≤ 1000000000 := by simp
 simp only [cc8 4608 _ (by omega) l3, cc9 4608 _ (by omega) l3, cc8 2097152 _ (by omega) l1, cc9 2097152 _ (by omega) l1]
 cases hw : [p.n.x, p.n.y, p.n.z].all (smb 4608) with
 | false => rfl
 | true =>
  obtain ⟨h1, h2, h3⟩ := sm3 hw
  have hd := qd8 [p.n.x, p.n.y, p.n.z] l3 (by
   intro x hx
   simp only [List.mem_cons, List.not_mem_nil, or_false] at hx
   rcases hx with rfl | rfl | rfl
   ·exact h1.mono (by omega)
   ·exact h2.mono (by omega)
   ·exact h3.mono (by omega))
  have hg : ([p.n.x, p.n.y, p.n.z].foldl (fun g x => Nat.gcd g x.natAbs) 0 : Nat) = Nat.gcd (Nat.gcd p.n.x.natAbs p.n.y.natAbs) p.n.z.natAbs := by
   simp only [List.foldl_cons, List.foldl_nil, Nat.gcd_zero_left]
  have hp : Aa5 [p.n.x, p.n.y, p.n.z] = g3 p.n := by unfold Aa5; rw [hd, hg]; rfl
  have hgd : Aa6 [p.n.x, p.n.y, p.n.z] = true := by unfold Aa6; rw [hd]; rfl
  rw [hp, hgd]
  cases g3 p.n == 1 <;> rfl
theorem Vd7 (p : Pln) : Ma3 p = okp p := by unfold Ma3; rw [fd6 p]; rfl
theorem Vd8 (p : Pln) : Ma4 p = true := by unfold Ma4; rw [fd6 p]; rfl
theorem dc0 (P : da6) (g n : Nat) (hn : n ≤ 1000000000000000000) : lp (Z3 P) ⟨(g : Int), (n : Int)⟩ = (1, ⟨(Nat.gcd g n : Nat), 0⟩) := by
 have := fc9 (step := Z3 P) (mk := fun g n => (⟨g, n⟩ : N1)) (fun g n h => by
  have h0 : n ≠ 0 := by omega
  simp [Z3, ra7, Za0, h, h0]) (fun g => by simp [Z3, ra7, Za0]) (g : Int) (n : Int) (by omega) (by omega) (by omega)
 rw [this, Md0]
theorem Tc9 {v : V3} (h1 : Sm 1000000000000000000 v.x) (h2 : Sm 1000000000000000000 v.y) (h3 : Sm 1000000000000000000 v.z) :
  ab5 v = if g3 v = 0 then some (.tup [.agg (tV.row ⟨0, 0, 0⟩), i 0], []) else some (.tup [.agg (tV.row ⟨W (Int.tdiv v.x (g3 v)), W (Int.tdiv v.y (g3 v)), W (Int.tdiv v.z (g3 v))⟩), i (g3 v)], []) := by
 have ne : ∀ {x : Int}, Sm 1000000000000000000 x → (x == (-9223372036854775808 : Int)) = false := fun {x} h => by
  have := h.1
  rw [beq_eq_false_iff_ne]; omega
 have bd : ∀ {x : Int}, Sm 1000000000000000000 x → x.natAbs ≤ 1000000000000000000 := fun {x} h => by obtain ⟨h1, h2⟩ := h; omega
 have l1 := dc0 ⟨0, v.x, v.y, v.z, v.x, v.y, v.z⟩ 0 v.x.natAbs (bd h1)
 rw [Nat.gcd_zero_left] at l1
 have l2 := dc0 ⟨1, v.x, v.y, v.z, v.x, v.y, v.z⟩ v.x.natAbs v.y.natAbs (bd h2)
 have l3 := dc0 ⟨2, v.x, v.y, v.z, v.x, v.y, v.z⟩ (Nat.gcd v.x.natAbs v.y.natAbs) v.z.natAbs (bd h3)
 unfold ab5
 simp only [Bb6 h1, Bb6 h2, Bb6 h3, Bb7 h1, Bb7 h2, Bb7 h3]
 rw [show (⟨0, (v.x.natAbs : Int)⟩ : N1) = ⟨((0 : Nat) : Int), (v.x.natAbs : Int)⟩ from rfl]
 simp only [l1, l2, l3, ne h1, ne h2, ne h3]
 rw [show ((Nat.gcd (Nat.gcd v.x.natAbs v.y.natAbs) v.z.natAbs : Nat) : Int) = g3 v from rfl]
 by_cases h : g3 v = 0
 ·rw [if_pos h, show (g3 v == 0) = true from by rw [h]; rfl]; rfl
 ·rw [if_neg h, show (g3 v == 0) = false from by rw [beq_eq_false_iff_ne]; exact h]; rfl
theorem wc5 {v : V3} (h1 : Sm 1000000000000000000 v.x) (h2 : Sm 1000000000000000000 v.y) (h3 : Sm 1000000000000000000 v.z) : (Ca1 v).2 = g3 v := by
 unfold Ca1
 rw [Tc9 h1 h2 h3]
 split
 ·rename_i h; rw [h]; rfl
 ·rfl
theorem je0 {v : V3} (h1 : Sm 1000000000000000000 v.x) (h2 : Sm 1000000000000000000 v.y) (h3 : Sm 1000000000000000000 v.z) (h : g3 v ≠ 0) : Ca1 v = (⟨W (Int.tdiv v.x (g3 v)), W (Int.tdiv v.y (g3 v)), W (Int.tdiv v.z (g3 v))⟩, g3 v) := by
 unfold Ca1
 rw [Tc9 h1 h2 h3, if_neg h]
 rfl
theorem Md1 {v : V3} (h1 : Sm 1000000000000000000 v.x) (h2 : Sm 1000000000000000000 v.y) (h3 : Sm 1000000000000000000 v.z) : ab6 v = true := by
 unfold ab6
 rw [Tc9 h1 h2 h3]
 split <;> rfl
theorem Lc8 (p : Pln) : Na6 p = some (b (okp p), []) := by
 unfold Na6 okp
 cases hw : [p.n.x, p.n.y, p.n.z].all (smb 4608) with
 | false =>
  simp only [List.all_cons, List.all_nil, Bool.and_true, smb] at hw
  cases h1 : decide (p.n.x < -4608) <;> cases h2 : decide (p.n.x > 4608) <;> cases h3 : decide (p.n.y < -4608) <;> cases h4 : decide (p.n.y > 4608) <;> cases h5 : decide (p.n.z < -4608) <;> cases h6 : decide (p.n.z > 4608) <;> simp only [h1, h2, h3, h4, h5, h6] at hw ⊢ <;> first | rfl | cases hw
 | true =>
  obtain ⟨h1, h2, h3⟩ := sm3 hw
  rw [bf (decide_eq_false (by have := h1.1; omega)), bf (decide_eq_false (by have := h1.2; omega)), bf (decide_eq_false (by have := h2.1; omega)), bf (decide_eq_false (by have := h2.2; omega)), bf (decide_eq_false (by have := h3.1; omega)), bf (decide_eq_false (by have := h3.2; omega))]
  have k1 := h1.mono (m := 1000000000000000000) (by omega)
  have k2 := h2.mono (m := 1000000000000000000) (by omega)
  have k3 := h3.mono (m := 1000000000000000000) (by omega)
  rw [bt (Md1 k1 k2 k3), wc5 k1 k2 k3]
  cases g3 p.n == 1 with
  | false => rfl
  | true =>
   simp only [List.all_cons, List.all_nil, Bool.and_true, smb, Bool.true_and]
   rw [o8]
   by_cases ha : p.b < -2097152
   ·rw [bf (decide_eq_false (by omega)), show decide (p.b < -2097152) = true from decide_eq_true ha]; rfl
   ·rw [bt (decide_eq_true (by omega)), show decide (p.b < -2097152) = false from decide_eq_false ha]
    congr 3
    by_cases hc : p.b ≤ 2097152
    ·rw [decide_eq_true hc, decide_eq_false (by omega)]; rfl
    ·rw [decide_eq_false hc, decide_eq_true (by omega)]; rfl
theorem Md2 (p : Pln) : Na7 p = okp p := by unfold Na7; rw [Lc8 p]; rfl
theorem fd7 (p : Pln) : Na8 p = true := by unfold Na8; rw [Lc8 p]; rfl
def chk (l : List Pln) : Int := if (l.length : Int) > 48 then 2 else if l.all okp then 0 else 12
theorem fd8 (l : List Pln) (hl : l.length ≤ 1000000000) : Ga2 l = some (i (chk l), []) := by
 have hk1 : ∀ p, sa7 p = some (b (!okp p), []) := fun p => by unfold sa7; rw [Vd8, Vd7]; rfl
 have hp1 : ∀ p, Ga0 p = !okp p := fun p => by unfold Ga0; rw [hk1]; rfl
 have hg1 : ∀ p, Ga1 p = true := fun p => by unfold Ga1; rw [hk1]; rfl
 have h := hb6 (step := C5 ⟨l, (l.length : Int)⟩) (mk := fun j => (⟨(j : Int)⟩ : n5)) (c := fun p => !okp p) (u := 1) (fin := 2) tP l hl
  (fun j hj => by
   simp only [C5, A3, Int.toNat_natCast, hp1, hg1, p6 hj (by omega)]
   rw [bt (zb3 hj), bt (f9 hj), o8])
  (by simp only [C5, A3]; rw [bf (qb1 (Nat.lt_irrefl _))]) 0 (Nat.zero_le _)
 rw [List.drop_zero] at h
 have e : (l.any fun x => !okp x) = !l.all okp := by rw [List.not_all_eq_any_not]
 unfold Ga2 U5 w6 ca0 B0 chk
 simp only [l9, o2]
 rw [show (⟨0⟩ : n5) = ⟨((0 : Nat) : Int)⟩ from rfl, h, e]
 by_cases hn : (l.length : Int) > 48
 ·rw [bt (decide_eq_true hn), if_pos hn]
 ·rw [bf (decide_eq_false hn), if_neg hn]
  cases l.all okp with
  | true => rfl
  | false =>
   simp only [Bool.not_false, if_true, Nat.zero_add]
   show sl true (sl (Nat.beq 1 1) (sl (decide (((l.findIdx fun p => !okp p : Nat) : Int) ≥ 0)) _ _) _) _ = _
   rw [show decide (((l.findIdx fun p => !okp p : Nat) : Int) ≥ 0) = true from decide_eq_true (by omega)]
   rfl
theorem wd0 (l : List Pln) (hl : l.length ≤ 1000000000) : Ga3 l = chk l := by unfold Ga3; rw [fd8 l hl]; rfl
theorem wd1 (l : List Pln) (hl : l.length ≤ 1000000000) : Ga4 l = true := by unfold Ga4; rw [fd8 l hl]; rfl
theorem Lc9 (l : List Pln) (hl : l.length ≤ 1000000000) : Na9 l = some (i (chk l), []) := by
 have h := Za3 (step := ra8 ⟨l⟩) (mk := fun j => (⟨(j : Int)⟩ : R7)) (c := fun p => !okp p) (u := 1) (fin := 2) tP l hl
  (fun j hj => by
   simp only [ra8, ma4, Int.toNat_natCast, Md2, fd7, p6 hj (by omega)]
   rw [bt (zb3 hj), bt (f9 hj), o8])
  (by simp only [ra8, ma4]; rw [bf (qb1 (Nat.lt_irrefl _))]) 0 (Nat.zero_le _)
 rw [List.drop_zero] at h
 have e : (l.any fun x => !okp x) = !l.all okp := by rw [List.not_all_eq_any_not]
 unfold Na9 chk
 simp only [l9, o2]
 rw [show (⟨0⟩ : R7) = ⟨((0 : Nat) : Int)⟩ from rfl, h, e]
 by_cases hn : (l.length : Int) > 48
 ·rw [bt (decide_eq_true hn), if_pos hn]
 ·rw [bf (decide_eq_false hn), if_neg hn]
  cases l.all okp <;> rfl
theorem Bb8 (l : List Pln) (hl : l.length ≤ 1000000000) : ka3 l = chk l := by unfold ka3; rw [Lc9 l hl]; rfl
theorem Bb9 (l : List Pln) (hl : l.length ≤ 1000000000) : ka4 l = true := by unfold ka4; rw [Lc9 l hl]; rfl
theorem fd9 {l : List Pln} : chk l = 0 ↔ l.length ≤ 48 ∧ ∀ p ∈ l, okp p = true := by
 unfold chk
 by_cases hn : (l.length : Int) > 48
 ·rw [if_pos hn]
  exact ⟨fun h => absurd h (by decide), fun h => by omega⟩
 ·rw [if_neg hn]
  cases h : l.all okp with
  | true => exact ⟨fun _ => ⟨by omega, List.all_eq_true.1 h⟩, fun _ => rfl⟩
  | false => exact ⟨fun h => absurd h (by decide), fun h' => by rw [List.all_eq_true.2 h'.2] at h; cases h⟩
end Go.Ev.Ce
namespace Go.Ev.Ce
open Go Go.Ev Go.Ev.L Go.Proofs
theorem btD {p : Prop} {inst : Decidable p} (h : p) {α : Type} (t e : α) : sl (@decide p inst) t e = t := bt (decide_eq_true h) t e
theorem bfD {p : Prop} {inst : Decidable p} (h : ¬ p) {α : Type} (t e : α) : sl (@decide p inst) t e = e := bf (decide_eq_false h) t e
theorem o5 {j n : Nat} (h : j < n) : (j : Int) < (n : Int) := Int.ofNat_lt.2 h
theorem W6 {j n : Nat} (h : ¬ j < n) : ¬ (j : Int) < (n : Int) := fun h' => h (Int.ofNat_lt.1 h')
theorem Ha2 {σ τ α : Type} {step : σ → Stp σ} {mk : Nat → τ → σ} {f : α → List α → τ → τ} {g : List α → τ → τ} {fin : τ → Nat} (l : List α) (I : Nat → τ → Prop) (hl : l.length ≤ 1000000000)
  (g0 : ∀ a, g [] a = a) (g1 : ∀ x r a, g (x :: r) a = g r (f x r a))
  (h : ∀ j a (hj : j < l.length), I j a → step (mk j a) = .next (mk (j + 1) (f l[j] (l.drop (j + 1)) a)) ∧ I (j + 1) (f l[j] (l.drop (j + 1)) a))
  (hf : ∀ j a, l.length ≤ j → I j a → step (mk j a) = .exit (fin a)) (j0 : Nat) (a : τ) (hi : I j0 a) :
  lp step (mk j0 a) = (fin (g (l.drop j0) a), mk (max j0 l.length) (g (l.drop j0) a)) ∧ I (max j0 l.length) (g (l.drop j0) a) := by
 have key := zb4 (step := step) (I := fun m s => ∃ j b, m = l.length - j ∧ max j l.length = max j0 l.length ∧ s = mk j b ∧ I j b ∧ g (l.drop j) b = g (l.drop j0) a)
  (Q := fun u s => u = fin (g (l.drop j0) a) ∧ s = mk (max j0 l.length) (g (l.drop j0) a) ∧ I (max j0 l.length) (g (l.drop j0) a)) (fun m s ⟨j, b, hm, hj, hs, hb, he⟩ => by
   subst hs
   by_cases hlt : j < l.length
   ·obtain ⟨h1, h2⟩ := h j b hlt hb
    refine .inr ⟨_, l.length - (j + 1), by omega, h1, j + 1, _, rfl, by omega, rfl, h2, ?_⟩
    rw [← he, List.drop_eq_getElem_cons hlt, g1]
   ·have hd : l.drop j = [] := List.drop_eq_nil_of_le (by omega)
    rw [hd, g0] at he
    have hj' : j = max j0 l.length := by omega
    subst he
    rw [← hj']
    exact .inl ⟨_, hf j _ (by omega) hb, rfl, rfl, hb⟩) (l.length - j0) (mk j0 a) (by omega) ⟨j0, a, rfl, rfl, rfl, hi, rfl⟩
 exact ⟨Prod.ext key.1 key.2.1, key.2.2⟩
noncomputable def Pa6 (r : List Pln) (p q : Pln) (out : List Pt) (s : Pln) : List Pt :=
 if (mpt p q s).2 && (!Vb7 out (mpt p q s).1 && inn r (mpt p q s).1) then out ++ [(mpt p q s).1] else out
noncomputable def sb0 (r : List Pln) (p q : Pln) (l : List Pln) (out : List Pt) : List Pt := l.foldl (Pa6 r p q) out
noncomputable def vb6 (r : List Pln) (p : Pln) : List Pln → List Pt → List Pt
 | [], out => out
 | q :: l, out => vb6 r p l (sb0 r p q l out)
noncomputable def Dd8 (r : List Pln) : List Pln → List Pt → List Pt
 | [], out => out
 | p :: l, out => Dd8 r l (vb6 r p l out)
noncomputable def cor (r : List Pln) : List Pt := Dd8 r r []
def Bds (r : List Pln) : Prop := ∀ p ∈ r, Bd p
theorem dc1 (r : List Pln) (p q : Pln) (out : List Pt) (s : Pln) : (Pa6 r p q out s).length ≤ out.length + 1 := by
 unfold Pa6
 split
 ·simp
 ·omega
theorem wc6 (r : List Pln) (p q : Pln) : ∀ (l : List Pln) (out : List Pt), (sb0 r p q l out).length ≤ out.length + l.length
 | [], out => Nat.le_refl _
 | s :: l, out => by
  have h1 := dc1 r p q out s
  have h2 := wc6 r p q l (Pa6 r p q out s)
  show (sb0 r p q l (Pa6 r p q out s)).length ≤ _
  simp only [List.length_cons]
  omega
noncomputable def ph (out : List Pt) : Nat := match out with
 | [] => 0
 | _ :: _ => 1
theorem gd0 (x : Pt) : Vb7 [] x = false := rfl
theorem Wb0 {α : Type} (t : Ty α) (l : List α) (n k : Nat) : gL t (l.drop n) k = gL t l (n + k) := by simp [gL, List.getD_eq_getElem?_getD, List.getElem?_drop]
theorem gd1 {n : Nat} {l : List Pt} (hn : n = l.length) (h : l.length ≤ 1000000000) : (Nat.beq n (len (bL tX l)) && Nat.ble ((n + 1) * 32) room) = true := by
 subst hn
 rw [I5, Nat.beq_refl, Bool.true_and]
 exact ba6 (by omega)
theorem wd2 (l : List Pt) (x : Pt) : app (bL tX l) [[i x.px, i x.py, i x.pz, i x.pw]] = bL tX (l ++ [x]) := Ba9 tX l [x]
@[reducible] noncomputable def Hb8 (k : Nat) (out : List Pt) : p4 := ⟨ph out, (k : Int), out.length, bL tX out⟩
theorem je1 (l : List Pt) : slR tX (bL tX l) 0 l.length = l := zb0 tX l
theorem Vd9 (r : List Pln) (hb : Bds r) (hr : r.length ≤ 200) (a c k : Nat) (ha : a < r.length) (hc : c < r.length) (out : List Pt) (ho : out.length ≤ 1000000000) (hk : k < r.length) :
  K5 ⟨r, a, c⟩ (Hb8 k out) = .next (Hb8 (k + 1) (Pa6 r r[a] r[c] out r[k])) := by
 have hin : ∀ x, ab3 r x = inn r x := fun x => se3 r x (by omega)
 have hig : ∀ x, ab4 r x = true := fun x => se4 r x (by omega)
 have hth : ∀ x, Da0 out x = Vb7 out x := fun x => Vd5 out x ho
 have htg : ∀ x, Da1 out x = true := fun x => Vd6 out x ho
 have hme := Vd1 (hb _ (List.getElem_mem ha)) (hb _ (List.getElem_mem hc)) (hb _ (List.getElem_mem hk))
 have hmg := Vd2 (hb _ (List.getElem_mem ha)) (hb _ (List.getElem_mem hc)) (hb _ (List.getElem_mem hk))
 unfold K5
 cases out with
 | nil =>
  show M5 Stp.next Stp.exit Stp.fail _ (Hb8 k []) = _
  simp only [M5, Hb8, Int.toNat_natCast, l9, G3, Na3 tP ha, Na3 tP hc, Na3 tP hk, hme, hmg, hin, hig, hth, htg, p6 hk (by omega)]
  rw [btD (o5 hk), bt (f9 ha), bt (f9 hc), bt (f9 hk), o8]
  unfold Pa6
  rw [gd0]
  cases (mpt r[a] r[c] r[k]).2 with
  | false => rfl
  | true =>
   cases inn r (mpt r[a] r[c] r[k]).1 with
   | false => rfl
   | true => rfl
 | cons o os =>
  show M6 Stp.next Stp.exit Stp.fail _ (Hb8 k (o :: os)) = _
  simp only [M6, Hb8, Int.toNat_natCast, l9, G3, Na3 tP ha, Na3 tP hc, Na3 tP hk, hme, hmg, hin, hig, je1, zb1, hth, htg, p6 hk (by omega)]
  rw [btD (o5 hk), bt (f9 ha), bt (f9 hc), bt (f9 hk), o8, gd1 rfl ho, wd2]
  unfold Pa6
  cases (mpt r[a] r[c] r[k]).2 with
  | false => rfl
  | true =>
   cases inn r (mpt r[a] r[c] r[k]).1 with
   | false => cases Vb7 (o :: os) (mpt r[a] r[c] r[k]).1 <;> rfl
   | true =>
    cases Vb7 (o :: os) (mpt r[a] r[c] r[k]).1 with
    | true => rfl
    | false =>
     show Stp.next (⟨1, ((k + 1 : Nat) : Int), (o :: os).length + 1, bL tX (o :: os ++ [(mpt r[a] r[c] r[k]).1])⟩ : p4) = _
     simp [ph]
theorem je2 (r : List Pln) (a c k : Nat) (out : List Pt) (hk : r.length ≤ k) : K5 ⟨r, a, c⟩ (Hb8 k out) = .exit (ph out + 1) := by
 unfold K5
 have this : ¬ ((k : Int) < (r.length : Int)) := by omega
 cases out with
 | nil =>
  show M5 Stp.next Stp.exit Stp.fail _ (Hb8 k []) = _
  simp only [M5, Hb8]
  rw [bfD this]
  rfl
 | cons o os =>
  show M6 Stp.next Stp.exit Stp.fail _ (Hb8 k (o :: os)) = _
  simp only [M6, Hb8]
  rw [bfD this]
  rfl
theorem Wd0 (r : List Pln) (hb : Bds r) (hr : r.length ≤ 200) (a c : Nat) (ha : a < r.length) (hc : c < r.length) (k : Nat) (out : List Pt) (ho : out.length ≤ 100000000) :
  ∃ m, lp (K5 ⟨r, a, c⟩) (Hb8 k out) = (ph (sb0 r r[a] r[c] (r.drop k) out) + 1, Hb8 m (sb0 r r[a] r[c] (r.drop k) out)) :=
 ⟨_, (Ha2 (mk := Hb8) (f := fun s _ out => Pa6 r r[a] r[c] out s) (g := fun l out => sb0 r r[a] r[c] l out) (fin := fun out => ph out + 1) r (fun j o => o.length + k ≤ out.length + j) (by omega)
  (fun _ => rfl) (fun _ _ _ => rfl) (fun j o hj hi => ⟨Vd9 r hb hr a c j ha hc o (by omega) hj, by have := dc1 r r[a] r[c] o r[j]; show (Pa6 r r[a] r[c] o r[j]).length + k ≤ out.length + (j + 1); omega⟩)
  (fun j o hj _ => je2 r a c j o hj) k out (by omega)).1⟩
@[reducible] noncomputable def Hb9 (r : List Pln) (j : Nat) (out : List Pt) : q7 := ⟨ph out, r, (j : Int), out.length, bL tX out⟩
theorem Wd1 (r : List Pln) (hb : Bds r) (hr : r.length ≤ 200) (a j : Nat) (ha : a < r.length) (out : List Pt) (ho : out.length ≤ 100000000) (hj : j < r.length) :
  G4 ⟨a⟩ (Hb9 r j out) = .next (Hb9 r (j + 1) (sb0 r r[a] r[j] (r.drop (j + 1)) out)) := by
 obtain ⟨m, hm⟩ := Wd0 r hb hr a j ha hj (j + 1) out ho
 unfold G4
 generalize sb0 r r[a] r[j] (r.drop (j + 1)) out = res at *
 cases out with
 | nil =>
  show M7 Stp.next Stp.exit Stp.fail _ (Hb9 r j []) = _
  simp only [M7, Hb9, l9, o2, p6 hj (by omega)]
  rw [show (⟨0, ((j + 1 : Nat) : Int), 0, []⟩ : p4) = Hb8 (j + 1) [] from rfl, hm, btD (o5 hj)]
  cases res <;> rfl
 | cons o os =>
  show M8 Stp.next Stp.exit Stp.fail _ (Hb9 r j (o :: os)) = _
  simp only [M8, Hb9, l9, o2, p6 hj (by omega)]
  rw [show (⟨1, ((j + 1 : Nat) : Int), (o :: os).length, bL tX (o :: os)⟩ : p4) = Hb8 (j + 1) (o :: os) from rfl, hm, btD (o5 hj)]
  cases res <;> rfl
theorem je3 (r : List Pln) (a j : Nat) (out : List Pt) (hj : r.length ≤ j) : G4 ⟨a⟩ (Hb9 r j out) = .exit (ph out + 1) := by
 unfold G4
 have this : ¬ ((j : Int) < (r.length : Int)) := by omega
 cases out with
 | nil =>
  show M7 Stp.next Stp.exit Stp.fail _ (Hb9 r j []) = _
  simp only [M7, Hb9]
  rw [bfD this]
  rfl
 | cons o os =>
  show M8 Stp.next Stp.exit Stp.fail _ (Hb9 r j (o :: os)) = _
  simp only [M8, Hb9]
  rw [bfD this]
  rfl
theorem Wd2 (r : List Pln) (hb : Bds r) (hr : r.length ≤ 200) (a : Nat) (ha : a < r.length) (j : Nat) (out : List Pt) (ho : out.length ≤ 40000 * a) :
  ∃ m, lp (G4 ⟨a⟩) (Hb9 r j out) = (ph (vb6 r r[a] (r.drop j) out) + 1, Hb9 r m (vb6 r r[a] (r.drop j) out)) ∧ (vb6 r r[a] (r.drop j) out).length ≤ 40000 * (a + 1) := by
 have hk := Ha2 (step := G4 ⟨a⟩) (mk := Hb9 r) (f := fun q l out => sb0 r r[a] q l out) (g := fun l out => vb6 r r[a] l out) (fin := fun out => ph out + 1) r (fun k o => o.length ≤ 40000 * a + 200 * (k - j) ∧ j ≤ k ∧ k ≤ j + r.length) (by omega)
  (fun _ => rfl) (fun _ _ _ => rfl) (fun k o hj hi => ⟨Wd1 r hb hr a k ha o (by omega) hj, by
   have := wc6 r r[a] r[k] (r.drop (k + 1)) o
   rw [List.length_drop] at this
   show (sb0 r r[a] r[k] (r.drop (k + 1)) o).length ≤ 40000 * a + 200 * (k + 1 - j) ∧ j ≤ k + 1 ∧ k + 1 ≤ j + r.length
   omega⟩)
  (fun k o hj _ => je3 r a k o hj) j out (by omega)
 exact ⟨_, hk.1, by have := hk.2; omega⟩
@[reducible] noncomputable def Nb9 (r : List Pln) (j : Nat) (out : List Pt) : w4 := ⟨ph out, r, (j : Int), out.length, bL tX out⟩
theorem Uc0 (r : List Pln) (hb : Bds r) (hr : r.length ≤ 200) (a : Nat) (ha : a < r.length) (out : List Pt) (ho : out.length ≤ 40000 * a) :
  K6 ⟨⟩ (Nb9 r a out) = .next (Nb9 r (a + 1) (vb6 r r[a] (r.drop (a + 1)) out)) ∧ (vb6 r r[a] (r.drop (a + 1)) out).length ≤ 40000 * (a + 1) := by
 obtain ⟨m, hm, hl⟩ := Wd2 r hb hr a ha (a + 1) out ho
 refine ⟨?_, hl⟩
 clear hl
 unfold K6
 generalize vb6 r r[a] (r.drop (a + 1)) out = res at *
 cases out with
 | nil =>
  show M9 Stp.next Stp.exit Stp.fail _ (Nb9 r a []) = _
  simp only [M9, Nb9, l9, o2, p6 ha (by omega)]
  rw [show (⟨0, r, ((a + 1 : Nat) : Int), 0, []⟩ : q7) = Hb9 r (a + 1) [] from rfl, hm, btD (o5 ha)]
  cases res <;> rfl
 | cons o os =>
  show N0 Stp.next Stp.exit Stp.fail _ (Nb9 r a (o :: os)) = _
  simp only [N0, Nb9, l9, o2, p6 ha (by omega)]
  rw [show (⟨1, r, ((a + 1 : Nat) : Int), (o :: os).length, bL tX (o :: os)⟩ : q7) = Hb9 r (a + 1) (o :: os) from rfl, hm, btD (o5 ha)]
  cases res <;> rfl
theorem je4 (r : List Pln) (j : Nat) (out : List Pt) (hj : r.length ≤ j) : K6 ⟨⟩ (Nb9 r j out) = .exit (ph out + 1) := by
 unfold K6
 have this : ¬ ((j : Int) < (r.length : Int)) := by omega
 cases out with
 | nil =>
  show M9 Stp.next Stp.exit Stp.fail _ (Nb9 r j []) = _
  simp only [M9, Nb9]
  rw [bfD this]
  rfl
 | cons o os =>
  show N0 Stp.next Stp.exit Stp.fail _ (Nb9 r j (o :: os)) = _
  simp only [N0, Nb9]
  rw [bfD this]
  rfl
theorem wd3 (r : List Pln) (hb : Bds r) (hr : r.length ≤ 200) : ∃ m, lp (K6 ⟨⟩) (Nb9 r 0 []) = (ph (cor r) + 1, Nb9 r m (cor r)) ∧ (cor r).length ≤ 8000000 := by
 have hk := Ha2 (step := K6 ⟨⟩) (mk := Nb9 r) (f := fun q l out => vb6 r q l out) (g := fun l out => Dd8 r l out) (fin := fun out => ph out + 1) r (fun k o => o.length ≤ 40000 * k ∧ k ≤ r.length) (by omega)
  (fun _ => rfl) (fun _ _ _ => rfl) (fun k o hj hi => ⟨(Uc0 r hb hr k hj o hi.1).1, (Uc0 r hb hr k hj o hi.1).2, hj⟩)
  (fun k o hj _ => je4 r k o hj) 0 [] (by simp)
 exact ⟨_, hk.1, by have := hk.2; rw [show max 0 r.length = r.length by omega] at this; have h1 := this.1; show (Dd8 r r []).length ≤ _; rw [List.drop_zero] at h1; omega⟩
theorem Uc1 (r : List Pln) (hb : Bds r) (hr : r.length ≤ 200) : (cor r).length ≤ 8000000 := by
 obtain ⟨_, _, h⟩ := wd3 r hb hr
 exact h
noncomputable def slX (l : List Pt) : b7 × List b8 := match l with
 | [] => (.v (.slice none 0 0), [])
 | _ :: _ => (.sl 0 0 l.length 0, [⟨54, 4, bL tX l, true, false, 0⟩])
theorem Uc2 (l : List Pt) : (one (r1L tX)).rd (slX l) = some l := by
 cases l with
 | nil => rfl
 | cons x l =>
  show Bool.rec (motive := fun _ => Option (List Pt)) none (some (slR tX (bL tX (x :: l)) 0 (x :: l).length)) (Bool.and true (okS tX (bL tX (x :: l)) 0 (x :: l).length)) = _
  rw [zb0, zb1]
  rfl
theorem hc3 (r : List Pln) (hb : Bds r) (hr : r.length ≤ 200) : xa9 r = some (slX (cor r)) := by
 obtain ⟨m, hm, _⟩ := wd3 r hb hr
 unfold xa9
 simp only [l9, o2]
 rw [show (⟨0, r, 0, 0, []⟩ : w4) = Nb9 r 0 [] from rfl, hm]
 cases cor r <;> rfl
theorem va8 {ρ : Type} (R : RR ρ) {x : b7 × List b8} {r : ρ} (h : R.rd x = some r) : I6 R (some x) = r := by
 show Option.rec (motive := fun _ => ρ) R.d (fun x => x) (R.rd x) = r
 rw [h]
theorem Ha3 {ρ : Type} (R : RR ρ) {x : b7 × List b8} {r : ρ} (h : R.rd x = some r) : okO R (some x) = true := by
 show Option.rec (motive := fun _ => Bool) false (fun _ => true) (R.rd x) = true
 rw [h]
theorem wc7 (r : List Pln) (hb : Bds r) (hr : r.length ≤ 200) : ya0 r = cor r := by unfold ya0; rw [hc3 r hb hr]; exact va8 _ (Uc2 _)
theorem wc8 (r : List Pln) (hb : Bds r) (hr : r.length ≤ 200) : ya1 r = true := by unfold ya1; rw [hc3 r hb hr]; exact Ha3 _ (Uc2 _)
noncomputable def Fc4 (x : Pt) : List b7 := [i x.px, i x.py, i x.pz, i x.pw, b true]
noncomputable def ub8 (l : List Pt) : List (List b7) := l.map Fc4
@[reducible] noncomputable def flK : List (Nat × CK) := [(0, (.int .i64)), (1, (.int .i64)), (2, (.int .i64)), (3, (.int .i64))]
theorem gd2 (x q : Pt) : Hb1 flK [i x.px, i x.py, i x.pz, i x.pw] (Fc4 q) = eqX x q := by
 show Bool.and (decide (x.px = q.px)) (Bool.and (decide (x.py = q.py)) (Bool.and (decide (x.pz = q.pz)) (Bool.and (decide (x.pw = q.pw)) true))) = _
 unfold eqX
 have h : ∀ a c : Int, decide (a = c) = (c == a) := fun a c => by rw [Bool.eq_iff_iff, decide_eq_true_eq, beq_iff_eq]; exact eq_comm
 rw [h, h, h, h]
theorem wc9 (x : Pt) : ∀ l, Pb5 4 flK [i x.px, i x.py, i x.pz, i x.pw] (ub8 l) = Vb7 l x
 | [] => rfl
 | q :: l => by
  have ih := wc9 x l
  unfold Pb5 at ih ⊢
  show Option.rec (motive := fun _ => Bool) false (fun r => toB (hdA (d8 r 4))) (Bool.rec (motive := fun _ => Option (List b7)) (fc0 flK [i x.px, i x.py, i x.pz, i x.pw] (ub8 l)) (some (Fc4 q)) (Hb1 flK [i x.px, i x.py, i x.pz, i x.pw] (Fc4 q))) = Vb7 (q :: l) x
  rw [gd2]
  unfold Vb7 at ih ⊢
  rw [List.any_cons]
  cases eqX x q with
  | true => rfl
  | false => exact ih
theorem Mc0 (x : Pt) : ∀ l, Vb7 l x = false → ib4 flK [i x.px, i x.py, i x.pz, i x.pw] (Fc4 x) (ub8 l) = ub8 (l ++ [x])
 | [], _ => rfl
 | q :: l, h => by
  unfold Vb7 at h
  rw [List.any_cons, Bool.or_eq_false_iff] at h
  show Bool.rec (motive := fun _ => List (List b7)) (Fc4 q :: ib4 flK [i x.px, i x.py, i x.pz, i x.pw] (Fc4 x) (ub8 l)) (Fc4 x :: ub8 l) (Hb1 flK [i x.px, i x.py, i x.pz, i x.pw] (Fc4 q)) = _
  rw [gd2, h.1, Mc0 x l h.2]
  rfl
@[reducible] noncomputable def Ib0 (k : Nat) (out : List Pt) : i7 := ⟨ph out, (k : Int), out.length, bL tX out, ub8 out⟩
structure C2 (P : i6) (r : List Pln) (p q : Pln) (lo : Nat) : Prop where
 ns : P.sd8 = (r.drop lo).length
 gs : P.Ua9 = fun k => tP.row (gL tP r (lo + k))
 is : P.Xc8 = ((r.drop lo).length : Int)
 p1 : (⟨⟨P.F5, P.F6, P.F7⟩, P.F8⟩ : Pln) = p
 q1 : (⟨⟨P.Y8, P.Y9, P.Z0⟩, P.Xa4⟩ : Pln) = q
 r1 : P.ka2 = r
theorem Uc3 (s : Pln) : (⟨⟨toI (hdA (tP.row s)), toI (hdA (tlA (tP.row s))), toI (hdA (tlA (tlA (tP.row s))))⟩, toI (hdA (tlA (tlA (tlA (tP.row s)))))⟩ : Pln) = s := rfl
theorem Uc4 (s : Pln) : ((Nat.ble 4 (len (tP.row s))) && (I0 [(CK.int .i64), (CK.int .i64), (CK.int .i64), (CK.int .i64)] (tP.row s))) = true := rfl
theorem Wd3 {P : i6} {r : List Pln} {p q : Pln} {lo : Nat} (h : C2 P r p q lo) (hb : Bds r) (hr : r.length ≤ 200) (hp : Bd p) (hq : Bd q) (k : Nat) (out : List Pt) (ho : out.length ≤ 1000000000) (hk : k < (r.drop lo).length) :
  r6 P (Ib0 k out) = .next (Ib0 (k + 1) (Pa6 r p q out (r.drop lo)[k])) := by
 have hwi : ∀ x, R8 r x = inn r x := fun x => wc2 r x (by omega)
 have hwg : ∀ x, R9 r x = true := fun x => wc3 r x (by omega)
 have hs : gL tP r (lo + k) = (r.drop lo)[k] := by rw [← Wb0, Na3 tP hk]
 have hbs : Bd (r.drop lo)[k] := hb _ (List.mem_of_mem_drop (List.getElem_mem hk))
 have hd : (r.drop lo).length ≤ 200 := by rw [List.length_drop]; omega
 have hme := ie7 hp hq hbs
 have hmg := ie8 hp hq hbs
 obtain ⟨x1, x2, x3, x4, x5, x6, x7, x8, x9, x10, x11, x12, x13, x14, x15, x16, x17, x18, x19, x20, x21⟩ := P
 obtain ⟨ns, gs, is, p1, q1, r1⟩ := h
 simp only at ns gs is p1 q1 r1
 have r1 := r1.symm
 subst ns gs is r1
 unfold r6
 cases out with
 | nil =>
  show s6 Stp.next Stp.exit Stp.fail _ (Ib0 k []) = _
  simp only [s6, Ib0, Int.toNat_natCast, l9, G3, p1, q1, hs, Uc3, Uc4, hme, hmg, hwi, hwg, p6 hk (by omega)]
  rw [btD (o5 hk), bt (f9 hk), o8, o8]
  unfold Pa6
  rw [gd0]
  cases (mpt p q (r.drop lo)[k]).2 with
  | false => rfl
  | true =>
   cases inn r (mpt p q (r.drop lo)[k]).1 with
   | false => rfl
   | true => rfl
 | cons o os =>
  show s7 Stp.next Stp.exit Stp.fail _ (Ib0 k (o :: os)) = _
  simp only [s7, Ib0, Int.toNat_natCast, l9, G3, p1, q1, hs, Uc3, Uc4, hme, hmg, hwi, hwg, p6 hk (by omega), wc9]
  rw [btD (o5 hk), bt (f9 hk), o8, o8, gd1 rfl ho, wd2]
  unfold Pa6
  cases (mpt p q (r.drop lo)[k]).2 with
  | false => rfl
  | true =>
   cases hx : Vb7 (o :: os) (mpt p q (r.drop lo)[k]).1 with
   | true => rfl
   | false =>
    cases inn r (mpt p q (r.drop lo)[k]).1 with
    | false => rfl
    | true =>
     show Stp.next (⟨1, ((k + 1 : Nat) : Int), (o :: os).length + 1, bL tX (o :: os ++ [(mpt p q (r.drop lo)[k]).1]), ib4 flK [i (mpt p q (r.drop lo)[k]).1.px, i (mpt p q (r.drop lo)[k]).1.py, i (mpt p q (r.drop lo)[k]).1.pz, i (mpt p q (r.drop lo)[k]).1.pw] (Fc4 (mpt p q (r.drop lo)[k]).1) (ub8 (o :: os))⟩ : i7) = _
     rw [Mc0 _ _ hx]
     simp [ph]
theorem je5 {P : i6} {r : List Pln} {p q : Pln} {lo : Nat} (h : C2 P r p q lo) (k : Nat) (out : List Pt) (hk : (r.drop lo).length ≤ k) : r6 P (Ib0 k out) = .exit (ph out + 1) := by
 obtain ⟨x1, x2, x3, x4, x5, x6, x7, x8, x9, x10, x11, x12, x13, x14, x15, x16, x17, x18, x19, x20, x21⟩ := P
 obtain ⟨ns, gs, is, p1, q1, r1⟩ := h
 simp only at ns gs is p1 q1 r1
 have r1 := r1.symm
 subst ns gs is r1
 unfold r6
 have this : ¬ ((k : Int) < ((r.drop lo).length : Int)) := by omega
 cases out with
 | nil =>
  show s6 Stp.next Stp.exit Stp.fail _ (Ib0 k []) = _
  simp only [s6, Ib0]
  rw [bfD this]
  rfl
 | cons o os =>
  show s7 Stp.next Stp.exit Stp.fail _ (Ib0 k (o :: os)) = _
  simp only [s7, Ib0]
  rw [bfD this]
  rfl
theorem Wd4 {P : i6} {r : List Pln} {p q : Pln} {lo : Nat} (h : C2 P r p q lo) (hb : Bds r) (hr : r.length ≤ 200) (hp : Bd p) (hq : Bd q) (out : List Pt) (ho : out.length ≤ 100000000) :
  ∃ m, lp (r6 P) (Ib0 0 out) = (ph (sb0 r p q (r.drop lo) out) + 1, Ib0 m (sb0 r p q (r.drop lo) out)) := by
 have hd : (r.drop lo).length ≤ 200 := by rw [List.length_drop]; omega
 exact ⟨_, (Ha2 (mk := Ib0) (f := fun s _ out => Pa6 r p q out s) (g := fun l out => sb0 r p q l out) (fin := fun out => ph out + 1) (r.drop lo) (fun j o => o.length ≤ out.length + j) (by omega)
  (fun _ => rfl) (fun _ _ _ => rfl) (fun j o hj hi => ⟨Wd3 h hb hr hp hq j o (by omega) hj, by have := dc1 r p q o (r.drop lo)[j]; show (Pa6 r p q o (r.drop lo)[j]).length ≤ out.length + (j + 1); omega⟩)
  (fun j o hj _ => je5 h j o hj) 0 out (by omega)).1⟩
@[reducible] noncomputable def Ib1 (r : List Pln) (j : Nat) (out : List Pt) : i9 := ⟨ph out, r, (j : Int), r, r, out.length, bL tX out, ub8 out⟩
structure C1 (P : i8) (r : List Pln) (p : Pln) (a : Nat) : Prop where
 i3 : P.is3 = (a : Int)
 ns : P.Yb3 = (r.drop (a + 1)).length
 gs : P.Xa3 = fun k => tP.row (gL tP r (a + 1 + k))
 is : P.ba4 = ((r.drop (a + 1)).length : Int)
 p1 : (⟨⟨P.F5, P.F6, P.F7⟩, P.F8⟩ : Pln) = p
theorem Wd5 {P : i8} {r : List Pln} {p : Pln} {a : Nat} (h : C1 P r p a) (hb : Bds r) (hr : r.length ≤ 200) (hp : Bd p) (j : Nat) (out : List Pt) (ho : out.length ≤ 100000000) (hj : j < (r.drop (a + 1)).length) :
  r7 P (Ib1 r j out) = .next (Ib1 r (j + 1) (sb0 r p (r.drop (a + 1))[j] ((r.drop (a + 1)).drop (j + 1)) out)) := by
 have hs : gL tP r (a + 1 + j) = (r.drop (a + 1))[j] := by rw [← Wb0, Na3 tP hj]
 have hbs : Bd (r.drop (a + 1))[j] := hb _ (List.mem_of_mem_drop (List.getElem_mem hj))
 have hd := hj
 rw [List.length_drop] at hd
 have hW : W (W ((a : Int) + (j : Int)) + 2) = ((a + 1 + (j + 1) : Nat) : Int) := by rw [jb0, Ca0 (by omega) (by omega)]; omega
 have hdl : (r.drop (a + 1)).length ≤ 4611686018427387904 := by rw [List.length_drop]; omega
 have hlo : inB ((a + 1 + (j + 1) : Nat) : Int) (r.length + 1) = true := f9 (by omega)
 rw [List.drop_drop]
 generalize hq : (r.drop (a + 1))[j] = q at *
 obtain ⟨x1, x2, x3, x4, x5, x6, x7, x8, x9, x10⟩ := P
 obtain ⟨i3, ns, gs, is, p1⟩ := h
 simp only at i3 ns gs is p1
 subst i3 ns gs is
 unfold r7
 have key : ∀ (P2 : i6), C2 P2 r p q (a + 1 + (j + 1)) → _ := fun P2 h2 => Wd4 h2 hb hr hp hbs out ho
 cases out with
 | nil =>
  show s8 Stp.next Stp.exit Stp.fail _ (Ib1 r j []) = _
  simp only [s8, Ib1, l9, o2, p6 hj hdl, hW, Int.toNat_natCast, hs, Uc4, hlo]
  rw [show (⟨0, 0, 0, [], []⟩ : i7) = Ib0 0 [] from rfl]
  generalize hP : i6.mk _ _ _ _ _ _ _ _ _ _ _ _ _ _ _ _ _ _ _ _ _ = P2
  obtain ⟨m, hm⟩ := key P2 (by
   subst hP
   exact ⟨by simp, rfl, by simp, p1, Uc3 q, rfl⟩)
  rw [hm, btD (o5 hj), bt (f9 hj)]
  cases sb0 r p q (r.drop (a + 1 + (j + 1))) [] <;> rfl
 | cons o os =>
  show s9 Stp.next Stp.exit Stp.fail _ (Ib1 r j (o :: os)) = _
  simp only [s9, Ib1, l9, o2, p6 hj hdl, hW, Int.toNat_natCast, hs, Uc4, hlo]
  rw [show (⟨1, 0, (o :: os).length, bL tX (o :: os), ub8 (o :: os)⟩ : i7) = Ib0 0 (o :: os) from rfl]
  generalize hP : i6.mk _ _ _ _ _ _ _ _ _ _ _ _ _ _ _ _ _ _ _ _ _ = P2
  obtain ⟨m, hm⟩ := key P2 (by
   subst hP
   exact ⟨by simp, rfl, by simp, p1, Uc3 q, rfl⟩)
  rw [hm, btD (o5 hj), bt (f9 hj)]
  cases sb0 r p q (r.drop (a + 1 + (j + 1))) (o :: os) <;> rfl
theorem je6 {P : i8} {r : List Pln} {p : Pln} {a : Nat} (h : C1 P r p a) (j : Nat) (out : List Pt) (hj : (r.drop (a + 1)).length ≤ j) : r7 P (Ib1 r j out) = .exit (ph out + 1) := by
 obtain ⟨x1, x2, x3, x4, x5, x6, x7, x8, x9, x10⟩ := P
 obtain ⟨i3, ns, gs, is, p1⟩ := h
 simp only at i3 ns gs is p1
 subst i3 ns gs is
 unfold r7
 have this : ¬ ((j : Int) < ((r.drop (a + 1)).length : Int)) := by omega
 cases out with
 | nil =>
  show s8 Stp.next Stp.exit Stp.fail _ (Ib1 r j []) = _
  simp only [s8, Ib1]
  rw [bfD this]
  rfl
 | cons o os =>
  show s9 Stp.next Stp.exit Stp.fail _ (Ib1 r j (o :: os)) = _
  simp only [s9, Ib1]
  rw [bfD this]
  rfl
theorem Wd6 {P : i8} {r : List Pln} {p : Pln} {a : Nat} (h : C1 P r p a) (hb : Bds r) (hr : r.length ≤ 200) (hp : Bd p) (out : List Pt) (ho : out.length ≤ 10000000) :
  ∃ m, lp (r7 P) (Ib1 r 0 out) = (ph (vb6 r p (r.drop (a + 1)) out) + 1, Ib1 r m (vb6 r p (r.drop (a + 1)) out)) := by
 have hd : (r.drop (a + 1)).length ≤ 200 := by rw [List.length_drop]; omega
 exact ⟨_, (Ha2 (mk := Ib1 r) (f := fun q l out => sb0 r p q l out) (g := fun l out => vb6 r p l out) (fin := fun out => ph out + 1) (r.drop (a + 1)) (fun k o => o.length ≤ out.length + 200 * k) (by omega)
  (fun _ => rfl) (fun _ _ _ => rfl) (fun k o hj hi => ⟨Wd5 h hb hr hp k o (by omega) hj, by
   have := wc6 r p (r.drop (a + 1))[k] ((r.drop (a + 1)).drop (k + 1)) o
   rw [List.length_drop] at this
   show (sb0 r p (r.drop (a + 1))[k] ((r.drop (a + 1)).drop (k + 1)) o).length ≤ out.length + 200 * (k + 1)
   omega⟩)
  (fun k o hj _ => je6 h k o hj) 0 out (by omega)).1⟩
@[reducible] noncomputable def Ob0 (r : List Pln) (j : Nat) (out : List Pt) : l4 := ⟨ph out, r, (j : Int), r, r, out.length, bL tX out, ub8 out⟩
theorem Wd7 {P : o7} (r : List Pln) (h : P.Ja2 = (r.length : Int)) (hb : Bds r) (hr : r.length ≤ 200) (a : Nat) (ha : a < r.length) (out : List Pt) (ho : out.length ≤ 40000 * a) :
  r8 P (Ob0 r a out) = .next (Ob0 r (a + 1) (vb6 r r[a] (r.drop (a + 1)) out)) := by
 have hbs : Bd r[a] := hb _ (List.getElem_mem ha)
 have hlo : inB ((a + 1 : Nat) : Int) (r.length + 1) = true := f9 (by omega)
 have key : ∀ (P2 : i8), C1 P2 r r[a] a → _ := fun P2 h2 => Wd6 h2 hb hr hbs out (by omega)
 obtain ⟨x1⟩ := P
 simp only at h
 subst h
 unfold r8
 cases out with
 | nil =>
  show u9 Stp.next Stp.exit Stp.fail _ (Ob0 r a []) = _
  simp only [u9, Ob0, l9, o2, p6 ha (by omega), Int.toNat_natCast, hlo, Na3 tP ha]
  rw [show (⟨0, r, 0, r, r, 0, [], []⟩ : i9) = Ib1 r 0 [] from rfl]
  generalize hP : i8.mk _ _ _ _ _ _ _ _ _ _ = P2
  obtain ⟨m, hm⟩ := key P2 (by
   subst hP
   exact ⟨rfl, by simp, rfl, by simp, rfl⟩)
  rw [hm, btD (o5 ha), bt (f9 ha)]
  cases vb6 r r[a] (r.drop (a + 1)) [] <;> rfl
 | cons o os =>
  show v7 Stp.next Stp.exit Stp.fail _ (Ob0 r a (o :: os)) = _
  simp only [v7, Ob0, l9, o2, p6 ha (by omega), Int.toNat_natCast, hlo, Na3 tP ha]
  rw [show (⟨1, r, 0, r, r, (o :: os).length, bL tX (o :: os), ub8 (o :: os)⟩ : i9) = Ib1 r 0 (o :: os) from rfl]
  generalize hP : i8.mk _ _ _ _ _ _ _ _ _ _ = P2
  obtain ⟨m, hm⟩ := key P2 (by
   subst hP
   exact ⟨rfl, by simp, rfl, by simp, rfl⟩)
  rw [hm, btD (o5 ha), bt (f9 ha)]
  cases vb6 r r[a] (r.drop (a + 1)) (o :: os) <;> rfl
theorem je7 {P : o7} (r : List Pln) (h : P.Ja2 = (r.length : Int)) (j : Nat) (out : List Pt) (hj : r.length ≤ j) : r8 P (Ob0 r j out) = .exit (ph out + 1) := by
 obtain ⟨x1⟩ := P
 simp only at h
 subst h
 unfold r8
 have this : ¬ ((j : Int) < (r.length : Int)) := by omega
 cases out with
 | nil =>
  show u9 Stp.next Stp.exit Stp.fail _ (Ob0 r j []) = _
  simp only [u9, Ob0]
  rw [bfD this]
  rfl
 | cons o os =>
  show v7 Stp.next Stp.exit Stp.fail _ (Ob0 r j (o :: os)) = _
  simp only [v7, Ob0]
  rw [bfD this]
  rfl
theorem Wd8 (r : List Pln) (hb : Bds r) (hr : r.length ≤ 200) : ∃ m, lp (r8 ⟨(r.length : Int)⟩) (Ob0 r 0 []) = (ph (cor r) + 1, Ob0 r m (cor r)) :=
 ⟨_, (Ha2 (step := r8 ⟨(r.length : Int)⟩) (mk := Ob0 r) (f := fun q l out => vb6 r q l out) (g := fun l out => Dd8 r l out) (fin := fun out => ph out + 1) r (fun k o => o.length ≤ 40000 * k) (by omega)
  (fun _ => rfl) (fun _ _ _ => rfl) (fun k o hj hi => ⟨Wd7 r rfl hb hr k hj o hi, (Uc0 r hb hr k hj o hi).2⟩)
  (fun k o hj _ => je7 r rfl k o hj) 0 [] (by simp)).1⟩
theorem xc0 (r : List Pln) (hb : Bds r) (hr : r.length ≤ 200) : Q5 r = some (slX (cor r)) := by
 obtain ⟨m, hm⟩ := Wd8 r hb hr
 unfold Q5
 simp only [l9, o2]
 rw [show (⟨0, r, 0, r, r, 0, [], []⟩ : l4) = Ob0 r 0 [] from rfl, hm]
 cases cor r <;> rfl
theorem Mc1 (r : List Pln) (hb : Bds r) (hr : r.length ≤ 200) : Q6 r = cor r := by unfold Q6; rw [xc0 r hb hr]; exact va8 _ (Uc2 _)
theorem Mc2 (r : List Pln) (hb : Bds r) (hr : r.length ≤ 200) : Q7 r = true := by unfold Q7; rw [xc0 r hb hr]; exact Ha3 _ (Uc2 _)
end Go.Ev.Ce
