/- Own work: a part of the proof. -/
import Derived.Test.YtlccibobknidjaaGreatEvE1
import Derived.Test.YtlccibobknidjaaGreatEvD3
set_option linter.unusedVariables false
set_option linter.unusedSimpArgs false
set_option linter.unnecessarySimpa false
set_option linter.unusedSectionVars false
namespace Go.Ev.Ce
open Go Go.Ev Go.Ev.L Go.Proofs
noncomputable def inn (l : List Pln) (x : Pt) : Bool := l.all fun p => !decide (rm p x < 0)
theorem ud6 (l : List Pln) (x : Pt) : inn l x = !l.any fun p => decide (rm p x < 0) := by unfold inn; rw [List.not_any_eq_all_not]
theorem qe8 (p : Pln) (x : Pt) : Ra5 ⟨p.n.x, p.n.y, p.n.z, p.b, x.px, x.py, x.pz, x.pw⟩ = ⟨decide (rm p x < 0)⟩ := by
 show la4.mk (decide (ja7 p x < 0)) = _
 rw [Sc4]
theorem Td8 (l : List Pln) (x : Pt) (hl : l.length ≤ 1000000000) : O0 ⟨l, x.px, x.py, x.pz, x.pw⟩ = ⟨1, if l.any (fun p => decide (rm p x < 0)) then ((l.findIdx (fun p => decide (rm p x < 0)) : Nat) : Int) else -1⟩ := by
 have h := fb7 (step := B4 ⟨l, (l.length : Int), x.px, x.py, x.pz, x.pw⟩) (mk := fun j => (⟨(j : Int)⟩ : l5)) (c := fun p => decide (rm p x < 0)) (u := 1) (fin := 2) tP l hl
  (fun j hj => by
   simp only [B4, z5, Int.toNat_natCast, qe8, o5 hj (by omega)]
   rw [bt (zb6 hj), bt (e8 hj)])
  (by simp only [B4, z5]; rw [bf (qb2 (Nat.lt_irrefl _))]) 0 (Nat.zero_le _)
 rw [List.drop_zero] at h
 unfold O0 A2
 simp only [l4, m8]
 rw [show (⟨0⟩ : l5) = ⟨((0 : Nat) : Int)⟩ from rfl, h]
 split
 ·simp only [Nat.zero_add]; rfl
 ·rfl
theorem Kc1 (l : List Pln) (x : Pt) (hl : l.length ≤ 1000000000) : xa4 l x = some (b (inn l x), []) := by
 unfold xa4 U1 s8
 simp only [l4, m8, Td8 l x hl, ud6]
 split
 ·rename_i h
  rw [h, show decide (((l.findIdx (fun p => decide (rm p x < 0)) : Nat) : Int) ≥ 0) = true from decide_eq_true (by omega)]; rfl
 ·rename_i h
  rw [Bool.not_eq_true] at h
  rw [h]; rfl
theorem vc2 (l : List Pln) (x : Pt) (hl : l.length ≤ 1000000000) : Q9 l x = inn l x := by unfold Q9; rw [Kc1 l x hl]; rfl
theorem vc3 (l : List Pln) (x : Pt) (hl : l.length ≤ 1000000000) : R2 l x = true := by unfold R2; rw [Kc1 l x hl]; rfl
theorem be7 (l : List Pln) (x : Pt) (hl : l.length ≤ 1000000000) : Ab7 l x = some (b (inn l x), []) := by
 have h := ib1 (step := Na0 ⟨l, x.px, x.py, x.pz, x.pw⟩) (mk := fun j => (⟨(j : Int)⟩ : ka2)) (c := fun p => decide (rm p x < 0)) (u := 1) (fin := 2) tP l hl
  (fun j hj => by
   simp only [Na0, Ea4, Int.toNat_natCast, ud4, o5 hj (by omega)]
   rw [bt (zb6 hj), bt (e8 hj)])
  (by simp only [Na0, Ea4]; rw [bf (qb2 (Nat.lt_irrefl _))]) 0 (Nat.zero_le _)
 rw [List.drop_zero] at h
 unfold Ab7
 simp only [l4, m8, ud6]
 rw [show (⟨0⟩ : ka2) = ⟨((0 : Nat) : Int)⟩ from rfl, h]
 split
 ·rename_i h; rw [h]; rfl
 ·rename_i h; rw [Bool.not_eq_true] at h; rw [h]; rfl
theorem Ce0 (l : List Pln) (x : Pt) (hl : l.length ≤ 1000000000) : mb3 l x = inn l x := by unfold mb3; rw [be7 l x hl]; rfl
theorem Ce1 (l : List Pln) (x : Pt) (hl : l.length ≤ 1000000000) : mb4 l x = true := by unfold mb4; rw [be7 l x hl]; rfl
def eqX (x q : Pt) : Bool := q.px == x.px && (q.py == x.py && (q.pz == x.pz && (q.pw == x.pw && true)))
theorem Td9 (x q : Pt) : eqX x q = true ↔ q = x := by
 unfold eqX
 simp only [Bool.and_true, Bool.and_eq_true, beq_iff_eq]
 exact ⟨fun ⟨h1, h2, h3, h4⟩ => by cases q; cases x; simp_all, fun h => by subst h; exact ⟨rfl, rfl, rfl, rfl⟩⟩
def Vb0 (l : List Pt) (x : Pt) : Bool := l.any (eqX x)
theorem ed2 (l : List Pt) (x : Pt) (hl : l.length ≤ 1000000000) : Na1 l x = some (b (Vb0 l x), []) := by
 have h := ib1 (step := qa4 ⟨l, x.px, x.py, x.pz, x.pw⟩) (mk := fun j => (⟨(j : Int)⟩ : Q7)) (c := eqX x) (u := 1) (fin := 2) tX l hl
  (fun j hj => by
   simp only [qa4, la1, Int.toNat_natCast, o5 hj (by omega)]
   rw [bt (zb6 hj), bt (e8 hj)]
   rfl)
  (by simp only [qa4, la1]; rw [bf (qb2 (Nat.lt_irrefl _))]) 0 (Nat.zero_le _)
 rw [List.drop_zero] at h
 unfold Na1
 simp only [l4, m8]
 rw [show (⟨0⟩ : Q7) = ⟨((0 : Nat) : Int)⟩ from rfl, h]
 unfold Vb0
 split
 ·rename_i h; rw [h]; rfl
 ·rename_i h; rw [Bool.not_eq_true] at h; rw [h]; rfl
theorem Ud0 (l : List Pt) (x : Pt) (hl : l.length ≤ 1000000000) : Ca0 l x = Vb0 l x := by unfold Ca0; rw [ed2 l x hl]; rfl
theorem Ud1 (l : List Pt) (x : Pt) (hl : l.length ≤ 1000000000) : Ca1 l x = true := by unfold Ca1; rw [ed2 l x hl]; rfl
def smb (n x : Int) : Bool := !decide (x < -n) && !decide (x > n)
theorem Vb1 (n x : Int) : smb n x = true ↔ Sm n x := by unfold smb Sm; simp only [Bool.and_eq_true, Bool.not_eq_true', decide_eq_false_iff_not]; omega
theorem vc4 (n : Int) (l : List Int) (hn : 0 ≤ n ∧ n ≤ 1000000000) (hl : l.length ≤ 1000000000) : ra4 n l = some (b (l.all (smb n)), []) := by
 have hW : W (0 - n) = -n := by rw [va9 (by omega) (by omega)]; omega
 have h := ib1 (step := da7 ⟨n, l, (l.length : Int)⟩) (mk := fun j => (⟨(j : Int)⟩ : F5)) (c := fun x => !smb n x) (u := 1) (fin := 2) tI l hl
  (fun j hj => by
   simp only [da7, Z5, Int.toNat_natCast, o5 hj (by omega), hW]
   rw [bt (zb6 hj), bt (e8 hj)]
   unfold smb
   cases decide (gL tI l j < -n) <;> cases decide (gL tI l j > n) <;> rfl)
  (by simp only [da7, Z5]; rw [bf (qb2 (Nat.lt_irrefl _))]) 0 (Nat.zero_le _)
 rw [List.drop_zero] at h
 unfold ra4
 simp only [l4, m8]
 rw [show (⟨0⟩ : F5) = ⟨((0 : Nat) : Int)⟩ from rfl, h]
 have e : (l.any fun x => !smb n x) = !l.all (smb n) := by rw [List.not_all_eq_any_not]
 rw [e]
 cases l.all (smb n) <;> rfl
theorem bc6 (n : Int) (l : List Int) (hn : 0 ≤ n ∧ n ≤ 1000000000) (hl : l.length ≤ 1000000000) : ia0 n l = l.all (smb n) := by unfold ia0; rw [vc4 n l hn hl]; rfl
theorem bc7 (n : Int) (l : List Int) (hn : 0 ≤ n ∧ n ≤ 1000000000) (hl : l.length ≤ 1000000000) : ia1 n l = true := by unfold ia1; rw [vc4 n l hn hl]; rfl
theorem ed3 {n : Int} (h : Sm 1000000000000000000 n) : ua3 n = (n.natAbs : Int) := by
 unfold ua3
 obtain ⟨h1, h2⟩ := h
 rw [va9 (by omega) (by omega)]
 split <;> omega
theorem Vb2 {n : Int} (h : Sm 1000000000000000000 n) : qa5 n = some (i (n.natAbs : Int), []) := by
 unfold qa5
 obtain ⟨h1, h2⟩ := h
 rw [va9 (by omega) (by omega)]
 by_cases h : n < 0
 ·rw [bt (decide_eq_true h)]; congr 3; omega
 ·rw [bf (decide_eq_false h)]; congr 3; omega
theorem Cb0 {n : Int} (h : Sm 1000000000000000000 n) : ha0 n = (n.natAbs : Int) := by unfold ha0; rw [Vb2 h]; rfl
theorem Cb1 {n : Int} (h : Sm 1000000000000000000 n) : ha3 n = true := by unfold ha3; rw [Vb2 h]; rfl
def g3 (v : V3) : Int := (Nat.gcd (Nat.gcd v.x.natAbs v.y.natAbs) v.z.natAbs : Nat)
theorem Kd1 (g n : Nat) : eu (g : Int) (n : Int) = (Nat.gcd g n : Nat) := by rw [Gd7 (by omega) (by omega)]; rfl
theorem Ec0 (P : T8) (g n : Nat) (hn : n ≤ 1000000000000000000) : lp (Q3 P) ⟨(g : Int), (n : Int)⟩ = (1, ⟨(Nat.gcd g n : Nat), 0⟩) := by
 have := fc0 (step := Q3 P) (mk := fun g n => (⟨g, n⟩ : G5)) (fun g n h => by
  have h0 : n ≠ 0 := by omega
  simp [Q3, V7, Xa8, h, h0]) (fun g => by simp [Q3, V7, Xa8]) (g : Int) (n : Int) (by omega) (by omega) (by omega)
 rw [this, Kd1]
theorem pd7 (l : List Int) (hl : l.length ≤ 1000000000) (hb : ∀ x ∈ l, Sm 1000000000000000000 x) : la7 l = some (i (l.foldl (fun g x => Nat.gcd g x.natAbs) 0 : Nat), []) := by
 have h := Fb2 (step := Z6 ⟨(l.length : Int)⟩) (mk := fun j (a : Nat) => (⟨(a : Int), l, (j : Int)⟩ : D3)) (f := fun g x => Nat.gcd g x.natAbs) (fin := 2) tI l (fun _ _ => True) hl (fun j a hj _ => ⟨by
   have hm := hb _ (Yb8 tI hj)
   have hne : (gL tI l j == (-9223372036854775808 : Int)) = false := by
    have := hm.1
    rw [beq_eq_false_iff_ne]; omega
   have hs : (gL tI l j).natAbs ≤ 1000000000000000000 := by obtain ⟨h1, h2⟩ := hm; omega
   simp only [Z6, V8, Int.toNat_natCast, l4, m8, ed3 hm, Ec0 _ _ _ hs, o5 hj (by omega)]
   rw [bt (zb6 hj), bt (e8 hj), bf hne]
   rfl, trivial⟩) (fun a _ => by simp only [Z6, V8]; rw [bf (qb2 (Nat.lt_irrefl _))]) 0 (Nat.zero_le _) 0 trivial
 have h := h.1
 rw [List.drop_zero] at h
 unfold la7
 simp only [l4, m8]
 rw [show (⟨0, l, 0⟩ : D3) = ⟨((0 : Nat) : Int), l, ((0 : Nat) : Int)⟩ from rfl, h]
 rfl
def okp (p : Pln) : Bool := [p.n.x, p.n.y, p.n.z].all (smb 4608) && (g3 p.n == 1 && [p.b].all (smb 2097152))
theorem he0 (p : Pln) : Bd p ↔ [p.n.x, p.n.y, p.n.z].all (smb 4608) = true ∧ [p.b].all (smb 2097152) = true := by
 simp only [List.all_cons, List.all_nil, Bool.and_true, Bool.and_eq_true, Vb1, Sm]
 exact ⟨fun h => ⟨⟨⟨h.x1, h.x2⟩, ⟨h.y1, h.y2⟩, h.z1, h.z2⟩, h.b1, h.b2⟩, fun ⟨⟨⟨a, b⟩, ⟨c, d⟩, e, f⟩, g, h⟩ => ⟨a, b, c, d, e, f, g, h⟩⟩
theorem Sc6 {p : Pln} (h : okp p = true) : Bd p := by
 unfold okp at h
 rw [Bool.and_eq_true, Bool.and_eq_true] at h
 exact (he0 p).2 ⟨h.1, h.2.2⟩
theorem sm3 {v : V3} (h : [v.x, v.y, v.z].all (smb 4608) = true) : Sm 4608 v.x ∧ Sm 4608 v.y ∧ Sm 4608 v.z := by
 simpa only [List.all_cons, List.all_nil, Bool.and_true, Bool.and_eq_true, Vb1] using h
theorem ed4 (p : Pln) : xa6 p = some (b (okp p), []) := by
 unfold xa6 okp
 have l3 : [p.n.x, p.n.y, p.n.z].length ≤ 1000000000 := by simp
 have l1 : [p.b].length ≤ 1000000000 := by simp
 simp only [bc6 4608 _ (by omega) l3, bc7 4608 _ (by omega) l3, bc6 2097152 _ (by omega) l1, bc7 2097152 _ (by omega) l1]
 cases hw : [p.n.x, p.n.y, p.n.z].all (smb 4608) with
 | false => rfl
 | true =>
  obtain ⟨h1, h2, h3⟩ := sm3 hw
  have hd := pd7 [p.n.x, p.n.y, p.n.z] l3 (by
   intro x hx
   simp only [List.mem_cons, List.not_mem_nil, or_false] at hx
   rcases hx with rfl | rfl | rfl
   ·exact h1.mono (by omega)
   ·exact h2.mono (by omega)
   ·exact h3.mono (by omega))
  have hg : ([p.n.x, p.n.y, p.n.z].foldl (fun g x => Nat.gcd g x.natAbs) 0 : Nat) = Nat.gcd (Nat.gcd p.n.x.natAbs p.n.y.natAbs) p.n.z.natAbs := by
   simp only [List.foldl_cons, List.foldl_nil, Nat.gcd_zero_left]
  have hp : za7 [p.n.x, p.n.y, p.n.z] = g3 p.n := by unfold za7; rw [hd, hg]; rfl
  have hgd : za8 [p.n.x, p.n.y, p.n.z] = true := by unfold za8; rw [hd]; rfl
  rw [hp, hgd]
  cases g3 p.n == 1 <;> rfl
theorem Ud2 (p : Pln) : Ma0 p = okp p := by unfold Ma0; rw [ed4 p]; rfl
theorem Ud3 (p : Pln) : Ma1 p = true := by unfold Ma1; rw [ed4 p]; rfl
theorem bc8 (P : da1) (g n : Nat) (hn : n ≤ 1000000000000000000) : lp (Y7 P) ⟨(g : Int), (n : Int)⟩ = (1, ⟨(Nat.gcd g n : Nat), 0⟩) := by
 have := fc0 (step := Y7 P) (mk := fun g n => (⟨g, n⟩ : M6)) (fun g n h => by
  have h0 : n ≠ 0 := by omega
  simp [Y7, qa6, Xa8, h, h0]) (fun g => by simp [Y7, qa6, Xa8]) (g : Int) (n : Int) (by omega) (by omega) (by omega)
 rw [this, Kd1]
theorem Sc7 {v : V3} (h1 : Sm 1000000000000000000 v.x) (h2 : Sm 1000000000000000000 v.y) (h3 : Sm 1000000000000000000 v.z) :
  Za0 v = if g3 v = 0 then some (.tup [.agg (tV.row ⟨0, 0, 0⟩), i 0], []) else some (.tup [.agg (tV.row ⟨W (Int.tdiv v.x (g3 v)), W (Int.tdiv v.y (g3 v)), W (Int.tdiv v.z (g3 v))⟩), i (g3 v)], []) := by
 have ne : ∀ {x : Int}, Sm 1000000000000000000 x → (x == (-9223372036854775808 : Int)) = false := fun {x} h => by
  have := h.1
  rw [beq_eq_false_iff_ne]; omega
 have bd : ∀ {x : Int}, Sm 1000000000000000000 x → x.natAbs ≤ 1000000000000000000 := fun {x} h => by obtain ⟨h1, h2⟩ := h; omega
 have l1 := bc8 ⟨0, v.x, v.y, v.z, v.x, v.y, v.z⟩ 0 v.x.natAbs (bd h1)
 rw [Nat.gcd_zero_left] at l1
 have l2 := bc8 ⟨1, v.x, v.y, v.z, v.x, v.y, v.z⟩ v.x.natAbs v.y.natAbs (bd h2)
 have l3 := bc8 ⟨2, v.x, v.y, v.z, v.x, v.y, v.z⟩ (Nat.gcd v.x.natAbs v.y.natAbs) v.z.natAbs (bd h3)
 unfold Za0
 simp only [Cb0 h1, Cb0 h2, Cb0 h3, Cb1 h1, Cb1 h2, Cb1 h3]
 rw [show (⟨0, (v.x.natAbs : Int)⟩ : M6) = ⟨((0 : Nat) : Int), (v.x.natAbs : Int)⟩ from rfl]
 simp only [l1, l2, l3, ne h1, ne h2, ne h3]
 rw [show ((Nat.gcd (Nat.gcd v.x.natAbs v.y.natAbs) v.z.natAbs : Nat) : Int) = g3 v from rfl]
 by_cases h : g3 v = 0
 ·rw [if_pos h, show (g3 v == 0) = true from by rw [h]; rfl]; rfl
 ·rw [if_neg h, show (g3 v == 0) = false from by rw [beq_eq_false_iff_ne]; exact h]; rfl
theorem vc5 {v : V3} (h1 : Sm 1000000000000000000 v.x) (h2 : Sm 1000000000000000000 v.y) (h3 : Sm 1000000000000000000 v.z) : (Ba1 v).2 = g3 v := by
 unfold Ba1
 rw [Sc7 h1 h2 h3]
 split
 ·rename_i h; rw [h]; rfl
 ·rfl
theorem he1 {v : V3} (h1 : Sm 1000000000000000000 v.x) (h2 : Sm 1000000000000000000 v.y) (h3 : Sm 1000000000000000000 v.z) (h : g3 v ≠ 0) : Ba1 v = (⟨W (Int.tdiv v.x (g3 v)), W (Int.tdiv v.y (g3 v)), W (Int.tdiv v.z (g3 v))⟩, g3 v) := by
 unfold Ba1
 rw [Sc7 h1 h2 h3, if_neg h]
 rfl
theorem Kd2 {v : V3} (h1 : Sm 1000000000000000000 v.x) (h2 : Sm 1000000000000000000 v.y) (h3 : Sm 1000000000000000000 v.z) : Za1 v = true := by
 unfold Za1
 rw [Sc7 h1 h2 h3]
 split <;> rfl
theorem Kc2 (p : Pln) : Na2 p = some (b (okp p), []) := by
 unfold Na2 okp
 cases hw : [p.n.x, p.n.y, p.n.z].all (smb 4608) with
 | false =>
  simp only [List.all_cons, List.all_nil, Bool.and_true, smb] at hw
  cases h1 : decide (p.n.x < -4608) <;> cases h2 : decide (p.n.x > 4608) <;> cases h3 : decide (p.n.y < -4608) <;> cases h4 : decide (p.n.y > 4608) <;> cases h5 : decide (p.n.z < -4608) <;> cases h6 : decide (p.n.z > 4608) <;> simp only [h1, h2, h3, h4, h5, h6] at hw ⊢ <;> first | rfl | cases hw
 | true =>
  obtain ⟨h1, h2, h3⟩ := sm3 hw
  rw [bf (decide_eq_false (by have := h1.1; omega)), bf (decide_eq_false (by have := h1.2; omega)), bf (decide_eq_false (by have := h2.1; omega)), bf (decide_eq_false (by have := h2.2; omega)), bf (decide_eq_false (by have := h3.1; omega)), bf (decide_eq_false (by have := h3.2; omega))]
  have k1 := h1.mono (m := 1000000000000000000) (by omega)
  have k2 := h2.mono (m := 1000000000000000000) (by omega)
  have k3 := h3.mono (m := 1000000000000000000) (by omega)
  rw [bt (Kd2 k1 k2 k3), vc5 k1 k2 k3]
  cases g3 p.n == 1 with
  | false => rfl
  | true =>
   simp only [List.all_cons, List.all_nil, Bool.and_true, smb, Bool.true_and]
   rw [o6]
   by_cases ha : p.b < -2097152
   ·rw [bf (decide_eq_false (by omega)), show decide (p.b < -2097152) = true from decide_eq_true ha]; rfl
   ·rw [bt (decide_eq_true (by omega)), show decide (p.b < -2097152) = false from decide_eq_false ha]
    congr 3
    by_cases hc : p.b ≤ 2097152
    ·rw [decide_eq_true hc, decide_eq_false (by omega)]; rfl
    ·rw [decide_eq_false hc, decide_eq_true (by omega)]; rfl
theorem Kd3 (p : Pln) : Na3 p = okp p := by unfold Na3; rw [Kc2 p]; rfl
theorem ed5 (p : Pln) : Na4 p = true := by unfold Na4; rw [Kc2 p]; rfl
def chk (l : List Pln) : Int := if (l.length : Int) > 48 then 2 else if l.all okp then 0 else 12
theorem ed6 (l : List Pln) (hl : l.length ≤ 1000000000) : Fa9 l = some (i (chk l), []) := by
 have hk1 : ∀ p, ra5 p = some (b (!okp p), []) := fun p => by unfold ra5; rw [Ud3, Ud2]; rfl
 have hp1 : ∀ p, Fa7 p = !okp p := fun p => by unfold Fa7; rw [hk1]; rfl
 have hg1 : ∀ p, Fa8 p = true := fun p => by unfold Fa8; rw [hk1]; rfl
 have h := fb7 (step := B5 ⟨l, (l.length : Int)⟩) (mk := fun j => (⟨(j : Int)⟩ : l6)) (c := fun p => !okp p) (u := 1) (fin := 2) tP l hl
  (fun j hj => by
   simp only [B5, z6, Int.toNat_natCast, hp1, hg1, o5 hj (by omega)]
   rw [bt (zb6 hj), bt (e8 hj), o6])
  (by simp only [B5, z6]; rw [bf (qb2 (Nat.lt_irrefl _))]) 0 (Nat.zero_le _)
 rw [List.drop_zero] at h
 have e : (l.any fun x => !okp x) = !l.all okp := by rw [List.not_all_eq_any_not]
 unfold Fa9 U2 s9 ba6 A3 chk
 simp only [l4, m8]
 rw [show (⟨0⟩ : l6) = ⟨((0 : Nat) : Int)⟩ from rfl, h, e]
 by_cases hn : (l.length : Int) > 48
 ·rw [bt (decide_eq_true hn), if_pos hn]
 ·rw [bf (decide_eq_false hn), if_neg hn]
  cases l.all okp with
  | true => rfl
  | false =>
   simp only [Bool.not_false, if_true, Nat.zero_add]
   show sl true (sl (Nat.beq 1 1) (sl (decide (((l.findIdx fun p => !okp p : Nat) : Int) ≥ 0)) _ _) _) _ = _
   rw [show decide (((l.findIdx fun p => !okp p : Nat) : Int) ≥ 0) = true from decide_eq_true (by omega)]
   rfl
theorem Sc8 (l : List Pln) (hl : l.length ≤ 1000000000) : ua4 l = chk l := by unfold ua4; rw [ed6 l hl]; rfl
theorem Sc9 (l : List Pln) (hl : l.length ≤ 1000000000) : ua5 l = true := by unfold ua5; rw [ed6 l hl]; rfl
theorem Kc3 (l : List Pln) (hl : l.length ≤ 1000000000) : Na5 l = some (i (chk l), []) := by
 have h := ib1 (step := qa7 ⟨l⟩) (mk := fun j => (⟨(j : Int)⟩ : Q8)) (c := fun p => !okp p) (u := 1) (fin := 2) tP l hl
  (fun j hj => by
   simp only [qa7, la2, Int.toNat_natCast, Kd3, ed5, o5 hj (by omega)]
   rw [bt (zb6 hj), bt (e8 hj), o6])
  (by simp only [qa7, la2]; rw [bf (qb2 (Nat.lt_irrefl _))]) 0 (Nat.zero_le _)
 rw [List.drop_zero] at h
 have e : (l.any fun x => !okp x) = !l.all okp := by rw [List.not_all_eq_any_not]
 unfold Na5 chk
 simp only [l4, m8]
 rw [show (⟨0⟩ : Q8) = ⟨((0 : Nat) : Int)⟩ from rfl, h, e]
 by_cases hn : (l.length : Int) > 48
 ·rw [bt (decide_eq_true hn), if_pos hn]
 ·rw [bf (decide_eq_false hn), if_neg hn]
  cases l.all okp <;> rfl
theorem vc6 (l : List Pln) (hl : l.length ≤ 1000000000) : Ca2 l = chk l := by unfold Ca2; rw [Kc3 l hl]; rfl
theorem vc7 (l : List Pln) (hl : l.length ≤ 1000000000) : Ca3 l = true := by unfold Ca3; rw [Kc3 l hl]; rfl
theorem ed7 {l : List Pln} : chk l = 0 ↔ l.length ≤ 48 ∧ ∀ p ∈ l, okp p = true := by
 unfold chk
 by_cases hn : (l.length : Int) > 48
 ·rw [if_pos hn]
  exact ⟨fun h => absurd h (by decide), fun h => by omega⟩
 ·rw [if_neg hn]
  cases h : l.all okp with
  | true => exact ⟨fun _ => ⟨by omega, List.all_eq_true.1 h⟩, fun _ => rfl⟩
  | false => exact ⟨fun h => absurd h (by decide), fun h' => by rw [List.all_eq_true.2 h'.2] at h; cases h⟩
end Go.Ev.Ce
namespace Go.Ev.Ce
open Go Go.Ev Go.Ev.L Go.Proofs
theorem btD {p : Prop} {inst : Decidable p} (h : p) {α : Type} (t e : α) : sl (@decide p inst) t e = t := bt (decide_eq_true h) t e
theorem bfD {p : Prop} {inst : Decidable p} (h : ¬ p) {α : Type} (t e : α) : sl (@decide p inst) t e = e := bf (decide_eq_false h) t e
theorem m9 {j n : Nat} (h : j < n) : (j : Int) < (n : Int) := Int.ofNat_lt.2 h
theorem T1 {j n : Nat} (h : ¬ j < n) : ¬ (j : Int) < (n : Int) := fun h' => h (Int.ofNat_lt.1 h')
theorem Ga9 {σ τ α : Type} {step : σ → Stp σ} {mk : Nat → τ → σ} {f : α → List α → τ → τ} {g : List α → τ → τ} {fin : τ → Nat} (l : List α) (I : Nat → τ → Prop) (hl : l.length ≤ 1000000000)
  (g0 : ∀ a, g [] a = a) (g1 : ∀ x r a, g (x :: r) a = g r (f x r a))
  (h : ∀ j a (hj : j < l.length), I j a → step (mk j a) = .next (mk (j + 1) (f l[j] (l.drop (j + 1)) a)) ∧ I (j + 1) (f l[j] (l.drop (j + 1)) a))
  (hf : ∀ j a, l.length ≤ j → I j a → step (mk j a) = .exit (fin a)) (j0 : Nat) (a : τ) (hi : I j0 a) :
  lp step (mk j0 a) = (fin (g (l.drop j0) a), mk (max j0 l.length) (g (l.drop j0) a)) ∧ I (max j0 l.length) (g (l.drop j0) a) := by
 have key := zb7 (step := step) (I := fun m s => ∃ j b, m = l.length - j ∧ max j l.length = max j0 l.length ∧ s = mk j b ∧ I j b ∧ g (l.drop j) b = g (l.drop j0) a)
  (Q := fun u s => u = fin (g (l.drop j0) a) ∧ s = mk (max j0 l.length) (g (l.drop j0) a) ∧ I (max j0 l.length) (g (l.drop j0) a)) (fun m s ⟨j, b, hm, hj, hs, hb, he⟩ => by
   subst hs
   by_cases hlt : j < l.length
   ·obtain ⟨h1, h2⟩ := h j b hlt hb
    refine .inr ⟨_, l.length - (j + 1), by omega, h1, j + 1, _, rfl, by omega, rfl, h2, ?_⟩
    rw [← he, List.drop_eq_getElem_cons hlt, g1]
   ·have hd : l.drop j = [] := List.drop_eq_nil_of_le (by omega)
    rw [hd, g0] at he
    have hj' : j = max j0 l.length := by omega
    subst he
    rw [← hj']
    exact .inl ⟨_, hf j _ (by omega) hb, rfl, rfl, hb⟩) (l.length - j0) (mk j0 a) (by omega) ⟨j0, a, rfl, rfl, rfl, hi, rfl⟩
 exact ⟨Prod.ext key.1 key.2.1, key.2.2⟩
noncomputable def Pa2 (r : List Pln) (p q : Pln) (out : List Pt) (s : Pln) : List Pt :=
 if (mpt p q s).2 && (!Vb0 out (mpt p q s).1 && inn r (mpt p q s).1) then out ++ [(mpt p q s).1] else out
noncomputable def sb5 (r : List Pln) (p q : Pln) (l : List Pln) (out : List Pt) : List Pt := l.foldl (Pa2 r p q) out
noncomputable def wb1 (r : List Pln) (p : Pln) : List Pln → List Pt → List Pt
 | [], out => out
 | q :: l, out => wb1 r p l (sb5 r p q l out)
noncomputable def Cd2 (r : List Pln) : List Pln → List Pt → List Pt
 | [], out => out
 | p :: l, out => Cd2 r l (wb1 r p l out)
noncomputable def cor (r : List Pln) : List Pt := Cd2 r r []
def Bds (r : List Pln) : Prop := ∀ p ∈ r, Bd p
theorem bc9 (r : List Pln) (p q : Pln) (out : List Pt) (s : Pln) : (Pa2 r p q out s).length ≤ out.length + 1 := by
 unfold Pa2
 split
 ·simp
 ·omega
theorem vc8 (r : List Pln) (p q : Pln) : ∀ (l : List Pln) (out : List Pt), (sb5 r p q l out).length ≤ out.length + l.length
 | [], out => Nat.le_refl _
 | s :: l, out => by
  have h1 := bc9 r p q out s
  have h2 := vc8 r p q l (Pa2 r p q out s)
  show (sb5 r p q l (Pa2 r p q out s)).length ≤ _
  simp only [List.length_cons]
  omega
noncomputable def ph (out : List Pt) : Nat := match out with
 | [] => 0
 | _ :: _ => 1
theorem ed8 (x : Pt) : Vb0 [] x = false := rfl
theorem Vb3 {α : Type} (t : Ty α) (l : List α) (n k : Nat) : gL t (l.drop n) k = gL t l (n + k) := by simp [gL, List.getD_eq_getElem?_getD, List.getElem?_drop]
theorem ed9 {n : Nat} {l : List Pt} (hn : n = l.length) (h : l.length ≤ 1000000000) : (Nat.beq n (len (bL tX l)) && Nat.ble ((n + 1) * 32) room) = true := by
 subst hn
 rw [N6, Nat.beq_refl, Bool.true_and]
 exact ka1 (by omega)
theorem ud7 (l : List Pt) (x : Pt) : app (bL tX l) [[i x.px, i x.py, i x.pz, i x.pw]] = bL tX (l ++ [x]) := Ea2 tX l [x]
@[reducible] noncomputable def Hb4 (k : Nat) (out : List Pt) : o3 := ⟨ph out, (k : Int), out.length, bL tX out⟩
theorem he3 (l : List Pt) : slR tX (bL tX l) 0 l.length = l := Lb8 tX l
theorem Ud4 (r : List Pln) (hb : Bds r) (hr : r.length ≤ 200) (a c k : Nat) (ha : a < r.length) (hc : c < r.length) (out : List Pt) (ho : out.length ≤ 1000000000) (hk : k < r.length) :
  J7 ⟨r, a, c⟩ (Hb4 k out) = .next (Hb4 (k + 1) (Pa2 r r[a] r[c] out r[k])) := by
 have hin : ∀ x, mb3 r x = inn r x := fun x => Ce0 r x (by omega)
 have hig : ∀ x, mb4 r x = true := fun x => Ce1 r x (by omega)
 have hth : ∀ x, Ca0 out x = Vb0 out x := fun x => Ud0 out x ho
 have htg : ∀ x, Ca1 out x = true := fun x => Ud1 out x ho
 have hme := Td6 (hb _ (List.getElem_mem ha)) (hb _ (List.getElem_mem hc)) (hb _ (List.getElem_mem hk))
 have hmg := Td7 (hb _ (List.getElem_mem ha)) (hb _ (List.getElem_mem hc)) (hb _ (List.getElem_mem hk))
 unfold J7
 cases out with
 | nil =>
  show M0 Stp.next Stp.exit Stp.fail _ (Hb4 k []) = _
  simp only [M0, Hb4, Int.toNat_natCast, l4, J4, Ma9 tP ha, Ma9 tP hc, Ma9 tP hk, hme, hmg, hin, hig, hth, htg, o5 hk (by omega)]
  rw [btD (m9 hk), bt (e8 ha), bt (e8 hc), bt (e8 hk), o6]
  unfold Pa2
  rw [ed8]
  cases (mpt r[a] r[c] r[k]).2 with
  | false => rfl
  | true =>
   cases inn r (mpt r[a] r[c] r[k]).1 with
   | false => rfl
   | true => rfl
 | cons o os =>
  show M1 Stp.next Stp.exit Stp.fail _ (Hb4 k (o :: os)) = _
  simp only [M1, Hb4, Int.toNat_natCast, l4, J4, Ma9 tP ha, Ma9 tP hc, Ma9 tP hk, hme, hmg, hin, hig, he3, Lb9, hth, htg, o5 hk (by omega)]
  rw [btD (m9 hk), bt (e8 ha), bt (e8 hc), bt (e8 hk), o6, ed9 rfl ho, ud7]
  unfold Pa2
  cases (mpt r[a] r[c] r[k]).2 with
  | false => rfl
  | true =>
   cases inn r (mpt r[a] r[c] r[k]).1 with
   | false => cases Vb0 (o :: os) (mpt r[a] r[c] r[k]).1 <;> rfl
   | true =>
    cases Vb0 (o :: os) (mpt r[a] r[c] r[k]).1 with
    | true => rfl
    | false =>
     show Stp.next (⟨1, ((k + 1 : Nat) : Int), (o :: os).length + 1, bL tX (o :: os ++ [(mpt r[a] r[c] r[k]).1])⟩ : o3) = _
     simp [ph]
theorem he4 (r : List Pln) (a c k : Nat) (out : List Pt) (hk : r.length ≤ k) : J7 ⟨r, a, c⟩ (Hb4 k out) = .exit (ph out + 1) := by
 unfold J7
 have this : ¬ ((k : Int) < (r.length : Int)) := by omega
 cases out with
 | nil =>
  show M0 Stp.next Stp.exit Stp.fail _ (Hb4 k []) = _
  simp only [M0, Hb4]
  rw [bfD this]
  rfl
 | cons o os =>
  show M1 Stp.next Stp.exit Stp.fail _ (Hb4 k (o :: os)) = _
  simp only [M1, Hb4]
  rw [bfD this]
  rfl
theorem Ud5 (r : List Pln) (hb : Bds r) (hr : r.length ≤ 200) (a c : Nat) (ha : a < r.length) (hc : c < r.length) (k : Nat) (out : List Pt) (ho : out.length ≤ 100000000) :
  ∃ m, lp (J7 ⟨r, a, c⟩) (Hb4 k out) = (ph (sb5 r r[a] r[c] (r.drop k) out) + 1, Hb4 m (sb5 r r[a] r[c] (r.drop k) out)) :=
 ⟨_, (Ga9 (mk := Hb4) (f := fun s _ out => Pa2 r r[a] r[c] out s) (g := fun l out => sb5 r r[a] r[c] l out) (fin := fun out => ph out + 1) r (fun j o => o.length + k ≤ out.length + j) (by omega)
  (fun _ => rfl) (fun _ _ _ => rfl) (fun j o hj hi => ⟨Ud4 r hb hr a c j ha hc o (by omega) hj, by have := bc9 r r[a] r[c] o r[j]; show (Pa2 r r[a] r[c] o r[j]).length + k ≤ out.length + (j + 1); omega⟩)
  (fun j o hj _ => he4 r a c j o hj) k out (by omega)).1⟩
@[reducible] noncomputable def Hb5 (r : List Pln) (j : Nat) (out : List Pt) : p0 := ⟨ph out, r, (j : Int), out.length, bL tX out⟩
theorem Ud6 (r : List Pln) (hb : Bds r) (hr : r.length ≤ 200) (a j : Nat) (ha : a < r.length) (out : List Pt) (ho : out.length ≤ 100000000) (hj : j < r.length) :
  F4 ⟨a⟩ (Hb5 r j out) = .next (Hb5 r (j + 1) (sb5 r r[a] r[j] (r.drop (j + 1)) out)) := by
 obtain ⟨m, hm⟩ := Ud5 r hb hr a j ha hj (j + 1) out ho
 unfold F4
 generalize sb5 r r[a] r[j] (r.drop (j + 1)) out = res at *
 cases out with
 | nil =>
  show M2 Stp.next Stp.exit Stp.fail _ (Hb5 r j []) = _
  simp only [M2, Hb5, l4, m8, o5 hj (by omega)]
  rw [show (⟨0, ((j + 1 : Nat) : Int), 0, []⟩ : o3) = Hb4 (j + 1) [] from rfl, hm, btD (m9 hj)]
  cases res <;> rfl
 | cons o os =>
  show M3 Stp.next Stp.exit Stp.fail _ (Hb5 r j (o :: os)) = _
  simp only [M3, Hb5, l4, m8, o5 hj (by omega)]
  rw [show (⟨1, ((j + 1 : Nat) : Int), (o :: os).length, bL tX (o :: os)⟩ : o3) = Hb4 (j + 1) (o :: os) from rfl, hm, btD (m9 hj)]
  cases res <;> rfl
theorem he5 (r : List Pln) (a j : Nat) (out : List Pt) (hj : r.length ≤ j) : F4 ⟨a⟩ (Hb5 r j out) = .exit (ph out + 1) := by
 unfold F4
 have this : ¬ ((j : Int) < (r.length : Int)) := by omega
 cases out with
 | nil =>
  show M2 Stp.next Stp.exit Stp.fail _ (Hb5 r j []) = _
  simp only [M2, Hb5]
  rw [bfD this]
  rfl
 | cons o os =>
  show M3 Stp.next Stp.exit Stp.fail _ (Hb5 r j (o :: os)) = _
  simp only [M3, Hb5]
  rw [bfD this]
  rfl
theorem Ud7 (r : List Pln) (hb : Bds r) (hr : r.length ≤ 200) (a : Nat) (ha : a < r.length) (j : Nat) (out : List Pt) (ho : out.length ≤ 40000 * a) :
  ∃ m, lp (F4 ⟨a⟩) (Hb5 r j out) = (ph (wb1 r r[a] (r.drop j) out) + 1, Hb5 r m (wb1 r r[a] (r.drop j) out)) ∧ (wb1 r r[a] (r.drop j) out).length ≤ 40000 * (a + 1) := by
 have hk := Ga9 (step := F4 ⟨a⟩) (mk := Hb5 r) (f := fun q l out => sb5 r r[a] q l out) (g := fun l out => wb1 r r[a] l out) (fin := fun out => ph out + 1) r (fun k o => o.length ≤ 40000 * a + 200 * (k - j) ∧ j ≤ k ∧ k ≤ j + r.length) (by omega)
  (fun _ => rfl) (fun _ _ _ => rfl) (fun k o hj hi => ⟨Ud6 r hb hr a k ha o (by omega) hj, by
   have := vc8 r r[a] r[k] (r.drop (k + 1)) o
   rw [List.length_drop] at this
   show (sb5 r r[a] r[k] (r.drop (k + 1)) o).length ≤ 40000 * a + 200 * (k + 1 - j) ∧ j ≤ k + 1 ∧ k + 1 ≤ j + r.length
   omega⟩)
  (fun k o hj _ => he5 r a k o hj) j out (by omega)
 exact ⟨_, hk.1, by have := hk.2; omega⟩
@[reducible] noncomputable def Nb3 (r : List Pln) (j : Nat) (out : List Pt) : s7 := ⟨ph out, r, (j : Int), out.length, bL tX out⟩
theorem Tc0 (r : List Pln) (hb : Bds r) (hr : r.length ≤ 200) (a : Nat) (ha : a < r.length) (out : List Pt) (ho : out.length ≤ 40000 * a) :
  J8 ⟨⟩ (Nb3 r a out) = .next (Nb3 r (a + 1) (wb1 r r[a] (r.drop (a + 1)) out)) ∧ (wb1 r r[a] (r.drop (a + 1)) out).length ≤ 40000 * (a + 1) := by
 obtain ⟨m, hm, hl⟩ := Ud7 r hb hr a ha (a + 1) out ho
 refine ⟨?_, hl⟩
 clear hl
 unfold J8
 generalize wb1 r r[a] (r.drop (a + 1)) out = res at *
 cases out with
 | nil =>
  show M4 Stp.next Stp.exit Stp.fail _ (Nb3 r a []) = _
  simp only [M4, Nb3, l4, m8, o5 ha (by omega)]
  rw [show (⟨0, r, ((a + 1 : Nat) : Int), 0, []⟩ : p0) = Hb5 r (a + 1) [] from rfl, hm, btD (m9 ha)]
  cases res <;> rfl
 | cons o os =>
  show M5 Stp.next Stp.exit Stp.fail _ (Nb3 r a (o :: os)) = _
  simp only [M5, Nb3, l4, m8, o5 ha (by omega)]
  rw [show (⟨1, r, ((a + 1 : Nat) : Int), (o :: os).length, bL tX (o :: os)⟩ : p0) = Hb5 r (a + 1) (o :: os) from rfl, hm, btD (m9 ha)]
  cases res <;> rfl
theorem he6 (r : List Pln) (j : Nat) (out : List Pt) (hj : r.length ≤ j) : J8 ⟨⟩ (Nb3 r j out) = .exit (ph out + 1) := by
 unfold J8
 have this : ¬ ((j : Int) < (r.length : Int)) := by omega
 cases out with
 | nil =>
  show M4 Stp.next Stp.exit Stp.fail _ (Nb3 r j []) = _
  simp only [M4, Nb3]
  rw [bfD this]
  rfl
 | cons o os =>
  show M5 Stp.next Stp.exit Stp.fail _ (Nb3 r j (o :: os)) = _
  simp only [M5, Nb3]
  rw [bfD this]
  rfl
theorem ud8 (r : List Pln) (hb : Bds r) (hr : r.length ≤ 200) : ∃ m, lp (J8 ⟨⟩) (Nb3 r 0 []) = (ph (cor r) + 1, Nb3 r m (cor r)) ∧ (cor r).length ≤ 8000000 := by
 have hk := Ga9 (step := J8 ⟨⟩) (mk := Nb3 r) (f := fun q l out => wb1 r q l out) (g := fun l out => Cd2 r l out) (fin := fun out => ph out + 1) r (fun k o => o.length ≤ 40000 * k ∧ k ≤ r.length) (by omega)
  (fun _ => rfl) (fun _ _ _ => rfl) (fun k o hj hi => ⟨(Tc0 r hb hr k hj o hi.1).1, (Tc0 r hb hr k hj o hi.1).2, hj⟩)
  (fun k o hj _ => he6 r k o hj) 0 [] (by simp)
 exact ⟨_, hk.1, by have := hk.2; rw [show max 0 r.length = r.length by omega] at this; have h1 := this.1; show (Cd2 r r []).length ≤ _; rw [List.drop_zero] at h1; omega⟩
theorem Tc1 (r : List Pln) (hb : Bds r) (hr : r.length ≤ 200) : (cor r).length ≤ 8000000 := by
 obtain ⟨_, _, h⟩ := ud8 r hb hr
 exact h
noncomputable def slX (l : List Pt) : b7 × List b8 := match l with
 | [] => (.v (.slice none 0 0), [])
 | _ :: _ => (.sl 0 0 l.length 0, [⟨54, 4, bL tX l, true, false, 0⟩])
theorem Tc2 (l : List Pt) : (one (r1L tX)).rd (slX l) = some l := by
 cases l with
 | nil => rfl
 | cons x l =>
  show Bool.rec (motive := fun _ => Option (List Pt)) none (some (slR tX (bL tX (x :: l)) 0 (x :: l).length)) (Bool.and true (okS tX (bL tX (x :: l)) 0 (x :: l).length)) = _
  rw [Lb8, Lb9]
  rfl
theorem gc1 (r : List Pln) (hb : Bds r) (hr : r.length ≤ 200) : wa7 r = some (slX (cor r)) := by
 obtain ⟨m, hm, _⟩ := ud8 r hb hr
 unfold wa7
 simp only [l4, m8]
 rw [show (⟨0, r, 0, 0, []⟩ : s7) = Nb3 r 0 [] from rfl, hm]
 cases cor r <;> rfl
theorem na3 {ρ : Type} (R : RR ρ) {x : b7 × List b8} {r : ρ} (h : R.rd x = some r) : G6 R (some x) = r := by
 show Option.rec (motive := fun _ => ρ) R.d (fun x => x) (R.rd x) = r
 rw [h]
theorem ya0 {ρ : Type} (R : RR ρ) {x : b7 × List b8} {r : ρ} (h : R.rd x = some r) : okO R (some x) = true := by
 show Option.rec (motive := fun _ => Bool) false (fun _ => true) (R.rd x) = true
 rw [h]
theorem vc9 (r : List Pln) (hb : Bds r) (hr : r.length ≤ 200) : wa8 r = cor r := by unfold wa8; rw [gc1 r hb hr]; exact na3 _ (Tc2 _)
theorem wc0 (r : List Pln) (hb : Bds r) (hr : r.length ≤ 200) : wa9 r = true := by unfold wa9; rw [gc1 r hb hr]; exact ya0 _ (Tc2 _)
noncomputable def Ec1 (x : Pt) : List b7 := [i x.px, i x.py, i x.pz, i x.pw, b true]
noncomputable def vb3 (l : List Pt) : List (List b7) := l.map Ec1
@[reducible] noncomputable def flK : List (Nat × CK) := [(0, (.int .i64)), (1, (.int .i64)), (2, (.int .i64)), (3, (.int .i64))]
theorem fd0 (x q : Pt) : Gb7 flK [i x.px, i x.py, i x.pz, i x.pw] (Ec1 q) = eqX x q := by
 show Bool.and (decide (x.px = q.px)) (Bool.and (decide (x.py = q.py)) (Bool.and (decide (x.pz = q.pz)) (Bool.and (decide (x.pw = q.pw)) true))) = _
 unfold eqX
 have h : ∀ a c : Int, decide (a = c) = (c == a) := fun a c => by rw [Bool.eq_iff_iff, decide_eq_true_eq, beq_iff_eq]; exact eq_comm
 rw [h, h, h, h]
theorem wc1 (x : Pt) : ∀ l, Ob9 4 flK [i x.px, i x.py, i x.pz, i x.pw] (vb3 l) = Vb0 l x
 | [] => rfl
 | q :: l => by
  have ih := wc1 x l
  unfold Ob9 at ih ⊢
  show Option.rec (motive := fun _ => Bool) false (fun r => toB (hdA (e7 r 4))) (Bool.rec (motive := fun _ => Option (List b7)) (ec1 flK [i x.px, i x.py, i x.pz, i x.pw] (vb3 l)) (some (Ec1 q)) (Gb7 flK [i x.px, i x.py, i x.pz, i x.pw] (Ec1 q))) = Vb0 (q :: l) x
  rw [fd0]
  unfold Vb0 at ih ⊢
  rw [List.any_cons]
  cases eqX x q with
  | true => rfl
  | false => exact ih
theorem Kc4 (x : Pt) : ∀ l, Vb0 l x = false → hb5 flK [i x.px, i x.py, i x.pz, i x.pw] (Ec1 x) (vb3 l) = vb3 (l ++ [x])
 | [], _ => rfl
 | q :: l, h => by
  unfold Vb0 at h
  rw [List.any_cons, Bool.or_eq_false_iff] at h
  show Bool.rec (motive := fun _ => List (List b7)) (Ec1 q :: hb5 flK [i x.px, i x.py, i x.pz, i x.pw] (Ec1 x) (vb3 l)) (Ec1 x :: vb3 l) (Gb7 flK [i x.px, i x.py, i x.pz, i x.pw] (Ec1 q)) = _
  rw [fd0, h.1, Kc4 x l h.2]
  rfl
@[reducible] noncomputable def Hb6 (k : Nat) (out : List Pt) : f8 := ⟨ph out, (k : Int), out.length, bL tX out, vb3 out⟩
structure C2 (P : f7) (r : List Pln) (p q : Pln) (lo : Nat) : Prop where
 ns : P.rd6 = (r.drop lo).length
 gs : P.Ua0 = fun k => tP.row (gL tP r (lo + k))
 is : P.Wc5 = ((r.drop lo).length : Int)
 p1 : (⟨⟨P.E2, P.E3, P.E4⟩, P.E5⟩ : Pln) = p
 q1 : (⟨⟨P.K6, P.K7, P.K8⟩, P.Wa1⟩ : Pln) = q
 r1 : P.ja5 = r
theorem Tc3 (s : Pln) : (⟨⟨toI (hdA (tP.row s)), toI (hdA (tlA (tP.row s))), toI (hdA (tlA (tlA (tP.row s))))⟩, toI (hdA (tlA (tlA (tlA (tP.row s)))))⟩ : Pln) = s := rfl
theorem Tc4 (s : Pln) : ((Nat.ble 4 (len (tP.row s))) && (J5 [(CK.int .i64), (CK.int .i64), (CK.int .i64), (CK.int .i64)] (tP.row s))) = true := rfl
theorem Ud8 {P : f7} {r : List Pln} {p q : Pln} {lo : Nat} (h : C2 P r p q lo) (hb : Bds r) (hr : r.length ≤ 200) (hp : Bd p) (hq : Bd q) (k : Nat) (out : List Pt) (ho : out.length ≤ 1000000000) (hk : k < (r.drop lo).length) :
  p8 P (Hb6 k out) = .next (Hb6 (k + 1) (Pa2 r p q out (r.drop lo)[k])) := by
 have hwi : ∀ x, Q9 r x = inn r x := fun x => vc2 r x (by omega)
 have hwg : ∀ x, R2 r x = true := fun x => vc3 r x (by omega)
 have hs : gL tP r (lo + k) = (r.drop lo)[k] := by rw [← Vb3, Ma9 tP hk]
 have hbs : Bd (r.drop lo)[k] := hb _ (List.mem_of_mem_drop (List.getElem_mem hk))
 have hd : (r.drop lo).length ≤ 200 := by rw [List.length_drop]; omega
 have hme := ge8 hp hq hbs
 have hmg := ge9 hp hq hbs
 obtain ⟨x1, x2, x3, x4, x5, x6, x7, x8, x9, x10, x11, x12, x13, x14, x15, x16, x17, x18, x19, x20, x21⟩ := P
 obtain ⟨ns, gs, is, p1, q1, r1⟩ := h
 simp only at ns gs is p1 q1 r1
 have r1 := r1.symm
 subst ns gs is r1
 unfold p8
 cases out with
 | nil =>
  show r4 Stp.next Stp.exit Stp.fail _ (Hb6 k []) = _
  simp only [r4, Hb6, Int.toNat_natCast, l4, J4, p1, q1, hs, Tc3, Tc4, hme, hmg, hwi, hwg, o5 hk (by omega)]
  rw [btD (m9 hk), bt (e8 hk), o6, o6]
  unfold Pa2
  rw [ed8]
  cases (mpt p q (r.drop lo)[k]).2 with
  | false => rfl
  | true =>
   cases inn r (mpt p q (r.drop lo)[k]).1 with
   | false => rfl
   | true => rfl
 | cons o os =>
  show r5 Stp.next Stp.exit Stp.fail _ (Hb6 k (o :: os)) = _
  simp only [r5, Hb6, Int.toNat_natCast, l4, J4, p1, q1, hs, Tc3, Tc4, hme, hmg, hwi, hwg, o5 hk (by omega), wc1]
  rw [btD (m9 hk), bt (e8 hk), o6, o6, ed9 rfl ho, ud7]
  unfold Pa2
  cases (mpt p q (r.drop lo)[k]).2 with
  | false => rfl
  | true =>
   cases hx : Vb0 (o :: os) (mpt p q (r.drop lo)[k]).1 with
   | true => rfl
   | false =>
    cases inn r (mpt p q (r.drop lo)[k]).1 with
    | false => rfl
    | true =>
     show Stp.next (⟨1, ((k + 1 : Nat) : Int), (o :: os).length + 1, bL tX (o :: os ++ [(mpt p q (r.drop lo)[k]).1]), hb5 flK [i (mpt p q (r.drop lo)[k]).1.px, i (mpt p q (r.drop lo)[k]).1.py, i (mpt p q (r.drop lo)[k]).1.pz, i (mpt p q (r.drop lo)[k]).1.pw] (Ec1 (mpt p q (r.drop lo)[k]).1) (vb3 (o :: os))⟩ : f8) = _
     rw [Kc4 _ _ hx]
     simp [ph]
theorem he7 {P : f7} {r : List Pln} {p q : Pln} {lo : Nat} (h : C2 P r p q lo) (k : Nat) (out : List Pt) (hk : (r.drop lo).length ≤ k) : p8 P (Hb6 k out) = .exit (ph out + 1) := by
 obtain ⟨x1, x2, x3, x4, x5, x6, x7, x8, x9, x10, x11, x12, x13, x14, x15, x16, x17, x18, x19, x20, x21⟩ := P
 obtain ⟨ns, gs, is, p1, q1, r1⟩ := h
 simp only at ns gs is p1 q1 r1
 have r1 := r1.symm
 subst ns gs is r1
 unfold p8
 have this : ¬ ((k : Int) < ((r.drop lo).length : Int)) := by omega
 cases out with
 | nil =>
  show r4 Stp.next Stp.exit Stp.fail _ (Hb6 k []) = _
  simp only [r4, Hb6]
  rw [bfD this]
  rfl
 | cons o os =>
  show r5 Stp.next Stp.exit Stp.fail _ (Hb6 k (o :: os)) = _
  simp only [r5, Hb6]
  rw [bfD this]
  rfl
theorem Ud9 {P : f7} {r : List Pln} {p q : Pln} {lo : Nat} (h : C2 P r p q lo) (hb : Bds r) (hr : r.length ≤ 200) (hp : Bd p) (hq : Bd q) (out : List Pt) (ho : out.length ≤ 100000000) :
  ∃ m, lp (p8 P) (Hb6 0 out) = (ph (sb5 r p q (r.drop lo) out) + 1, Hb6 m (sb5 r p q (r.drop lo) out)) := by
 have hd : (r.drop lo).length ≤ 200 := by rw [List.length_drop]; omega
 exact ⟨_, (Ga9 (mk := Hb6) (f := fun s _ out => Pa2 r p q out s) (g := fun l out => sb5 r p q l out) (fin := fun out => ph out + 1) (r.drop lo) (fun j o => o.length ≤ out.length + j) (by omega)
  (fun _ => rfl) (fun _ _ _ => rfl) (fun j o hj hi => ⟨Ud8 h hb hr hp hq j o (by omega) hj, by have := bc9 r p q o (r.drop lo)[j]; show (Pa2 r p q o (r.drop lo)[j]).length ≤ out.length + (j + 1); omega⟩)
  (fun j o hj _ => he7 h j o hj) 0 out (by omega)).1⟩
@[reducible] noncomputable def Hb7 (r : List Pln) (j : Nat) (out : List Pt) : g9 := ⟨ph out, r, (j : Int), r, r, out.length, bL tX out, vb3 out⟩
structure C1 (P : f9) (r : List Pln) (p : Pln) (a : Nat) : Prop where
 i3 : P.is3 = (a : Int)
 ns : P.Xb2 = (r.drop (a + 1)).length
 gs : P.Wa0 = fun k => tP.row (gL tP r (a + 1 + k))
 is : P.aa9 = ((r.drop (a + 1)).length : Int)
 p1 : (⟨⟨P.E2, P.E3, P.E4⟩, P.E5⟩ : Pln) = p
theorem Vd0 {P : f9} {r : List Pln} {p : Pln} {a : Nat} (h : C1 P r p a) (hb : Bds r) (hr : r.length ≤ 200) (hp : Bd p) (j : Nat) (out : List Pt) (ho : out.length ≤ 100000000) (hj : j < (r.drop (a + 1)).length) :
  p9 P (Hb7 r j out) = .next (Hb7 r (j + 1) (sb5 r p (r.drop (a + 1))[j] ((r.drop (a + 1)).drop (j + 1)) out)) := by
 have hs : gL tP r (a + 1 + j) = (r.drop (a + 1))[j] := by rw [← Vb3, Ma9 tP hj]
 have hbs : Bd (r.drop (a + 1))[j] := hb _ (List.mem_of_mem_drop (List.getElem_mem hj))
 have hd := hj
 rw [List.length_drop] at hd
 have hW : W (W ((a : Int) + (j : Int)) + 2) = ((a + 1 + (j + 1) : Nat) : Int) := by rw [ib0, va9 (by omega) (by omega)]; omega
 have hdl : (r.drop (a + 1)).length ≤ 4611686018427387904 := by rw [List.length_drop]; omega
 have hlo : inB ((a + 1 + (j + 1) : Nat) : Int) (r.length + 1) = true := e8 (by omega)
 rw [List.drop_drop]
 generalize hq : (r.drop (a + 1))[j] = q at *
 obtain ⟨x1, x2, x3, x4, x5, x6, x7, x8, x9, x10⟩ := P
 obtain ⟨i3, ns, gs, is, p1⟩ := h
 simp only at i3 ns gs is p1
 subst i3 ns gs is
 unfold p9
 have key : ∀ (P2 : f7), C2 P2 r p q (a + 1 + (j + 1)) → _ := fun P2 h2 => Ud9 h2 hb hr hp hbs out ho
 cases out with
 | nil =>
  show r6 Stp.next Stp.exit Stp.fail _ (Hb7 r j []) = _
  simp only [r6, Hb7, l4, m8, o5 hj hdl, hW, Int.toNat_natCast, hs, Tc4, hlo]
  rw [show (⟨0, 0, 0, [], []⟩ : f8) = Hb6 0 [] from rfl]
  generalize hP : f7.mk _ _ _ _ _ _ _ _ _ _ _ _ _ _ _ _ _ _ _ _ _ = P2
  obtain ⟨m, hm⟩ := key P2 (by
   subst hP
   exact ⟨by simp, rfl, by simp, p1, Tc3 q, rfl⟩)
  rw [hm, btD (m9 hj), bt (e8 hj)]
  cases sb5 r p q (r.drop (a + 1 + (j + 1))) [] <;> rfl
 | cons o os =>
  show r7 Stp.next Stp.exit Stp.fail _ (Hb7 r j (o :: os)) = _
  simp only [r7, Hb7, l4, m8, o5 hj hdl, hW, Int.toNat_natCast, hs, Tc4, hlo]
  rw [show (⟨1, 0, (o :: os).length, bL tX (o :: os), vb3 (o :: os)⟩ : f8) = Hb6 0 (o :: os) from rfl]
  generalize hP : f7.mk _ _ _ _ _ _ _ _ _ _ _ _ _ _ _ _ _ _ _ _ _ = P2
  obtain ⟨m, hm⟩ := key P2 (by
   subst hP
   exact ⟨by simp, rfl, by simp, p1, Tc3 q, rfl⟩)
  rw [hm, btD (m9 hj), bt (e8 hj)]
  cases sb5 r p q (r.drop (a + 1 + (j + 1))) (o :: os) <;> rfl
theorem he8 {P : f9} {r : List Pln} {p : Pln} {a : Nat} (h : C1 P r p a) (j : Nat) (out : List Pt) (hj : (r.drop (a + 1)).length ≤ j) : p9 P (Hb7 r j out) = .exit (ph out + 1) := by
 obtain ⟨x1, x2, x3, x4, x5, x6, x7, x8, x9, x10⟩ := P
 obtain ⟨i3, ns, gs, is, p1⟩ := h
 simp only at i3 ns gs is p1
 subst i3 ns gs is
 unfold p9
 have this : ¬ ((j : Int) < ((r.drop (a + 1)).length : Int)) := by omega
 cases out with
 | nil =>
  show r6 Stp.next Stp.exit Stp.fail _ (Hb7 r j []) = _
  simp only [r6, Hb7]
  rw [bfD this]
  rfl
 | cons o os =>
  show r7 Stp.next Stp.exit Stp.fail _ (Hb7 r j (o :: os)) = _
  simp only [r7, Hb7]
  rw [bfD this]
  rfl
theorem Vd1 {P : f9} {r : List Pln} {p : Pln} {a : Nat} (h : C1 P r p a) (hb : Bds r) (hr : r.length ≤ 200) (hp : Bd p) (out : List Pt) (ho : out.length ≤ 10000000) :
  ∃ m, lp (p9 P) (Hb7 r 0 out) = (ph (wb1 r p (r.drop (a + 1)) out) + 1, Hb7 r m (wb1 r p (r.drop (a + 1)) out)) := by
 have hd : (r.drop (a + 1)).length ≤ 200 := by rw [List.length_drop]; omega
 exact ⟨_, (Ga9 (mk := Hb7 r) (f := fun q l out => sb5 r p q l out) (g := fun l out => wb1 r p l out) (fin := fun out => ph out + 1) (r.drop (a + 1)) (fun k o => o.length ≤ out.length + 200 * k) (by omega)
  (fun _ => rfl) (fun _ _ _ => rfl) (fun k o hj hi => ⟨Vd0 h hb hr hp k o (by omega) hj, by
   have := vc8 r p (r.drop (a + 1))[k] ((r.drop (a + 1)).drop (k + 1)) o
   rw [List.length_drop] at this
   show (sb5 r p (r.drop (a + 1))[k] ((r.drop (a + 1)).drop (k + 1)) o).length ≤ out.length + 200 * (k + 1)
   omega⟩)
  (fun k o hj _ => he8 h k o hj) 0 out (by omega)).1⟩
@[reducible] noncomputable def Nb4 (r : List Pln) (j : Nat) (out : List Pt) : j7 := ⟨ph out, r, (j : Int), r, r, out.length, bL tX out, vb3 out⟩
theorem Vd2 {P : n9} (r : List Pln) (h : P.Ia9 = (r.length : Int)) (hb : Bds r) (hr : r.length ≤ 200) (a : Nat) (ha : a < r.length) (out : List Pt) (ho : out.length ≤ 40000 * a) :
  q7 P (Nb4 r a out) = .next (Nb4 r (a + 1) (wb1 r r[a] (r.drop (a + 1)) out)) := by
 have hbs : Bd r[a] := hb _ (List.getElem_mem ha)
 have hlo : inB ((a + 1 : Nat) : Int) (r.length + 1) = true := e8 (by omega)
 have key : ∀ (P2 : f9), C1 P2 r r[a] a → _ := fun P2 h2 => Vd1 h2 hb hr hbs out (by omega)
 obtain ⟨x1⟩ := P
 simp only at h
 subst h
 unfold q7
 cases out with
 | nil =>
  show r8 Stp.next Stp.exit Stp.fail _ (Nb4 r a []) = _
  simp only [r8, Nb4, l4, m8, o5 ha (by omega), Int.toNat_natCast, hlo, Ma9 tP ha]
  rw [show (⟨0, r, 0, r, r, 0, [], []⟩ : g9) = Hb7 r 0 [] from rfl]
  generalize hP : f9.mk _ _ _ _ _ _ _ _ _ _ = P2
  obtain ⟨m, hm⟩ := key P2 (by
   subst hP
   exact ⟨rfl, by simp, rfl, by simp, rfl⟩)
  rw [hm, btD (m9 ha), bt (e8 ha)]
  cases wb1 r r[a] (r.drop (a + 1)) [] <;> rfl
 | cons o os =>
  show r9 Stp.next Stp.exit Stp.fail _ (Nb4 r a (o :: os)) = _
  simp only [r9, Nb4, l4, m8, o5 ha (by omega), Int.toNat_natCast, hlo, Ma9 tP ha]
  rw [show (⟨1, r, 0, r, r, (o :: os).length, bL tX (o :: os), vb3 (o :: os)⟩ : g9) = Hb7 r 0 (o :: os) from rfl]
  generalize hP : f9.mk _ _ _ _ _ _ _ _ _ _ = P2
  obtain ⟨m, hm⟩ := key P2 (by
   subst hP
   exact ⟨rfl, by simp, rfl, by simp, rfl⟩)
  rw [hm, btD (m9 ha), bt (e8 ha)]
  cases wb1 r r[a] (r.drop (a + 1)) (o :: os) <;> rfl
theorem he9 {P : n9} (r : List Pln) (h : P.Ia9 = (r.length : Int)) (j : Nat) (out : List Pt) (hj : r.length ≤ j) : q7 P (Nb4 r j out) = .exit (ph out + 1) := by
 obtain ⟨x1⟩ := P
 simp only at h
 subst h
 unfold q7
 have this : ¬ ((j : Int) < (r.length : Int)) := by omega
 cases out with
 | nil =>
  show r8 Stp.next Stp.exit Stp.fail _ (Nb4 r j []) = _
  simp only [r8, Nb4]
  rw [bfD this]
  rfl
 | cons o os =>
  show r9 Stp.next Stp.exit Stp.fail _ (Nb4 r j (o :: os)) = _
  simp only [r9, Nb4]
  rw [bfD this]
  rfl
theorem Vd3 (r : List Pln) (hb : Bds r) (hr : r.length ≤ 200) : ∃ m, lp (q7 ⟨(r.length : Int)⟩) (Nb4 r 0 []) = (ph (cor r) + 1, Nb4 r m (cor r)) :=
 ⟨_, (Ga9 (step := q7 ⟨(r.length : Int)⟩) (mk := Nb4 r) (f := fun q l out => wb1 r q l out) (g := fun l out => Cd2 r l out) (fin := fun out => ph out + 1) r (fun k o => o.length ≤ 40000 * k) (by omega)
  (fun _ => rfl) (fun _ _ _ => rfl) (fun k o hj hi => ⟨Vd2 r rfl hb hr k hj o hi, (Tc0 r hb hr k hj o hi).2⟩)
  (fun k o hj _ => he9 r rfl k o hj) 0 [] (by simp)).1⟩
theorem wc2 (r : List Pln) (hb : Bds r) (hr : r.length ≤ 200) : P8 r = some (slX (cor r)) := by
 obtain ⟨m, hm⟩ := Vd3 r hb hr
 unfold P8
 simp only [l4, m8]
 rw [show (⟨0, r, 0, r, r, 0, [], []⟩ : j7) = Nb4 r 0 [] from rfl, hm]
 cases cor r <;> rfl
theorem Kc5 (r : List Pln) (hb : Bds r) (hr : r.length ≤ 200) : P9 r = cor r := by unfold P9; rw [wc2 r hb hr]; exact na3 _ (Tc2 _)
theorem Kc6 (r : List Pln) (hb : Bds r) (hr : r.length ≤ 200) : Q0 r = true := by unfold Q0; rw [wc2 r hb hr]; exact ya0 _ (Tc2 _)
end Go.Ev.Ce
