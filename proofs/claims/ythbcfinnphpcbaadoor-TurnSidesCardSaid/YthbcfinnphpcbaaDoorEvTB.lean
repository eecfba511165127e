/- Plain facts: made frames are valid (own work). -/
import Derived.Test.YthbcfinnphpcbaaDoorEvTA
import Derived.Test.YthbcfinnphpcbaaDoorEvT9
set_option linter.unusedVariables false
set_option linter.unusedSimpArgs false
set_option linter.unnecessarySimpa false
set_option linter.unusedSectionVars false
namespace Go.Ev.T
open Go Go.Ev Go.Proofs
set_option maxRecDepth 100000

theorem dge (c : Int) (n : Nat) (h : c < n) : decide (c ≥ (n : Int)) = false := decide_eq_false (by omega)
theorem shift_ok {t : Int} (h : 0 ≤ t ∧ t < 9) : -4 ≤ W (t - 4) ∧ W (t - 4) ≤ 4 := by rw [W_id (by omega) (by omega)]; omega
theorem toNat24 {t : Int} (h : 0 ≤ t ∧ t < 24) : 0 + t.toNat < 24 := by omega

theorem p10_form (l : IL) : ∃ (a : Int) (k : Nat) (s : V3), (0 ≤ a ∧ a < 8) ∧ k < 24 ∧ (-4 ≤ s.x ∧ s.x ≤ 4) ∧ (-4 ≤ s.y ∧ s.y ≤ 4) ∧ (-4 ≤ s.z ∧ s.z ≤ 4) ∧ p10 l = ⟨(frA a k).1.t, s⟩ := by
  obtain ⟨a, c1, h1, h2, h3⟩ := draw_ok (m := 8) (by omega) (by omega) l (c := 0) (by omega)
  obtain ⟨k, c2, h4, h5, h6⟩ := draw_ok (m := 24) (by omega) (by omega) l (c := c1) (by omega)
  obtain ⟨x, y, z, c3, h7, h8, h9, h10, h11⟩ := vec_ok (m := 4) (by omega) (by omega) l (c := c2) (by omega)
  refine ⟨a, 0 + k.toNat, ⟨x, y, z⟩, by omega, toNat24 h6, h9, h10, h11, ?_⟩
  unfold p10
  simp only [h1, h4, h7]
  rfl
theorem fr_ok {a : Int} {k : Nat} (ha : 0 ≤ a ∧ a < 8) (hk : k < 24) : p13 (frA a k).1.t = true ∧ frG a k = true := by
  have h := List.all_eq_true.1 fr_all a.toNat (by simp; omega)
  have h := List.all_eq_true.1 h k (by simpa using hk)
  rw [Int.toNat_of_nonneg ha.1] at h
  simpa using h

noncomputable def rowC (k : Nat) : Bool := Bool.and (Bool.and (Nat.blt k (len tab15_0)) (Nat.ble (0 + 10) (len (getRow tab15_0 k)))) (okCKs [(CK.int .i64), (CK.int .i64), (CK.int .i64), (CK.int .i64), (CK.int .i64), (CK.int .i64), (CK.int .i64), (CK.int .i64), (CK.int .i64), (CK.int .i64)] (dropN (getRow tab15_0 k) 0))
theorem row_ok : ((List.range 24).all rowC) = true := by kernel_rfl
theorem inB_of {t : Int} {n : Nat} (h : 0 ≤ t ∧ t < n) : inB t n = true := by
  cases t with
  | ofNat a =>
    have h2 : (a : Int) < n := h.2
    exact Nat.ble_eq_true_of_le (by omega)
  | negSucc a => have := h.1; omega
theorem g10_ok (l : IL) : g10 l = true := by
  obtain ⟨a, c1, h1, h2, h3⟩ := draw_ok (m := 8) (by omega) (by omega) l (c := 0) (by omega)
  obtain ⟨k, c2, h4, h5, h6⟩ := draw_ok (m := 24) (by omega) (by omega) l (c := c1) (by omega)
  obtain ⟨x, y, z, c3, h7, h8, h9, h10, h11⟩ := vec_ok (m := 4) (by omega) (by omega) l (c := c2) (by omega)
  have f2 := (fr_ok h3 (toNat24 h6)).2
  have r1 := List.all_eq_true.1 row_ok (0 + k.toNat) (by simpa using toNat24 h6)
  have i24 := inB_of (n := 24) h6
  unfold g10
  simp only [h1, h4, h7]
  exact (show _ = Bool.and (inB k 24) (Bool.and (rowC (0 + k.toNat)) (Bool.and (frG a (0 + k.toNat)) true)) from rfl).trans (by rw [i24, r1, f2]; rfl)

theorem p10_valid (l : IL) : p12 (p10 l).t = true := by
  obtain ⟨a, k, s, ha, hk, _, _, _, h⟩ := p10_form l
  rw [h, valid_eq]
  exact (fr_ok ha hk).1

/-- TurnValids, as a plain fact -/
theorem p3_true (l : IL) (q : Q2) (z : Trn) : p3 l q z = true := by
  have h := p10_valid l
  simp only [p3, valid_eq] at h ⊢
  simp [h]
theorem g3_true (l : IL) (q : Q2) (z : Trn) : g3 l q z = true := by
  simp only [g3, okInts_can, g10_ok, g11_ok, g12_ok, g13_ok, valid_eq, Bool.true_and, Bool.and_true, Bool.or_true]
theorem law3 (l : IL) (q : Q2) (z : Trn) : (S3 [cL.enc l, cQ.enc q, cT.enc z] []).run = some (b true, []) := by
  have e : (S3 [cL.enc l, cQ.enc q, cT.enc z] []).run = sel (okInts l.n (fun k => [i (l.g k)])) (sel (g3 l q z) (some (b (p3 l q z), [])) none) none := by kernel_rfl
  rw [e, okInts_can, g3_true, p3_true]
end Go.Ev.T
