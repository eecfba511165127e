/- Plain facts: made frames are valid (own work). -/
import Derived.Test.YthbcfinnphpcbaaDoorEvTA
import Derived.Test.YthbcfinnphpcbaaDoorEvT9
set_option linter.unusedVariables false
set_option linter.unusedSimpArgs false
set_option linter.unnecessarySimpa false
set_option linter.unusedSectionVars false
namespace Go.Ev.T
open Go Go.Ev Go.Proofs
set_option maxRecDepth 100000

theorem dge (c : Int) (n : Nat) (h : c < n) : decide (c ≥ (n : Int)) = false := decide_eq_false (by omega)
theorem shift_ok {t : Int} (h : 0 ≤ t ∧ t < 9) : -4 ≤ W (t - 4) ∧ W (t - 4) ≤ 4 := by rw [W_id (by omega) (by omega)]; omega
theorem toNat24 {t : Int} (h : 0 ≤ t ∧ t < 24) : 0 + t.toNat < 24 := by omega

theorem p10_form (l : IL) : ∃ (a : Int) (k : Nat) (s : V3), (0 ≤ a ∧ a < 8) ∧ k < 24 ∧ (-4 ≤ s.x ∧ s.x ≤ 4) ∧ (-4 ≤ s.y ∧ s.y ≤ 4) ∧ (-4 ≤ s.z ∧ s.z ≤ 4) ∧ p10 l = ⟨(frA a k).1.t, s⟩ := by
  obtain ⟨n, g⟩ := l
  have h8 := mod_range (a := g 0) (b := 8) (by omega) (by omega)
  have h24 := toNat24 (mod_range (a := g 1) (b := 24) (by omega) (by omega))
  have hx := shift_ok (mod_range (a := g 2) (b := 9) (by omega) (by omega))
  have hy := shift_ok (mod_range (a := g 3) (b := 9) (by omega) (by omega))
  have hz := shift_ok (mod_range (a := g 4) (b := 9) (by omega) (by omega))
  have h4 : -4 ≤ (-4 : Int) ∧ (-4 : Int) ≤ 4 := by omega
  match n with
  | 0 => exact ⟨0, 0, ⟨-4, -4, -4⟩, by omega, by omega, h4, h4, h4, by kernel_rfl⟩
  | 1 => exact ⟨p17 (g 0) 8, 0, ⟨-4, -4, -4⟩, h8, by omega, h4, h4, h4, by kernel_rfl⟩
  | 2 => exact ⟨p17 (g 0) 8, 0 + (p17 (g 1) 24).toNat, ⟨-4, -4, -4⟩, h8, h24, h4, h4, h4, by kernel_rfl⟩
  | 3 => exact ⟨p17 (g 0) 8, 0 + (p17 (g 1) 24).toNat, ⟨W (p17 (g 2) 9 - 4), -4, -4⟩, h8, h24, hx, h4, h4, by kernel_rfl⟩
  | 4 => exact ⟨p17 (g 0) 8, 0 + (p17 (g 1) 24).toNat, ⟨W (p17 (g 2) 9 - 4), W (p17 (g 3) 9 - 4), -4⟩, h8, h24, hx, hy, h4, by kernel_rfl⟩
  | n + 5 => exact ⟨p17 (g 0) 8, 0 + (p17 (g 1) 24).toNat, ⟨W (p17 (g 2) 9 - 4), W (p17 (g 3) 9 - 4), W (p17 (g 4) 9 - 4)⟩, h8, h24, hx, hy, hz, by kernel_rfl⟩

theorem fr_ok {a : Int} {k : Nat} (ha : 0 ≤ a ∧ a < 8) (hk : k < 24) : p13 (frA a k).1.t = true ∧ frG a k = true := by
  have h := List.all_eq_true.1 fr_all a.toNat (by simp; omega)
  have h := List.all_eq_true.1 h k (by simpa using hk)
  rw [Int.toNat_of_nonneg ha.1] at h
  simpa using h

noncomputable def rowC (k : Nat) : Bool := Bool.and (Bool.and (Nat.blt k (len tab15_0)) (Nat.ble (0 + 10) (len (getRow tab15_0 k)))) (okCKs [(CK.int .i64), (CK.int .i64), (CK.int .i64), (CK.int .i64), (CK.int .i64), (CK.int .i64), (CK.int .i64), (CK.int .i64), (CK.int .i64), (CK.int .i64)] (dropN (getRow tab15_0 k) 0))
theorem row_ok : ((List.range 24).all rowC) = true := by kernel_rfl
theorem inB_of {t : Int} {n : Nat} (h : 0 ≤ t ∧ t < n) : inB t n = true := by
  cases t with
  | ofNat a =>
    have h2 : (a : Int) < n := h.2
    exact Nat.ble_eq_true_of_le (by omega)
  | negSucc a => have := h.1; omega
theorem g10_ok (l : IL) : g10 l = true := by
  obtain ⟨n, g⟩ := l
  have h8 := mod_range (a := g 0) (b := 8) (by omega) (by omega)
  have h24 := mod_range (a := g 1) (b := 24) (by omega) (by omega)
  have k24 := toNat24 h24
  have f0 := (fr_ok (a := 0) (k := 0) (by omega) (by omega)).2
  have f1 := (fr_ok h8 (k := 0) (by omega)).2
  have f2 := (fr_ok h8 k24).2
  have r0 := List.all_eq_true.1 row_ok 0 (by simp)
  have r1 := List.all_eq_true.1 row_ok (0 + (p17 (g 1) 24).toNat) (by simpa using k24)
  have i24 := inB_of (n := 24) h24
  match n with
  | 0 => exact (show g10 ⟨0, g⟩ = Bool.and (rowC 0) (frG 0 0) by kernel_rfl).trans (by rw [r0, f0]; rfl)
  | 1 => exact (show g10 ⟨1, g⟩ = Bool.and (rowC 0) (frG (p17 (g 0) 8) 0) by kernel_rfl).trans (by rw [r0, f1]; rfl)
  | 2 => exact (show g10 ⟨2, g⟩ = Bool.and (inB (p17 (g 1) 24) 24) (Bool.and (rowC (0 + (p17 (g 1) 24).toNat)) (Bool.and (frG (p17 (g 0) 8) (0 + (p17 (g 1) 24).toNat)) true)) by kernel_rfl).trans (by rw [i24, r1, f2]; rfl)
  | 3 => exact (show g10 ⟨3, g⟩ = Bool.and (inB (p17 (g 1) 24) 24) (Bool.and (rowC (0 + (p17 (g 1) 24).toNat)) (Bool.and (frG (p17 (g 0) 8) (0 + (p17 (g 1) 24).toNat)) true)) by kernel_rfl).trans (by rw [i24, r1, f2]; rfl)
  | 4 => exact (show g10 ⟨4, g⟩ = Bool.and (inB (p17 (g 1) 24) 24) (Bool.and (rowC (0 + (p17 (g 1) 24).toNat)) (Bool.and (frG (p17 (g 0) 8) (0 + (p17 (g 1) 24).toNat)) true)) by kernel_rfl).trans (by rw [i24, r1, f2]; rfl)
  | n + 5 => exact (show g10 ⟨n + 5, g⟩ = Bool.and (inB (p17 (g 1) 24) 24) (Bool.and (rowC (0 + (p17 (g 1) 24).toNat)) (Bool.and (frG (p17 (g 0) 8) (0 + (p17 (g 1) 24).toNat)) true)) by kernel_rfl).trans (by rw [i24, r1, f2]; rfl)

theorem p10_valid (l : IL) : p12 (p10 l).t = true := by
  obtain ⟨a, k, s, ha, hk, _, _, _, h⟩ := p10_form l
  rw [h, valid_eq]
  exact (fr_ok ha hk).1

/-- TurnValids, as a plain fact -/
theorem p3_true (l : IL) (q : Q2) (z : Trn) : p3 l q z = true := by
  have h := p10_valid l
  simp only [p3, valid_eq] at h ⊢
  simp [h]
theorem g3_true (l : IL) (q : Q2) (z : Trn) : g3 l q z = true := by
  simp only [g3, okInts_can, g10_ok, g11_ok, g12_ok, g13_ok, valid_eq, Bool.true_and, Bool.and_true, Bool.or_true]
theorem law3 (l : IL) (q : Q2) (z : Trn) : (S3 [cL.enc l, cQ.enc q, cT.enc z] []).run = some (b true, []) := by
  have e : (S3 [cL.enc l, cQ.enc q, cT.enc z] []).run = sel (okInts l.n (fun k => [i (l.g k)])) (sel (g3 l q z) (some (b (p3 l q z), [])) none) none := by kernel_rfl
  rw [e, okInts_can, g3_true, p3_true]
end Go.Ev.T
