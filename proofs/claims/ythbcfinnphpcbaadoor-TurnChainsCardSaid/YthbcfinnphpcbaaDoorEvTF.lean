/- TurnChains, as a plain fact (own work). -/
import Derived.Test.YthbcfinnphpcbaaDoorEvTD
import Derived.Test.YthbcfinnphpcbaaDoorEvTE
set_option linter.unusedVariables false
set_option linter.unusedSimpArgs false
set_option linter.unnecessarySimpa false
set_option linter.unusedSectionVars false
namespace Go.Ev.T
open Go Go.Ev Go.Proofs
set_option maxRecDepth 100000

theorem fr_same (f g : Frm) (h : f = g) : (f.t.m.r0.x == g.t.m.r0.x) = true := by simp [h]
theorem p4_true (l : LL) (q s : V3) : p4 l q s = true := by
  simp only [p4, back_eq, after_eq, beq_self_eq_true, Bool.and_self, Bool.and_true, Bool.true_and, Bool.not_true, Bool.not_false, Bool.or_self, bne_self_eq_false]
theorem g4_true (l : LL) (q s : V3) : g4 l q s = true := by
  simp only [g4, okInts_can, g10_ok, g11_ok, g18_ok, g19_ok, g20_ok, g21_ok, g17_ok s.x (b := 200) (by omega), g17_ok s.y (b := 200) (by omega), g17_ok s.z (b := 200) (by omega), Bool.true_and, Bool.and_true, Bool.or_true, Bool.and_self, Bool.or_self]
theorem law4 (l : LL) (q s : V3) : (S4 [cLL.enc l, cV.enc q, cV.enc s] []).run = some (b true, []) := by
  have e : (S4 [cLL.enc l, cV.enc q, cV.enc s] []).run = sel (okInts l.a.n (fun k => [i (l.a.g k)]) && okInts l.b.n (fun k => [i (l.b.g k)])) (sel (g4 l q s) (some (b (p4 l q s), [])) none) none := by kernel_rfl
  rw [e, okInts_can, okInts_can, g4_true, p4_true]
  rfl
end Go.Ev.T
