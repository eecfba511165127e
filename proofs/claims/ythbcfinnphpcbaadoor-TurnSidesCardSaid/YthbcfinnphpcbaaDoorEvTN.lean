/- Made frames: what is true of their rotations, by brute force (own work). -/
import Derived.Test.YthbcfinnphpcbaaDoorEvTD
set_option linter.unusedVariables false
set_option linter.unusedSimpArgs false
set_option linter.unnecessarySimpa false
set_option linter.unusedSectionVars false
namespace Go.Ev.T
open Go Go.Ev Go.Proofs
set_option maxRecDepth 100000

def dotE (a c : V3) : Int := a.x * c.x + a.y * c.y + a.z * c.z
def colE (m : M3) : M3 := ⟨⟨m.r0.x, m.r1.x, m.r2.x⟩, ⟨m.r0.y, m.r1.y, m.r2.y⟩, ⟨m.r0.z, m.r1.z, m.r2.z⟩⟩
def orthB (m : M3) (q : Int) : Bool := dotE m.r0 m.r0 == q && (dotE m.r1 m.r1 == q && (dotE m.r2 m.r2 == q && (dotE m.r0 m.r1 == 0 && (dotE m.r0 m.r2 == 0 && dotE m.r1 m.r2 == 0))))
def smallB (v : V3) (n : Nat) : Bool := Nat.ble (v.x.natAbs + v.y.natAbs + v.z.natAbs) n
def eqV (a c : V3) : Bool := a.x == c.x && (a.y == c.y && a.z == c.z)
def eqM (a c : M3) : Bool := eqV a.r0 c.r0 && (eqV a.r1 c.r1 && eqV a.r2 c.r2)
def one3 : M3 := ⟨⟨1, 0, 0⟩, ⟨0, 1, 0⟩, ⟨0, 0, 1⟩⟩
/-- how much a row's elements make together, at most -/
def rowMost (d : Int) : Nat := if d = 1 then 1 else if d = 3 then 5 else if d = 5 then 7 else 11
noncomputable def chk (t : Trn) : Bool :=
  (t.d == 1 || (t.d == 3 || (t.d == 5 || t.d == 7))) && (orthB t.m (t.d * t.d) && (orthB (colE t.m) (t.d * t.d) && (smallB t.m.r0 (rowMost t.d) && (smallB t.m.r1 (rowMost t.d) && (smallB t.m.r2 (rowMost t.d) &&
    (smallB (colE t.m).r0 (rowMost t.d) && (smallB (colE t.m).r1 (rowMost t.d) && (smallB (colE t.m).r2 (rowMost t.d) &&
    (p13 t && (p13 ⟨p45 t.m, t.d⟩ && (eqM (p43 (p44 (p45 t.m) t.m) (W (t.d * t.d))).1 one3 && (p43 (p44 (p45 t.m) t.m) (W (t.d * t.d))).2 == 1)))))))))))
theorem chk_all : ((List.range 8).all fun a => (List.range 24).all fun k => chk (frA a k).1.t) = true := by kernel_rfl
end Go.Ev.T
