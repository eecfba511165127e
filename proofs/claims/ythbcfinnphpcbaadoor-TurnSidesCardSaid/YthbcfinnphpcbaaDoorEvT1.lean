/- Plain data of the geometry chapters, in and out of abstract values (own work). -/
import Derived.Test.YthbcfinnphpcbaaDoorEvCod
import Derived.Test.YthbcfinnphpcbaaDoorEvT0
import Derived.KernelRfl
set_option linter.unusedVariables false
set_option linter.unusedSimpArgs false
set_option linter.unnecessarySimpa false
set_option linter.unusedSectionVars false
namespace Go.Ev.T
open Go Go.Ev Go.Proofs
structure V3 where
  x : Int
  y : Int
  z : Int
structure M3 where
  r0 : V3
  r1 : V3
  r2 : V3
structure Trn where
  m : M3
  d : Int
structure Frm where
  t : Trn
  s : V3
structure Pln where
  n : V3
  b : Int
structure U2 where
  a : Int
  b : Int
@[reducible] def eU (q : U2) : AVal := .agg [.v (.int .u8 q.a), .v (.int .u8 q.b)]
noncomputable def dU (x : AVal) : Option U2 := match x with
  | .agg [.v (.int .u8 a), .v (.int .u8 b)] => some ⟨a, b⟩
  | _ => none
noncomputable def cU : Cod U2 := ⟨eU, dU, fun _ => true, fun x a h _ => by
  unfold dU at h; split at h
  · cases h; exact .of rfl
  · cases h⟩
structure Q2 where
  a : V3
  b : V3
@[reducible] def eQ (q : Q2) : AVal := .agg [i q.a.x, i q.a.y, i q.a.z, i q.b.x, i q.b.y, i q.b.z]
@[reducible] def eV (v : V3) : AVal := .agg [i v.x, i v.y, i v.z]
@[reducible] def eM (m : M3) : AVal := .agg [i m.r0.x, i m.r0.y, i m.r0.z, i m.r1.x, i m.r1.y, i m.r1.z, i m.r2.x, i m.r2.y, i m.r2.z]
@[reducible] def eT (t : Trn) : AVal := .agg [i t.m.r0.x, i t.m.r0.y, i t.m.r0.z, i t.m.r1.x, i t.m.r1.y, i t.m.r1.z, i t.m.r2.x, i t.m.r2.y, i t.m.r2.z, i t.d]
@[reducible] def eF (f : Frm) : AVal := .agg [i f.t.m.r0.x, i f.t.m.r0.y, i f.t.m.r0.z, i f.t.m.r1.x, i f.t.m.r1.y, i f.t.m.r1.z, i f.t.m.r2.x, i f.t.m.r2.y, i f.t.m.r2.z, i f.t.d, i f.s.x, i f.s.y, i f.s.z]
@[reducible] def eP (q : Pln) : AVal := .agg [i q.n.x, i q.n.y, i q.n.z, i q.b]
noncomputable def dV (x : AVal) : Option V3 := match dInts x with
  | some [a, b, c] => some ⟨a, b, c⟩
  | _ => none
noncomputable def dM (x : AVal) : Option M3 := match dInts x with
  | some [a, b, c, d, e, f, g, h, k] => some ⟨⟨a, b, c⟩, ⟨d, e, f⟩, ⟨g, h, k⟩⟩
  | _ => none
noncomputable def dT (x : AVal) : Option Trn := match dInts x with
  | some [a, b, c, d, e, f, g, h, k, m] => some ⟨⟨⟨a, b, c⟩, ⟨d, e, f⟩, ⟨g, h, k⟩⟩, m⟩
  | _ => none
noncomputable def dF (x : AVal) : Option Frm := match dInts x with
  | some [a, b, c, d, e, f, g, h, k, m, p, q, r] => some ⟨⟨⟨⟨a, b, c⟩, ⟨d, e, f⟩, ⟨g, h, k⟩⟩, m⟩, ⟨p, q, r⟩⟩
  | _ => none
noncomputable def dP (x : AVal) : Option Pln := match dInts x with
  | some [a, b, c, d] => some ⟨⟨a, b, c⟩, d⟩
  | _ => none
noncomputable def dQ (x : AVal) : Option Q2 := match dInts x with
  | some [a, b, c, d, e, f] => some ⟨⟨a, b, c⟩, ⟨d, e, f⟩⟩
  | _ => none
noncomputable def cQ : Cod Q2 := ⟨eQ, dQ, fun _ => true, fun x a h _ => by
  unfold dQ at h; split at h
  · rename_i e; cases h; exact .of (dInts_eq e)
  · cases h⟩
noncomputable def cV : Cod V3 := ⟨eV, dV, fun _ => true, fun x a h _ => by
  unfold dV at h; split at h
  · rename_i e; cases h; exact .of (dInts_eq e)
  · cases h⟩
noncomputable def cM : Cod M3 := ⟨eM, dM, fun _ => true, fun x a h _ => by
  unfold dM at h; split at h
  · rename_i e; cases h; exact .of (dInts_eq e)
  · cases h⟩
noncomputable def cT : Cod Trn := ⟨eT, dT, fun _ => true, fun x a h _ => by
  unfold dT at h; split at h
  · rename_i e; cases h; exact .of (dInts_eq e)
  · cases h⟩
noncomputable def cF : Cod Frm := ⟨eF, dF, fun _ => true, fun x a h _ => by
  unfold dF at h; split at h
  · rename_i e; cases h; exact .of (dInts_eq e)
  · cases h⟩
noncomputable def cP : Cod Pln := ⟨eP, dP, fun _ => true, fun x a h _ => by
  unfold dP at h; split at h
  · rename_i e; cases h; exact .of (dInts_eq e)
  · cases h⟩
noncomputable def cS3 : Cod V3 := ⟨fun v => .tree 1 3 (g3 v.x v.y v.z), fun x => Option.rec (motive := fun _ => Option V3) none (fun q => some ⟨q.1, q.2.1, q.2.2⟩) (d3 x), fun _ => true, fun x a h _ => by
  cases h1 : d3 x with
  | none => rw [h1] at h; cases h
  | some q =>
    rw [h1] at h
    have h : some (V3.mk q.1 q.2.1 q.2.2) = some a := h
    injection h with h; subst h
    exact d3_le h1⟩
theorem tdeps {l : List (Nat × Sum)} (h : TblOk Tryd.prog G l) : ∀ f, FnOk (En l).P (En l).G f ((En l).call f) := look_ok h
end Go.Ev.T
