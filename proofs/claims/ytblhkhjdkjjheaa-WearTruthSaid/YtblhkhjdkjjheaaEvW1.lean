/- The wear chapter's plain data (own work). -/
import Derived.Test.YtblhkhjdkjjheaaEvW0
import Derived.Test.YtblhkhjdkjjheaaEvLp
import Derived.KernelRfl
set_option linter.unusedVariables false
set_option linter.unusedSimpArgs false
set_option linter.unnecessarySimpa false
set_option linter.unusedSectionVars false
namespace Go.Ev.W
open Go Go.Ev Go.Proofs
/-! ### slices.Insert, wherever -/
noncomputable def S36r : Sum := runFn (En []) pf36
theorem ok36r : FnOk Try.prog G 36 S36r := b36 (E := En []) rfl (tdeps trivial)
noncomputable def atEnd : List AVal → Bool
  | [.sl _ _ n _, .v (.int _ i), _] => (i == (n : Int))
  | _ => true
noncomputable def S36 : Sum := fun args blks => .ite (atEnd args) (S36r args blks) (sumA aa36 kIns args blks)
theorem ok36 : FnOk Try.prog G 36 S36 := by
  intro args blks r out he
  rcases DT.run_ite_some he with ⟨_, h⟩ | ⟨_, h⟩
  · exact ok36r args blks r out h
  · exact insOk args blks r out h
/-! ### data -/
structure V3 where
  x : Int
  y : Int
  z : Int
structure Q2 where
  a : V3
  b : V3
structure Ent where
  t : Int
  o : Int
  l : Int
  h : Int
structure U2 where
  a : Int
  b : Int
structure X2 where
  a : Int
  b : Int
structure D2 where
  a : Int
  b : Int
@[reducible] def eN (q : Ent) : AVal := .agg [i q.t, i q.o, i q.l, i q.h]
noncomputable def cN : Cod Ent := ⟨eN, fun x => match dInts x with | some [a, b, c, d] => some ⟨a, b, c, d⟩ | _ => none, fun _ => true, fun x a h _ => by
  split at h
  · rename_i e; cases h; exact .of (dInts_eq e)
  · cases h⟩
/-! ### lists -/
@[reducible] noncomputable def gE (l : List Ent) (k : Nat) : Ent := l.getD k ⟨0, 0, 0, 0⟩
@[reducible] def rE (x : Ent) : List AVal := [i x.t, i x.o, i x.l, i x.h]
def isE : List AVal → Bool
  | [.v (.int .i64 _), .v (.int .i64 _), .v (.int .i64 _), .v (.int .i64 _)] => true
  | _ => false
noncomputable def dRE (r : List AVal) : Ent := ⟨toI (hdA r), toI (hdA (tlA r)), toI (hdA (tlA (tlA r))), toI (hdA (tlA (tlA (tlA r))))⟩
theorem isE_eq {r : List AVal} (h : isE r = true) : r = rE (dRE r) := by
  unfold isE at h
  split at h
  · rfl
  · cases h
@[reducible] noncomputable def okEs (n : Nat) (get : Nat → List AVal) : Bool := okRows isE n get
@[reducible] noncomputable def lsE (n : Nat) (get : Nat → List AVal) : List Ent := lsRows dRE n get
noncomputable def cEL : Cod (List Ent) := listCod 4 rE isE dRE ⟨0, 0, 0, 0⟩ fun _ h => isE_eq h
@[reducible] noncomputable def eEL (l : List Ent) : AVal := .tree 4 l.length (fun k => rE (gE l k))
@[reducible] noncomputable def gJ (l : List IL) (k : Nat) : IL := l.getD k ⟨0, fun _ => 0⟩
@[reducible] def rJ (x : IL) : List AVal := [eIL x]
@[reducible] noncomputable def eJL (l : List IL) : AVal := .tree 1 l.length (fun k => rJ (gJ l k))
end Go.Ev.W

