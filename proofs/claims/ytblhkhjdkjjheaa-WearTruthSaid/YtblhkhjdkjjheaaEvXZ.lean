/- WearTruth: if the true use of each operation lies in the entries of two ledgers, they can be merged, the true uses lie in the merged entries, none of which is wider than before, and the true use of a tool lies between the totals; for every input the law returns true, and each argument reads as before. Conditions: none. -/
import Derived.Test.YtblhkhjdkjjheaaRows
import Derived.Test.YtblhkhjdkjjheaaEvXC
import Derived.Test.YtblhkhjdkjjheaaEvXY
import Derived.Test.YtblhkhjdkjjheaaEvLaw
import Derived.WalkKit
import Derived.ProofKit
import Derived.Deep.DeepHandedRow
import Derived.Lib.LaidTab
import Derived.Carry
set_option linter.unusedVariables false
set_option linter.unusedSimpArgs false
set_option linter.unnecessarySimpa false
set_option linter.unusedSectionVars false
namespace Go.Proofs.Ytblhkhjdkjjheaa
open Go Go.Ev Go.Ev.W Go.Ev.W.X Go.ChangeShapes Go.RowKit
set_option maxRecDepth 100000
theorem own : ownKnob Try.prog.godebug = none := by kernel_rfl
theorem laidOut : laidOutB Try.prog = true := by kernel_rfl
theorem mapsRow : mapsRowed Try.prog = true := by kernel_rfl
theorem sizes0 : ((List.range Try.prog.types.size).all fun t => match Try.prog.underlying t with | some (.slice e) => Nat.blt 0 (Try.prog.cellsOf e) | _ => true) = true := by kernel_rfl
theorem sizes {t e : TypeId} (ht : t < Try.prog.types.size) (hu : Try.prog.underlying t = some (.slice e)) : 0 < Try.prog.cellsOf e := by
  have h := List.all_eq_true.1 sizes0 t (by simpa using ht)
  rw [hu] at h
  exact Nat.le_of_ble_eq_true h
/-- WHAT THE RECKONING GIVES, FOR EVERY ARGUMENT AND EVERY WORLD. -/
theorem contract (H : Type) (enc : TypeId × Value → H) (W : World) (bs : Nat) (args : Array Value) (ds gs : List (DataW H)) (before : List MemPlace)
    (hval : ∀ (j : Nat) t v, Try.f5.params[j]? = some t → args[j]? = some v → Value.okWide Try.prog W .any bs t v)
    (hW : DataW.Whole enc Try.prog Try.f5.params.toList Rows.wearTruthSpec.vars false W args.toList ds gs before) :
    Calls Try.prog 5 args W fun e W' => ∃ v, e = .returned v ∧ Rows.wearTruthSpec.post enc Try.prog Try.f5 false true false false W args v W' := by
  have hW' := hW
  obtain ⟨p, q, hA0, hV, rfl, hfz, hnd⟩ := hW
  have hA : DataW.TrodAll enc Try.prog W 0 (fun _ => true) true Try.f5.params.toList args.toList ds p := hA0
  rw [Try.params5] at hA hval
  obtain ⟨v0, r0, d0, s0, w0, q0, a0, rfl, rfl, h0, c0⟩ := trodAll_cons hA
  obtain ⟨v1, r1, d1, s1, w1, q1, rfl, rfl, rfl, h1, c1⟩ := trodAll_cons c0
  obtain ⟨rfl, rfl, rfl⟩ := trodAll_nil c1
  obtain rfl : args = #[v0, v1] := by cases args; simp_all
  obtain ⟨y0, e0⟩ := arg_jags (ρ := fun _ => ⟨0, 0, 0⟩) (H := []) (d := 9) (a := 22) (e := 25) (u := 3) Try.underlying39 Try.underlying22 Try.underlying25 (by kernel_rfl) (by kernel_rfl) (by kernel_rfl) (by kernel_rfl) (by kernel_rfl) (hval 0 39 v0 rfl rfl) h0
  obtain ⟨n1, y1, _, e1⟩ := arg_slice (ρ := fun _ => ⟨0, 0, 0⟩) (H := []) (d := 9) (k := .i64) (es := 1) Try.underlying25 (by kernel_rfl) (by kernel_rfl) (by omega) (hval 1 25 v1 rfl rfl) h1
  have hlaw := law5S ⟨y0 0, y0 1⟩ ⟨n1, fun k => y1 k 0⟩
  refine (law_calls (P := Try.prog) (G := Go.Ev.W.G) (f := 5) ok5 (args := [v0, v1]) ⟨_, hlaw⟩ rfl (fun i x x' hx hx' => ?_) (fun g c x hx => by simp [Go.Ev.W.G] at hx)).mono fun e W' ⟨he, hs⟩ => ?_
  · match i, hx, hx' with
    | 0, hx, hx' => cases hx; cases hx'; exact e0
    | 1, hx, hx' => cases hx; cases hx'; exact e1
    | i + 2, hx, hx' => cases hx
  · subst he
    exact ⟨_, rfl, post_law (kids_rows laidOut mapsRow) sizes (by rw [Try.params5]; simp) hW' rfl (tb := 4) (by kernel_rfl) Try.underlying4 rfl rfl rfl hs⟩
/-- A WORLD FOR THE WITNESS. -/
noncomputable def plainWorld (os : Os) : World := World.holding Try.prog os ⟨#[], #[], []⟩
noncomputable def wargs : Array Value := #[.agg #[.slice none 0 0, .slice none 0 0], .slice none 0 0]
theorem laid_met (os : Os) : laidMet Try.prog Rows.wearTruthRow.laid ((plainWorld os).forCall (fun _ _ => 0) ⟨#[], wargs, []⟩).memory :=
  laidMet_of_run' 8 (by kernel_rfl) (by kernel_rfl)
theorem reads (os : Os) {H : Type} (enc : TypeId × Value → H) : ∃ x, DataW.whole enc Try.prog ((plainWorld os).forCall (fun _ _ => 0) ⟨#[], wargs, []⟩).memory Try.f5.params.toList Rows.wearTruthSpec.vars false wargs.toList 8 = some x := by
  cases h : DataW.whole enc Try.prog ((plainWorld os).forCall (fun _ _ => 0) ⟨#[], wargs, []⟩).memory Try.f5.params.toList Rows.wearTruthSpec.vars false wargs.toList 8 with
  | some x => exact ⟨x, rfl⟩
  | none =>
    have e : (DataW.whole enc Try.prog ((plainWorld os).forCall (fun _ _ => 0) ⟨#[], wargs, []⟩).memory Try.f5.params.toList Rows.wearTruthSpec.vars false wargs.toList 8).isSome = true := by kernel_rfl
    rw [h] at e; cases e
theorem lifted (os : Os) (started : os.Started) (H : Type) (enc : TypeId × Value → H) (F : Stop.Interp) :
    ReturnsInHanded {} Try.checked os 5 .any ((OpenSpec.ofChange Rows.wearTruthSpec).preRow enc Try.prog Try.f5 Rows.wearTruthRow.domain false Rows.wearTruthRow.laid) (((OpenSpec.ofChange Rows.wearTruthSpec).at F).post enc Try.prog Try.f5 false true false false) := by
  obtain ⟨x, hx⟩ := reads os enc
  refine returnsInHanded_of_row (C := Try.checked) (s := OpenSpec.ofChange Rows.wearTruthSpec) own started (by kernel_rfl) Try.func5
    (witness_row_at (enc := enc) (C := Try.checked) false (plainWorld os) wargs rfl (by kernel_rfl) (by kernel_rfl) (by kernel_rfl)
      (OpenSpec.preRow_of_cond 8 hx (by kernel_rfl) (fun k hk => by cases hk) (by kernel_rfl) (laid_met os))) ?_
  intro W base args ds gs before hval hW _ _ _ hL _ _
  exact contract H enc W base args ds gs before hval hW
/-- THE STATEMENT. -/
theorem wearTruth_holds : Rows.WearTruthSaid :=
  OpenClaim.holds_of_cond 5 Try.f5 rfl rfl rfl rfl rfl rfl rfl ⟨rfl, rfl, rfl, rfl, rfl⟩ rfl rfl rfl rfl rfl (by kernel_rfl) Try.func5 (by kernel_rfl)
    (of_decide_eq_true (by kernel_rfl)) (by unfold Func.isWrapper; first | (rw [if_pos (by decide +kernel)]; kernel_rfl) | (rw [if_neg (by decide +kernel)]; exact ⟨rfl, rfl⟩))
    (fun os started H enc _ F => by rw [OpenClaim.pre_eq_preRow]; exact lifted os started H enc F)
end Go.Proofs.Ytblhkhjdkjjheaa


