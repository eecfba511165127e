/- WearAdds: entries with different keys can be added in any order, and the totals are the sums; adding an entry again changes nothing, adding another one with the same key is ErrTwice; and the given ledger stays as it is; for every input the law returns true, and each argument reads as before. Conditions: none. -/
import Derived.Test.YtblhkhjdkjjheaaRows
import Derived.Test.YtblhkhjdkjjheaaEvXC
import Derived.Test.YtblhkhjdkjjheaaEvXT
import Derived.Test.YtblhkhjdkjjheaaEvLaw
import Derived.WalkKit
import Derived.ProofKit
import Derived.Deep.DeepHandedRow
import Derived.Lib.LaidTab
import Derived.Carry
set_option linter.unusedVariables false
set_option linter.unusedSimpArgs false
set_option linter.unnecessarySimpa false
set_option linter.unusedSectionVars false
namespace Go.Proofs.Ytblhkhjdkjjheaa
open Go Go.Ev Go.Ev.W Go.Ev.W.X Go.ChangeShapes Go.RowKit
set_option maxRecDepth 100000
theorem own : ownKnob Try.prog.godebug = none := by kernel_rfl
theorem laidOut : laidOutB Try.prog = true := by kernel_rfl
theorem mapsRow : mapsRowed Try.prog = true := by kernel_rfl
theorem sizes0 : ((List.range Try.prog.types.size).all fun t => match Try.prog.underlying t with | some (.slice e) => Nat.blt 0 (Try.prog.cellsOf e) | _ => true) = true := by kernel_rfl
theorem sizes {t e : TypeId} (ht : t < Try.prog.types.size) (hu : Try.prog.underlying t = some (.slice e)) : 0 < Try.prog.cellsOf e := by
  have h := List.all_eq_true.1 sizes0 t (by simpa using ht)
  rw [hu] at h
  exact Nat.le_of_ble_eq_true h
/-- WHAT THE RECKONING GIVES, FOR EVERY ARGUMENT AND EVERY WORLD. -/
theorem contract (H : Type) (enc : TypeId × Value → H) (W : World) (bs : Nat) (args : Array Value) (ds gs : List (DataW H)) (before : List MemPlace)
    (hval : ∀ (j : Nat) t v, Try.f7.params[j]? = some t → args[j]? = some v → Value.okWide Try.prog W .any bs t v)
    (hW : DataW.Whole enc Try.prog Try.f7.params.toList Rows.wearAddsSpec.vars false W args.toList ds gs before) :
    Calls Try.prog 7 args W fun e W' => ∃ v, e = .returned v ∧ Rows.wearAddsSpec.post enc Try.prog Try.f7 false true false false W args v W' := by
  have hW' := hW
  obtain ⟨p, q, hA0, hV, rfl, hfz, hnd⟩ := hW
  have hA : DataW.TrodAll enc Try.prog W 0 (fun _ => true) true Try.f7.params.toList args.toList ds p := hA0
  rw [Try.params7] at hA hval
  obtain ⟨v0, r0, d0, s0, w0, q0, a0, rfl, rfl, h0, c0⟩ := trodAll_cons hA
  obtain ⟨v1, r1, d1, s1, w1, q1, rfl, rfl, rfl, h1, c1⟩ := trodAll_cons c0
  obtain ⟨v2, r2, d2, s2, w2, q2, rfl, rfl, rfl, h2, c2⟩ := trodAll_cons c1
  obtain ⟨v3, r3, d3, s3, w3, q3, rfl, rfl, rfl, h3, c3⟩ := trodAll_cons c2
  obtain ⟨rfl, rfl, rfl⟩ := trodAll_nil c3
  obtain rfl : args = #[v0, v1, v2, v3] := by cases args; simp_all
  obtain ⟨n0, m0, y0, e0⟩ := arg_jag (ρ := fun _ => ⟨0, 0, 0⟩) (H := []) (d := 9) (k := .i64) (e := 25) Try.underlying22 Try.underlying25 (by kernel_rfl) (by kernel_rfl) (by kernel_rfl) (hval 0 22 v0 rfl rfl) h0
  obtain ⟨l0, e0⟩ := jagL e0
  obtain ⟨y1, x1, e1⟩ := arg_int (ρ := fun _ => ⟨0, 0, 0⟩) (H := []) (F := Fall W) Try.underlying5 (hval 1 5 v1 rfl rfl)
  obtain ⟨y2, x2, e2⟩ := arg_int (ρ := fun _ => ⟨0, 0, 0⟩) (H := []) (F := Fall W) Try.underlying5 (hval 2 5 v2 rfl rfl)
  obtain ⟨y3, x3, e3⟩ := arg_int (ρ := fun _ => ⟨0, 0, 0⟩) (H := []) (F := Fall W) Try.underlying5 (hval 3 5 v3 rfl rfl)
  have hlaw := law7S l0 y1 y2 y3 (u8r x1) (u8r x2)
  refine (law_calls (P := Try.prog) (G := Go.Ev.W.G) (f := 7) ok7 (args := [v0, v1, v2, v3]) ⟨_, hlaw⟩ rfl (fun i x x' hx hx' => ?_) (fun g c x hx => by simp [Go.Ev.W.G] at hx)).mono fun e W' ⟨he, hs⟩ => ?_
  · match i, hx, hx' with
    | 0, hx, hx' => cases hx; cases hx'; exact e0
    | 1, hx, hx' => cases hx; cases hx'; exact e1
    | 2, hx, hx' => cases hx; cases hx'; exact e2
    | 3, hx, hx' => cases hx; cases hx'; exact e3
    | i + 4, hx, hx' => cases hx
  · subst he
    exact ⟨_, rfl, post_law (kids_rows laidOut mapsRow) sizes (by rw [Try.params7]; simp) hW' rfl (tb := 4) (by kernel_rfl) Try.underlying4 rfl rfl rfl hs⟩
/-- A WORLD FOR THE WITNESS. -/
noncomputable def plainWorld (os : Os) : World := World.holding Try.prog os ⟨#[], #[], []⟩
noncomputable def wargs : Array Value := #[.slice none 0 0, .int .u8 0, .int .u8 0, .int .u8 0]
theorem laid_met (os : Os) : laidMet Try.prog Rows.wearAddsRow.laid ((plainWorld os).forCall (fun _ _ => 0) ⟨#[], wargs, []⟩).memory :=
  laidMet_of_run' 8 (by kernel_rfl) (by kernel_rfl)
theorem reads (os : Os) {H : Type} (enc : TypeId × Value → H) : ∃ x, DataW.whole enc Try.prog ((plainWorld os).forCall (fun _ _ => 0) ⟨#[], wargs, []⟩).memory Try.f7.params.toList Rows.wearAddsSpec.vars false wargs.toList 8 = some x := by
  cases h : DataW.whole enc Try.prog ((plainWorld os).forCall (fun _ _ => 0) ⟨#[], wargs, []⟩).memory Try.f7.params.toList Rows.wearAddsSpec.vars false wargs.toList 8 with
  | some x => exact ⟨x, rfl⟩
  | none =>
    have e : (DataW.whole enc Try.prog ((plainWorld os).forCall (fun _ _ => 0) ⟨#[], wargs, []⟩).memory Try.f7.params.toList Rows.wearAddsSpec.vars false wargs.toList 8).isSome = true := by kernel_rfl
    rw [h] at e; cases e
theorem lifted (os : Os) (started : os.Started) (H : Type) (enc : TypeId × Value → H) (F : Stop.Interp) :
    ReturnsInHanded {} Try.checked os 7 .any ((OpenSpec.ofChange Rows.wearAddsSpec).preRow enc Try.prog Try.f7 Rows.wearAddsRow.domain false Rows.wearAddsRow.laid) (((OpenSpec.ofChange Rows.wearAddsSpec).at F).post enc Try.prog Try.f7 false true false false) := by
  obtain ⟨x, hx⟩ := reads os enc
  refine returnsInHanded_of_row (C := Try.checked) (s := OpenSpec.ofChange Rows.wearAddsSpec) own started (by kernel_rfl) Try.func7
    (witness_row_at (enc := enc) (C := Try.checked) false (plainWorld os) wargs rfl (by kernel_rfl) (by kernel_rfl) (by kernel_rfl)
      (OpenSpec.preRow_of_cond 8 hx (by kernel_rfl) (fun k hk => by cases hk) (by kernel_rfl) (laid_met os))) ?_
  intro W base args ds gs before hval hW _ _ _ hL _ _
  exact contract H enc W base args ds gs before hval hW
/-- THE STATEMENT. -/
theorem wearAdds_holds : Rows.WearAddsSaid :=
  OpenClaim.holds_of_cond 7 Try.f7 rfl rfl rfl rfl rfl rfl rfl ⟨rfl, rfl, rfl, rfl, rfl⟩ rfl rfl rfl rfl rfl (by kernel_rfl) Try.func7 (by kernel_rfl)
    (of_decide_eq_true (by kernel_rfl)) (by unfold Func.isWrapper; first | (rw [if_pos (by decide +kernel)]; kernel_rfl) | (rw [if_neg (by decide +kernel)]; exact ⟨rfl, rfl⟩))
    (fun os started H enc _ F => by rw [OpenClaim.pre_eq_preRow]; exact lifted os started H enc F)
end Go.Proofs.Ytblhkhjdkjjheaa

