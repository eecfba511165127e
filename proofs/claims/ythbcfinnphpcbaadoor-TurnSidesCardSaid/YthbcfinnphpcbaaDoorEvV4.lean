/- TurnSides: a point that is moved lies on the same side of a plane that is moved; the plane on the other side is moved to the one on the other side; and Cell returns what Plane returns; for every input the law returns true, and each argument reads as before. Conditions: the package variable turn.identity holds what its initialiser lays (the card ties this to the text). -/
import Derived.Test.YthbcfinnphpcbaaDoorCards
import Derived.Test.YthbcfinnphpcbaaDoorTie
import Derived.Test.YthbcfinnphpcbaaDoorEvV3
import Derived.Test.YthbcfinnphpcbaaDoorEvLaw
import Derived.WalkKit
import Derived.ProofKit
import Derived.Deep.DeepHandedRow
import Derived.Lib.LaidTab
set_option linter.unusedVariables false
set_option linter.unusedSimpArgs false
set_option linter.unnecessarySimpa false
set_option linter.unusedSectionVars false
namespace Go.Proofs.YthbcfinnphpcbaaDoor
open Go Go.Ev Go.Ev.T Go.ChangeShapes Go.RowKit
set_option maxRecDepth 100000
theorem own : ownKnob Tryd.prog.godebug = none := by kernel_rfl
theorem gI : Tryd.prog.globalNamed "collet/turn.identity" = some 0 := by kernel_rfl
theorem laidOut : laidOutB Tryd.prog = true := by kernel_rfl
theorem mapsRow : mapsRowed Tryd.prog = true := by kernel_rfl
theorem sizes0 : ((List.range Tryd.prog.types.size).all fun t => match Tryd.prog.underlying t with | some (.slice e) => Nat.blt 0 (Tryd.prog.cellsOf e) | _ => true) = true := by kernel_rfl
theorem sizes {t e : TypeId} (ht : t < Tryd.prog.types.size) (hu : Tryd.prog.underlying t = some (.slice e)) : 0 < Tryd.prog.cellsOf e := by
  have h := List.all_eq_true.1 sizes0 t (by simpa using ht)
  rw [hu] at h
  exact Nat.le_of_ble_eq_true h
/-- WHAT THE ROW's LIST GIVES: the cells of turn.identity. -/
theorem identity {tid : TypeId} (hty : (Tryd.prog.globals[0]?).map (·.type) = some tid) (hu : Tryd.prog.underlying tid = some (.array 3 23)) {W : World} (h : laidMetH Tryd.prog Rows.turnSidesRow.laid W) :
    ∀ g (c : Nat) x, (T.G g)[c]? = some x → x.oneCell' = true ∧ W.cell? ⟨g, c, none⟩ = some x := by
  obtain ⟨ps, ⟨g', t', cs, fuel, p, q, hg', ht', hvar, hd, _, _⟩, _⟩ := h
  obtain rfl := Option.some.inj (gI.symm.trans hg')
  obtain rfl := Option.some.inj (hty.symm.trans ht')
  have hm : ∀ {a b : Nat} {r : List Int} {z : Int}, [[1, 0, 0], [0, 1, 0], [0, 0, (1 : Int)]][a]? = some r → r[b]? = some z → W.cell? ⟨0, a * 3 + b, none⟩ = some (.int .i64 z) := fun {a b r z} h1 h2 => by
    have h3 := rd_mat (D := Unit) (m := 3) hu Tryd.underlying23 Tryd.underlying3 (by kernel_rfl) (by kernel_rfl) (L := [[1, 0, 0], [0, 1, 0], [0, 0, (1 : Int)]]) hd h1 h2
    rw [World.var?_cell gI hvar (a * 3 + b)]
    simpa using h3
  intro g c x hx
  match g, c, hx with
  | 0, 0, hx => exact ⟨by cases hx; rfl, by cases hx; exact hm (a := 0) (b := 0) rfl rfl⟩
  | 0, 1, hx => exact ⟨by cases hx; rfl, by cases hx; exact hm (a := 0) (b := 1) rfl rfl⟩
  | 0, 2, hx => exact ⟨by cases hx; rfl, by cases hx; exact hm (a := 0) (b := 2) rfl rfl⟩
  | 0, 3, hx => exact ⟨by cases hx; rfl, by cases hx; exact hm (a := 1) (b := 0) rfl rfl⟩
  | 0, 4, hx => exact ⟨by cases hx; rfl, by cases hx; exact hm (a := 1) (b := 1) rfl rfl⟩
  | 0, 5, hx => exact ⟨by cases hx; rfl, by cases hx; exact hm (a := 1) (b := 2) rfl rfl⟩
  | 0, 6, hx => exact ⟨by cases hx; rfl, by cases hx; exact hm (a := 2) (b := 0) rfl rfl⟩
  | 0, 7, hx => exact ⟨by cases hx; rfl, by cases hx; exact hm (a := 2) (b := 1) rfl rfl⟩
  | 0, 8, hx => exact ⟨by cases hx; rfl, by cases hx; exact hm (a := 2) (b := 2) rfl rfl⟩
  | 0, c + 9, hx => cases hx
  | g + 1, c, hx => cases hx


/-- WHAT THE RECKONING GIVES, FOR EVERY ARGUMENT AND EVERY WORLD THAT HOLDS THE VARIABLE. -/
theorem contract (H : Type) (enc : TypeId × Value → H) (W : World) (bs : Nat) (args : Array Value) (ds gs : List (DataW H)) (before : List MemPlace)
    (hval : ∀ (j : Nat) t v, Tryd.f8.params[j]? = some t → args[j]? = some v → Value.okWide Tryd.prog W .any bs t v)
    (hW : DataW.Whole enc Tryd.prog Tryd.f8.params.toList Rows.turnSidesSpec.vars false W args.toList ds gs before) (hL : laidMetH Tryd.prog Rows.turnSidesRow.laid W) :
    Calls Tryd.prog 8 args W fun e W' => ∃ v, e = .returned v ∧ Rows.turnSidesSpec.post enc Tryd.prog Tryd.f8 false true false false W args v W' := by
  have hW' := hW
  obtain ⟨p, q, hA0, hV, rfl, hfz, hnd⟩ := hW
  have hA : DataW.TrodAll enc Tryd.prog W 0 (fun _ => true) true Tryd.f8.params.toList args.toList ds p := hA0
  rw [Tryd.params8] at hA hval
  obtain ⟨v0, v1, v2, d0, d1, d2, p0, p1, p2, rfl, rfl, rfl, h0, h1, h2⟩ := trodAll_three hA
  obtain ⟨n0, g0, _, e0⟩ := arg_slice (ρ := fun _ => ⟨0, 0, 0⟩) (H := []) (d := 9) (k := .i64) (es := 1) Tryd.underlying22 (by kernel_rfl) (by kernel_rfl) (by omega) (hval 0 22 v0 rfl rfl) h0
  obtain ⟨n1, g1, _, e1⟩ := arg_slice (ρ := fun _ => ⟨0, 0, 0⟩) (H := []) (d := 9) (k := .i64) (es := 1) Tryd.underlying22 (by kernel_rfl) (by kernel_rfl) (by omega) (hval 1 22 v1 rfl rfl) h1
  obtain ⟨g2, e2⟩ := arg_agg (ρ := fun _ => ⟨0, 0, 0⟩) (H := []) (F := Fall W) (d := 9) (k := .i64) (es := 3) (t := 30) (by kernel_rfl) (by kernel_rfl) (by kernel_rfl) (hval 2 30 v2 rfl rfl) h2
  have hlaw := law8 ⟨n0, fun j => g0 j 0⟩ ⟨n1, fun j => g1 j 0⟩ ⟨g2 0, g2 1, g2 2⟩
  refine (law_calls (P := Tryd.prog) (G := T.G) (f := 8) ok8 (args := [v0, v1, v2]) ⟨_, hlaw⟩ rfl (fun i x x' hx hx' => ?_) (identity (tid := 81) (by kernel_rfl) (by kernel_rfl) hL)).mono fun e W' ⟨he, hs⟩ => ?_
  · match i, hx, hx' with
    | 0, hx, hx' => cases hx; cases hx'; exact e0
    | 1, hx, hx' => cases hx; cases hx'; exact e1
    | 2, hx, hx' => cases hx; cases hx'; exact e2
    | i + 3, hx, hx' => cases hx
  · subst he
    exact ⟨_, rfl, post_law (kids_rows laidOut mapsRow) sizes (by rw [Tryd.params8]; simp) hW' rfl (tb := 4) (by kernel_rfl) Tryd.underlying4 rfl rfl rfl hs⟩

/-- A WORLD FOR THE WITNESS. -/
noncomputable def laidWorld (os : Os) : World :=
  { World.holding Tryd.prog os ⟨#[], #[], []⟩ with heap := (World.holding Tryd.prog os ⟨#[], #[], []⟩).heap.modify 0 fun
      | .cells _ t frozen => .cells #[.int .i64 1, .int .i64 0, .int .i64 0, .int .i64 0, .int .i64 1, .int .i64 0, .int .i64 0, .int .i64 0, .int .i64 1] t frozen
      | o => o }
noncomputable def wargs : Array Value := #[.slice none 0 0, .slice none 0 0, .agg (Array.replicate 3 (.int .i64 0))]
theorem laid_met (os : Os) : laidMet Tryd.prog Rows.turnSidesRow.laid ((laidWorld os).forCall (fun _ _ => 0) ⟨#[], wargs, []⟩).memory :=
  laidMet_of_run' 8 (by kernel_rfl) (by kernel_rfl)
theorem reads (os : Os) {H : Type} (enc : TypeId × Value → H) : ∃ x, DataW.whole enc Tryd.prog ((laidWorld os).forCall (fun _ _ => 0) ⟨#[], wargs, []⟩).memory Tryd.f8.params.toList Rows.turnSidesSpec.vars false wargs.toList 8 = some x := by
  cases h : DataW.whole enc Tryd.prog ((laidWorld os).forCall (fun _ _ => 0) ⟨#[], wargs, []⟩).memory Tryd.f8.params.toList Rows.turnSidesSpec.vars false wargs.toList 8 with
  | some x => exact ⟨x, rfl⟩
  | none =>
    have e : (DataW.whole enc Tryd.prog ((laidWorld os).forCall (fun _ _ => 0) ⟨#[], wargs, []⟩).memory Tryd.f8.params.toList Rows.turnSidesSpec.vars false wargs.toList 8).isSome = true := by kernel_rfl
    rw [h] at e; cases e
theorem lifted (os : Os) (started : os.Started) (H : Type) (enc : TypeId × Value → H) (F : Stop.Interp) :
    ReturnsInHanded {} Tryd.checked os 8 .any ((OpenSpec.ofChange Rows.turnSidesSpec).preRow enc Tryd.prog Tryd.f8 Rows.turnSidesRow.domain false Rows.turnSidesRow.laid) (((OpenSpec.ofChange Rows.turnSidesSpec).at F).post enc Tryd.prog Tryd.f8 false true false false) := by
  obtain ⟨x, hx⟩ := reads os enc
  refine returnsInHanded_of_row (C := Tryd.checked) (s := OpenSpec.ofChange Rows.turnSidesSpec) own started (by kernel_rfl) Tryd.func8
    (witness_row_at (enc := enc) (C := Tryd.checked) false (laidWorld os) wargs rfl (by kernel_rfl) (by kernel_rfl) (by kernel_rfl)
      (OpenSpec.preRow_of_cond 8 hx (by kernel_rfl) (fun k hk => by cases hk) (by kernel_rfl) (laid_met os))) ?_
  intro W base args ds gs before hval hW _ _ _ hL _ _
  exact contract H enc W base args ds gs before hval hW hL
theorem said : Rows.TurnSidesSaid :=
  OpenClaim.holds_of_cond 8 Tryd.f8 rfl rfl rfl rfl rfl rfl rfl ⟨rfl, rfl, rfl, rfl, rfl⟩ rfl rfl rfl rfl rfl (by kernel_rfl) Tryd.func8 (by kernel_rfl)
    (of_decide_eq_true (by kernel_rfl)) (by unfold Func.isWrapper; first | (rw [if_pos (by decide +kernel)]; kernel_rfl) | (rw [if_neg (by decide +kernel)]; exact ⟨rfl, rfl⟩))
    (fun os started H enc _ F => by rw [OpenClaim.pre_eq_preRow]; exact lifted os started H enc F)
theorem plain (f : FuncId) (fn : Func) (hf : Tryd.pinned.checked.prog.funcNamed "collet/colletlaw11.TurnSides" = some f) (hfn : Tryd.pinned.checked.prog.funcs[f]? = some fn) :
    false = Tryd.pinned.checked.prog.looks [] ∧ ∀ (j : Nat) t, fn.params[j]? = some t → Tryd.pinned.checked.prog.wantsStandIn t = false := by
  obtain rfl : f = 8 := Option.some.inj ((show Tryd.prog.funcNamed "collet/colletlaw11.TurnSides" = some 8 by kernel_rfl).symm.trans hf) |>.symm
  obtain rfl : fn = Tryd.f8 := (Option.some.inj (Tryd.func8.symm.trans hfn)).symm
  refine ⟨by kernel_rfl, fun j t ht => ?_⟩
  rw [Tryd.params8] at ht
  have : t = 22 ∨ t = 30 := by have := Array.mem_of_getElem? ht; simp at this; omega
  rcases this with rfl | rfl
  · exact (show Tryd.prog.wantsStandIn 22 = false by kernel_rfl)
  · exact (show Tryd.prog.wantsStandIn 30 = false by kernel_rfl)
/-- THE CARD. -/
theorem turnSides_holds : Rows.TurnSidesCardSaid :=
  Claim7.holds_tied_plain_at .later [] _ _ _ _ said (fun _ h => by cases h) (by kernel_rfl) (fun _ h => by cases h) turnSides_row_tie rfl ⟨rfl, rfl⟩ (by kernel_rfl) rfl plain (by kernel_rfl)
end Go.Proofs.YthbcfinnphpcbaaDoor

