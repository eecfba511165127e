/- A call as an operation (own work). -/
import Derived.Test.YthbcfinnphpcbaaDoorEvCall2
namespace Go.Ev
open Go
section
variable {W : Nat → Prop} {ρ : Rho} {H H' : List ABlk} {F : Fz} {w : World} {E : Env}

theorem call_gives (hH : HRel W ρ H F w) (hG : GOk E F w) {f : FuncId} (hcall : FnOk E.P E.G f (E.call f)) {args : List AVal} {args' : List Value} {x : AVal} (hlen : args.length = args'.length)
    (hargs : ∀ (i : Nat) x x', args[i]? = some x → args'[i]? = some x' → WRel ρ H F w x x') (he : (callA E f args H).run = some (x, H')) :
    Callable E.P f ∧ Calls E.P f args'.toArray w fun e w' => ∃ x', e = .returned x' ∧ Post W ρ H F w x H' x' w' := by
  unfold callA at he
  cases hpr : prepArgs H (E.own f) { roots := [], lent := [] } 0 args with
  | none => rw [hpr] at he; cases he
  | some q =>
  obtain ⟨args2, p⟩ := q
  rw [hpr] at he
  simp only at he
  obtain ⟨hp, _, hl2, hPr⟩ := prepArgs_ok (H := H) (p := { roots := [], lent := [] }) ⟨List.nodup_nil, fun id h => by simp at h, fun id h => by simp at h⟩ hpr
  cases hbl : blksAt H p.roots with
  | none => rw [hbl] at he; cases he
  | some blks =>
  cases hap : apartN p.lent p.roots with
  | false => rw [hbl, hap] at he; cases he
  | true =>
  rw [hbl, hap] at he
  simp only at he
  obtain ⟨⟨r, out⟩, hc, he⟩ := DT.run_bind_some he
  simp only at he
  cases hpb : putBack H p.roots out with
  | none => rw [hpb] at he; cases he
  | some H2 =>
  rw [hpb] at he
  simp only at he
  generalize hheld : (holdsTree r || out.any blkHolds) = held at he
  have he' : some (backVal H p.roots r, settle p.lent held H2) = some (x, H') := he
  injection he' with he'; injection he' with e1 e2
  have hS := shape_of (held := held) hp hbl hap hpb
  let inv : Nat → Nat := fun j => (p.roots[j]?).getD 0
  have hinv1 : ∀ (j : Nat) id, p.roots[j]? = some id → inv j = id := fun j id h => by simp [inv, h]
  obtain ⟨hbll, _⟩ := blksAt_ok hbl
  have hinv : ∀ j, j < blks.length → posOf p.roots (inv j) = some j := fun j hj => by
    rw [hbll] at hj
    have h := List.getElem?_eq_getElem hj
    rw [hinv1 j _ h]
    exact posOf_of hp.nodup h
  have hst := hS.start hH inv hinv
  have hargs2 : ∀ (i : Nat) y y', args2[i]? = some y → args'[i]? = some y' → WRel (fun j => ρ (inv j)) blks (CallF ρ H F (· ∈ p.lent)) w y y' := fun i y y' hy hy' => by
    have hi : i < args.length := hl2 ▸ (List.getElem?_eq_some_iff.1 hy).1
    have hx := List.getElem?_eq_getElem hi
    exact (hPr i _ y hx hy).rel hH hbl inv hinv1 (hargs i _ y' hx hy')
  obtain ⟨hca, hcalls⟩ := hcall args2 blks r out hc _ _ _ w args' hst (hl2.trans hlen) hargs2 fun g c y hy => by
    obtain ⟨h1, h2, h3⟩ := hG g c y hy
    exact ⟨h1, .inl h2, h3⟩
  refine ⟨hca, hcalls.mono fun e w' ⟨r', her, ρ1, F1, hA, h1, hr⟩ => ?_⟩
  have hheld' : held = true ∨ (holdsTree r = false ∧ ∀ b ∈ out, blkHolds b = false) := by
    cases held with
    | true => exact .inl rfl
    | false =>
      rw [Bool.or_eq_false_iff] at hheld
      refine .inr ⟨hheld.1, fun b hb => ?_⟩
      have := List.any_eq_false.1 hheld.2 b hb
      simpa using this
  have hbare : held = true ∨ ∀ (i : Nat) c (j : Nat) rr (k : Nat) y, out[i]? = some c → c.elems[j]? = some rr → rr[k]? = some y → holds1 y = false := by
    rcases hheld' with h | ⟨_, h⟩
    · exact .inl h
    · refine .inr fun i c j rr k y hc hrr hy => ?_
      have h2 := h c (List.mem_of_getElem? hc)
      have h3 := List.any_eq_false.1 h2 rr (List.mem_of_getElem? hrr)
      have h4 : rr.any holds1 = false := by simpa using h3
      have h5 := List.any_eq_false.1 h4 y (List.mem_of_getElem? hy)
      simpa using h5
  obtain ⟨j1, j2⟩ := hS.join hH inv hinv hA h1 hbare
  subst her
  refine ⟨r', rfl, _, _, e2 ▸ j1, e2 ▸ j2, ?_⟩
  rw [← e1, ← e2]
  exact back_w hp hbl hap hpb hr (hheld'.imp id fun h => h.1)

variable {o : Oper} {ac : Act} {a : List AVal} {x : AVal}

theorem callFunc_run {P : Program} {f : FuncId} (hc : Callable P f) (args : Array Value) : (callFunc f args).run P w = .ok (.enter f args) w := by
  obtain ⟨fn, h1, h2, h3⟩ := hc
  have h2' : ¬ fn.body = none := fun hb => by rw [hb] at h2; cases h2
  simp [callFunc, h1, if_neg h2', if_neg h3]

theorem args_ok (hA : ARel ρ H F w a ac.tmps) (hG : GOk E F w) (l : Array Operand) : (mapL (evalA E a) (l.toList.map cArg)).length = (l.map ac.eval).toList.length ∧
    ∀ (i : Nat) x x', (mapL (evalA E a) (l.toList.map cArg))[i]? = some x → ((l.map ac.eval).toList)[i]? = some x' → WRel ρ H F w x x' := by
  rw [mapL_eq]
  refine ⟨by simp, fun i x x' hx hx' => ?_⟩
  simp at hx hx'
  obtain ⟨y, hy, rfl⟩ := hx
  obtain ⟨y', hy', rfl⟩ := hx'
  have : y' = y := Option.some.inj (hy'.symm.trans hy)
  subst this
  exact evalA_ok hA hG y'

theorem sound_call (hA : ARel ρ H F w a ac.tmps) (hH : HRel W ρ H F w) (hG : GOk E F w) (hcalls : ∀ f, FnOk E.P E.G f (E.call f)) {c : Call} {f : FuncId} (ho : o.op = .call c) (hc : c.callee = .value (.func f))
    (he : (evalOp E a H (.call f (c.args.toList.map cArg))).run = some (x, H')) : OpGives E.P o ac w (Post W ρ H F w x H') := by
  obtain ⟨h1, h2⟩ := args_ok (E := E) hA hG c.args
  obtain ⟨k1, k2⟩ := call_gives hH hG (hcalls f) h1 h2 he
  refine .enter (f := f) (args := c.args.map ac.eval) ?_ (by
    rw [Array.toArray_toList] at k2
    exact k2)
  have hr := callFunc_run (w := w) k1 (c.args.map ac.eval)
  simp [execOp, ho, resolve, hc, Act.eval, Deferred.ofValue, invoke, hr]

theorem sound_calld (hA : ARel ρ H F w a ac.tmps) (hH : HRel W ρ H F w) (hG : GOk E F w) (hcalls : ∀ f, FnOk E.P E.G f (E.call f)) {c : Call} {y : Operand} (ho : o.op = .call c) (hc : c.callee = .value y)
    (he : (evalOp E a H (.calld (cArg y) (c.args.toList.map cArg))).run = some (x, H')) : OpGives E.P o ac w (Post W ρ H F w x H') := by
  obtain ⟨h1, h2⟩ := args_ok (E := E) hA hG c.args
  have hy := evalA_ok hA hG y
  simp only [evalOp] at he
  revert he hy
  cases evalA E a (cArg y) with
  | fn f caps =>
    intro he hy
    simp only at he
    obtain ⟨vs, e, hl, h3⟩ := inv_fn hy
    obtain ⟨k1, k2⟩ := call_gives (args' := (c.args.map ac.eval).toList ++ vs.toList) hH hG (hcalls f) (by rw [app_eq]; simp only [List.length_append]; rw [h1, hl]; simp) (fun i u u' hu hu' => by
      rw [app_eq] at hu
      rcases Nat.lt_or_ge i (c.args.map ac.eval).toList.length with hi | hi
      · rw [List.getElem?_append_left (by rw [h1]; exact hi)] at hu
        rw [List.getElem?_append_left hi] at hu'
        exact h2 i u u' hu hu'
      · rw [List.getElem?_append_right (by rw [h1]; exact hi), h1] at hu
        rw [List.getElem?_append_right hi] at hu'
        exact .val (.cell (h3 _ u u' hu (by simpa using hu')))) he
    refine .enter (f := f) (args := c.args.map ac.eval ++ vs) ?_ ?_
    · have hr := callFunc_run (w := w) k1 (c.args.map ac.eval ++ vs)
      simp [execOp, ho, resolve, hc, e, Deferred.ofValue, invoke, hr]
    · have : ((c.args.map ac.eval).toList ++ vs.toList).toArray = c.args.map ac.eval ++ vs := by simp
      rw [this] at k2
      exact k2
  | _ => intro he; cases he
end
end Go.Ev
