/- Inversions; operands; what an operation gives (own work). -/
import Derived.Test.YtblhkhjdkjjheaaEvSteps
import Derived.Test.YtblhkhjdkjjheaaEvComp
import Derived.Orders
set_option linter.unusedVariables false
set_option linter.unusedSimpArgs false
set_option linter.unnecessarySimpa false
set_option linter.unusedSectionVars false
namespace Go.Ev
open Go
section
variable {W : Nat → Prop} {ρ ρ' : Rho} {H H' : List ABlk} {F F' : Fz} {w w' : World}

theorem inv_v {x x' : Value} (h : WRel ρ H F w (.v x) x') : x' = x := by
  cases h with
  | val h => cases h with
    | cell h => cases h with
      | mem h => cases h; rfl
      | v => rfl
theorem inv_ptr {id i c g : Nat} {x' : Value} (h : WRel ρ H F w (.ptr id i c g) x') : ∃ (a : Addr) (b : ABlk), x' = .pointer (some a) ∧ H[id]? = some b ∧ b.dead = false ∧ g ≤ b.g ∧ (b.g = g → a = ⟨(ρ id).blk, (ρ id).off + (i * b.es + c), none⟩) := by
  cases h with
  | val h => cases h with
    | cell h => cases h with
      | mem h => cases h
      | ptr _ _ _ _ a b hb hd hg h => exact ⟨a, b, rfl, hb, hd, hg, h⟩
theorem inv_sl {id off n g : Nat} {x' : Value} (h : WRel ρ H F w (.sl id off n g) x') : ∃ (a : Addr) (cap : Nat) (b : ABlk), x' = .slice (some a) n cap ∧ H[id]? = some b ∧ b.dead = false ∧ g ≤ b.g ∧ n ≤ cap ∧ a.spot = none ∧ cap ≤ maxLen ∧
    (b.g = g → ((cap = 0 ∧ 0 < off) ∨ a = ⟨(ρ id).blk, (ρ id).off + off * b.es, none⟩) ∧ (off + cap) * b.es = (ρ id).size ∧ off + n ≤ b.elems.length) := by
  cases h with
  | val h => cases h with
    | cell h => cases h with
      | mem h => cases h
      | sl _ _ _ _ a cap b hb hd hg hn hs hm h => exact ⟨a, cap, b, rfl, hb, hd, hg, hn, hs, hm, h⟩
theorem inv_tree {es n : Nat} {get : Nat → List AVal} {x' : Value} (h : WRel ρ H F w (.tree es n get) x') : MRel F w (.tree es n get) x' := by
  cases h with
  | val h => cases h with
    | cell h => cases h with
      | mem h => exact h
theorem inv_tptr {cs : List AVal} {x' : Value} (h : WRel ρ H F w (.tptr cs) x') : ∃ (a : Addr) (vs : Nat → Value), x' = .pointer (some a) ∧ a.spot = none ∧ (∀ c, c < cs.length → F a.block (a.off + c)) ∧
    (∀ c, c < cs.length → w.cell? ⟨a.block, a.off + c, none⟩ = some (vs c)) ∧ ∀ c (hc : c < cs.length), MRel F w (cs[c]) (vs c) := by
  cases h with
  | val h => cases h with
    | cell h => cases h with
      | mem h => cases h
      | tptr _ a vs hs hF hw hr => exact ⟨a, vs, rfl, hs, hF, hw, hr⟩
theorem inv_agg {cs : List AVal} {x' : Value} (h : WRel ρ H F w (.agg cs) x') : ∃ vs : Array Value, x' = .agg vs ∧ cs.length = vs.size ∧ ∀ (i : Nat) x x', cs[i]? = some x → vs[i]? = some x' → CRel ρ H F w x x' := by
  cases h with
  | val h => cases h with
    | cell h => cases h with
      | mem h => cases h
    | agg _ vs hl h => exact ⟨vs, rfl, hl, h⟩
theorem inv_tup {cs : List AVal} {x' : Value} (h : WRel ρ H F w (.tup cs) x') : ∃ vs : Array Value, x' = .tuple vs ∧ cs.length = vs.size ∧ ∀ (i : Nat) x x', cs[i]? = some x → vs[i]? = some x' → VRel ρ H F w x x' := by
  cases h with
  | val h => cases h with
    | cell h => cases h with
      | mem h => cases h
  | tup _ vs hl h => exact ⟨vs, rfl, hl, h⟩
theorem inv_fn {f : FuncId} {cs : List AVal} {x' : Value} (h : WRel ρ H F w (.fn f cs) x') : ∃ vs : Array Value, x' = .func (.func f) #[] vs ∧ cs.length = vs.size ∧ ∀ (i : Nat) x x', cs[i]? = some x → vs[i]? = some x' → CRel ρ H F w x x' := by
  cases h with
  | val h => cases h with
    | cell h => cases h with
      | mem h => cases h; exact ⟨#[], rfl, rfl, fun i x x' hx => by simp at hx⟩
    | fn _ _ vs hl h => exact ⟨vs, rfl, hl, h⟩

theorem VRel.ofVal1 (v : Value) : VRel ρ H F w (ofVal1 v) v := by
  cases v with
  | agg cs =>
    exact .agg _ cs (by simp) fun i x x' hx hx' => by
      simp at hx
      obtain ⟨y, hy, rfl⟩ := hx
      rw [hy] at hx'
      injection hx' with e
      subst e
      exact .v _
  | _ => exact .cell (.v _)
theorem WRel.ofVal (v : Value) : WRel ρ H F w (ofVal v) v := by
  cases v with
  | agg cs => exact .val (VRel.ofVal1 (.agg cs))
  | tuple vs =>
    exact .tup _ vs (by simp) fun i x x' hx hx' => by
      simp at hx
      obtain ⟨y, hy, rfl⟩ := hx
      rw [hy] at hx'
      injection hx' with e
      subst e
      exact VRel.ofVal1 _
  | _ => exact .val (.cell (.v _))

/-- the named package-level variables hold what the evaluator is told -/
def GOk (E : Env) (F : Fz) (w : World) : Prop := ∀ g (c : Nat) x, (E.G g)[c]? = some x → x.oneCell' = true ∧ F g c ∧ w.cell? ⟨g, c, none⟩ = some x

theorem GOk.adv {E : Env} (h : GOk E F w) (k : Adv W ρ H F w ρ' H' F' w') : GOk E F' w' := fun g c x hx => by
  obtain ⟨h1, h2, h3⟩ := h g c x hx
  exact ⟨h1, k.more _ _ h2, (k.ext.cells _ _ h2).trans h3⟩

theorem evalA_t (E : Env) (a : List AVal) (t : Nat) : evalA E a (.t t) = (a[t]?).getD .unk := by
  have : evalA E a (.t t) = Option.rec (motive := fun _ => AVal) .unk (fun y => y) (nth a t) := rfl
  rw [this, nth_eq]
  cases a[t]? <;> rfl

theorem evalA_ok {E : Env} {a : List AVal} {ac : Act} (hA : ARel ρ H F w a ac.tmps) (hG : GOk E F w) (x : Operand) : WRel ρ H F w (evalA E a (cArg x)) (ac.eval x) := by
  cases x with
  | tmp t =>
    show WRel ρ H F w (evalA E a (.t t)) (ac.tmps.getD t undef)
    rw [evalA_t]
    rcases Nat.lt_or_ge t a.length with hh | hh
    · have hh' : t < ac.tmps.size := hA.1 ▸ hh
      have h1 : a[t]? = some a[t] := List.getElem?_eq_getElem hh
      have h2 : ac.tmps[t]? = some ac.tmps[t] := Array.getElem?_eq_getElem hh'
      have := hA.2 t _ _ h1 h2
      simpa [h1, Array.getD, hh'] using this
    · rw [List.getElem?_eq_none hh]
      exact .unk _
  | const v => exact WRel.ofVal v
  | global g =>
    show WRel ρ H F w (.tptr (mapL .v (E.G g))) (.pointer (some ⟨g, 0, none⟩))
    rw [mapL_eq]
    refine .val (.cell (.tptr _ _ (fun c => (E.G g).getD c undef) rfl (fun c hc => ?_) (fun c hc => ?_) fun c hc => ?_))
    · have hc' : c < (E.G g).length := by simpa using hc
      simpa using (hG g c _ (List.getElem?_eq_getElem hc')).2.1
    · have hc' : c < (E.G g).length := by simpa using hc
      have := (hG g c _ (List.getElem?_eq_getElem hc')).2.2
      simpa [List.getD, List.getElem?_eq_getElem hc'] using this
    · have hc' : c < (E.G g).length := by simpa using hc
      have := (hG g c _ (List.getElem?_eq_getElem hc')).1
      simp only [List.getElem_map, List.getD, List.getElem?_eq_getElem hc', Option.getD_some]
      exact .v _ this
  | func f => exact .val (.cell (.mem (.fn f)))

/-- what an operation gives, whatever follows -/
def OpGives (P : Program) (o : Oper) (ac : Act) (w : World) (post : Value → World → Prop) : Prop :=
  ∀ (next : Act → World → Prop) (Q : Exit → Act → World → Prop), (∀ x' w', post x' w' → next (ac.put o.dst x') w') → o.wp P ac w next Q

def Post (W : Nat → Prop) (ρ : Rho) (H : List ABlk) (F : Fz) (w : World) (x : AVal) (H' : List ABlk) (x' : Value) (w' : World) : Prop :=
  ∃ ρ' F', Adv W ρ H F w ρ' H' F' w' ∧ HRel W ρ' H' F' w' ∧ WRel ρ' H' F' w' x x'

section
variable {P : Program} {o : Oper} {ac : Act} {post : Value → World → Prop}
theorem OpGives.value {x' : Value} (hrun : (execOp ac.eval o).run P w = .ok (.value x') w') (hp : post x' w') : OpGives P o ac w post := fun next Q h => by
  unfold Oper.wp
  rw [hrun]
  exact h x' w' hp
theorem OpGives.skip (hrun : (execOp ac.eval o).run P w = .ok .skip w') (hp : post undef w') : OpGives P o ac w post := fun next Q h => by
  unfold Oper.wp
  rw [hrun]
  exact h undef w' hp
theorem OpGives.enter {f : FuncId} {args : Array Value} (hrun : (execOp ac.eval o).run P w = .ok (.enter f args) w) (hp : Calls P f args w fun e w' => ∃ x', e = .returned x' ∧ post x' w') : OpGives P o ac w post := fun next Q h => by
  unfold Oper.wp
  rw [hrun]
  show Calls P f args w _
  exact hp.mono fun e w' ⟨x', he, hx⟩ => by subst he; exact h x' w' hx

theorem Post.stay (hH : HRel W ρ H F w) {x : AVal} {x' : Value} (hx : WRel ρ H F w x x') : Post W ρ H F w x H x' w := ⟨ρ, F, .refl, hH, hx⟩
end

theorem pureRun_ok {α : Type} {P : Program} {e : Sem α} {a : α} (h : pureRun P e = some a) (w : World) : e.run P w = .ok a w := by
  induction e with
  | pure b => simp [pureRun] at h; subst h; rfl
  | program k ih => exact ih P (by simpa [pureRun] using h)
  | mark m k ih => simp only [Sem.run]; exact ih (by simpa [pureRun] using h)
  | _ => simp [pureRun] at h

theorem cellVal_ok {x : AVal} {x' y : Value} (h : CRel ρ H F w x x') (hy : cellVal x = some y) : x' = y := by
  cases h with
  | v => injection hy
  | mem h => cases h with
    | v => injection hy
    | fn f => injection hy
    | tree => cases hy
    | nil => cases hy
  | _ => cases hy
theorem toVal_ok {x : AVal} {x' y : Value} (h : WRel ρ H F w x x') (hy : toVal x = some y) : x' = y := by
  cases h with
  | tup => cases hy
  | val h => cases h with
    | fn f caps vs hl h =>
      cases caps with
      | nil =>
        have : vs = #[] := by simpa using hl.symm
        subst this; injection hy
      | cons => cases hy
    | agg cs vs hl h =>
      cases hm : mapO cellVal cs with
      | none => simp [toVal, hm] at hy
      | some l =>
        simp [toVal, hm] at hy
        subst hy
        obtain ⟨h1, h2⟩ := mapO_some hm
        congr 1
        apply Array.ext
        · simp [← hl, h1]
        · intro i hi1 hi2
          have hi : i < cs.length := hl ▸ hi1
          obtain ⟨y, hy1, hy2⟩ := h2 i cs[i] (List.getElem?_eq_getElem hi)
          have := cellVal_ok (h i _ _ (List.getElem?_eq_getElem hi) (Array.getElem?_eq_getElem hi1)) hy1
          have hi3 : i < l.length := by omega
          rw [List.getElem?_eq_getElem hi3] at hy2
          injection hy2 with hy2
          simp [this, hy2]
    | cell h => cases h with
      | v => injection hy
      | mem h => cases h with
        | v => injection hy
        | fn f => injection hy
        | tree => cases hy
        | nil => cases hy
      | _ => cases hy
end
end Go.Ev

