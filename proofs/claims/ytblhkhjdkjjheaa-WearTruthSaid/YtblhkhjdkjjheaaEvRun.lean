/- Regions, control, functions (own work). -/
import Derived.Test.YtblhkhjdkjjheaaEvTidy
import Derived.LoopN
import Derived.Scope
set_option linter.unusedVariables false
set_option linter.unusedSimpArgs false
set_option linter.unnecessarySimpa false
set_option linter.unusedSectionVars false
namespace Go.Ev
open Go
section
variable {W : Nat → Prop} {ρ ρ0 : Rho} {H H0 : List ABlk} {F F0 : Fz} {w w0 : World} {E : Env}

/-- the state of a run of a function's body, seen from the function's entry -/
def Inv (W : Nat → Prop) (ρ0 : Rho) (H0 : List ABlk) (F0 : Fz) (w0 : World) (s : St) (ac : Act) (w : World) : Prop :=
  ac.defers = [] ∧ ∃ ρ F, Adv W ρ0 H0 F0 w0 ρ s.H F w ∧ HRel W ρ s.H F w ∧ ARel ρ s.H F w s.a ac.tmps

theorem putA_eq (a : List AVal) (dst : Option Nat) (x : AVal) : putA a dst x = match dst with | some d => a.set d x | none => a := by
  have : putA a dst x = Option.rec (motive := fun _ => List AVal) a (fun d => setAt a d x) dst := rfl
  rw [this]
  cases dst with
  | none => rfl
  | some d => simp [setAt_eq]
theorem ARel.putA {a : List AVal} {ac : Act} (h : ARel ρ H F w a ac.tmps) (dst : Option Nat) {x : AVal} {x' : Value} (hx : WRel ρ H F w x x') : ARel ρ H F w (Ev.putA a dst x) (ac.put dst x').tmps := by
  rw [putA_eq]
  cases dst with
  | none => exact h
  | some d => exact h.put d hx
theorem put_defers {ac : Act} (dst : Option Nat) (x : Value) : (ac.put dst x).defers = ac.defers := by cases dst <;> rfl

theorem set_same {s : St} {n : Nat} {x : AVal} (hx : x ≠ .unk) (h : evalA E s.a (.t n) = x) : setAt s.a n x = s.a := by
  rw [evalA_t] at h
  rw [setAt_eq]
  rcases Nat.lt_or_ge n s.a.length with hlt | hge
  · rw [List.getElem?_eq_getElem hlt] at h
    simp only [Option.getD_some] at h
    subst h
    exact List.set_getElem_self hlt
  · rw [List.getElem?_eq_none hge] at h
    exact absurd h.symm hx
theorem evalPI_some (s : St) (dst : Option Nat) (g : Nat × Bool) (hide : List Nat) (op : PO) : (evalPI E s ⟨dst, some g, hide, op⟩).run = (match evalA E s.a (.t g.1) with
      | .v (.bool b) => .ite (match g.2 with | true => b | false => !b) (doOp E s ⟨dst, some g, hide, op⟩) (.ret ⟨putA s.a dst (.v (.tuple #[])), s.H⟩)
      | .v (.tuple _) => .ret ⟨putA s.a dst (.v (.tuple #[])), s.H⟩
      | _ => .fail : DT St).run := by
  obtain ⟨d, want⟩ := g
  have e : evalPI E s ⟨dst, some (d, want), hide, op⟩ = (match evalA E s.a (.t d) with
      | .v (.bool b) => Bool.rec (motive := fun _ => DT St)
          (.ite b (.ret ⟨putA (setAt s.a d (.v (.bool true))) dst (.v (.tuple #[])), s.H⟩) (doOp E ⟨setAt s.a d (.v (.bool false)), s.H⟩ ⟨dst, some (d, want), hide, op⟩))
          (.ite b (doOp E ⟨setAt s.a d (.v (.bool true)), s.H⟩ ⟨dst, some (d, want), hide, op⟩) (.ret ⟨putA (setAt s.a d (.v (.bool false))) dst (.v (.tuple #[])), s.H⟩)) want
      | .v (.tuple _) => .ret ⟨putA s.a dst (.v (.tuple #[])), s.H⟩
      | _ => .fail) := rfl
  rw [e]
  have hk : ∀ b, evalA E s.a (.t d) = .v (.bool b) → setAt s.a d (.v (.bool b)) = s.a := fun b h => set_same (E := E) (by simp) h
  revert hk
  generalize evalA E s.a (.t d) = u
  intro hk
  cases u with
  | v x =>
    cases x with
    | bool b =>
      have := hk b rfl
      cases want <;> cases b <;> simp only [DT.run_ite, this] <;> rfl
    | _ => rfl
  | _ => rfl

theorem yielded_bool {ops : Array Oper} {tmps : Array Value} {j d : Nat} {oj : Oper} {b : Bool} (hj : ops[j]? = some oj) (hd : oj.dst = some d) (h : tmps[d]? = some (.bool b)) : yielded ops tmps j = some b := by
  simp [yielded, hj, hd, h]
theorem yielded_tuple {ops : Array Oper} {tmps : Array Value} {j d : Nat} {oj : Oper} {vs : Array Value} (hj : ops[j]? = some oj) (hd : oj.dst = some d) (h : tmps[d]? = some (.tuple vs)) : yielded ops tmps j = none := by
  simp [yielded, hj, hd, h]
/-- whether an operation is wanted -/
theorem guard_cases {ops : Array Oper} {o : Oper} {g : Option (Nat × Bool)} {hide : List Nat} {op : PO} {s s' : St} {ac : Act} (hg : cGuard ops o = some g) (hA : ARel ρ H F w s.a ac.tmps)
    (he : (evalPI E s ⟨o.dst, g, hide, op⟩).run = some s') :
    (Region.wanted o (yielded ops ac.tmps) = true ∧ (doOp E s ⟨o.dst, g, hide, op⟩).run = some s') ∨ (Region.wanted o (yielded ops ac.tmps) = false ∧ s' = ⟨putA s.a o.dst (.v (.tuple #[])), s.H⟩) := by
  unfold cGuard at hg
  unfold Region.wanted
  cases hgo : o.guard with
  | none =>
    simp only [hgo] at hg ⊢
    injection hg with hg
    subst hg
    exact .inl ⟨trivial, he⟩
  | some jw =>
    obtain ⟨j, want⟩ := jw
    simp only [hgo] at hg ⊢
    cases hj : ops[j]? with
    | none => simp [hj] at hg
    | some oj =>
    simp only [hj] at hg
    cases hd : oj.dst with
    | none => simp [hd] at hg
    | some d =>
    simp only [hd] at hg
    injection hg with hg
    subst hg
    rw [evalPI_some] at he
    have hev := evalA_t E s.a d
    have hrel : ∀ v, evalA E s.a (.t d) = .v v → ac.tmps[d]? = some v := fun v hv => by
      rw [hev] at hv
      rcases Nat.lt_or_ge d s.a.length with hlt | hge
      · rw [List.getElem?_eq_getElem hlt] at hv
        have hlt' : d < ac.tmps.size := hA.1 ▸ hlt
        have h1 := hA.2 d _ _ (List.getElem?_eq_getElem hlt) (Array.getElem?_eq_getElem hlt')
        simp only [Option.getD_some] at hv
        rw [hv] at h1
        rw [Array.getElem?_eq_getElem hlt', inv_v h1]
      · rw [List.getElem?_eq_none hge] at hv; cases hv
    revert he hrel
    generalize evalA E s.a (.t d) = u
    intro he hrel
    split at he
    · rename_i b
      have hb := hrel _ rfl
      rw [yielded_bool hj hd hb]
      rcases DT.run_ite_some he with ⟨h1, h2⟩ | ⟨h1, h2⟩
      · refine .inl ⟨?_, h2⟩
        revert h1
        cases want <;> cases b <;> first | (intro _; rfl) | (intro h; cases h)
      · refine .inr ⟨?_, ?_⟩
        · revert h1
          cases want <;> cases b <;> first | (intro _; rfl) | (intro h; cases h)
        · simpa using h2.symm
    · rename_i vs
      have hb := hrel _ rfl
      rw [yielded_tuple hj hd hb]
      exact .inr ⟨rfl, by simpa using he.symm⟩
    · cases he

theorem cOps_cons {P : Program} {ops : Array Oper} {o : Oper} {r : List Oper} {l : List PI} (h : cOps P ops (o :: r) = some l) : ∃ g l', cGuard ops o = some g ∧ cOps P ops r = some l' ∧ l = ⟨o.dst, g, [], cOp P o⟩ :: l' := by
  simp only [cOps] at h
  cases hg : cGuard ops o with
  | none => simp [hg] at h
  | some g =>
  simp only [hg] at h
  cases hl : cOps P ops r with
  | none => simp [hl] at h
  | some l' =>
  simp only [hl] at h
  injection h with h
  exact ⟨g, l', rfl, rfl, h.symm⟩

section
variable (hG0 : GOk E F0 w0) (hcalls : ∀ f, FnOk E.P E.G f (E.call f))
include hG0 hcalls

/-- one operation of a region in order -/
theorem pi_sound {ops : Array Oper} {o : Oper} {g : Option (Nat × Bool)} {s s' : St} {ac : Act} {i : Nat} {Q : Exit → Act → World → Prop} {K : Act → World → Prop} (hi : ops[i]? = some o) (hg : cGuard ops o = some g)
    (hI : Inv W ρ0 H0 F0 w0 s ac w) (he : (evalPI E s ⟨o.dst, g, [], cOp E.P o⟩).run = some s') (hK : ∀ ac' w', Inv W ρ0 H0 F0 w0 s' ac' w' → K ac' w') : wpOp E.P ops Q i K ac w := by
  obtain ⟨hd, ρ, F, hAdv, hH, hA⟩ := hI
  unfold wpOp
  simp only [hi]
  rcases guard_cases hg hA he with ⟨hw, he⟩ | ⟨hw, he⟩
  · rw [if_pos hw]
    refine .inl ?_
    unfold doOp at he
    obtain ⟨⟨x, H'⟩, h1, h2⟩ := DT.run_bind_some he
    have h1' : (evalOp E s.a s.H (cOp E.P o)).run = some (x, H') := h1
    refine op_sound hA hH (hG0.adv hAdv) hcalls h1' K Q fun x' w' hp => ?_
    obtain ⟨ρ', F', a1, a2, a3⟩ := hp
    have h2' : some (⟨putA s.a o.dst x, H'⟩ : St) = some s' := h2
    injection h2' with h2'
    subst h2'
    exact hK _ _ ⟨(put_defers _ _).trans hd, ρ', F', hAdv.trans a1, a2, (hA.adv a1).putA o.dst a3⟩
  · rw [if_neg (by simp [hw])]
    subst he
    exact hK _ _ ⟨(put_defers _ _).trans hd, ρ, F, hAdv, hH, hA.putA o.dst (.ofv _)⟩

theorem ops_sound {ops : Array Oper} {Q : Exit → Act → World → Prop} : ∀ (r : List Oper) (k : Nat) (l : List PI) (s s' : St) (ac : Act) (w : World), ops.toList.drop k = r → cOps E.P ops r = some l → Inv W ρ0 H0 F0 w0 s ac w → (evalOps E l s).run = some s' →
    (∀ ac' w', Inv W ρ0 H0 F0 w0 s' ac' w' → Q .normal ac' w') → wpOps E.P ops Q (List.range' k r.length) ac w
  | [], k, l, s, s', ac, w, hr, hl, hI, he, hQ => by
    simp only [cOps] at hl
    injection hl with hl
    subst hl
    have he' : some s = some s' := he
    injection he' with he'
    subst he'
    exact hQ ac w hI
  | o :: r, k, l, s, s', ac, w, hr, hl, hI, he, hQ => by
    obtain ⟨g, l', h1, h2, rfl⟩ := cOps_cons hl
    have he' : ((evalPI E s ⟨o.dst, g, [], cOp E.P o⟩).bind (evalOps E l')).run = some s' := he
    obtain ⟨s1, h3, h4⟩ := DT.run_bind_some he'
    have hi : ops[k]? = some o := by
      have : (ops.toList.drop k)[0]? = some o := by rw [hr]; rfl
      simpa using this
    rw [show (o :: r).length = r.length + 1 from rfl, List.range'_succ, wpOps_cons]
    refine pi_sound hG0 hcalls hi h1 hI h3 fun ac' w' hI' => ?_
    refine ops_sound r (k + 1) l' s1 s' ac' w' ?_ h2 hI' h4 hQ
    rw [← List.drop_drop, hr]
    rfl
end

/-! ### control -/
def toX : XExit → Exit
  | .normal => .normal
  | .exit id => .exit id
  | .ret => .ret
inductive CodeFor (P : Program) : Code → PC → Prop
  | skip : CodeFor P .skip .skip
  | ops (id : Nat) (ops : Array Oper) (l : List PI) (h : cOps P ops ops.toList = some l) : CodeFor P (.region id ops false) (.ops l)
  | draw (id : Nat) (ops : Array Oper) (dsts : List Nat) (as l : List PI) (ps : List (PO × PO)) (h : cDraw P ops = .draw dsts as l ps) : CodeFor P (.region id ops true) (.draw dsts as l ps)
  | seq {a b : Code} {x y : PC} (ha : CodeFor P a x) (hb : CodeFor P b y) : CodeFor P (.seq a b) (.seq x y)
  | cond (c : Operand) {a b : Code} {x y : PC} (ha : CodeFor P a x) (hb : CodeFor P b y) : CodeFor P (.cond c a b) (.cond (cArg c) x y)
  | block (id : Nat) {a : Code} {x : PC} (ha : CodeFor P a x) : CodeFor P (.block id a) (.block id x)
  | loop (keep : List Nat) {a : Code} {x : PC} (ha : CodeFor P a x) : CodeFor P (.loop a) (.loop keep x)
  | scope {a : Code} {x : PC} (ha : CodeFor P a x) : CodeFor P (.scope a) x
  | label (l : Nat) : CodeFor P (.label l) .skip
  | exit (id : Nat) : CodeFor P (.exit id) (.exit id)
  | ret : CodeFor P .ret .ret
  | bad (c : Code) : CodeFor P c .bad

theorem codeFor (P : Program) : ∀ c : Code, CodeFor P c (cCode P c) := by
  intro c
  induction c with
  | skip => exact .skip
  | region id ops d =>
    cases d with
    | false =>
      show CodeFor P _ (match cOps P ops ops.toList with | some l => PC.ops l | none => .bad)
      cases h : cOps P ops ops.toList with
      | none => exact .bad _
      | some l => exact .ops id ops l h
    | true =>
      show CodeFor P _ (cDraw P ops)
      have hT : ∀ tr, (∃ a b c d, cDrawT tr P ops = .draw a b c d) ∨ cDrawT tr P ops = .bad := fun tr => by
        unfold cDrawT cDrawK
        simp only
        split
        · split
          · exact .inl ⟨_, _, _, _, rfl⟩
          · exact .inr rfl
        · exact .inr rfl
      have hc : (∃ a b c d, cDraw P ops = .draw a b c d) ∨ cDraw P ops = .bad := by
        unfold cDraw
        rcases hT 0 with ⟨a, b, c, d, h⟩ | h
        · rw [h]; exact .inl ⟨_, _, _, _, rfl⟩
        · rw [h]
          rcases hT 1 with ⟨a, b, c, d, h⟩ | h
          · rw [h]; exact .inl ⟨_, _, _, _, rfl⟩
          · rw [h]; exact hT 2
      rcases hc with ⟨a, b, c, d, h⟩ | h
      · rw [h]; exact .draw id ops a b c d h
      · rw [h]; exact .bad _
  | seq a b ha hb => exact .seq ha hb
  | cond c a b ha hb => exact .cond c ha hb
  | block id a ha => exact .block id ha
  | loop a ha => exact .loop _ ha
  | scope a ha => exact .scope ha
  | label l => exact .label l
  | exit id => exact .exit id
  | ret => exact .ret
  | _ => exact .bad _
theorem CodeFor.note {P : Program} {c : Code} {x : PC} (h : CodeFor P c x) (n ret : Nat) : ∀ (out : Nat) (ex : Nat → Nat), CodeFor P c (Ev.note n ret x out ex) := by
  induction h with
  | skip => exact fun _ _ => .skip
  | ops id ops l h => exact fun _ _ => .ops id ops l h
  | draw id ops dsts as l ps h => exact fun _ _ => .draw id ops dsts as l ps h
  | seq ha hb iha ihb => exact fun out ex => .seq (iha _ _) (ihb _ _)
  | cond c ha hb iha ihb => exact fun out ex => .cond c (iha _ _) (ihb _ _)
  | block id ha ih => exact fun out ex => .block id (ih _ _)
  | loop keep ha ih => exact fun out ex => .loop _ (ih _ _)
  | scope ha ih => exact fun out ex => .scope (ih out ex)
  | label l => exact fun _ _ => .label l
  | exit id => exact fun _ _ => .exit id
  | ret => exact fun _ _ => .ret
  | bad c => exact fun _ _ => .bad c

theorem Inv.keep {s : St} {ac : Act} {a : List AVal} (h : Inv W ρ0 H0 F0 w0 s ac w) (ha : a.length = s.a.length) (hat : ∀ (i : Nat) x, a[i]? = some x → x = .unk ∨ s.a[i]? = some x) : Inv W ρ0 H0 F0 w0 ⟨a, s.H⟩ ac w := by
  obtain ⟨hd, ρ, F, h1, h2, h3⟩ := h
  refine ⟨hd, ρ, F, h1, h2, ha.trans h3.1, fun i x x' hx hx' => ?_⟩
  rcases hat i x hx with rfl | h
  · exact .unk _
  · exact h3.2 i x x' h hx'

theorem keepFrom_ok (keep : List Nat) : ∀ (l : List AVal) (k : Nat), (keepFrom keep l k).length = l.length ∧ ∀ (i : Nat) x, (keepFrom keep l k)[i]? = some x → x = .unk ∨ l[i]? = some x
  | [], k => ⟨rfl, fun i x h => by simp [keepFrom] at h⟩
  | y :: l, k => by
    obtain ⟨h1, h2⟩ := keepFrom_ok keep l (k + 1)
    have e : keepFrom keep (y :: l) k = Bool.rec .unk y (memN k keep) :: keepFrom keep l (k + 1) := rfl
    rw [e]
    refine ⟨by simp [h1], fun i x hx => ?_⟩
    cases i with
    | zero =>
      simp at hx
      subst hx
      cases memN k keep
      · exact .inl rfl
      · exact .inr rfl
    | succ i => exact h2 i x (by simpa using hx)

/-- the heap anew, from the function's entry -/
theorem tidy_adv {roots : List Nat} {H2 : List ABlk} (hr : TOk H0.length roots) (hb : blksK H0.length H 0 roots = some H2) (h : Adv W ρ0 H0 F0 w0 ρ H F w) : Adv W ρ0 H0 F0 w0 (fun j => ρ ((roots[j]?).getD 0)) H2 F w := by
  obtain ⟨hl, hat⟩ := blksK_ok hb
  refine ⟨h.ext, fun id b hid => ?_, h.more, h.new, fun id b' hid hn => ?_⟩
  · have hlt := (List.getElem?_eq_some_iff.1 hid).1
    obtain ⟨b1, h1, h2, h3, h4⟩ := h.heap id b hid
    have hroot := hr.first id hlt
    obtain ⟨b2, k1, k2⟩ := hat id id hroot
    have : b2 = b1 := Option.some.inj (k1.symm.trans h1)
    subst this
    have hre : reG H0.length (0 + id) b2 = b2 := by
      rw [Nat.zero_add]
      unfold reG
      have : Nat.blt id H0.length = true := by simpa [Nat.blt_eq] using hlt
      rw [this]
    rw [hre] at k2
    exact ⟨b2, k2, h2, h3, fun hg => by simp only [hroot, Option.getD_some]; exact h4 hg⟩
  · obtain ⟨id', b, h1, h2, h3, h4⟩ := tidy_at hb hid
    simp only [h2]
    by_cases hlt : id < H0.length
    · have hroot := hr.first id hlt
      have : id' = id := Option.some.inj (h1.symm.trans hroot)
      subst this
      refine h.fresh id' b h3 fun bb hbb hg => hn bb hbb ?_
      rw [h4]
      have : Nat.blt id' H0.length = true := by simpa [Nat.blt_eq] using hlt
      simp only [reG, this]
      exact hg
    · refine h.fresh id' b h3 fun bb hbb _ => ?_
      have hlt' := (List.getElem?_eq_some_iff.1 hbb).1
      have hroot := hr.first id' hlt'
      obtain ⟨a1, a2⟩ := List.getElem?_eq_some_iff.1 h1
      obtain ⟨b1, b2⟩ := List.getElem?_eq_some_iff.1 hroot
      have := (List.getElem_inj hr.nodup).1 (a2.trans b2.symm)
      omega

theorem Inv.tidy {s s' : St} {ac : Act} (h : Inv W ρ0 H0 F0 w0 s ac w) (he : (Ev.tidy H0.length s).run = some s') : Inv W ρ0 H0 F0 w0 s' ac w := by
  obtain ⟨hd, ρ, F, h1, h2, h3⟩ := h
  unfold Ev.tidy at he
  cases ht : tidyA H0.length s.H s.a (List.range H0.length) with
  | mk a roots =>
  simp only [ht] at he
  cases hb : blksK H0.length s.H 0 roots with
  | none => simp [hb] at he
  | some H2 =>
  simp only [hb] at he
  have he' : some (⟨a, H2⟩ : St) = some s' := he
  injection he' with he'
  subst he'
  obtain ⟨k1, _, k3, k4⟩ := tidyA_ok (TOk.start _) ht
  refine ⟨hd, _, F, tidy_adv k1 hb h1, tidy_hrel k1 h2 hb, k3.trans h3.1, fun i x x' hx hx' => ?_⟩
  have hi : i < s.a.length := k3 ▸ (List.getElem?_eq_some_iff.1 hx).1
  exact tidy_w hb (k4 i _ x (List.getElem?_eq_getElem hi) hx) (h3.2 i _ x' (List.getElem?_eq_getElem hi) hx')

/-- a region in whatever order -/
def DrawOk (E : Env) : Prop := ∀ (W : Nat → Prop) (ρ0 : Rho) (H0 : List ABlk) (F0 : Fz) (w0 : World), GOk E F0 w0 →
  ∀ (id : Nat) (ops : Array Oper) (dsts : List Nat) (as l : List PI) (ps : List (PO × PO)), cDraw E.P ops = .draw dsts as l ps →
  ∀ (s x s' ), (exec E H0.length (.draw dsts as l ps) s).run = some (x, s') → ∀ (ac : Act) (w : World) (Q : Exit → Act → World → Prop), Inv W ρ0 H0 F0 w0 s ac w →
  (∀ ac' w', Inv W ρ0 H0 F0 w0 s' ac' w' → Q (toX x) ac' w') → (Code.region id ops true).wp E.P Q ac w

theorem iter_sound {c : Code} {y : PC} {keep : List Nat} (ih : ∀ (s : St) (x : XExit) (s' : St), (exec E H0.length y s).run = some (x, s') → ∀ (ac : Act) (w : World) (Q : Exit → Act → World → Prop), Inv W ρ0 H0 F0 w0 s ac w →
    (∀ ac' w', Inv W ρ0 H0 F0 w0 s' ac' w' → Q (toX x) ac' w') → c.wp E.P Q ac w) :
    ∀ (n : Nat) (s : St) (x : XExit) (s' : St), (iter (fun s => tidy H0.length ⟨keepFrom keep s.a 0, s.H⟩) (exec E H0.length y) n s).run = some (x, s') → ∀ (ac : Act) (w : World) (Q : Exit → Act → World → Prop), Inv W ρ0 H0 F0 w0 s ac w →
    (∀ ac' w', Inv W ρ0 H0 F0 w0 s' ac' w' → Q (toX x) ac' w') → Code.rounds E.P c Q n ac w
  | 0, s, x, s', he, ac, w, Q, hI, hQ => by cases he
  | n + 1, s, x, s', he, ac, w, Q, hI, hQ => by
    have he' : ((tidy H0.length ⟨keepFrom keep s.a 0, s.H⟩).bind fun s => (exec E H0.length y s).bind fun r =>
      XExit.rec (motive := fun _ => DT (XExit × St)) (iter (fun s => tidy H0.length ⟨keepFrom keep s.a 0, s.H⟩) (exec E H0.length y) n r.2) (fun id => .ret (.exit id, r.2)) (.ret (.ret, r.2)) r.1).run = some (x, s') := he
    obtain ⟨s1, h1, h2⟩ := DT.run_bind_some he'
    obtain ⟨⟨x2, s2⟩, h3, h4⟩ := DT.run_bind_some h2
    obtain ⟨k1, k2⟩ := keepFrom_ok keep s.a 0
    have hI1 := (hI.keep (a := keepFrom keep s.a 0) k1 k2).tidy h1
    rw [rounds_succ]
    refine ih s1 x2 s2 h3 ac w _ hI1 fun ac' w' hI2 => ?_
    cases x2 with
    | normal => exact iter_sound ih n s2 x s' h4 ac' w' Q hI2 hQ
    | exit id =>
      have h4' : some (XExit.exit id, s2) = some (x, s') := h4
      injection h4' with h4'; injection h4' with e1 e2; subst e1 e2
      exact hQ _ _ hI2
    | ret =>
      have h4' : some (XExit.ret, s2) = some (x, s') := h4
      injection h4' with h4'; injection h4' with e1 e2; subst e1 e2
      exact hQ _ _ hI2

section
variable (hG0 : GOk E F0 w0) (hcalls : ∀ f, FnOk E.P E.G f (E.call f)) (hdraw : DrawOk E)
include hG0 hcalls hdraw

theorem exec_sound {c : Code} {y : PC} (hc : CodeFor E.P c y) : ∀ (s : St) (x : XExit) (s' : St), (exec E H0.length y s).run = some (x, s') → ∀ (ac : Act) (w : World) (Q : Exit → Act → World → Prop), Inv W ρ0 H0 F0 w0 s ac w →
    (∀ ac' w', Inv W ρ0 H0 F0 w0 s' ac' w' → Q (toX x) ac' w') → c.wp E.P Q ac w := by
  induction hc with
  | skip =>
    intro s x s' he ac w Q hI hQ
    have he' : some (XExit.normal, s) = some (x, s') := he
    injection he' with he'; injection he' with e1 e2; subst e1 e2
    exact wp_skip (hQ _ _ hI)
  | ops id ops l h =>
    intro s x s' he ac w Q hI hQ
    have he' : ((evalOps E l s).bind fun s => .ret (XExit.normal, s)).run = some (x, s') := he
    obtain ⟨s1, h1, h2⟩ := DT.run_bind_some he'
    have h2' : some (XExit.normal, s1) = some (x, s') := h2
    injection h2' with h2'; injection h2' with e1 e2; subst e1 e2
    refine wp_region ?_
    rw [List.range_eq_range']
    have := ops_sound (Q := Q) hG0 hcalls ops.toList 0 l s s1 ac w rfl h hI h1 hQ
    simpa using this
  | draw id ops dsts as l ps h =>
    intro s x s' he ac w Q hI hQ
    exact hdraw W ρ0 H0 F0 w0 hG0 id ops dsts as l ps h s x s' he ac w Q hI hQ
  | seq ha hb iha ihb =>
    intro s x s' he ac w Q hI hQ
    obtain ⟨⟨x1, s1⟩, h1, h2⟩ := DT.run_bind_some he
    refine wp_seq (iha s x1 s1 h1 ac w _ hI fun ac' w' hI' => ?_)
    cases x1 with
    | normal => exact ihb s1 x s' h2 ac' w' Q hI' hQ
    | exit id =>
      have h2' : some (XExit.exit id, s1) = some (x, s') := h2
      injection h2' with h2'; injection h2' with e1 e2; subst e1 e2
      exact hQ _ _ hI'
    | ret =>
      have h2' : some (XExit.ret, s1) = some (x, s') := h2
      injection h2' with h2'; injection h2' with e1 e2; subst e1 e2
      exact hQ _ _ hI'
  | @cond c a b y z ha hb iha ihb =>
    intro s x s' he ac w Q hI hQ
    have he' : (match evalA E s.a (cArg c) with
      | .v (.bool b) => DT.ite b (exec E H0.length y s) (exec E H0.length z s)
      | _ => DT.fail).run = some (x, s') := he
    have hc : WRel _ _ _ _ (evalA E s.a (cArg c)) (ac.eval c) := evalA_ok hI.2.choose_spec.choose_spec.2.2 (hG0.adv hI.2.choose_spec.choose_spec.1) c
    revert he' hc
    generalize evalA E s.a (cArg c) = u
    intro he' hc
    split at he'
    · rename_i b
      have hb := inv_v hc
      rcases DT.run_ite_some he' with ⟨rfl, h⟩ | ⟨rfl, h⟩
      · exact wp_cond_true hb (iha s x s' h ac w Q hI hQ)
      · exact wp_cond_false hb (ihb s x s' h ac w Q hI hQ)
    · cases he'
  | @block id a y ha ih =>
    intro s x s' he ac w Q hI hQ
    obtain ⟨⟨x1, s1⟩, h1, h2⟩ := DT.run_bind_some he
    refine wp_block (ih s x1 s1 h1 ac w _ hI fun ac' w' hI' => ?_)
    cases x1 with
    | normal =>
      have h2' : some (XExit.normal, s1) = some (x, s') := h2
      injection h2' with h2'; injection h2' with e1 e2; subst e1 e2
      exact hQ _ _ hI'
    | ret =>
      have h2' : some (XExit.ret, s1) = some (x, s') := h2
      injection h2' with h2'; injection h2' with e1 e2; subst e1 e2
      exact hQ _ _ hI'
    | exit id' =>
      have h2' : (Bool.rec (motive := fun _ => DT (XExit × St)) (.ret (.exit id', s1)) (.ret (.normal, s1)) (Nat.beq id' id)).run = some (x, s') := h2
      show if id' = id then Q .normal ac' w' else Q (.exit id') ac' w'
      cases hb : Nat.beq id' id with
      | true =>
        rw [hb] at h2'
        have h3 : some (XExit.normal, s1) = some (x, s') := h2'
        injection h3 with h3; injection h3 with e1 e2; subst e1 e2
        rw [if_pos (Nat.eq_of_beq_eq_true hb)]
        exact hQ _ _ hI'
      | false =>
        rw [hb] at h2'
        have h3 : some (XExit.exit id', s1) = some (x, s') := h2'
        injection h3 with h3; injection h3 with e1 e2; subst e1 e2
        rw [if_neg (Nat.ne_of_beq_eq_false hb)]
        exact hQ _ _ hI'
  | loop keep ha ih =>
    intro s x s' he ac w Q hI hQ
    exact wp_loop_rounds E.N (iter_sound ih E.N s x s' he ac w Q hI hQ)
  | scope ha ih =>
    intro s x s' he ac w Q hI hQ
    refine wp_scope_straight (ih s x s' he ac w (Exit.noGoto Q) hI fun ac' w' hI' => ?_)
    have := hQ ac' w' hI'
    cases x with
    | normal => exact this
    | exit id => exact this
    | ret => exact this
  | label l =>
    intro s x s' he ac w Q hI hQ
    have he' : some (XExit.normal, s) = some (x, s') := he
    injection he' with he'; injection he' with e1 e2; subst e1 e2
    exact wp_label (hQ _ _ hI)
  | exit id =>
    intro s x s' he ac w Q hI hQ
    have he' : some (XExit.exit id, s) = some (x, s') := he
    injection he' with he'; injection he' with e1 e2; subst e1 e2
    exact wp_exit (hQ _ _ hI)
  | ret =>
    intro s x s' he ac w Q hI hQ
    have he' : some (XExit.ret, s) = some (x, s') := he
    injection he' with he'; injection he' with e1 e2; subst e1 e2
    exact wp_ret (hQ _ _ hI)
  | bad c =>
    intro s x s' he ac w Q hI hQ
    cases he
end
end
end Go.Ev

