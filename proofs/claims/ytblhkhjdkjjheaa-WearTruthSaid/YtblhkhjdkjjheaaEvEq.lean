/- Comparing structs and arrays of plain numbers and bools, cell by cell (own work). -/
import Derived.Test.YtblhkhjdkjjheaaEvMem
import Derived.Laws.StructEq
import Derived.ChangeKeysEq
set_option linter.unusedVariables false
set_option linter.unusedSimpArgs false
set_option linter.unnecessarySimpa false
set_option linter.unusedSectionVars false
namespace Go.Ev
open Go

/-- what a cell holds -/
def okAt (cs : Array Value) (p : Nat × CK) : Prop := match p.2 with
  | .int k => ∃ n, cs[p.1]? = some (.int k n)
  | .bool => ∃ b, cs[p.1]? = some (.bool b)
  | _ => False
def eqAt (cs ds : Array Value) (p : Nat × CK) : Bool := match cs[p.1]?, ds[p.1]? with
  | some (.int _ a), some (.int _ b) => a == b
  | some (.bool a), some (.bool b) => a == b
  | _, _ => false

theorem agT_int {P : Program} {t : TypeId} (h : ∀ fs, P.underlying t ≠ some (.struct fs)) (h' : ∀ n e, P.underlying t ≠ some (.array n e)) : agT P t = false := by
  unfold agT
  split
  · exact absurd ‹_› (h _)
  · exact absurd ‹_› (h' _ _)
  · rfl

section
variable {P : Program} {w : World}

/-- a part of a struct or of an array, as a value of its own -/
theorem part_run {t : TypeId} {cs : Array Value} {off : Nat} {l : List (Nat × CK)} (hu : P.underlying t ≠ none) (hne : agT P t = false → l ≠ [] ∧ ∀ p ∈ l, p.1 = 0)
    (hl : ∀ p ∈ l, p.1 < szT P t) (hok : ∀ p ∈ l, okAt cs (off + p.1, p.2)) :
    ∃ v, (part t cs off).run P w = .ok v w ∧ (agT P t = true → v = .agg v.cells) ∧ (agT P t = false → v.cells = #[v]) ∧ ∀ p ∈ l, v.cells[p.1]? = cs[off + p.1]? := by
  cases hd : P.underlying t with
  | none => exact absurd hd hu
  | some d =>
  obtain ⟨ti, hi1, hi2⟩ := szT_info hd
  cases hag : agT P t with
  | true =>
    refine ⟨.agg (cs.extract off (off + szT P t)), by simp [part, isAgg_run hag, sizeOf, typeInfo, hi1, hi2], fun _ => rfl, (fun h => by cases h), fun p hp => ?_⟩
    have h1 := hl p hp
    have h2 : off + p.1 < cs.size := by
      have := hok p hp
      unfold okAt at this
      split at this
      · obtain ⟨n, h⟩ := this; exact (Array.getElem?_eq_some_iff.1 h).1
      · obtain ⟨n, h⟩ := this; exact (Array.getElem?_eq_some_iff.1 h).1
      · exact this.elim
    show (cs.extract off (off + szT P t))[p.1]? = _
    rw [Array.getElem?_extract, if_pos (by omega)]
  | false =>
    obtain ⟨hne, h0⟩ := hne hag
    obtain ⟨p, l', rfl⟩ := List.exists_cons_of_ne_nil hne
    have hp0 := h0 p (by simp)
    have hv : ∃ v, cs[off]? = some v ∧ v.cells = #[v] := by
      have := hok p (by simp)
      rw [hp0] at this
      unfold okAt at this
      split at this
      · obtain ⟨n, h⟩ := this; exact ⟨_, h, rfl⟩
      · obtain ⟨n, h⟩ := this; exact ⟨_, h, rfl⟩
      · exact this.elim
    obtain ⟨v, hv, hc⟩ := hv
    refine ⟨v, by simp [part, isAgg_run' hag (by rw [hd]; simp), hv], (fun h => by cases h), fun _ => hc, fun q hq => ?_⟩
    rw [h0 q hq, hc]
    simpa using hv.symm

theorem shiftE_some {off n : Nat} {x : Option (List (Nat × CK))} {l : List (Nat × CK)} (h : shiftE off n x = some l) : ∃ l', x = some l' ∧ (∀ p ∈ l', p.1 < n) ∧ l = l'.map fun p => (off + p.1, p.2) := by
  unfold shiftE at h
  cases x with
  | none => cases h
  | some l' =>
    simp only at h
    split at h
    · rename_i hall
      injection h with h
      refine ⟨l', rfl, fun p hp => ?_, h.symm⟩
      have h1 := List.all_eq_true.1 hall p hp
      have h2 : p.1 + 1 ≤ n := Nat.le_of_ble_eq_true h1
      omega
    · cases h
theorem eqAt_part {v v' : Value} {cs ds : Array Value} {off : Nat} {l : List (Nat × CK)} (h : ∀ p ∈ l, v.cells[p.1]? = cs[off + p.1]?) (h' : ∀ p ∈ l, v'.cells[p.1]? = ds[off + p.1]?) :
    l.all (eqAt v.cells v'.cells) = (l.map fun p => (off + p.1, p.2)).all (eqAt cs ds) := by
  induction l with
  | nil => rfl
  | cons p l ih =>
    rw [List.map_cons, List.all_cons, List.all_cons, ih (fun q hq => h q (by simp [hq])) (fun q hq => h' q (by simp [hq]))]
    congr 1
    unfold eqAt
    rw [h p (by simp), h' p (by simp)]

/-- what flatE says of a type -/
structure Flat (P : Program) (w : World) (d : Nat) (t : TypeId) (l : List (Nat × CK)) : Prop where
  und : P.underlying t ≠ none
  one : agT P t = false → l ≠ [] ∧ ∀ p ∈ l, p.1 = 0
  eq : ∀ v v' : Value, (agT P t = true → v = .agg v.cells) → (agT P t = true → v' = .agg v'.cells) → (agT P t = false → v.cells = #[v]) → (agT P t = false → v'.cells = #[v']) → (∀ p ∈ l, okAt v.cells p) → (∀ p ∈ l, okAt v'.cells p) → (Op.equalIn d t v v').run P w = .ok (l.all (eqAt v.cells v'.cells)) w

theorem Flat.step {d : Nat} {t : TypeId} {l : List (Nat × CK)} (h : Flat P w d t l) {xs ys : Array Value} {off : Nat} (hl : ∀ p ∈ l, p.1 < szT P t) (hx : ∀ p ∈ l.map fun p => (off + p.1, p.2), okAt xs p) (hy : ∀ p ∈ l.map fun p => (off + p.1, p.2), okAt ys p) :
    ∃ a b, (part t xs off).run P w = .ok a w ∧ (part t ys off).run P w = .ok b w ∧ (Op.equalIn d t a b).run P w = .ok ((l.map fun p => (off + p.1, p.2)).all (eqAt xs ys)) w := by
  have hx' : ∀ p ∈ l, okAt xs (off + p.1, p.2) := fun p hp => hx _ (List.mem_map.2 ⟨p, hp, rfl⟩)
  have hy' : ∀ p ∈ l, okAt ys (off + p.1, p.2) := fun p hp => hy _ (List.mem_map.2 ⟨p, hp, rfl⟩)
  obtain ⟨a, a1, a2, a4, a3⟩ := part_run (w := w) h.und h.one hl hx'
  obtain ⟨b, b1, b2, b4, b3⟩ := part_run (w := w) h.und h.one hl hy'
  refine ⟨a, b, a1, b1, ?_⟩
  rw [← eqAt_part a3 b3]
  refine h.eq a b a2 b2 a4 b4 (fun p hp => ?_) (fun p hp => ?_)
  · have := hx' p hp; unfold okAt at this ⊢; rw [a3 p hp]; exact this
  · have := hy' p hp; unfold okAt at this ⊢; rw [b3 p hp]; exact this

theorem flat_ok : ∀ (d : Nat) (t : TypeId) (l : List (Nat × CK)), flatE P d t = some l → Flat P w d t l
  | 0, _, _, h => by cases h
  | d + 1, t, l, h => by
    unfold flatE at h
    cases hu : P.underlying t with
    | none => simp [hu] at h
    | some u =>
    cases u with
    | int k =>
      simp only [hu] at h
      injection h with h; subst h
      have hag : agT P t = false := agT_int (by simp [hu]) (by simp [hu])
      refine ⟨by simp [hu], fun _ => ⟨by simp, by simp⟩, fun v v' _ _ k1 k2 h1 h2 => ?_⟩
      obtain ⟨n, e1⟩ := h1 (0, .int k) (by simp)
      obtain ⟨m, e2⟩ := h2 (0, .int k) (by simp)
      rw [k1 hag] at e1
      rw [k2 hag] at e2
      have e1' : v = .int k n := by simpa using e1
      have e2' : v' = .int k m := by simpa using e2
      subst e1' e2'
      rw [run_equalIn_int w d t k k n m hu]
      simp [eqAt, Value.cells]
    | bool =>
      simp only [hu] at h
      injection h with h; subst h
      have hag : agT P t = false := agT_int (by simp [hu]) (by simp [hu])
      refine ⟨by simp [hu], fun _ => ⟨by simp, by simp⟩, fun v v' _ _ k1 k2 h1 h2 => ?_⟩
      obtain ⟨n, e1⟩ := h1 (0, .bool) (by simp)
      obtain ⟨m, e2⟩ := h2 (0, .bool) (by simp)
      rw [k1 hag] at e1
      rw [k2 hag] at e2
      have e1' : v = .bool n := by simpa using e1
      have e2' : v' = .bool m := by simpa using e2
      subst e1' e2'
      rw [run_equalIn_bool w d t n m hu]
      simp [eqAt, Value.cells]
    | struct fs =>
      simp only [hu] at h
      split at h
      · cases h
      rename_i hp
      refine ⟨by simp [hu], fun hag => by simp [agT, hu] at hag, fun v v' h1 h2 _ _ h3 h4 => ?_⟩
      have hag : agT P t = true := by simp [agT, hu]
      rw [h1 hag, h2 hag]
      generalize v.cells = xs at *
      generalize v'.cells = ys at *
      have hfo : P.fieldsOf t = fs := by simp [Program.fieldsOf, hu]
      rw [run_equalIn_struct w d t xs ys (by rw [hfo]; exact hu) (by simpa using hp), hfo]
      show _ = Result.ok (l.all (eqAt xs ys)) w
      clear hfo hu h1 h2 hag
      generalize fs.toList = fl at *
      induction fl generalizing l with
      | nil =>
        simp only [List.map_nil, catAll] at h
        injection h with h; subst h
        simp [Op.eqFields]
      | cons f fl ih =>
        simp only [List.map_cons, catAll] at h
        split at h
        · rename_i l1 l2 e1 e2
          injection h with h; subst h
          split at e1
          · cases e1
          rename_i hnm
          obtain ⟨l', g1, g2, g3⟩ := shiftE_some e1
          subst g3
          obtain ⟨a, b, p1, p2, p3⟩ := (flat_ok d f.type l' g1).step (w := w) g2 (fun p hp => h3 p (List.mem_append_left _ hp)) (fun p hp => h4 p (List.mem_append_left _ hp))
          rw [List.all_append]
          simp only [Op.eqFields]
          rw [if_pos hnm]
          simp only [Sem.run_bind, p1, p2, p3, Result.andThen_ok]
          cases hb : ((l'.map fun p => (f.offset + p.1, p.2)).all (eqAt xs ys)) with
          | false => simp
          | true =>
            simp only [Bool.not_true, Bool.false_eq_true, if_false, Bool.true_and]
            exact ih l2 (fun p hp => h3 p (List.mem_append_right _ hp)) (fun p hp => h4 p (List.mem_append_right _ hp)) e2
        · cases h
    | array n e =>
      simp only [hu] at h
      split at h
      case isFalse => cases h
      rename_i hi
      obtain ⟨ti, hi⟩ := Option.isSome_iff_exists.1 hi
      refine ⟨by simp [hu], fun hag => by simp [agT, hu] at hag, fun v v' h1 h2 _ _ h3 h4 => ?_⟩
      have hag : agT P t = true := by simp [agT, hu]
      rw [h1 hag, h2 hag]
      generalize v.cells = xs at *
      generalize v'.cells = ys at *
      have hsz : P.cellsOf e = szT P e := by simp [Program.cellsOf, szT, hi]
      rw [run_equalIn_array w d xs ys hu hi, hsz]
      show _ = Result.ok (l.all (eqAt xs ys)) w
      clear hu h1 h2 hag
      generalize List.range n = fl at *
      induction fl generalizing l with
      | nil =>
        simp only [List.map_nil, catAll] at h
        injection h with h; subst h
        simp [Op.eqItems]
      | cons f fl ih =>
        simp only [List.map_cons, catAll] at h
        split at h
        · rename_i l1 l2 e1 e2
          injection h with h; subst h
          obtain ⟨l', g1, g2, g3⟩ := shiftE_some e1
          subst g3
          obtain ⟨a, b, p1, p2, p3⟩ := (flat_ok d e l' g1).step (w := w) g2 (fun p hp => h3 p (List.mem_append_left _ hp)) (fun p hp => h4 p (List.mem_append_left _ hp))
          rw [List.all_append]
          simp only [Op.eqItems]
          simp only [Sem.run_bind, p1, p2, p3, Result.andThen_ok]
          cases hb : ((l'.map fun p => (f * szT P e + p.1, p.2)).all (eqAt xs ys)) with
          | false => simp
          | true =>
            simp only [Bool.not_true, Bool.false_eq_true, if_false, Bool.true_and]
            exact ih l2 (fun p hp => h3 p (List.mem_append_right _ hp)) (fun p hp => h4 p (List.mem_append_right _ hp)) e2
        · cases h
    | _ => simp [hu] at h
end

section
variable {W : Nat → Prop} {ρ : Rho} {H H' : List ABlk} {F : Fz} {w : World} {E : Env} {o : Oper} {a : List AVal} {ac : Act} {x : AVal}
theorem hdA_drop (cs : List AVal) (n : Nat) : hdA (dropN cs n) = (cs[n]?).getD .unk := by
  rw [dropN_eq]
  induction cs generalizing n with
  | nil => cases n <;> rfl
  | cons c r ih =>
    cases n with
    | zero => rfl
    | succ n => simpa using ih n
/-- cells of plain numbers and bools are what they stand for -/
theorem okFl_rel {cs : List AVal} {vs : Array Value} (hl : cs.length = vs.size) (hr : ∀ (i : Nat) x x', cs[i]? = some x → vs[i]? = some x' → CRel ρ H F w x x') {k : CK} {n : Nat} (hk : (∃ i, k = .int i) ∨ k = .bool) (h : isCK k (hdA (dropN cs n)) = true) :
    okAt vs (n, k) ∧ ∃ v, vs[n]? = some v ∧ hdA (dropN cs n) = .v v := by
  rw [hdA_drop] at h ⊢
  rcases Nat.lt_or_ge n cs.length with hlt | hge
  · rw [List.getElem?_eq_getElem hlt] at h ⊢
    simp only [Option.getD_some] at h ⊢
    have hlt' : n < vs.size := hl ▸ hlt
    have hc := hr n _ _ (List.getElem?_eq_getElem hlt) (Array.getElem?_eq_getElem hlt')
    generalize cs[n] = y at *
    have hy : ∃ v, y = .v v ∧ ((∃ i m, k = .int i ∧ v = .int i m) ∨ (k = .bool ∧ ∃ m, v = .bool m)) := by
      rcases hk with ⟨i, rfl⟩ | rfl
      · cases y with
        | v u =>
          cases u with
          | int k' m =>
            have : i = k' := by simpa [isCK] using h
            subst this
            exact ⟨_, rfl, .inl ⟨_, _, rfl, rfl⟩⟩
          | _ => cases h
        | _ => cases h
      · cases y with
        | v u =>
          cases u with
          | bool m => exact ⟨_, rfl, .inr ⟨rfl, _, rfl⟩⟩
          | _ => cases h
        | _ => cases h
    obtain ⟨v, rfl, hv⟩ := hy
    have := inv_v (.val (.cell hc))
    refine ⟨?_, v, by rw [Array.getElem?_eq_getElem hlt', this], rfl⟩
    rcases hv with ⟨i, m, rfl, rfl⟩ | ⟨rfl, m, rfl⟩
    · exact ⟨m, by rw [Array.getElem?_eq_getElem hlt', this]⟩
    · exact ⟨m, by rw [Array.getElem?_eq_getElem hlt', this]⟩
  · rw [List.getElem?_eq_none hge] at h
    rcases hk with ⟨i, rfl⟩ | rfl <;> cases h

/-- the kinds of flatE are those of numbers and bools -/
theorem flat_kinds {P : Program} : ∀ (d : Nat) (t : TypeId) (l : List (Nat × CK)), flatE P d t = some l → ∀ p ∈ l, (∃ i, p.2 = .int i) ∨ p.2 = .bool
  | 0, _, _, h => by cases h
  | d + 1, t, l, h => by
    have hs : ∀ {off n : Nat} {e : TypeId} {l : List (Nat × CK)}, shiftE off n (flatE P d e) = some l → ∀ p ∈ l, (∃ i, p.2 = .int i) ∨ p.2 = .bool := fun {off n e l} h p hp => by
      obtain ⟨l', g1, _, rfl⟩ := shiftE_some h
      obtain ⟨q, hq, rfl⟩ := List.mem_map.1 hp
      exact flat_kinds d e l' g1 q hq
    have hc : ∀ (xs : List (Option (List (Nat × CK)))) (l : List (Nat × CK)), (∀ x ∈ xs, ∀ l, x = some l → ∀ p ∈ l, (∃ i, p.2 = .int i) ∨ p.2 = .bool) → catAll xs = some l → ∀ p ∈ l, (∃ i, p.2 = .int i) ∨ p.2 = .bool := fun xs => by
      induction xs with
      | nil => intro l _ h; simp only [catAll] at h; injection h with h; subst h; simp
      | cons x xs ih =>
        intro l hx h
        simp only [catAll] at h
        cases x with
        | none => cases h
        | some l1 =>
        cases e2 : catAll xs with
        | none => simp [e2] at h
        | some l2 =>
        simp only [e2] at h
        injection h with h; subst h
        intro p hp
        rcases List.mem_append.1 hp with hp | hp
        · exact hx (some l1) (by simp) _ rfl p hp
        · exact ih l2 (fun x hx' => hx x (by simp [hx'])) e2 p hp
    unfold flatE at h
    split at h
    · injection h with h; subst h; intro p hp; simp at hp; subst hp; exact .inl ⟨_, rfl⟩
    · injection h with h; subst h; intro p hp; simp at hp; subst hp; exact .inr rfl
    · split at h
      · cases h
      · refine hc _ _ (fun x hx l hl => ?_) h
        obtain ⟨f, _, rfl⟩ := List.mem_map.1 hx
        split at hl
        · cases hl
        · exact hs hl
    · split at h
      · refine hc _ _ (fun x hx l hl => ?_) h
        obtain ⟨f, _, rfl⟩ := List.mem_map.1 hx
        exact hs hl
      · cases h
    · cases h
theorem catAll_more {α : Type} {f g : α → Option (List (Nat × CK))} (h : ∀ x l, f x = some l → g x = some l) : ∀ (xs : List α) (l : List (Nat × CK)), catAll (xs.map f) = some l → catAll (xs.map g) = some l
  | [], _, e => e
  | x :: xs, l, e => by
    simp only [List.map_cons, catAll] at e ⊢
    cases h1 : f x with
    | none => simp [h1] at e
    | some l1 =>
    cases h2 : catAll (xs.map f) with
    | none => simp [h1, h2] at e
    | some l2 =>
    rw [h x l1 h1, catAll_more h xs l2 h2]
    simpa [h1, h2] using e
theorem shiftE_more {off n : Nat} {x y : Option (List (Nat × CK))} (h : ∀ l, x = some l → y = some l) {l : List (Nat × CK)} (e : shiftE off n x = some l) : shiftE off n y = some l := by
  cases hx : x with
  | none => rw [hx] at e; cases e
  | some l' => rw [h l' hx, ← hx]; exact e
theorem flatE_succ {P : Program} : ∀ (d : Nat) (t : TypeId) (l : List (Nat × CK)), flatE P d t = some l → flatE P (d + 1) t = some l
  | 0, _, _, h => by cases h
  | d + 1, t, l, h => by
    have ih := flatE_succ (P := P) d
    unfold flatE at h ⊢
    split at h
    · exact h
    · exact h
    · split at h
      · cases h
      · rename_i h1
        rw [if_neg h1]
        refine catAll_more (fun f l e => ?_) _ _ h
        split at e
        · cases e
        · rename_i h2
          rw [if_neg h2]
          exact shiftE_more (ih _) e
    · split at h
      · rename_i h1
        rw [if_pos h1]
        exact catAll_more (fun f l e => shiftE_more (ih _) e) _ _ h
      · cases h
    · cases h
theorem flatE_more {P : Program} {d : Nat} {t : TypeId} {l : List (Nat × CK)} (h : flatE P d t = some l) : ∀ k, flatE P (d + k) t = some l
  | 0 => h
  | k + 1 => flatE_succ _ _ _ (flatE_more h k)
theorem okFl_all {fl : List (Nat × CK)} {cs : List AVal} (h : okFl fl cs = true) : ∀ p ∈ fl, isCK p.2 (hdA (dropN cs p.1)) = true := by
  induction fl with
  | nil => simp
  | cons p fl ih =>
    have h' : Bool.and (isCK p.2 (hdA (dropN cs p.1))) (okFl fl cs) = true := h
    simp only [Bool.and_eq_true] at h'
    intro q hq
    rcases List.mem_cons.1 hq with rfl | hq
    · exact h'.1
    · exact ih h'.2 q hq

section
variable (hA : ARel ρ H F w a ac.tmps) (hH : HRel W ρ H F w) (hG : GOk E F w)
include hA hH hG
theorem sound_eqc {op : BinOp} {neg : Bool} {t u : TypeId} {y z : Operand} {fl : List (Nat × CK)} (ho : o.op = .binOp op t y z u) (hop : (op = .eql ∧ neg = false) ∨ (op = .neq ∧ neg = true)) (hag : agT E.P t = true) (hf : flatE E.P 9 t = some fl) (hgt : E.P.eqGuardType E.P.depth t = false)
    (he : (evalOp E a H (.eqc neg fl (cArg y) (cArg z))).run = some (x, H')) : OpGives E.P o ac w (Post W ρ H F w x H') := by
  have hy := evalA_ok hA hG y
  have hz := evalA_ok hA hG z
  simp only [evalOp] at he
  revert he hy hz
  generalize evalA E a (cArg y) = p
  generalize evalA E a (cArg z) = q
  intro he hy hz
  split at he
  case h_2 => cases he
  rename_i cs ds
  have hh := DT.run_guard_some he
  clear he
  obtain ⟨hg, he⟩ := hh
  simp only [Bool.and_eq_true] at hg
  have he' : some (AVal.v (.bool (negIf neg (eqFl fl cs ds))), H) = some (x, H') := he
  injection he' with he'; injection he' with e1 e2; subst e1 e2
  obtain ⟨vs, ey, hl, hr⟩ := inv_agg hy
  obtain ⟨us, ez, hl', hr'⟩ := inv_agg hz
  have hk := flat_kinds 9 t fl hf
  have h1 := okFl_all hg.1
  have h2 := okFl_all hg.2
  have k1 : ∀ p ∈ fl, okAt vs p := fun p hp => (okFl_rel hl hr (hk p hp) (h1 p hp)).1
  have k2 : ∀ p ∈ fl, okAt us p := fun p hp => (okFl_rel hl' hr' (hk p hp) (h2 p hp)).1
  have hF' := (flat_ok (w := w) (9 + 9991) t fl (flatE_more hf 9991)).eq (.agg vs) (.agg us) (fun _ => rfl) (fun _ => rfl) (fun h => by rw [hag] at h; cases h) (fun h => by rw [hag] at h; cases h) k1 k2
  have heq : fl.all (eqAt vs us) = eqFl fl cs ds := by
    clear hF' hg hf he
    induction fl with
    | nil => rfl
    | cons p fl ih =>
      have e : eqFl (p :: fl) cs ds = (eqCK p.2 (hdA (dropN cs p.1)) (hdA (dropN ds p.1)) && eqFl fl cs ds) := rfl
      rw [List.all_cons, ih (fun q hq => hk q (by simp [hq])) (fun q hq => h1 q (by simp [hq])) (fun q hq => h2 q (by simp [hq])) (fun q hq => k1 q (by simp [hq])) (fun q hq => k2 q (by simp [hq])), e]
      congr 1
      obtain ⟨g1, v, g2, g3⟩ := okFl_rel hl hr (hk p (by simp)) (h1 p (by simp))
      obtain ⟨g4, v', g5, g6⟩ := okFl_rel hl' hr' (hk p (by simp)) (h2 p (by simp))
      obtain ⟨n, kk⟩ := p
      simp only at *
      rw [g3, g6]
      unfold eqAt
      rw [g2, g5]
      rcases hk (n, kk) (by simp) with ⟨i, hi⟩ | hi
      · simp only at hi; subst hi
        obtain ⟨m, hm⟩ := g1
        obtain ⟨m', hm'⟩ := g4
        simp only [g2, g5, Option.some.injEq] at hm hm'
        subst hm hm'
        rfl
      · simp only at hi; subst hi
        obtain ⟨m, hm⟩ := g1
        obtain ⟨m', hm'⟩ := g4
        simp only [g2, g5, Option.some.injEq] at hm hm'
        subst hm hm'
        rfl
  rw [← heq]
  have hF' : (Op.equalIn 10000 t (.agg vs) (.agg us)).run E.P w = .ok (fl.all (eqAt vs us)) w := hF'
  rcases hop with ⟨rfl, rfl⟩ | ⟨rfl, rfl⟩
  · refine .value (x' := .bool (fl.all (eqAt vs us))) (w' := w) ?_ (.stay hH (.ofv _))
    simp only [execOp, ho, ey, ez, Sem.run_bind, run_eqGuard_agg w .eql t y z vs us hgt, Result.andThen_ok, run_eql_struct, hF', Sem.run_pure]
  · refine .value (x' := .bool (!(fl.all (eqAt vs us)))) (w' := w) ?_ (.stay hH (.ofv _))
    simp only [execOp, ho, ey, ez, Sem.run_bind, run_eqGuard_agg w .neq t y z vs us hgt, Result.andThen_ok, run_neq_struct, hF', Sem.run_pure]
end
end
end Go.Ev

