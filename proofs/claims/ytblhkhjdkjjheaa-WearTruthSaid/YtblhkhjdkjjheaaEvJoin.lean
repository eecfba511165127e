/- A call: what the caller lends and hands over, and what it gets back (own work). -/
import Derived.Test.YtblhkhjdkjjheaaEvEq
set_option linter.unusedVariables false
set_option linter.unusedSimpArgs false
set_option linter.unnecessarySimpa false
set_option linter.unusedSectionVars false
namespace Go.Ev
open Go

/-- a function that a call enters -/
def Callable (P : Program) (f : FuncId) : Prop := ∃ fn, P.funcs[f]? = some fn ∧ fn.body.isSome = true ∧ fn.name ≠ "runtime.NumGoroutine"
/-- what is proved of a function: whatever the evaluator's reckoning S gives, the call gives -/
def FnOk (P : Program) (G : Nat → List Value) (f : FuncId) (S : List AVal → List ABlk → DT (AVal × List ABlk)) : Prop :=
  ∀ (args : List AVal) (blks : List ABlk) (r : AVal) (out : List ABlk), (S args blks).run = some (r, out) →
    ∀ (W : Nat → Prop) (ρ : Rho) (F : Fz) (w : World) (args' : List Value), HRel W ρ blks F w → args.length = args'.length → (∀ (i : Nat) x x', args[i]? = some x → args'[i]? = some x' → WRel ρ blks F w x x') →
      (∀ g (c : Nat) x, (G g)[c]? = some x → x.oneCell' = true ∧ F g c ∧ w.cell? ⟨g, c, none⟩ = some x) →
      Callable P f ∧ Calls P f args'.toArray w fun e w' => ∃ r', e = .returned r' ∧ Post W ρ blks F w r out r' w'

section
variable {W : Nat → Prop} {ρ ρ1 : Rho} {H H2 blks out : List ABlk} {F F1 : Fz} {w w1 : World}

/-- the cells that were lent -/
def Lent (ρ : Rho) (H : List ABlk) (lent : Nat → Prop) : Fz := fun b o => ∃ id bb, lent id ∧ H[id]? = some bb ∧ bb.own = true ∧ b = (ρ id).blk ∧ (ρ id).off ≤ o ∧ o < (ρ id).off + bb.elems.length * bb.es
def CallF (ρ : Rho) (H : List ABlk) (F : Fz) (lent : Nat → Prop) : Fz := fun b o => F b o ∨ Lent ρ H lent b o
/-- the blocks that the callee may write -/
def CallW (W : Nat → Prop) (ρ : Rho) (H : List ABlk) (w : World) (pos : Nat → Option Nat) : Nat → Prop :=
  fun k => W k ∧ (w.heap.size ≤ k ∨ ∃ id b j, pos id = some j ∧ H[id]? = some b ∧ b.own = true ∧ (ρ id).blk = k)
def BackF (ρ : Rho) (H : List ABlk) (F F1 : Fz) (lent : Nat → Prop) (held : Prop) : Fz := fun b o => F1 b o ∧ (held ∨ ¬ Lent ρ H lent b o ∨ F b o)
def BackRho (ρ ρ1 : Rho) (n k : Nat) (pos : Nat → Option Nat) : Rho := fun id => match pos id with
  | some j => ρ1 j
  | none => if id < n then ρ id else ρ1 (k + (id - n))

/-- how the caller's heap lies with the callee's -/
structure Shape (H : List ABlk) (blks out H2 : List ABlk) (pos : Nat → Option Nat) (lent : Nat → Prop) (held : Prop) : Prop where
  posLt : ∀ id j, pos id = some j → id < H.length ∧ j < blks.length
  posInj : ∀ id id' j, pos id = some j → pos id' = some j → id = id'
  posAll : ∀ j, j < blks.length → ∃ id, pos id = some j
  blkOk : ∀ (id j : Nat) b, pos id = some j → H[id]? = some b → blks[j]? = some { b with g := 0 } ∧ b.dead = false
  lentOk : ∀ id, lent id → pos id = none ∧ ∃ b, H[id]? = some b ∧ b.dead = false
  outLen : blks.length ≤ out.length
  old : ∀ (id : Nat) b2, id < H.length → pos id = none → H2[id]? = some b2 → ∃ b, H[id]? = some b ∧ b2 = { b with own := b2.own } ∧ (b2.own = b.own ∨ (held ∧ lent id ∧ b2.own = false))
  oldDis : ∀ (id : Nat) b2, held → lent id → H2[id]? = some b2 → b2.own = false
  root : ∀ (id j : Nat) b2, pos id = some j → H2[id]? = some b2 → ∃ b c, H[id]? = some b ∧ out[j]? = some c ∧ b2 = { c with g := b.g + c.g }
  new : ∀ (id : Nat) b2, H.length ≤ id → H2[id]? = some b2 → out[blks.length + (id - H.length)]? = some b2
  len : H2.length = H.length + (out.length - blks.length)

theorem Shape.start {pos : Nat → Option Nat} {lent : Nat → Prop} {held : Prop} (hS : Shape H blks out H2 pos lent held) (hH : HRel W ρ H F w) (inv : Nat → Nat) (hinv : ∀ j, j < blks.length → pos (inv j) = some j) :
    HRel (CallW W ρ H w pos) (fun j => ρ (inv j)) blks (CallF ρ H F lent) w := by
  have hsub : ∀ (j : Nat) c, blks[j]? = some c → ∃ b, H[inv j]? = some b ∧ c = { b with g := 0 } ∧ b.dead = false := fun j c hc => by
    have hj := (List.getElem?_eq_some_iff.1 hc).1
    have hp := hinv j hj
    have hlt := (hS.posLt _ _ hp).1
    obtain ⟨h1, h2⟩ := hS.blkOk _ j _ hp (List.getElem?_eq_getElem hlt)
    exact ⟨H[inv j], List.getElem?_eq_getElem hlt, Option.some.inj (hc.symm.trans h1), h2⟩
  have hL : ∀ (id : Nat) b, (∃ j, pos id = some j) → H[id]? = some b → b.dead = false → b.own = true → ∀ o, ¬ Lent ρ H lent (ρ id).blk o := fun id b hj hb hd ho o hl => by
    obtain ⟨id', bb, hl1, hb', ho', he, _⟩ := hl
    obtain ⟨hn, b2, hb2, hd2⟩ := hS.lentOk id' hl1
    have : b2 = bb := Option.some.inj (hb2.symm.trans hb')
    subst this
    have hne : id ≠ id' := fun e => by subst e; obtain ⟨j, hj⟩ := hj; rw [hn] at hj; cases hj
    exact hH.apart id id' b b2 hb hb' hd hd2 ho hne he
  refine ⟨fun j c hc _ => ?_, fun j j' c c' hc hc' _ _ ho hne => ?_, fun b o hf => ?_, fun k hk => ⟨hH.new k hk, .inl hk⟩⟩
  · obtain ⟨b, hb, rfl, hd⟩ := hsub j c hc
    have hp := hinv j (List.getElem?_eq_some_iff.1 hc).1
    obtain ⟨cc, t, fr, hB⟩ := hH.blk _ b hb hd
    refine ⟨cc, t, fr, hB.obj, hB.room, hB.len, hB.rows, fun i r k x hr hx => ?_, fun ho => ?_, fun ho o hlt => .inl (hB.kept ho o hlt)⟩
    · obtain ⟨x', h1, h2⟩ := hB.cell i r k x hr hx
      exact ⟨x', h1, h2.adv (fun _ _ h => .inl h) (fun _ _ _ => rfl)⟩
    · obtain ⟨h1, h2, h3, h4, h5, h6⟩ := hB.own ho
      refine ⟨h1, ⟨h2, .inr ⟨inv j, b, j, hp, hb, ho, rfl⟩⟩, h3, h4, fun o hf => ?_, h6⟩
      rcases hf with hf | hf
      · exact h5 o hf
      · exact hL _ b ⟨j, hp⟩ hb hd ho o hf
  · obtain ⟨b, hb, rfl, hd⟩ := hsub j c hc
    obtain ⟨b', hb', rfl, hd'⟩ := hsub j' c' hc'
    refine hH.apart _ _ b b' hb hb' hd hd' ho fun e => hne ?_
    have h1 := hinv j (List.getElem?_eq_some_iff.1 hc).1
    have h2 := hinv j' (List.getElem?_eq_some_iff.1 hc').1
    rw [e] at h1
    exact Option.some.inj (h1.symm.trans h2)
  · rcases hf with hf | ⟨id, bb, hl, hb, ho, rfl, h1, h2⟩
    · exact hH.frz b o hf
    · obtain ⟨hn, b2, hb2, hd2⟩ := hS.lentOk id hl
      have : b2 = bb := Option.some.inj (hb2.symm.trans hb)
      subst this
      obtain ⟨cc, t, fr, hB⟩ := hH.blk id b2 hb hd2
      rw [hB.cellAt]
      have : o < cc.size := by have := hB.room; have := hB.len; omega
      simp [this]

theorem MRel.bare {x : AVal} {x' : Value} {F' : Fz} {w' : World} (h : MRel F w x x') (hx : holds1 x = false) : MRel F' w' x x' := by
  cases h with
  | v _ h1 => exact .v _ h1
  | fn f => exact .fn f
  | tree => cases hx
  | nil => cases hx

theorem Shape.join {pos : Nat → Option Nat} {lent : Nat → Prop} {held : Prop} (hS : Shape H blks out H2 pos lent held) (hH : HRel W ρ H F w) (inv : Nat → Nat) (hinv : ∀ j, j < blks.length → pos (inv j) = some j)
    (hA : Adv (CallW W ρ H w pos) (fun j => ρ (inv j)) blks (CallF ρ H F lent) w ρ1 out F1 w1) (h1 : HRel (CallW W ρ H w pos) ρ1 out F1 w1)
    (hbare : held ∨ ∀ (i : Nat) c (j : Nat) r (k : Nat) x, out[i]? = some c → c.elems[j]? = some r → r[k]? = some x → holds1 x = false) :
    Adv W ρ H F w (BackRho ρ ρ1 H.length blks.length pos) H2 (BackF ρ H F F1 lent held) w1 ∧ HRel W (BackRho ρ ρ1 H.length blks.length pos) H2 (BackF ρ H F F1 lent held) w1 := by
  have hFF1 : ∀ b o, F b o → F1 b o := fun b o h => hA.more b o (.inl h)
  have hmore : ∀ b o, F b o → BackF ρ H F F1 lent held b o := fun b o h => ⟨hFF1 b o h, .inr (.inr h)⟩
  have hcells : ∀ b o, F b o → w1.cell? ⟨b, o, none⟩ = w.cell? ⟨b, o, none⟩ := fun b o h => hA.ext.cells b o (.inl h)
  -- the ids
  have hρroot : ∀ id j, pos id = some j → BackRho ρ ρ1 H.length blks.length pos id = ρ1 j := fun id j h => by simp [BackRho, h]
  have hρold : ∀ id, id < H.length → pos id = none → BackRho ρ ρ1 H.length blks.length pos id = ρ id := fun id hid h => by simp [BackRho, h, hid]
  have hposnew : ∀ id, H.length ≤ id → pos id = none := fun id hid => by
    cases h : pos id with
    | none => rfl
    | some j => have := (hS.posLt id j h).1; omega
  have hρnew : ∀ id, H.length ≤ id → BackRho ρ ρ1 H.length blks.length pos id = ρ1 (blks.length + (id - H.length)) := fun id hid => by
    have : ¬ id < H.length := by omega
    simp [BackRho, hposnew id hid, this]
  have hposinv : ∀ id j, pos id = some j → inv j = id := fun id j h => hS.posInj _ _ j (hinv j (hS.posLt id j h).2) h
  -- a block of the caller's own, not handed over, is no block of the callee's
  have hnotW : ∀ (id : Nat) b, H[id]? = some b → b.dead = false → b.own = true → pos id = none → ¬ CallW W ρ H w pos (ρ id).blk := fun id b hb hd ho hp hw => by
    obtain ⟨cc, t, fr, hB⟩ := hH.blk id b hb hd
    rcases hw.2 with hge | ⟨id', b', j, hp', hb', ho', he⟩
    · have := hB.lt; omega
    · have hne : id ≠ id' := fun e => by subst e; rw [hp] at hp'; cases hp'
      exact hH.apart id id' b b' hb hb' hd (hS.blkOk id' j b' hp' hb').2 ho hne he.symm
  have hblkOld : ∀ (id : Nat) b, H[id]? = some b → b.dead = false → pos id = none → ¬ CallW W ρ H w pos (ρ id).blk → w1.heap[(ρ id).blk]? = w.heap[(ρ id).blk]? := fun id b hb hd hp hn => by
    obtain ⟨cc, t, fr, hB⟩ := hH.blk id b hb hd
    exact hA.ext.block _ hB.lt hn
  -- any old block, handed over or not: not in the callee's hands unless it is owned and a root
  have hnotW' : ∀ (id : Nat) b, H[id]? = some b → b.dead = false → pos id = none → ¬ CallW W ρ H w pos (ρ id).blk := fun id b hb hd hp hw => by
    obtain ⟨cc, t, fr, hB⟩ := hH.blk id b hb hd
    rcases hw.2 with hge | ⟨id', b', j, hp', hb', ho', he⟩
    · have := hB.lt; omega
    · have hne : id' ≠ id := fun e => by subst e; rw [hp] at hp'; cases hp'
      exact hH.apart id' id b' b hb' hb (hS.blkOk id' j b' hp' hb').2 hd ho' hne he
  have hLold : ∀ b o, Lent ρ H lent b o → ¬ CallW W ρ H w pos b := fun b o hl hw => by
    obtain ⟨id, bb, hl1, hb, ho, rfl, _⟩ := hl
    obtain ⟨hn, b2, hb2, hd2⟩ := hS.lentOk id hl1
    exact hnotW' id b2 hb2 hd2 hn hw
  -- where F1 is new
  have hF1 : ∀ b o, F1 b o → F b o ∨ Lent ρ H lent b o ∨ CallW W ρ H w pos b := fun b o h => by
    rcases hA.new b o h with (h | h) | h
    · exact .inl h
    · exact .inr (.inl h)
    · exact .inr (.inr h)
  -- the callee's block j, as the caller knows it
  have hcallee : ∀ (j : Nat) c, out[j]? = some c → c.dead = false →
      ∀ (id' : Nat) b', H[id']? = some b' → b'.dead = false → pos id' = none → (b'.own = true ∨ c.own = true) → (ρ1 j).blk ≠ (ρ id').blk := fun j c hc hcd id' b' hb' hd' hp' ho e => by
    have hinW : CallW W ρ H w pos (ρ1 j).blk → False := fun hw => hnotW' id' b' hb' hd' hp' (e ▸ hw)
    rcases ho with ho | ho
    · by_cases hf : ∀ b, blks[j]? = some b → c.g ≠ b.g
      · exact hinW (hA.fresh j c hc hf)
      · have : ∃ b, blks[j]? = some b ∧ c.g = b.g := Classical.byContradiction fun hne => hf fun b hb hg => hne ⟨b, hb, hg⟩
        obtain ⟨b0, hb0, hg0⟩ := this
        obtain ⟨c', hc', _, _, e4⟩ := hA.heap j b0 hb0
        have : c' = c := Option.some.inj (hc'.symm.trans hc)
        subst this
        have hρ := (e4 hg0).1
        have hjlt := (List.getElem?_eq_some_iff.1 hb0).1
        have hp := hinv j hjlt
        have hlt := (hS.posLt _ _ hp).1
        have hroot := hS.blkOk _ j _ hp (List.getElem?_eq_getElem hlt)
        have hne : id' ≠ inv j := fun e => by rw [e, hp] at hp'; cases hp'
        rw [hρ] at e
        exact hH.apart id' (inv j) b' _ hb' (List.getElem?_eq_getElem hlt) hd' hroot.2 ho hne e.symm
    · obtain ⟨cc, t, fr, hB⟩ := h1.blk j c hc hcd
      exact hinW (hB.own ho).2.1
  -- each block of the new heap
  have hsplit : ∀ (id : Nat) b2, H2[id]? = some b2 → (∃ b, id < H.length ∧ pos id = none ∧ H[id]? = some b ∧ b2 = { b with own := b2.own } ∧ (b2.own = b.own ∨ (held ∧ lent id ∧ b2.own = false))) ∨
      (∃ j b c, pos id = some j ∧ H[id]? = some b ∧ out[j]? = some c ∧ b2 = { c with g := b.g + c.g } ∧ BackRho ρ ρ1 H.length blks.length pos id = ρ1 j) ∨
      (∃ j, H.length ≤ id ∧ j = blks.length + (id - H.length) ∧ out[j]? = some b2 ∧ BackRho ρ ρ1 H.length blks.length pos id = ρ1 j) := fun id b2 hb2 => by
    rcases Nat.lt_or_ge id H.length with hid | hid
    · cases hp : pos id with
      | none =>
        obtain ⟨b, h2, h3, h4⟩ := hS.old id b2 hid hp hb2
        exact .inl ⟨b, hid, rfl, h2, h3, h4⟩
      | some j =>
        obtain ⟨b, c, h2, h3, h4⟩ := hS.root id j b2 hp hb2
        exact .inr (.inl ⟨j, b, c, rfl, h2, h3, h4, hρroot id j hp⟩)
    · exact .inr (.inr ⟨_, hid, rfl, hS.new id b2 hid hb2, hρnew id hid⟩)
  have hm1 : ∀ {i : Nat} {c : ABlk} {j : Nat} {r : List AVal} {k : Nat} {x : AVal} {x' : Value}, out[i]? = some c → c.elems[j]? = some r → r[k]? = some x → MRel F1 w1 x x' → MRel (BackF ρ H F F1 lent held) w1 x x' := fun {i c j r k x x'} h2 h3 h4 hm => by
    rcases hbare with hh | hh
    · exact hm.adv (fun b o h => ⟨h, .inl hh⟩) (fun _ _ _ => rfl)
    · exact hm.bare (hh i c j r k x h2 h3 h4)
  -- the callee's own blocks stand in the new relation
  have hBout : ∀ (j : Nat) c, out[j]? = some c → c.dead = false → ∀ g, ∃ cc t fr, BRel W (BackF ρ H F F1 lent held) w1 (ρ1 j) { c with g := g } cc t fr := fun j c hc hcd g => by
    obtain ⟨cc, t, fr, hB⟩ := h1.blk j c hc hcd
    refine ⟨cc, t, fr, hB.obj, hB.room, hB.len, hB.rows, fun i r k x hr hx => ?_, fun ho => ?_, fun ho o hlt => ?_⟩
    · obtain ⟨x', h2, h3⟩ := hB.cell i r k x hr hx
      exact ⟨x', h2, hm1 hc hr hx h3⟩
    · obtain ⟨g1, g2, g3, g4, g5, g6⟩ := hB.own ho
      exact ⟨g1, g2.1, g3, g4, fun o hf => g5 o hf.1, g6⟩
    · have hk := hB.kept ho o hlt
      by_cases hl : Lent ρ H lent (ρ1 j).blk ((ρ1 j).off + o)
      · obtain ⟨id', bb, hl1, hb', ho', he, _⟩ := hl
        obtain ⟨hn, b2, hb2, hd2⟩ := hS.lentOk id' hl1
        have : b2 = bb := Option.some.inj (hb2.symm.trans hb')
        subst this
        exact absurd he (hcallee j c hc hcd id' b2 hb' hd2 hn (.inl ho'))
      · exact ⟨hk, .inr (.inl hl)⟩
  -- the caller's other blocks
  have hBold : ∀ (id : Nat) b (b2 : ABlk), id < H.length → pos id = none → H[id]? = some b → b.dead = false → b2 = { b with own := b2.own } → (b2.own = b.own ∨ (held ∧ lent id ∧ b2.own = false)) → (held → lent id → b2.own = false) →
      ∃ cc t fr, BRel W (BackF ρ H F F1 lent held) w1 (ρ id) b2 cc t fr := fun id b b2 hid hp hb hd e ho hdis => by
    obtain ⟨cc, t, fr, hB⟩ := hH.blk id b hb hd
    have hobj := hblkOld id b hb hd hp (hnotW' id b hb hd hp)
    have e1 : b2.elems = b.elems := by rw [e]
    have e2 : b2.es = b.es := by rw [e]
    have e3 : b2.et = b.et := by rw [e]
    refine ⟨cc, t, fr, hobj.trans hB.obj, hB.room, by rw [e1, e2]; exact hB.len, by rw [e1, e2]; exact hB.rows, fun i r k x hr hx => ?_, fun ho2 => ?_, fun ho2 o hlt => ?_⟩
    · rw [e1] at hr
      obtain ⟨x', h2, h3⟩ := hB.cell i r k x hr hx
      rw [e2]
      exact ⟨x', h2, h3.adv hmore hcells⟩
    · have hbo : b.own = true := by
        rcases ho with ho | ⟨_, _, ho⟩
        · rw [← ho]; exact ho2
        · rw [ho] at ho2; cases ho2
      obtain ⟨g1, g2, g3, g4, g5, g6⟩ := hB.own hbo
      refine ⟨g1, g2, g3, g4, fun o hf => ?_, by rw [e3]; exact g6⟩
      obtain ⟨hf1, hf2⟩ := hf
      rcases hF1 _ _ hf1 with h | h | h
      · exact g5 o h
      · rcases hf2 with hh | hh | hh
        · -- held: the lent block is another one
          obtain ⟨id', bb, hl1, hb', ho', he, _⟩ := h
          obtain ⟨hn, b3, hb3, hd3⟩ := hS.lentOk id' hl1
          have : b3 = bb := Option.some.inj (hb3.symm.trans hb')
          subst this
          by_cases heq : id = id'
          · subst heq
            rw [hdis hh hl1] at ho2
            cases ho2
          · exact hH.apart id id' b b3 hb hb' hd hd3 hbo heq he
        · exact hh h
        · exact g5 o hh
      · exact hnotW id b hb hd hbo hp h
    · rw [e1, e2] at hlt
      cases hbo : b.own with
      | false => exact hmore _ _ (hB.kept hbo o hlt)
      | true =>
        rcases ho with ho | ⟨hh, hl, _⟩
        · rw [hbo, ho2] at ho; cases ho
        · refine ⟨hA.more _ _ (.inr ⟨id, b, hl, hb, hbo, rfl, by omega, by omega⟩), .inl hh⟩
  have hdisAll : ∀ (id : Nat) b2, H2[id]? = some b2 → held → lent id → b2.own = false := fun id b2 hb2 hh hl => hS.oldDis id b2 hh hl hb2
  constructor
  · refine ⟨⟨hA.ext.os, hA.ext.tape, hA.ext.output, hA.ext.size, fun k hk hw => hA.ext.block k hk fun h => hw h.1, hcells⟩, fun id b hb => ?_, hmore, fun b o hf => ?_, fun id b2 hb2 hn => ?_⟩
    · have hid := (List.getElem?_eq_some_iff.1 hb).1
      have hlt2 : id < H2.length := by have := hS.len; omega
      have hb2 : H2[id]? = some H2[id] := List.getElem?_eq_getElem hlt2
      rcases hsplit id _ hb2 with ⟨b', _, hp, hb', e, _⟩ | ⟨j, b', c, hp, hb', hc, e, hρ⟩ | ⟨j, hge, _⟩
      · have : b' = b := Option.some.inj (hb'.symm.trans hb)
        subst this
        refine ⟨_, hb2, by rw [e], by rw [e]; exact Nat.le_refl _, fun _ => ⟨hρold id hid hp, by rw [e], by rw [e]; exact Nat.le_refl _⟩⟩
      · have : b' = b := Option.some.inj (hb'.symm.trans hb)
        subst this
        obtain ⟨hbj, hdb⟩ := hS.blkOk id j b' hp hb
        obtain ⟨c', hc', d1, d2, d3⟩ := hA.heap j _ hbj
        have : c' = c := Option.some.inj (hc'.symm.trans hc)
        subst this
        refine ⟨_, hb2, by rw [e]; exact d1, by rw [e]; simp, fun hg => ?_⟩
        have hg0 : c'.g = 0 := by rw [e] at hg; simp at hg; omega
        obtain ⟨k1, k2, k3⟩ := d3 hg0
        refine ⟨by rw [hρ, k1]; simp only [hposinv id j hp], by rw [e]; exact k2, by rw [e]; exact k3⟩
      · omega
    · rcases hF1 b o hf.1 with h | h | h
      · exact .inl h
      · obtain ⟨id', bb, hl1, hb', ho', rfl, _⟩ := h
        obtain ⟨hn, b3, hb3, hd3⟩ := hS.lentOk id' hl1
        have : b3 = bb := Option.some.inj (hb3.symm.trans hb')
        subst this
        obtain ⟨cc, t, fr, hB⟩ := hH.blk id' b3 hb' hd3
        exact .inr (hB.own ho').2.1
      · exact .inr h.1
    · rcases hsplit id b2 hb2 with ⟨b', _, hp, hb', e, _⟩ | ⟨j, b', c, hp, hb', hc, e, hρ⟩ | ⟨j, hge, hj, hc, hρ⟩
      · exact absurd (by rw [e]) (hn b' hb')
      · rw [hρ]
        refine (hA.fresh j c hc fun bj hbj => ?_).1
        obtain ⟨hbj', _⟩ := hS.blkOk id j b' hp hb'
        have : bj = { b' with g := 0 } := Option.some.inj (hbj.symm.trans hbj')
        subst this
        intro hg
        refine hn b' hb' ?_
        rw [e]
        simp at hg ⊢
        omega
      · rw [hρ]
        refine (hA.fresh j b2 hc fun bj hbj => ?_).1
        have := (List.getElem?_eq_some_iff.1 hbj).1
        omega
  · refine ⟨fun id b2 hb2 hd2 => ?_, fun id id' b b' hb hb' hd hd' ho hne => ?_, fun b o hf => h1.frz b o hf.1, fun k hk => (h1.new k hk).1⟩
    · rcases hsplit id b2 hb2 with ⟨b', hid, hp, hb', e, ho⟩ | ⟨j, b', c, hp, hb', hc, e, hρ⟩ | ⟨j, hge, hj, hc, hρ⟩
      · rw [hρold id hid hp]
        exact hBold id b' b2 hid hp hb' (by rw [e] at hd2; exact hd2) e ho (hdisAll id b2 hb2)
      · rw [hρ, e]
        exact hBout j c hc (by rw [e] at hd2; exact hd2) _
      · rw [hρ]
        exact hBout j b2 hc hd2 b2.g
    · rcases hsplit id b hb with ⟨b1, hid, hp, hb1, e, hoo⟩ | ⟨j, b1, c, hp, hb1, hc, e, hρ⟩ | ⟨j, hge, hj, hc, hρ⟩ <;>
        rcases hsplit id' b' hb' with ⟨b1', hid', hp', hb1', e', hoo'⟩ | ⟨j', b1', c', hp', hb1', hc', e', hρ'⟩ | ⟨j', hge', hj', hc', hρ'⟩
      · rw [hρold id hid hp, hρold id' hid' hp']
        have hbo : b1.own = true := by
          rcases hoo with h | ⟨_, _, h⟩
          · rw [← h]; exact ho
          · rw [h] at ho; cases ho
        exact hH.apart id id' b1 b1' hb1 hb1' (by rw [e] at hd; exact hd) (by rw [e'] at hd'; exact hd') hbo hne
      · have hbo : b1.own = true := by
          rcases hoo with h | ⟨_, _, h⟩
          · rw [← h]; exact ho
          · rw [h] at ho; cases ho
        rw [hρold id hid hp, hρ']
        exact (hcallee j' c' hc' (by rw [e'] at hd'; exact hd') id b1 hb1 (by rw [e] at hd; exact hd) hp (.inl hbo)).symm
      · have hbo : b1.own = true := by
          rcases hoo with h | ⟨_, _, h⟩
          · rw [← h]; exact ho
          · rw [h] at ho; cases ho
        rw [hρold id hid hp, hρ']
        exact (hcallee j' b' hc' hd' id b1 hb1 (by rw [e] at hd; exact hd) hp (.inl hbo)).symm
      · rw [hρ, hρold id' hid' hp']
        exact hcallee j c hc (by rw [e] at hd; exact hd) id' b1' hb1' (by rw [e'] at hd'; exact hd') hp' (.inr (by rw [e] at ho; exact ho))
      · rw [hρ, hρ']
        refine h1.apart j j' c c' hc hc' (by rw [e] at hd; exact hd) (by rw [e'] at hd'; exact hd') (by rw [e] at ho; exact ho) fun h => hne ?_
        subst h
        exact hS.posInj id id' j hp hp'
      · rw [hρ, hρ']
        refine h1.apart j j' c b' hc hc' (by rw [e] at hd; exact hd) hd' (by rw [e] at ho; exact ho) fun h => ?_
        have := (hS.posLt id j hp).2
        omega
      · rw [hρ, hρold id' hid' hp']
        exact hcallee j b hc hd id' b1' hb1' (by rw [e'] at hd'; exact hd') hp' (.inr ho)
      · rw [hρ, hρ']
        refine h1.apart j j' b c' hc hc' hd (by rw [e'] at hd'; exact hd') ho fun h => ?_
        have := (hS.posLt id' j' hp').2
        omega
      · rw [hρ, hρ']
        exact h1.apart j j' b b' hc hc' hd hd' ho fun h => hne (by omega)
end
end Go.Ev

