/- Own work: a part of the proof. -/
import Derived.Test.YtlccibobknidjaaGreatEvEq
set_option linter.unusedVariables false
set_option linter.unusedSimpArgs false
set_option linter.unnecessarySimpa false
set_option linter.unusedSectionVars false
namespace Go.Ev
open Go
def xb6 (P : Program) (f : FuncId) : Prop := ∃ fn, P.funcs[f]? = some fn ∧ fn.body.isSome = true ∧ fn.name ≠ "runtime.NumGoroutine"
def i5 (P : Program) (G : Nat → List Value) (f : FuncId) (S : List b7 → List b8 → DT (b7 × List b8)) : Prop :=
 ∀ (args : List b7) (blks : List b8) (r : b7) (out : List b8), (S args blks).run = some (r, out) →
  ∀ (W : Nat → Prop) (ρ : Rho) (F : Fz) (w : World) (args' : List Value), s5 W ρ blks F w → args.length = args'.length → (∀ (i : Nat) x x', args[i]? = some x → args'[i]? = some x' → z8 ρ blks F w x x') →
   (∀ g (c : Nat) x, (G g)[c]? = some x → x.oneCell' = true ∧ F g c ∧ w.cell? ⟨g, c, none⟩ = some x) →
   xb6 P f ∧ Calls P f args'.toArray w fun e w' => ∃ r', e = .returned r' ∧ L9 W ρ blks F w r out r' w'
section
variable {W : Nat → Prop} {ρ ρ1 : Rho} {H H2 blks out : List b8} {F F1 : Fz} {w w1 : World}
def Ad3 (ρ : Rho) (H : List b8) (lent : Nat → Prop) : Fz := fun b o => ∃ id bb, lent id ∧ H[id]? = some bb ∧ bb.own = true ∧ b = (ρ id).blk ∧ (ρ id).off ≤ o ∧ o < (ρ id).off + bb.elems.length * bb.es
def Jc1 (ρ : Rho) (H : List b8) (F : Fz) (lent : Nat → Prop) : Fz := fun b o => F b o ∨ Ad3 ρ H lent b o
def Qb4 (W : Nat → Prop) (ρ : Rho) (H : List b8) (w : World) (pos : Nat → Option Nat) : Nat → Prop :=
 fun k => W k ∧ (w.heap.size ≤ k ∨ ∃ id b j, pos id = some j ∧ H[id]? = some b ∧ b.own = true ∧ (ρ id).blk = k)
def Ib9 (ρ : Rho) (H : List b8) (F F1 : Fz) (lent : Nat → Prop) (held : Prop) : Fz := fun b o => F1 b o ∧ (held ∨ ¬ Ad3 ρ H lent b o ∨ F b o)
def ha0 (ρ ρ1 : Rho) (n k : Nat) (pos : Nat → Option Nat) : Rho := fun id => match pos id with
 | some j => ρ1 j
 | none => if id < n then ρ id else ρ1 (k + (id - n))
structure Zc7 (H : List b8) (blks out H2 : List b8) (pos : Nat → Option Nat) (lent : Nat → Prop) (held : Prop) : Prop where
 posLt : ∀ id j, pos id = some j → id < H.length ∧ j < blks.length
 posInj : ∀ id id' j, pos id = some j → pos id' = some j → id = id'
 posAll : ∀ j, j < blks.length → ∃ id, pos id = some j
 blkOk : ∀ (id j : Nat) b, pos id = some j → H[id]? = some b → blks[j]? = some { b with g := 0 } ∧ b.dead = false
 lentOk : ∀ id, lent id → pos id = none ∧ ∃ b, H[id]? = some b ∧ b.dead = false
 outLen : blks.length ≤ out.length
 old : ∀ (id : Nat) b2, id < H.length → pos id = none → H2[id]? = some b2 → ∃ b, H[id]? = some b ∧ b2 = { b with own := b2.own } ∧ (b2.own = b.own ∨ (held ∧ lent id ∧ b2.own = false))
 oldDis : ∀ (id : Nat) b2, held → lent id → H2[id]? = some b2 → b2.own = false
 root : ∀ (id j : Nat) b2, pos id = some j → H2[id]? = some b2 → ∃ b c, H[id]? = some b ∧ out[j]? = some c ∧ b2 = { c with g := b.g + c.g }
 new : ∀ (id : Nat) b2, H.length ≤ id → H2[id]? = some b2 → out[blks.length + (id - H.length)]? = some b2
 len : H2.length = H.length + (out.length - blks.length)
theorem Zc7.start {pos : Nat → Option Nat} {lent : Nat → Prop} {held : Prop} (hS : Zc7 H blks out H2 pos lent held) (hH : s5 W ρ H F w) (inv : Nat → Nat) (hinv : ∀ j, j < blks.length → pos (inv j) = some j) :
  s5 (Qb4 W ρ H w pos) (fun j => ρ (inv j)) blks (Jc1 ρ H F lent) w := by
 have hsub : ∀ (j : Nat) c, blks[j]? = some c → ∃ b, H[inv j]? = some b ∧ c = { b with g := 0 } ∧ b.dead = false := fun j c hc => by
  have hj := (List.getElem?_eq_some_iff.1 hc).1
  have hp := hinv j hj
  have hlt := (hS.posLt _ _ hp).1
  obtain ⟨h1, h2⟩ := hS.blkOk _ j _ hp (List.getElem?_eq_getElem hlt)
  exact ⟨H[inv j], List.getElem?_eq_getElem hlt, Option.some.inj (hc.symm.trans h1), h2⟩
 have hL : ∀ (id : Nat) b, (∃ j, pos id = some j) → H[id]? = some b → b.dead = false → b.own = true → ∀ o, ¬ Ad3 ρ H lent (ρ id).blk o := fun id b hj hb hd ho o hl => by
  obtain ⟨id', bb, hl1, hb', ho', he, _⟩ := hl
  obtain ⟨hn, b2, hb2, hd2⟩ := hS.lentOk id' hl1
  have : b2 = bb := Option.some.inj (hb2.symm.trans hb')
  subst this
  have hne : id ≠ id' := fun e => by subst e; obtain ⟨j, hj⟩ := hj; rw [hn] at hj; cases hj
  exact hH.apart id id' b b2 hb hb' hd hd2 ho hne he
 refine ⟨fun j c hc _ => ?_, fun j j' c c' hc hc' _ _ ho hne => ?_, fun b o hf => ?_, fun k hk => ⟨hH.new k hk, .inl hk⟩⟩
 ·obtain ⟨b, hb, rfl, hd⟩ := hsub j c hc
  have hp := hinv j (List.getElem?_eq_some_iff.1 hc).1
  obtain ⟨cc, t, fr, hB⟩ := hH.blk _ b hb hd
  refine ⟨cc, t, fr, hB.obj, hB.room, hB.len, hB.rows, fun i r k x hr hx => ?_, fun ho => ?_, fun ho o hlt => .inl (hB.kept ho o hlt)⟩
  ·obtain ⟨x', h1, h2⟩ := hB.cell i r k x hr hx
   exact ⟨x', h1, h2.adv (fun _ _ h => .inl h) (fun _ _ _ => rfl)⟩
  ·obtain ⟨h1, h2, h3, h4, h5, h6⟩ := hB.own ho
   refine ⟨h1, ⟨h2, .inr ⟨inv j, b, j, hp, hb, ho, rfl⟩⟩, h3, h4, fun o hf => ?_, h6⟩
   rcases hf with hf | hf
   ·exact h5 o hf
   ·exact hL _ b ⟨j, hp⟩ hb hd ho o hf
 ·obtain ⟨b, hb, rfl, hd⟩ := hsub j c hc
  obtain ⟨b', hb', rfl, hd'⟩ := hsub j' c' hc'
  refine hH.apart _ _ b b' hb hb' hd hd' ho fun e => hne ?_
  have h1 := hinv j (List.getElem?_eq_some_iff.1 hc).1
  have h2 := hinv j' (List.getElem?_eq_some_iff.1 hc').1
  rw [e] at h1
  exact Option.some.inj (h1.symm.trans h2)
 ·rcases hf with hf | ⟨id, bb, hl, hb, ho, rfl, h1, h2⟩
  ·exact hH.frz b o hf
  ·obtain ⟨hn, b2, hb2, hd2⟩ := hS.lentOk id hl
   have : b2 = bb := Option.some.inj (hb2.symm.trans hb)
   subst this
   obtain ⟨cc, t, fr, hB⟩ := hH.blk id b2 hb hd2
   rw [hB.cellAt]
   have : o < cc.size := by have := hB.room; have := hB.len; omega
   simp [this]
theorem U0.bare {x : b7} {x' : Value} {F' : Fz} {w' : World} (h : U0 F w x x') (hx : Ba5 x = false) : U0 F' w' x x' := by
 cases h with
 | v _ h1 => exact .v _ h1
 | fn f => exact .fn f
 | tree => cases hx
 | nil => cases hx
theorem Zc7.join {pos : Nat → Option Nat} {lent : Nat → Prop} {held : Prop} (hS : Zc7 H blks out H2 pos lent held) (hH : s5 W ρ H F w) (inv : Nat → Nat) (hinv : ∀ j, j < blks.length → pos (inv j) = some j)
  (hA : Adv (Qb4 W ρ H w pos) (fun j => ρ (inv j)) blks (Jc1 ρ H F lent) w ρ1 out F1 w1) (h1 : s5 (Qb4 W ρ H w pos) ρ1 out F1 w1)
  (hbare : held ∨ ∀ (i : Nat) c (j : Nat) r (k : Nat) x, out[i]? = some c → c.elems[j]? = some r → r[k]? = some x → Ba5 x = false) :
  Adv W ρ H F w (ha0 ρ ρ1 H.length blks.length pos) H2 (Ib9 ρ H F F1 lent held) w1 ∧ s5 W (ha0 ρ ρ1 H.length blks.length pos) H2 (Ib9 ρ H F F1 lent held) w1 := by
 have hFF1 : ∀ b o, F b o → F1 b o := fun b o h => hA.more b o (.inl h)
 have hmore : ∀ b o, F b o → Ib9 ρ H F F1 lent held b o := fun b o h => ⟨hFF1 b o h, .inr (.inr h)⟩
 have hcells : ∀ b o, F b o → w1.cell? ⟨b, o, none⟩ = w.cell? ⟨b, o, none⟩ := fun b o h => hA.ext.cells b o (.inl h)
 -- the ids
 have hρroot : ∀ id j, pos id = some j → ha0 ρ ρ1 H.length blks.length pos id = ρ1 j := fun id j h => by simp [ha0, h]
 have hρold : ∀ id, id < H.length → pos id = none → ha0 ρ ρ1 H.length blks.length pos id = ρ id := fun id hid h => by simp [ha0, h, hid]
 have hposnew : ∀ id, H.length ≤ id → pos id = none := fun id hid => by
  cases h : pos id with
  | none => rfl
  | some j => have := (hS.posLt id j h).1; omega
 have hρnew : ∀ id, H.length ≤ id → ha0 ρ ρ1 H.length blks.length pos id = ρ1 (blks.length + (id - H.length)) := fun id hid => by
  have : ¬ id < H.length := by omega
  simp [ha0, hposnew id hid, this]
 have hposinv : ∀ id j, pos id = some j → inv j = id := fun id j h => hS.posInj _ _ j (hinv j (hS.posLt id j h).2) h
 -- a block of the caller's own, not handed over, is no block of the callee's
 have hnotW : ∀ (id : Nat) b, H[id]? = some b → b.dead = false → b.own = true → pos id = none → ¬ Qb4 W ρ H w pos (ρ id).blk := fun id b hb hd ho hp hw => by
  obtain ⟨cc, t, fr, hB⟩ := hH.blk id b hb hd
  rcases hw.2 with hge | ⟨id', b', j, hp', hb', ho', he⟩
  ·have := hB.lt; omega
  ·have hne : id ≠ id' := fun e => by subst e; rw [hp] at hp'; cases hp'
   exact hH.apart id id' b b' hb hb' hd (hS.blkOk id' j b' hp' hb').2 ho hne he.symm
 have hblkOld : ∀ (id : Nat) b, H[id]? = some b → b.dead = false → pos id = none → ¬ Qb4 W ρ H w pos (ρ id).blk → w1.heap[(ρ id).blk]? = w.heap[(ρ id).blk]? := fun id b hb hd hp hn => by
  obtain ⟨cc, t, fr, hB⟩ := hH.blk id b hb hd
  exact hA.ext.block _ hB.lt hn
 -- any old block, handed over or not: not in the callee's hands unless it is owned and a root
 have hnotW' : ∀ (id : Nat) b, H[id]? = some b → b.dead = false → pos id = none → ¬ Qb4 W ρ H w pos (ρ id).blk := fun id b hb hd hp hw => by
  obtain ⟨cc, t, fr, hB⟩ := hH.blk id b hb hd
  rcases hw.2 with hge | ⟨id', b', j, hp', hb', ho', he⟩
  ·have := hB.lt; omega
  ·have hne : id' ≠ id := fun e => by subst e; rw [hp] at hp'; cases hp'
   exact hH.apart id' id b' b hb' hb (hS.blkOk id' j b' hp' hb').2 hd ho' hne he
 have hLold : ∀ b o, Ad3 ρ H lent b o → ¬ Qb4 W ρ H w pos b := fun b o hl hw => by
  obtain ⟨id, bb, hl1, hb, ho, rfl, _⟩ := hl
  obtain ⟨hn, b2, hb2, hd2⟩ := hS.lentOk id hl1
  exact hnotW' id b2 hb2 hd2 hn hw
 -- where F1 is new
 have hF1 : ∀ b o, F1 b o → F b o ∨ Ad3 ρ H lent b o ∨ Qb4 W ρ H w pos b := fun b o h => by
  rcases hA.new b o h with (h | h) | h
  ·exact .inl h
  ·exact .inr (.inl h)
  ·exact .inr (.inr h)
 -- the callee's block j, as the caller knows it
 have hcallee : ∀ (j : Nat) c, out[j]? = some c → c.dead = false →
   ∀ (id' : Nat) b', H[id']? = some b' → b'.dead = false → pos id' = none → (b'.own = true ∨ c.own = true) → (ρ1 j).blk ≠ (ρ id').blk := fun j c hc hcd id' b' hb' hd' hp' ho e => by
  have hinW : Qb4 W ρ H w pos (ρ1 j).blk → False := fun hw => hnotW' id' b' hb' hd' hp' (e ▸ hw)
  rcases ho with ho | ho
  ·by_cases hf : ∀ b, blks[j]? = some b → c.g ≠ b.g
   ·exact hinW (hA.fresh j c hc hf)
   ·have : ∃ b, blks[j]? = some b ∧ c.g = b.g := Classical.byContradiction fun hne => hf fun b hb hg => hne ⟨b, hb, hg⟩
    obtain ⟨b0, hb0, hg0⟩ := this
    obtain ⟨c', hc', _, _, e4⟩ := hA.heap j b0 hb0
    have : c' = c := Option.some.inj (hc'.symm.trans hc)
    subst this
    have hρ := (e4 hg0).1
    have hjlt := (List.getElem?_eq_some_iff.1 hb0).1
    have hp := hinv j hjlt
    have hlt := (hS.posLt _ _ hp).1
    have hroot := hS.blkOk _ j _ hp (List.getElem?_eq_getElem hlt)
    have hne : id' ≠ inv j := fun e => by rw [e, hp] at hp'; cases hp'
    rw [hρ] at e
    exact hH.apart id' (inv j) b' _ hb' (List.getElem?_eq_getElem hlt) hd' hroot.2 ho hne e.symm
  ·obtain ⟨cc, t, fr, hB⟩ := h1.blk j c hc hcd
   exact hinW (hB.own ho).2.1
 -- each block of the new heap
 have hsplit : ∀ (id : Nat) b2, H2[id]? = some b2 → (∃ b, id < H.length ∧ pos id = none ∧ H[id]? = some b ∧ b2 = { b with own := b2.own } ∧ (b2.own = b.own ∨ (held ∧ lent id ∧ b2.own = false))) ∨
   (∃ j b c, pos id = some j ∧ H[id]? = some b ∧ out[j]? = some c ∧ b2 = { c with g := b.g + c.g } ∧ ha0 ρ ρ1 H.length blks.length pos id = ρ1 j) ∨
   (∃ j, H.length ≤ id ∧ j = blks.length + (id - H.length) ∧ out[j]? = some b2 ∧ ha0 ρ ρ1 H.length blks.length pos id = ρ1 j) := fun id b2 hb2 => by
  rcases Nat.lt_or_ge id H.length with hid | hid
  ·cases hp : pos id with
   | none =>
    obtain ⟨b, h2, h3, h4⟩ := hS.old id b2 hid hp hb2
    exact .inl ⟨b, hid, rfl, h2, h3, h4⟩
   | some j =>
    obtain ⟨b, c, h2, h3, h4⟩ := hS.root id j b2 hp hb2
    exact .inr (.inl ⟨j, b, c, rfl, h2, h3, h4, hρroot id j hp⟩)
  ·exact .inr (.inr ⟨_, hid, rfl, hS.new id b2 hid hb2, hρnew id hid⟩)
 have hm1 : ∀ {i : Nat} {c : b8} {j : Nat} {r : List b7} {k : Nat} {x : b7} {x' : Value}, out[i]? = some c → c.elems[j]? = some r → r[k]? = some x → U0 F1 w1 x x' → U0 (Ib9 ρ H F F1 lent held) w1 x x' := fun {i c j r k x x'} h2 h3 h4 hm => by
  rcases hbare with hh | hh
  ·exact hm.adv (fun b o h => ⟨h, .inl hh⟩) (fun _ _ _ => rfl)
  ·exact hm.bare (hh i c j r k x h2 h3 h4)
 -- the callee's own blocks stand in the new relation
 have hBout : ∀ (j : Nat) c, out[j]? = some c → c.dead = false → ∀ g, ∃ cc t fr, ic9 W (Ib9 ρ H F F1 lent held) w1 (ρ1 j) { c with g := g } cc t fr := fun j c hc hcd g => by
  obtain ⟨cc, t, fr, hB⟩ := h1.blk j c hc hcd
  refine ⟨cc, t, fr, hB.obj, hB.room, hB.len, hB.rows, fun i r k x hr hx => ?_, fun ho => ?_, fun ho o hlt => ?_⟩
  ·obtain ⟨x', h2, h3⟩ := hB.cell i r k x hr hx
   exact ⟨x', h2, hm1 hc hr hx h3⟩
  ·obtain ⟨g1, g2, g3, g4, g5, g6⟩ := hB.own ho
   exact ⟨g1, g2.1, g3, g4, fun o hf => g5 o hf.1, g6⟩
  ·have hk := hB.kept ho o hlt
   by_cases hl : Ad3 ρ H lent (ρ1 j).blk ((ρ1 j).off + o)
   ·obtain ⟨id', bb, hl1, hb', ho', he, _⟩ := hl
    obtain ⟨hn, b2, hb2, hd2⟩ := hS.lentOk id' hl1
    have : b2 = bb := Option.some.inj (hb2.symm.trans hb')
    subst this
    exact absurd he (hcallee j c hc hcd id' b2 hb' hd2 hn (.inl ho'))
   ·exact ⟨hk, .inr (.inl hl)⟩
 -- the caller's other blocks
 have hBold : ∀ (id : Nat) b (b2 : b8), id < H.length → pos id = none → H[id]? = some b → b.dead = false → b2 = { b with own := b2.own } → (b2.own = b.own ∨ (held ∧ lent id ∧ b2.own = false)) → (held → lent id → b2.own = false) →
   ∃ cc t fr, ic9 W (Ib9 ρ H F F1 lent held) w1 (ρ id) b2 cc t fr := fun id b b2 hid hp hb hd e ho hdis => by
  obtain ⟨cc, t, fr, hB⟩ := hH.blk id b hb hd
  have hobj := hblkOld id b hb hd hp (hnotW' id b hb hd hp)
  have e1 : b2.elems = b.elems := by rw [e]
  have e2 : b2.es = b.es := by rw [e]
  have e3 : b2.et = b.et := by rw [e]
  refine ⟨cc, t, fr, hobj.trans hB.obj, hB.room, by rw [e1, e2]; exact hB.len, by rw [e1, e2]; exact hB.rows, fun i r k x hr hx => ?_, fun ho2 => ?_, fun ho2 o hlt => ?_⟩
  ·rw [e1] at hr
   obtain ⟨x', h2, h3⟩ := hB.cell i r k x hr hx
   rw [e2]
   exact ⟨x', h2, h3.adv hmore hcells⟩
  ·have hbo : b.own = true := by
    rcases ho with ho | ⟨_, _, ho⟩
    ·rw [← ho]; exact ho2
    ·rw [ho] at ho2; cases ho2
   obtain ⟨g1, g2, g3, g4, g5, g6⟩ := hB.own hbo
   refine ⟨g1, g2, g3, g4, fun o hf => ?_, by rw [e3]; exact g6⟩
   obtain ⟨hf1, hf2⟩ := hf
   rcases hF1 _ _ hf1 with h | h | h
   ·exact g5 o h
   ·rcases hf2 with hh | hh | hh
    ·-- held: the lent block is another one
     obtain ⟨id', bb, hl1, hb', ho', he, _⟩ := h
     obtain ⟨hn, b3, hb3, hd3⟩ := hS.lentOk id' hl1
     have : b3 = bb := Option.some.inj (hb3.symm.trans hb')
     subst this
     by_cases heq : id = id'
     ·subst heq
      rw [hdis hh hl1] at ho2
      cases ho2
     ·exact hH.apart id id' b b3 hb hb' hd hd3 hbo heq he
    ·exact hh h
    ·exact g5 o hh
   ·exact hnotW id b hb hd hbo hp h
  ·rw [e1, e2] at hlt
   cases hbo : b.own with
   | false => exact hmore _ _ (hB.kept hbo o hlt)
   | true =>
    rcases ho with ho | ⟨hh, hl, _⟩
    ·rw [hbo, ho2] at ho; cases ho
    ·refine ⟨hA.more _ _ (.inr ⟨id, b, hl, hb, hbo, rfl, by omega, by omega⟩), .inl hh⟩
 have hdisAll : ∀ (id : Nat) b2, H2[id]? = some b2 → held → lent id → b2.own = false := fun id b2 hb2 hh hl => hS.oldDis id b2 hh hl hb2
 constructor
 ·refine ⟨⟨hA.ext.os, hA.ext.tape, hA.ext.output, hA.ext.size, fun k hk hw => hA.ext.block k hk fun h => hw h.1, hcells, hA.ext.drawn⟩, fun id b hb => ?_, hmore, fun b o hf => ?_, fun id b2 hb2 hn => ?_⟩
  ·have hid := (List.getElem?_eq_some_iff.1 hb).1
   have hlt2 : id < H2.length := by have := hS.len; omega
   have hb2 : H2[id]? = some H2[id] := List.getElem?_eq_getElem hlt2
   rcases hsplit id _ hb2 with ⟨b', _, hp, hb', e, _⟩ | ⟨j, b', c, hp, hb', hc, e, hρ⟩ | ⟨j, hge, _⟩
   ·have : b' = b := Option.some.inj (hb'.symm.trans hb)
    subst this
    refine ⟨_, hb2, by rw [e], by rw [e]; exact Nat.le_refl _, fun _ => ⟨hρold id hid hp, by rw [e], by rw [e]; exact Nat.le_refl _⟩⟩
   ·have : b' = b := Option.some.inj (hb'.symm.trans hb)
    subst this
    obtain ⟨hbj, hdb⟩ := hS.blkOk id j b' hp hb
    obtain ⟨c', hc', d1, d2, d3⟩ := hA.heap j _ hbj
    have : c' = c := Option.some.inj (hc'.symm.trans hc)
    subst this
    refine ⟨_, hb2, by rw [e]; exact d1, by rw [e]; simp, fun hg => ?_⟩
    have hg0 : c'.g = 0 := by rw [e] at hg; simp at hg; omega
    obtain ⟨k1, k2, k3⟩ := d3 hg0
    refine ⟨by rw [hρ, k1]; simp only [hposinv id j hp], by rw [e]; exact k2, by rw [e]; exact k3⟩
   ·omega
  ·rcases hF1 b o hf.1 with h | h | h
   ·exact .inl h
   ·obtain ⟨id', bb, hl1, hb', ho', rfl, _⟩ := h
    obtain ⟨hn, b3, hb3, hd3⟩ := hS.lentOk id' hl1
    have : b3 = bb := Option.some.inj (hb3.symm.trans hb')
    subst this
    obtain ⟨cc, t, fr, hB⟩ := hH.blk id' b3 hb' hd3
    exact .inr (hB.own ho').2.1
   ·exact .inr h.1
  ·rcases hsplit id b2 hb2 with ⟨b', _, hp, hb', e, _⟩ | ⟨j, b', c, hp, hb', hc, e, hρ⟩ | ⟨j, hge, hj, hc, hρ⟩
   ·exact absurd (by rw [e]) (hn b' hb')
   ·rw [hρ]
    refine (hA.fresh j c hc fun bj hbj => ?_).1
    obtain ⟨hbj', _⟩ := hS.blkOk id j b' hp hb'
    have : bj = { b' with g := 0 } := Option.some.inj (hbj.symm.trans hbj')
    subst this
    intro hg
    refine hn b' hb' ?_
    rw [e]
    simp at hg ⊢
    omega
   ·rw [hρ]
    refine (hA.fresh j b2 hc fun bj hbj => ?_).1
    have := (List.getElem?_eq_some_iff.1 hbj).1
    omega
 ·refine ⟨fun id b2 hb2 hd2 => ?_, fun id id' b b' hb hb' hd hd' ho hne => ?_, fun b o hf => h1.frz b o hf.1, fun k hk => (h1.new k hk).1⟩
  ·rcases hsplit id b2 hb2 with ⟨b', hid, hp, hb', e, ho⟩ | ⟨j, b', c, hp, hb', hc, e, hρ⟩ | ⟨j, hge, hj, hc, hρ⟩
   ·rw [hρold id hid hp]
    exact hBold id b' b2 hid hp hb' (by rw [e] at hd2; exact hd2) e ho (hdisAll id b2 hb2)
   ·rw [hρ, e]
    exact hBout j c hc (by rw [e] at hd2; exact hd2) _
   ·rw [hρ]
    exact hBout j b2 hc hd2 b2.g
  ·rcases hsplit id b hb with ⟨b1, hid, hp, hb1, e, hoo⟩ | ⟨j, b1, c, hp, hb1, hc, e, hρ⟩ | ⟨j, hge, hj, hc, hρ⟩ <;>
    rcases hsplit id' b' hb' with ⟨b1', hid', hp', hb1', e', hoo'⟩ | ⟨j', b1', c', hp', hb1', hc', e', hρ'⟩ | ⟨j', hge', hj', hc', hρ'⟩
   ·rw [hρold id hid hp, hρold id' hid' hp']
    have hbo : b1.own = true := by
     rcases hoo with h | ⟨_, _, h⟩
     ·rw [← h]; exact ho
     ·rw [h] at ho; cases ho
    exact hH.apart id id' b1 b1' hb1 hb1' (by rw [e] at hd; exact hd) (by rw [e'] at hd'; exact hd') hbo hne
   ·have hbo : b1.own = true := by
     rcases hoo with h | ⟨_, _, h⟩
     ·rw [← h]; exact ho
     ·rw [h] at ho; cases ho
    rw [hρold id hid hp, hρ']
    exact (hcallee j' c' hc' (by rw [e'] at hd'; exact hd') id b1 hb1 (by rw [e] at hd; exact hd) hp (.inl hbo)).symm
   ·have hbo : b1.own = true := by
     rcases hoo with h | ⟨_, _, h⟩
     ·rw [← h]; exact ho
     ·rw [h] at ho; cases ho
    rw [hρold id hid hp, hρ']
    exact (hcallee j' b' hc' hd' id b1 hb1 (by rw [e] at hd; exact hd) hp (.inl hbo)).symm
   ·rw [hρ, hρold id' hid' hp']
    exact hcallee j c hc (by rw [e] at hd; exact hd) id' b1' hb1' (by rw [e'] at hd'; exact hd') hp' (.inr (by rw [e] at ho; exact ho))
   ·rw [hρ, hρ']
    refine h1.apart j j' c c' hc hc' (by rw [e] at hd; exact hd) (by rw [e'] at hd'; exact hd') (by rw [e] at ho; exact ho) fun h => hne ?_
    subst h
    exact hS.posInj id id' j hp hp'
   ·rw [hρ, hρ']
    refine h1.apart j j' c b' hc hc' (by rw [e] at hd; exact hd) hd' (by rw [e] at ho; exact ho) fun h => ?_
    have := (hS.posLt id j hp).2
    omega
   ·rw [hρ, hρold id' hid' hp']
    exact hcallee j b hc hd id' b1' hb1' (by rw [e'] at hd'; exact hd') hp' (.inr ho)
   ·rw [hρ, hρ']
    refine h1.apart j j' b c' hc hc' hd (by rw [e'] at hd'; exact hd') ho fun h => ?_
    have := (hS.posLt id' j' hp').2
    omega
   ·rw [hρ, hρ']
    exact h1.apart j j' b b' hc hc' hd hd' ho fun h => hne (by omega)
end
end Go.Ev
namespace Go.Ev
open Go
section
variable {W : Nat → Prop} {ρ ρ1 : Rho} {H H2 blks out : List b8} {F F1 : Fz} {w w1 : World}
theorem Va3 : ∀ (l : List Nat) (k id j : Nat), La9 id k l = some j → k ≤ j ∧ l[j - k]? = some id
 | [], k, id, j, h => by simp [La9] at h
 | x :: l, k, id, j, h => by
  simp only [La9] at h
  cases hb : Nat.beq x id with
  | true =>
   simp only [hb] at h
   injection h with h
   subst h
   have := Nat.eq_of_beq_eq_true hb
   simp [this]
  | false =>
   simp only [hb] at h
   obtain ⟨h1, h2⟩ := Va3 l (k + 1) id j h
   refine ⟨by omega, ?_⟩
   rw [show j - k = (j - (k + 1)) + 1 by omega]
   simpa using h2
theorem Va4 : ∀ (l : List Nat) (k id : Nat), La9 id k l = none → id ∉ l
 | [], k, id, _ => by simp
 | x :: l, k, id, h => by
  simp only [La9] at h
  cases hb : Nat.beq x id with
  | true => simp [hb] at h
  | false =>
   simp only [hb] at h
   have h1 := Va4 l (k + 1) id h
   have := Nat.ne_of_beq_eq_false hb
   simp [h1]
   exact fun h => this h.symm
noncomputable def gb7 (roots : List Nat) (id : Nat) : Option Nat := La9 id 0 roots
theorem ra1 {roots : List Nat} {id j : Nat} (h : gb7 roots id = some j) : roots[j]? = some id := by
 have := (Va3 roots 0 id j h).2
 simpa using this
theorem pc8 {roots : List Nat} {id j : Nat} (hn : roots.Nodup) (h : roots[j]? = some id) : gb7 roots id = some j := by
 cases hp : gb7 roots id with
 | none => exact absurd (List.mem_of_getElem? h) (Va4 roots 0 id hp)
 | some j' =>
  have h' := ra1 hp
  have hj := (List.getElem?_eq_some_iff.1 h)
  have hj' := (List.getElem?_eq_some_iff.1 h')
  obtain ⟨a1, a2⟩ := hj
  obtain ⟨b1, b2⟩ := hj'
  have := (List.getElem_inj hn).1 (b2.trans a2.symm)
  rw [this]
theorem pc9 {roots r : List Nat} {id j : Nat} (hn : roots.Nodup) (h : qa8 roots id = (j, r)) : r[j]? = some id ∧ r.Nodup ∧ (∀ (i : Nat) y, roots[i]? = some y → r[i]? = some y) ∧ ∀ y ∈ r, y ∈ roots ∨ y = id := by
 unfold qa8 at h
 split at h
 ·rename_i j' hj
  injection h with e1 e2
  subst e1 e2
  exact ⟨ra1 hj, hn, fun _ _ h => h, fun y hy => .inl hy⟩
 ·rename_i hj
  have hnm := Va4 roots 0 id hj
  rw [l6, C0] at h
  injection h with e1 e2
  subst e1 e2
  refine ⟨by simp, ?_, fun i y hy => ?_, fun y hy => ?_⟩
  ·rw [List.nodup_append]
   exact ⟨hn, by simp, fun a ha b hb => by simp at hb; subst hb; exact fun e => hnm (e ▸ ha)⟩
  ·rw [List.getElem?_append_left (List.getElem?_eq_some_iff.1 hy).1]; exact hy
  ·simpa using hy
structure Ya7 (H : List b8) (p : pa3) : Prop where
 nodup : p.roots.Nodup
 live : ∀ id ∈ p.roots, ∃ b, H[id]? = some b ∧ b.dead = false
 lent : ∀ id ∈ p.lent, ∃ b, H[id]? = some b ∧ b.dead = false
def Ra9 (p q : pa3) : Prop := (∀ (i : Nat) y, p.roots[i]? = some y → q.roots[i]? = some y) ∧ ∀ y ∈ p.lent, y ∈ q.lent
theorem Ra9.refl (p : pa3) : Ra9 p p := ⟨fun _ _ h => h, fun _ h => h⟩
theorem Ra9.trans {p q r : pa3} (h : Ra9 p q) (k : Ra9 q r) : Ra9 p r := ⟨fun i y hy => k.1 i y (h.1 i y hy), fun y hy => k.2 y (h.2 y hy)⟩
inductive PrC (H : List b8) (p : pa3) : b7 → b7 → Prop
 | v (u : Value) : PrC H p (.v u) (.v u)
 | ptr (id i c g j : Nat) (b : b8) (hb : blkAt H id g = some b) (hj : p.roots[j]? = some id) : PrC H p (.ptr id i c g) (.ptr j i c 0)
 | tree (es n : Nat) (get : Nat → List b7) : PrC H p (.tree es n get) (.tree es n get)
 | tptr (cs : List b7) : PrC H p (.tptr cs) (.tptr cs)
 | lend (id off n g : Nat) (b : b8) (hb : blkAt H id g = some b) (hl : id ∈ p.lent) : PrC H p (.sl id off n g) (wb0 b off n)
 | fn (f : FuncId) : PrC H p (.fn f []) (.fn f [])
inductive PrV (H : List b8) (p : pa3) : b7 → b7 → Prop
 | cell {x z : b7} (h : PrC H p x z) : PrV H p x z
 | agg (cs ds : List b7) (hl : ds.length = cs.length) (h : ∀ (i : Nat) x z, cs[i]? = some x → ds[i]? = some z → PrC H p x z) : PrV H p (.agg cs) (.agg ds)
 | fn (f : FuncId) (cs ds : List b7) (hl : ds.length = cs.length) (h : ∀ (i : Nat) x z, cs[i]? = some x → ds[i]? = some z → PrC H p x z) : PrV H p (.fn f cs) (.fn f ds)
 | sl (id n g j : Nat) (b : b8) (hb : blkAt H id g = some b) (hj : p.roots[j]? = some id) : PrV H p (.sl id 0 n g) (.sl j 0 n 0)
theorem PrC.le {p q : pa3} {x z : b7} (h : PrC H p x z) (hle : Ra9 p q) : PrC H q x z := by
 cases h with
 | v u => exact .v u
 | ptr id i c g j b hb hj => exact .ptr id i c g j b hb (hle.1 _ _ hj)
 | tree es n get => exact .tree es n get
 | tptr cs => exact .tptr cs
 | lend id off n g b hb hl => exact .lend id off n g b hb (hle.2 _ hl)
 | fn f => exact .fn f
theorem PrV.le {p q : pa3} {x z : b7} (h : PrV H p x z) (hle : Ra9 p q) : PrV H q x z := by
 cases h with
 | cell h => exact .cell (h.le hle)
 | agg cs ds hl h => exact .agg cs ds hl fun i x z hx hz => (h i x z hx hz).le hle
 | fn f cs ds hl h => exact .fn f cs ds hl fun i x z hx hz => (h i x z hx hz).le hle
 | sl id n g j b hb hj => exact .sl id n g j b hb (hle.1 _ _ hj)
theorem Zb2 {p q : pa3} {x z : b7} (hp : Ya7 H p) (h : capArg H p x = some (z, q)) : Ya7 H q ∧ Ra9 p q ∧ PrC H q x z := by
 unfold capArg at h
 split at h
 ·injection h with h; injection h with e1 e2; subst e1 e2; exact ⟨hp, .refl p, .v _⟩
 ·rename_i id i c g
  cases hb : blkAt H id g with
  | none => simp [hb] at h
  | some b =>
  obtain ⟨hb1, hb2, hb3⟩ := r9 hb
  simp only [hb] at h
  cases hi : qa8 p.roots id with
  | mk j r =>
  simp only [hi] at h
  injection h with h; injection h with e1 e2; subst e1 e2
  obtain ⟨h1, h2, h3, h4⟩ := pc9 hp.nodup hi
  refine ⟨⟨h2, fun y hy => ?_, hp.lent⟩, ⟨h3, fun y hy => hy⟩, .ptr id i c g j b hb h1⟩
  rcases h4 y hy with h | rfl
  ·exact hp.live y h
  ·exact ⟨b, hb1, hb2⟩
 ·injection h with h; injection h with e1 e2; subst e1 e2; exact ⟨hp, .refl p, .tree _ _ _⟩
 ·injection h with h; injection h with e1 e2; subst e1 e2; exact ⟨hp, .refl p, .tptr _⟩
 ·rename_i id off n g
  cases hb : blkAt H id g with
  | none => simp [hb] at h
  | some b =>
  obtain ⟨hb1, hb2, hb3⟩ := r9 hb
  simp only [hb] at h
  injection h with h; injection h with e1 e2; subst e1 e2
  refine ⟨⟨hp.nodup, hp.live, fun y hy => ?_⟩, ⟨fun _ _ h => h, fun y hy => by simp [hy]⟩, .lend id off n g b hb (by simp)⟩
  rcases List.mem_cons.1 hy with rfl | hy
  ·exact ⟨b, hb1, hb2⟩
  ·exact hp.lent y hy
 ·injection h with h; injection h with e1 e2; subst e1 e2; exact ⟨hp, .refl p, .fn _⟩
 ·cases h
theorem Lb7 : ∀ {xs zs : List b7} {p q : pa3}, Ya7 H p → capArgs H p xs = some (zs, q) → Ya7 H q ∧ Ra9 p q ∧ zs.length = xs.length ∧ ∀ (i : Nat) x z, xs[i]? = some x → zs[i]? = some z → PrC H q x z
 | [], zs, p, q, hp, h => by
  simp only [capArgs] at h
  injection h with h; injection h with e1 e2; subst e1 e2
  exact ⟨hp, .refl p, rfl, fun i x z hx => by simp at hx⟩
 | x :: xs, zs, p, q, hp, h => by
  simp only [capArgs] at h
  cases h1 : capArg H p x with
  | none => simp [h1] at h
  | some yq =>
  obtain ⟨y, p1⟩ := yq
  simp only [h1] at h
  cases h2 : capArgs H p1 xs with
  | none => simp [h2] at h
  | some lq =>
  obtain ⟨l, p2⟩ := lq
  simp only [h2] at h
  injection h with h; injection h with e1 e2; subst e1 e2
  obtain ⟨a1, a2, a3⟩ := Zb2 hp h1
  obtain ⟨b1, b2, b3, b4⟩ := Lb7 a1 h2
  refine ⟨b1, a2.trans b2, by simp [b3], fun i u z hu hz => ?_⟩
  cases i with
  | zero => simp at hu hz; subst hu hz; exact a3.le b2
  | succ i => exact b4 i u z (by simpa using hu) (by simpa using hz)
theorem md7 {p q : pa3} {own : Bool} {x z : b7} (hp : Ya7 H p) (h : prepArg H own p x = some (z, q)) : Ya7 H q ∧ Ra9 p q ∧ PrV H q x z := by
 unfold prepArg at h
 split at h
 ·injection h with h; injection h with e1 e2; subst e1 e2; exact ⟨hp, .refl p, .cell (.v _)⟩
 ·rename_i id off n g
  split at h
  ·cases hb : blkAt H id g with
   | none => simp [hb] at h
   | some b =>
   obtain ⟨hb1, hb2, hb3⟩ := r9 hb
   simp only [hb] at h
   cases hc : Nat.beq off 0 with
   | false => simp [hc] at h
   | true =>
   simp only [hc] at h
   have h0 := Nat.eq_of_beq_eq_true hc
   subst h0
   cases hi : qa8 p.roots id with
   | mk j r =>
   simp only [hi] at h
   injection h with h; injection h with e1 e2; subst e1 e2
   obtain ⟨h1, h2, h3, h4⟩ := pc9 hp.nodup hi
   refine ⟨⟨h2, fun y hy => ?_, hp.lent⟩, ⟨h3, fun y hy => hy⟩, .sl id n g j b hb h1⟩
   rcases h4 y hy with h | rfl
   ·exact hp.live y h
   ·exact ⟨b, hb1, hb2⟩
  ·obtain ⟨a1, a2, a3⟩ := Zb2 hp h
   exact ⟨a1, a2, .cell a3⟩
 ·cases h1 : capArgs H p _ with
  | none => rw [h1] at h; cases h
  | some lq =>
  obtain ⟨l, p2⟩ := lq
  rw [h1] at h
  injection h with h; injection h with e1 e2; subst e1 e2
  obtain ⟨b1, b2, b3, b4⟩ := Lb7 hp h1
  exact ⟨b1, b2, .agg _ _ b3 b4⟩
 ·cases h1 : capArgs H p _ with
  | none => rw [h1] at h; cases h
  | some lq =>
  obtain ⟨l, p2⟩ := lq
  rw [h1] at h
  injection h with h; injection h with e1 e2; subst e1 e2
  obtain ⟨b1, b2, b3, b4⟩ := Lb7 hp h1
  exact ⟨b1, b2, .fn _ _ _ b3 b4⟩
 ·obtain ⟨a1, a2, a3⟩ := Zb2 hp h
  exact ⟨a1, a2, .cell a3⟩
theorem xb7 {own : Nat → Bool} : ∀ {xs zs : List b7} {p q : pa3} {k : Nat}, Ya7 H p → prepArgs H own p k xs = some (zs, q) → Ya7 H q ∧ Ra9 p q ∧ zs.length = xs.length ∧ ∀ (i : Nat) x z, xs[i]? = some x → zs[i]? = some z → PrV H q x z
 | [], zs, p, q, k, hp, h => by
  simp only [prepArgs] at h
  injection h with h; injection h with e1 e2; subst e1 e2
  exact ⟨hp, .refl p, rfl, fun i x z hx => by simp at hx⟩
 | x :: xs, zs, p, q, k, hp, h => by
  simp only [prepArgs] at h
  cases h1 : prepArg H (own k) p x with
  | none => simp [h1] at h
  | some yq =>
  obtain ⟨y, p1⟩ := yq
  simp only [h1] at h
  cases h2 : prepArgs H own p1 (k + 1) xs with
  | none => simp [h2] at h
  | some lq =>
  obtain ⟨l, p2⟩ := lq
  simp only [h2] at h
  injection h with h; injection h with e1 e2; subst e1 e2
  obtain ⟨a1, a2, a3⟩ := md7 hp h1
  obtain ⟨b1, b2, b3, b4⟩ := xb7 a1 h2
  refine ⟨b1, a2.trans b2, by simp [b3], fun i u z hu hz => ?_⟩
  cases i with
  | zero => simp at hu hz; subst hu hz; exact a3.le b2
  | succ i => exact b4 i u z (by simpa using hu) (by simpa using hz)
theorem Xa6 : ∀ {roots : List Nat} {blks : List b8}, blksAt H roots = some blks → blks.length = roots.length ∧ ∀ (j : Nat) id, roots[j]? = some id → ∃ b, H[id]? = some b ∧ blks[j]? = some { b with g := 0 }
 | [], blks, h => by
  simp only [blksAt] at h
  injection h with h; subst h
  exact ⟨rfl, fun j id h => by simp at h⟩
 | id :: roots, blks, h => by
  simp only [blksAt, y6] at h
  cases hb : H[id]? with
  | none => simp [hb] at h
  | some b =>
  simp only [hb] at h
  cases hr : blksAt H roots with
  | none => simp [hr] at h
  | some l =>
  simp only [hr] at h
  injection h with h; subst h
  obtain ⟨h1, h2⟩ := Xa6 hr
  refine ⟨by simp [h1], fun j id' hj => ?_⟩
  cases j with
  | zero => simp at hj; subst hj; exact ⟨b, hb, rfl⟩
  | succ j => exact h2 j id' (by simpa using hj)
theorem PrC.rel {p : pa3} {x z : b7} {x' : Value} (hH : s5 W ρ H F w) (hbl : blksAt H p.roots = some blks) (inv : Nat → Nat) (hinv : ∀ (j : Nat) id, p.roots[j]? = some id → inv j = id)
  (h : PrC H p x z) (hx : U2 ρ H F w x x') : U2 (fun j => ρ (inv j)) blks (Jc1 ρ H F (· ∈ p.lent)) w z x' := by
 obtain ⟨hl, hat⟩ := Xa6 hbl
 have hmore : ∀ b o, F b o → Jc1 ρ H F (· ∈ p.lent) b o := fun b o h => .inl h
 cases h with
 | v u =>
  have := Z1 (.val (.cell hx))
  subst this
  exact .v _
 | ptr id i c g j b hb hj =>
  obtain ⟨ad, b', e, hb1, hd1, hg1, hh⟩ := Ea3 (.val (.cell hx))
  obtain ⟨hb2, hd2, hg2⟩ := r9 hb
  have : b' = b := Option.some.inj (hb1.symm.trans hb2)
  subst this
  obtain ⟨b3, hb3, hb4⟩ := hat j id hj
  have : b3 = b' := Option.some.inj (hb3.symm.trans hb1)
  subst this
  rw [e]
  refine .ptr j i c 0 ad _ hb4 hd1 (Nat.zero_le _) fun _ => ?_
  rw [hh hg2]
  simp only [hinv j id hj]
 | tree es n get =>
  have ht := ra0 (.val (.cell hx))
  exact .mem (ht.adv hmore fun _ _ _ => rfl)
 | tptr cs =>
  obtain ⟨ad, vs, e, hs, hF, hw, hr⟩ := mb1 (.val (.cell hx))
  rw [e]
  exact .tptr cs ad vs hs (fun c hc => hmore _ _ (hF c hc)) hw fun c hc => (hr c hc).adv hmore fun _ _ _ => rfl
 | lend id off n g b hb hl =>
  obtain ⟨hb2, hd2, hg2⟩ := r9 hb
  refine .mem (Zb0 hH hb (.val (.cell hx)) hmore fun o ho => ?_)
  obtain ⟨cc, t, fr, hB⟩ := hH.blk id b hb2 hd2
  cases hown : b.own with
  | false => exact .inl (hB.kept hown o ho)
  | true => exact .inr ⟨id, b, hl, hb2, hown, rfl, by omega, by omega⟩
 | fn f =>
  cases hx with
  | mem h => cases h; exact .mem (.fn f)
theorem PrV.rel {p : pa3} {x z : b7} {x' : Value} (hH : s5 W ρ H F w) (hbl : blksAt H p.roots = some blks) (inv : Nat → Nat) (hinv : ∀ (j : Nat) id, p.roots[j]? = some id → inv j = id)
  (h : PrV H p x z) (hx : z8 ρ H F w x x') : z8 (fun j => ρ (inv j)) blks (Jc1 ρ H F (· ∈ p.lent)) w z x' := by
 obtain ⟨hl, hat⟩ := Xa6 hbl
 cases h with
 | cell h =>
  have hc : U2 ρ H F w x x' ∨ ∃ f, x = .fn f [] ∧ z = .fn f [] := by
   cases hx with
   | val hx => cases hx with
    | cell hx => exact .inl hx
    | agg => cases h
    | fn f caps vs hl h' => cases h; exact .inr ⟨_, rfl, rfl⟩
   | tup => cases h
  rcases hc with hc | ⟨f, rfl, rfl⟩
  ·exact .val (.cell (h.rel hH hbl inv hinv hc))
  ·obtain ⟨vs, e, hl, _⟩ := pb1 hx
   have : vs = #[] := by simpa using hl.symm
   rw [e, this]
   exact .val (.cell (.mem (.fn f)))
 | agg cs ds hl2 h =>
  obtain ⟨vs, e, hl3, h3⟩ := Aa2 hx
  rw [e]
  exact .val (.agg ds vs (hl2.trans hl3) fun i y y' hy hy' => by
   have hi : i < cs.length := hl2 ▸ (List.getElem?_eq_some_iff.1 hy).1
   exact (h i _ y (List.getElem?_eq_getElem hi) hy).rel hH hbl inv hinv (h3 i _ y' (List.getElem?_eq_getElem hi) hy'))
 | fn f cs ds hl2 h =>
  obtain ⟨vs, e, hl3, h3⟩ := pb1 hx
  rw [e]
  exact .val (.fn f ds vs (hl2.trans hl3) fun i y y' hy hy' => by
   have hi : i < cs.length := hl2 ▸ (List.getElem?_eq_some_iff.1 hy).1
   exact (h i _ y (List.getElem?_eq_getElem hi) hy).rel hH hbl inv hinv (h3 i _ y' (List.getElem?_eq_getElem hi) hy'))
 | sl id n g j b hb hj =>
  obtain ⟨ad, cap, b', e, hb1, hd1, hg1, hn1, hs1, hm1, hh⟩ := Ba7 hx
  obtain ⟨hb2, hd2, hg2⟩ := r9 hb
  have : b' = b := Option.some.inj (hb1.symm.trans hb2)
  subst this
  obtain ⟨b3, hb3, hb4⟩ := hat j id hj
  have : b3 = b' := Option.some.inj (hb3.symm.trans hb1)
  subst this
  rw [e]
  refine .val (.cell (.sl j 0 n 0 ad cap _ hb4 hd1 (Nat.zero_le _) hn1 hs1 hm1 fun _ => ?_))
  have := hh hg2
  simpa only [hinv j id hj] using this
end
end Go.Ev
namespace Go.Ev
open Go
section
variable {W : Nat → Prop} {ρ ρ1 : Rho} {H H2 blks out : List b8} {F F1 : Fz} {w w1 : World}
theorem Zc8 (H : List b8) (id : Nat) (f : b8 → b8) (b : b8) (hb : H[id]? = some b) : modAt H id f = H.set id (f b) := by
 simp [modAt, y6, hb, z6]
theorem Jc2 (H : List b8) (id : Nat) (f : b8 → b8) : (modAt H id f).length = H.length := by
 unfold modAt
 split
 ·rw [z6]; simp
 ·rfl
theorem qc0 : ∀ {roots : List Nat} {H out H2 : List b8}, roots.Nodup → (∀ id ∈ roots, id < H.length) → putBack H roots out = some H2 →
  roots.length ≤ out.length ∧ H2.length = H.length + (out.length - roots.length) ∧
  (∀ (j : Nat) id, roots[j]? = some id → ∃ b c, H[id]? = some b ∧ out[j]? = some c ∧ H2[id]? = some { c with g := b.g + c.g }) ∧
  (∀ id, id < H.length → id ∉ roots → H2[id]? = H[id]?) ∧ ∀ i, H2[H.length + i]? = out[roots.length + i]?
 | [], H, out, H2, _, _, h => by
  have h2 : H2 = H ++ out := by
   cases out with
   | nil => simp [putBack] at h; simp [h]
   | cons c out => simp [putBack, C0] at h; exact h.symm
  subst h2
  refine ⟨by simp, by simp, fun j id h => by simp at h, fun id hid _ => List.getElem?_append_left hid, fun i => ?_⟩
  rw [List.getElem?_append_right (by omega)]
  simp
 | id :: roots, H, [], H2, _, _, h => by simp [putBack] at h
 | id :: roots, H, c :: out, H2, hn, hlt, h => by
  simp only [putBack] at h
  have hid := hlt id (by simp)
  have hb := List.getElem?_eq_getElem hid
  rw [Zc8 H id _ _ hb] at h
  obtain ⟨hn1, hn2⟩ := List.nodup_cons.1 hn
  obtain ⟨h1, h2, h3, h4, h5⟩ := qc0 hn2 (fun id' h' => by simp; exact hlt id' (by simp [h'])) h
  simp only [List.length_set] at h2 h4 h5
  refine ⟨by simp; omega, by simp only [List.length_cons]; omega, fun j id' hj => ?_, fun id' hid' hni => ?_, fun i => ?_⟩
  ·cases j with
   | zero =>
    simp at hj
    subst hj
    refine ⟨_, c, hb, rfl, ?_⟩
    rw [h4 id hid hn1, List.getElem?_set_self hid]
   | succ j =>
    obtain ⟨b', c', g1, g2, g3⟩ := h3 j id' (by simpa using hj)
    have hne : id ≠ id' := fun e => by subst e; exact hn1 (List.mem_of_getElem? (by simpa using hj))
    rw [List.getElem?_set_ne hne] at g1
    exact ⟨b', c', g1, by simpa using g2, g3⟩
  ·have hne : id ≠ id' := fun e => hni (by simp [e])
   rw [h4 id' hid' (fun h => hni (by simp [h])), List.getElem?_set_ne hne]
  ·rw [h5 i]
   simp only [List.length_cons]
   rw [show roots.length + 1 + i = (roots.length + i) + 1 by omega]
   simp
theorem gb8 (id : Nat) (lent : List Nat) (held : Bool) (H : List b8) : settle (id :: lent) held H = if held then disown (settle lent held H) id else settle lent held H := by
 have e : settle (id :: lent) held H = modAt (settle lent held H) id fun b => { b with own := Bool.rec b.own false held } := rfl
 rw [e]
 cases held with
 | true => rfl
 | false =>
  show modAt (settle lent false H) id (fun b => b) = settle lent false H
  unfold modAt
  rw [y6]
  cases h : (settle lent false H)[id]? with
  | none => rfl
  | some b =>
   show setAt (settle lent false H) id b = _
   rw [z6]
   apply List.ext_getElem?
   intro i
   rw [List.getElem?_set]
   split
   ·next hi =>
    subst hi
    rw [h]
    split
    ·rfl
    ·next hn => rw [List.getElem?_eq_none (by omega)] at h; cases h
   ·rfl
theorem Jc3 (held : Bool) (H : List b8) : ∀ (lent : List Nat), (settle lent held H).length = H.length ∧
  ∀ (id : Nat) b2, (settle lent held H)[id]? = some b2 → ∃ b, H[id]? = some b ∧ b2 = { b with own := b2.own } ∧ (b2.own = b.own ∨ (held = true ∧ id ∈ lent ∧ b2.own = false)) ∧ (held = true → id ∈ lent → b2.own = false)
 | [] => ⟨rfl, fun id b2 h => ⟨b2, h, rfl, .inl rfl, fun _ h => by simp at h⟩⟩
 | l :: lent => by
  obtain ⟨h1, h2⟩ := Jc3 held H lent
  rw [gb8]
  cases held with
  | false =>
   simp only [Bool.false_eq_true, if_false]
   refine ⟨h1, fun id b2 hb => ?_⟩
   obtain ⟨b, g1, g2, g3, g4⟩ := h2 id b2 hb
   refine ⟨b, g1, g2, ?_, fun h => by cases h⟩
   rcases g3 with g3 | ⟨g3, _⟩
   ·exact .inl g3
   ·cases g3
  | true =>
   simp only [if_true]
   refine ⟨by simp [disown, Jc2, h1], fun id b2 hb => ?_⟩
   by_cases hl : l = id
   ·subst hl
    have hlt : l < (settle lent true H).length := by
     have := (List.getElem?_eq_some_iff.1 hb).1
     simpa [disown, Jc2] using this
    have hg := List.getElem?_eq_getElem hlt
    obtain ⟨b, g1, g2, g3, g4⟩ := h2 l _ hg
    unfold disown at hb
    rw [Zc8 _ l _ _ hg, List.getElem?_set_self hlt] at hb
    injection hb with hb
    subst hb
    exact ⟨b, g1, by rw [g2], .inr ⟨trivial, List.mem_cons_self, rfl⟩, fun _ _ => rfl⟩
   ·have hb' : (settle lent true H)[id]? = some b2 := by
     unfold disown modAt at hb
     split at hb
     ·rwa [z6, List.getElem?_set_ne hl] at hb
     ·exact hb
    obtain ⟨b, g1, g2, g3, g4⟩ := h2 id b2 hb'
    refine ⟨b, g1, g2, ?_, fun h hm => ?_⟩
    ·rcases g3 with g3 | ⟨g3, g5, g6⟩
     ·exact .inl g3
     ·exact .inr ⟨trivial, List.mem_cons_of_mem _ g5, g6⟩
    ·rcases List.mem_cons.1 hm with h' | h'
     ·exact absurd h'.symm hl
     ·exact g4 rfl h'
theorem Zb3 : ∀ {l r : List Nat}, Ya3 l r = true → ∀ x ∈ l, x ∉ r
 | [], _, _, x, hx => by simp at hx
 | y :: l, r, h, x, hx => by
  have h' : (Bool.rec (Ya3 l r) false (Na0 y r) : Bool) = true := h
  cases hm : Na0 y r with
  | true => rw [hm] at h'; cases h'
  | false =>
   rw [hm] at h'
   rcases List.mem_cons.1 hx with rfl | hx
   ·rw [Rd3] at hm; simpa using hm
   ·exact Zb3 h' x hx
theorem Zc9 {p : pa3} {held : Bool} (hp : Ya7 H p) (hbl : blksAt H p.roots = some blks) (hap : Ya3 p.lent p.roots = true) (hpb : putBack H p.roots out = some H2) :
  Zc7 H blks out (settle p.lent held H2) (gb7 p.roots) (· ∈ p.lent) (held = true) := by
 obtain ⟨hl, hat⟩ := Xa6 hbl
 have hlt : ∀ id ∈ p.roots, id < H.length := fun id hid => by
  obtain ⟨b, hb, _⟩ := hp.live id hid
  exact (List.getElem?_eq_some_iff.1 hb).1
 obtain ⟨g1, g2, g3, g4, g5⟩ := qc0 hp.nodup hlt hpb
 obtain ⟨s1, s2⟩ := Jc3 held H2 p.lent
 have hnone : ∀ id, gb7 p.roots id = none → id ∉ p.roots := fun id h => Va4 _ _ _ h
 have hnot : ∀ id, id ∈ p.lent → gb7 p.roots id = none := fun id hid => by
  cases h : gb7 p.roots id with
  | none => rfl
  | some j => exact absurd (List.mem_of_getElem? (ra1 h)) (Zb3 hap id hid)
 refine ⟨fun id j h => ?_, fun id id' j h h' => ?_, fun j hj => ?_, fun id j b h hb => ?_, fun id h => ⟨hnot id h, hp.lent id h⟩, by omega, fun id b2 hid hn hb2 => ?_, fun id b2 hh hm hb2 => ?_, fun id j b2 h hb2 => ?_, fun id b2 hge hb2 => ?_, by rw [s1, g2, hl]⟩
 ·have h1 := ra1 h
  exact ⟨hlt id (List.mem_of_getElem? h1), by rw [hl]; exact (List.getElem?_eq_some_iff.1 h1).1⟩
 ·have h1 := ra1 h
  have h2 := ra1 h'
  exact Option.some.inj (h1.symm.trans h2)
 ·rw [hl] at hj
  exact ⟨p.roots[j], pc8 hp.nodup (List.getElem?_eq_getElem hj)⟩
 ·have h1 := ra1 h
  obtain ⟨b', hb', hb2⟩ := hat j id h1
  have : b' = b := Option.some.inj (hb'.symm.trans hb)
  subst this
  obtain ⟨b3, hb3, hd3⟩ := hp.live id (List.mem_of_getElem? h1)
  have : b3 = b' := Option.some.inj (hb3.symm.trans hb)
  subst this
  exact ⟨hb2, hd3⟩
 ·obtain ⟨b, k1, k2, k3, _⟩ := s2 id b2 hb2
  rw [g4 id hid (hnone id hn)] at k1
  refine ⟨b, k1, k2, ?_⟩
  rcases k3 with k3 | ⟨a1, a2, a3⟩
  ·exact .inl k3
  ·exact .inr ⟨a1, a2, a3⟩
 ·obtain ⟨b, k1, k2, k3, k4⟩ := s2 id b2 hb2
  exact k4 hh hm
 ·have h1 := ra1 h
  obtain ⟨b, c, k1, k2, k3⟩ := g3 j id h1
  obtain ⟨b', m1, m2, m3, _⟩ := s2 id b2 hb2
  have : b' = { c with g := b.g + c.g } := Option.some.inj (m1.symm.trans k3)
  subst this
  refine ⟨b, c, k1, k2, ?_⟩
  rcases m3 with m3 | ⟨_, m4, _⟩
  ·rw [m2, m3]
  ·exact absurd (hnot id m4) (by rw [h]; simp)
 ·obtain ⟨b', m1, m2, m3, _⟩ := s2 id b2 hb2
  have e : id = H.length + (id - H.length) := by omega
  rw [e, g5] at m1
  rw [hl]
  rcases m3 with m3 | ⟨_, m4, _⟩
  ·have : b2 = b' := by rw [m2, m3]
   rw [this]; exact m1
  ·obtain ⟨b3, hb3, _⟩ := hp.lent id m4
   have := (List.getElem?_eq_some_iff.1 hb3).1
   omega
def Pc2 : b7 → Bool
 | .agg _ | .tup _ | .fn _ _ => false
 | _ => true
theorem Jc4 {p : pa3} {held : Bool} (hp : Ya7 H p) (hbl : blksAt H p.roots = some blks) (hap : Ya3 p.lent p.roots = true) (hpb : putBack H p.roots out = some H2) {j g id g' : Nat} {c : b8} (hc : out[j]? = some c)
  (hid : backId H p.roots j g = (id, g')) : ∃ b2, (settle p.lent held H2)[id]? = some b2 ∧ (∃ n, b2 = { c with g := n + c.g } ∧ g' = n + g) ∧ ha0 ρ ρ1 H.length blks.length (gb7 p.roots) id = ρ1 j := by
 have hS := Zc9 (held := held) hp hbl hap hpb
 obtain ⟨hl, hat⟩ := Xa6 hbl
 unfold backId at hid
 rw [y6] at hid
 cases hr : p.roots[j]? with
 | some id0 =>
  obtain ⟨b, hb, _⟩ := hat j id0 hr
  simp only [hr, y6, hb] at hid
  injection hid with e1 e2
  subst e1 e2
  have hpos := pc8 hp.nodup hr
  have hlt2 : id0 < (settle p.lent held H2).length := by have := hS.len; have := (hS.posLt id0 j hpos).1; omega
  obtain ⟨b', c', k1, k2, k3⟩ := hS.root id0 j _ hpos (List.getElem?_eq_getElem hlt2)
  have : b' = b := Option.some.inj (k1.symm.trans hb)
  subst this
  have : c' = c := Option.some.inj (k2.symm.trans hc)
  subst this
  exact ⟨_, List.getElem?_eq_getElem hlt2, ⟨b'.g, k3, rfl⟩, by simp [ha0, hpos]⟩
 | none =>
  simp only [hr, l6] at hid
  injection hid with e1 e2
  subst e1 e2
  have hjl := (List.getElem?_eq_some_iff.1 hc).1
  have hjge : p.roots.length ≤ j := by
   rcases Nat.lt_or_ge j p.roots.length with h | h
   ·rw [List.getElem?_eq_getElem h] at hr; cases hr
   ·exact h
  have hlt2 : H.length + (j - p.roots.length) < (settle p.lent held H2).length := by have := hS.len; omega
  have hn := hS.new _ _ (by omega) (List.getElem?_eq_getElem hlt2)
  have e : blks.length + (H.length + (j - p.roots.length) - H.length) = j := by omega
  rw [e] at hn
  have hbc := Option.some.inj (hn.symm.trans hc)
  refine ⟨_, List.getElem?_eq_getElem hlt2, ⟨0, by rw [hbc]; simp, by simp⟩, ?_⟩
  have hnn : gb7 p.roots (H.length + (j - p.roots.length)) = none := by
   cases h : gb7 p.roots (H.length + (j - p.roots.length)) with
   | none => rfl
   | some j' => have := (hS.posLt _ _ h).1; omega
  have hnl : ¬ (H.length + (j - p.roots.length) < H.length) := by omega
  simp only [ha0, hnn, if_neg hnl]
  rw [e]
section
variable {p : pa3} {held : Bool} (hp : Ya7 H p) (hbl : blksAt H p.roots = some blks) (hap : Ya3 p.lent p.roots = true) (hpb : putBack H p.roots out = some H2)
include hp hbl hap hpb
theorem Zb4 {x : b7} {x' : Value} (hx : U2 ρ1 out F1 w1 x x') (hh : held = true ∨ Ba5 x = false) :
  U2 (ha0 ρ ρ1 H.length blks.length (gb7 p.roots)) (settle p.lent held H2) (Ib9 ρ H F F1 (· ∈ p.lent) (held = true)) w1 (backC H p.roots x) x' := by
 have hm : ∀ {y y'}, U0 F1 w1 y y' → (held = true ∨ Ba5 y = false) → U0 (Ib9 ρ H F F1 (· ∈ p.lent) (held = true)) w1 y y' := fun {y y'} h hh => by
  rcases hh with hh | hh
  ·exact h.adv (fun b o h => ⟨h, .inl hh⟩) (fun _ _ _ => rfl)
  ·exact h.bare hh
 cases hx with
 | mem h =>
  cases h with
  | v u h1 => exact .v _
  | fn f => exact .mem (.fn f)
  | tree es n get ad cap cs hs hcap hes hF hw hr =>
   have hh' : held = true := hh.resolve_right (by simp [Ba5])
   exact .mem (hm (.tree es n get ad cap cs hs hcap hes hF hw hr) (.inl hh'))
  | nil es get => exact .mem (.nil es get)
 | v u => exact .v _
 | ptr id i c g ad b hb hd hg h =>
  simp only [backC]
  cases hid : backId H p.roots id g with
  | mk id2 g2 =>
  obtain ⟨b2, k1, ⟨n, k2, k3⟩, k4⟩ := Jc4 (ρ := ρ) (ρ1 := ρ1) (held := held) hp hbl hap hpb hb hid
  refine .ptr id2 i c g2 ad b2 k1 (by rw [k2]; exact hd) (by rw [k2, k3]; simp; exact hg) fun hge => ?_
  rw [k4, h (by rw [k2, k3] at hge; simp at hge; omega), k2]
 | sl id off n g ad cap b hb hd hg hn hs hcm h =>
  simp only [backC]
  cases hid : backId H p.roots id g with
  | mk id2 g2 =>
  obtain ⟨b2, k1, ⟨m, k2, k3⟩, k4⟩ := Jc4 (ρ := ρ) (ρ1 := ρ1) (held := held) hp hbl hap hpb hb hid
  refine .sl id2 off n g2 ad cap b2 k1 (by rw [k2]; exact hd) (by rw [k2, k3]; simp; exact hg) hn hs hcm fun hge => ?_
  have := h (by rw [k2, k3] at hge; simp at hge; omega)
  rw [k4, k2]
  exact this
 | tptr cs ad vs hs hF hw hr =>
  have hh' : held = true := hh.resolve_right (by simp [Ba5])
  exact .tptr cs ad vs hs (fun c hc => ⟨hF c hc, .inl hh'⟩) hw fun c hc => hm (hr c hc) (.inl hh')
 | unk x' => exact .unk _
theorem Gd4 {x : b7} {x' : Value} (hx : W0 ρ1 out F1 w1 x x') (hh : held = true ∨ ua8 x = false) :
  W0 (ha0 ρ ρ1 H.length blks.length (gb7 p.roots)) (settle p.lent held H2) (Ib9 ρ H F F1 (· ∈ p.lent) (held = true)) w1 (backVal1 H p.roots x) x' := by
 have hbar : ∀ {y : b7}, Pc2 y = true → backVal1 H p.roots y = backC H p.roots y ∧ ua8 y = Ba5 y := fun {y} h => by
  cases y with
  | agg => cases h
  | tup => cases h
  | fn => cases h
  | _ => exact ⟨rfl, rfl⟩
 cases hx with
 | cell h =>
  by_cases hb : Pc2 x = true
  ·obtain ⟨e1, e2⟩ := hbar hb
   rw [e1]
   exact .cell (Zb4 hp hbl hap hpb h (e2 ▸ hh))
  ·cases h with
   | mem h => cases h with
    | fn f => exact .cell (.mem (.fn f))
    | _ => exact absurd rfl hb
   | _ => exact absurd rfl hb
 | agg cs vs hl h =>
  show W0 _ _ _ _ (.agg (l0 (backC H p.roots) cs)) _
  rw [l8]
  refine .agg _ vs (by simpa using hl) fun i x x' hx hx' => ?_
  simp only [List.getElem?_map, Option.map_eq_some_iff] at hx
  obtain ⟨y, hy, rfl⟩ := hx
  refine Zb4 hp hbl hap hpb (h i y x' hy hx') (hh.imp id fun hh => ?_)
  have hh' : cs.any Ba5 = false := hh
  rw [List.any_eq_false] at hh'
  simpa using hh' y (List.mem_of_getElem? hy)
 | fn f caps vs hl h =>
  show W0 _ _ _ _ (.fn f (l0 (backC H p.roots) caps)) _
  rw [l8]
  refine .fn f _ vs (by simpa using hl) fun i x x' hx hx' => ?_
  simp only [List.getElem?_map, Option.map_eq_some_iff] at hx
  obtain ⟨y, hy, rfl⟩ := hx
  have hc := h i y x' hy hx'
  refine Zb4 hp hbl hap hpb hc (hh.imp id fun hh => ?_)
  have hh' : caps.any Fd5 = false := hh
  rw [List.any_eq_false] at hh'
  have := hh' y (List.mem_of_getElem? hy)
  cases y with
  | fn f l => cases hc with
   | mem h => cases h; rfl
  | tree => exact absurd rfl this
  | tptr => exact absurd rfl this
  | _ => rfl
theorem fe8 {x : b7} {x' : Value} (hx : z8 ρ1 out F1 w1 x x') (hh : held = true ∨ ua8 x = false) :
  z8 (ha0 ρ ρ1 H.length blks.length (gb7 p.roots)) (settle p.lent held H2) (Ib9 ρ H F F1 (· ∈ p.lent) (held = true)) w1 (backVal H p.roots x) x' := by
 cases hx with
 | val h =>
  have e : backVal H p.roots x = backVal1 H p.roots x ∨ ∃ vs, x = .tup vs := by
   cases x with
   | tup vs => exact .inr ⟨vs, rfl⟩
   | _ => exact .inl rfl
  rcases e with e | ⟨vs, rfl⟩
  ·rw [e]
   exact .val (Gd4 hp hbl hap hpb h hh)
  ·cases h with
   | cell h => cases h with
    | mem h => cases h
 | tup xs vs hl h =>
  show z8 _ _ _ _ (.tup (l0 (backVal1 H p.roots) xs)) _
  rw [l8]
  refine .tup _ vs (by simpa using hl) fun i x x' hx hx' => ?_
  simp only [List.getElem?_map, Option.map_eq_some_iff] at hx
  obtain ⟨y, hy, rfl⟩ := hx
  refine Gd4 hp hbl hap hpb (h i y x' hy hx') (hh.imp id fun hh => ?_)
  have hh' : xs.any ld1 = false := hh
  rw [List.any_eq_false] at hh'
  have := hh' y (List.mem_of_getElem? hy)
  have e : ua8 y = ld1 y ∨ ∃ l, y = .tup l := by
   cases y with
   | tup l => exact .inr ⟨l, rfl⟩
   | _ => exact .inl rfl
  rcases e with e | ⟨l, rfl⟩
  ·rw [e]; simpa using this
  ·cases h i _ x' hy hx' with
   | cell h => cases h with
    | mem h => cases h
end
end
end Go.Ev
namespace Go.Ev
open Go
section
variable {W : Nat → Prop} {ρ : Rho} {H H' : List b8} {F : Fz} {w : World} {E : Env}
theorem qc1 (hH : s5 W ρ H F w) (hG : GOk E F w) {f : FuncId} (hcall : i5 E.P E.G f (E.call f)) {args : List b7} {args' : List Value} {x : b7} (hlen : args.length = args'.length)
  (hargs : ∀ (i : Nat) x x', args[i]? = some x → args'[i]? = some x' → z8 ρ H F w x x') (he : (callA E f args H).run = some (x, H')) :
  xb6 E.P f ∧ Calls E.P f args'.toArray w fun e w' => ∃ x', e = .returned x' ∧ L9 W ρ H F w x H' x' w' := by
 unfold callA at he
 cases hpr : prepArgs H (E.own f) { roots := [], lent := [] } 0 args with
 | none => rw [hpr] at he; cases he
 | some q =>
 obtain ⟨args2, p⟩ := q
 rw [hpr] at he
 simp only at he
 obtain ⟨hp, _, hl2, hPr⟩ := xb7 (H := H) (p := { roots := [], lent := [] }) ⟨List.nodup_nil, fun id h => by simp at h, fun id h => by simp at h⟩ hpr
 cases hbl : blksAt H p.roots with
 | none => rw [hbl] at he; cases he
 | some blks =>
 cases hap : Ya3 p.lent p.roots with
 | false => rw [hbl, hap] at he; cases he
 | true =>
 rw [hbl, hap] at he
 simp only at he
 obtain ⟨⟨r, out⟩, hc, he⟩ := DT.run_bind_some he
 simp only at he
 cases hpb : putBack H p.roots out with
 | none => rw [hpb] at he; cases he
 | some H2 =>
 rw [hpb] at he
 simp only at he
 generalize hheld : (ua8 r || out.any wb2) = held at he
 have he' : some (backVal H p.roots r, settle p.lent held H2) = some (x, H') := he
 injection he' with he'; injection he' with e1 e2
 have hS := Zc9 (held := held) hp hbl hap hpb
 let inv : Nat → Nat := fun j => (p.roots[j]?).getD 0
 have hinv1 : ∀ (j : Nat) id, p.roots[j]? = some id → inv j = id := fun j id h => by simp [inv, h]
 obtain ⟨hbll, _⟩ := Xa6 hbl
 have hinv : ∀ j, j < blks.length → gb7 p.roots (inv j) = some j := fun j hj => by
  rw [hbll] at hj
  have h := List.getElem?_eq_getElem hj
  rw [hinv1 j _ h]
  exact pc8 hp.nodup h
 have hst := hS.start hH inv hinv
 have hargs2 : ∀ (i : Nat) y y', args2[i]? = some y → args'[i]? = some y' → z8 (fun j => ρ (inv j)) blks (Jc1 ρ H F (· ∈ p.lent)) w y y' := fun i y y' hy hy' => by
  have hi : i < args.length := hl2 ▸ (List.getElem?_eq_some_iff.1 hy).1
  have hx := List.getElem?_eq_getElem hi
  exact (hPr i _ y hx hy).rel hH hbl inv hinv1 (hargs i _ y' hx hy')
 obtain ⟨hca, hcalls⟩ := hcall args2 blks r out hc _ _ _ w args' hst (hl2.trans hlen) hargs2 fun g c y hy => by
  obtain ⟨h1, h2, h3⟩ := hG g c y hy
  exact ⟨h1, .inl h2, h3⟩
 refine ⟨hca, hcalls.mono fun e w' ⟨r', her, ρ1, F1, hA, h1, hr⟩ => ?_⟩
 have hheld' : held = true ∨ (ua8 r = false ∧ ∀ b ∈ out, wb2 b = false) := by
  cases held with
  | true => exact .inl rfl
  | false =>
   rw [Bool.or_eq_false_iff] at hheld
   refine .inr ⟨hheld.1, fun b hb => ?_⟩
   have := List.any_eq_false.1 hheld.2 b hb
   simpa using this
 have hbare : held = true ∨ ∀ (i : Nat) c (j : Nat) rr (k : Nat) y, out[i]? = some c → c.elems[j]? = some rr → rr[k]? = some y → Ba5 y = false := by
  rcases hheld' with h | ⟨_, h⟩
  ·exact .inl h
  ·refine .inr fun i c j rr k y hc hrr hy => ?_
   have h2 := h c (List.mem_of_getElem? hc)
   have h3 := List.any_eq_false.1 h2 rr (List.mem_of_getElem? hrr)
   have h4 : rr.any Ba5 = false := by simpa using h3
   have h5 := List.any_eq_false.1 h4 y (List.mem_of_getElem? hy)
   simpa using h5
 obtain ⟨j1, j2⟩ := hS.join hH inv hinv hA h1 hbare
 subst her
 refine ⟨r', rfl, _, _, e2 ▸ j1, e2 ▸ j2, ?_⟩
 rw [← e1, ← e2]
 exact fe8 hp hbl hap hpb hr (hheld'.imp id fun h => h.1)
variable {o : Oper} {ac : Act} {a : List b7} {x : b7}
theorem pb3 {P : Program} {f : FuncId} (hc : xb6 P f) (args : Array Value) : (callFunc f args).run P w = .ok (.enter f args) w := by
 obtain ⟨fn, h1, h2, h3⟩ := hc
 have h2' : ¬ fn.body = none := fun hb => by rw [hb] at h2; cases h2
 simp [callFunc, h1, if_neg h2', if_neg h3]
theorem td6 (hA : la1 ρ H F w a ac.tmps) (hG : GOk E F w) (l : Array Operand) : (l0 (c7 E a) (l.toList.map g8)).length = (l.map ac.eval).toList.length ∧
  ∀ (i : Nat) x x', (l0 (c7 E a) (l.toList.map g8))[i]? = some x → ((l.map ac.eval).toList)[i]? = some x' → z8 ρ H F w x x' := by
 rw [l8]
 refine ⟨by simp, fun i x x' hx hx' => ?_⟩
 simp at hx hx'
 obtain ⟨y, hy, rfl⟩ := hx
 obtain ⟨y', hy', rfl⟩ := hx'
 have : y' = y := Option.some.inj (hy'.symm.trans hy)
 subst this
 exact l7 hA hG y'
theorem md8 (hA : la1 ρ H F w a ac.tmps) (hH : s5 W ρ H F w) (hG : GOk E F w) (hcalls : ∀ f, i5 E.P E.G f (E.call f)) {c : Call} {f : FuncId} (ho : o.op = .call c) (hc : c.callee = .value (.func f))
  (he : (evalOp E a H (.call f (c.args.toList.map g8))).run = some (x, H')) : j6 E.P o ac w (L9 W ρ H F w x H') := by
 obtain ⟨h1, h2⟩ := td6 (E := E) hA hG c.args
 obtain ⟨k1, k2⟩ := qc1 hH hG (hcalls f) h1 h2 he
 refine .enter (f := f) (args := c.args.map ac.eval) ?_ (by
  rw [Array.toArray_toList] at k2
  exact k2)
 have hr := pb3 (w := w) k1 (c.args.map ac.eval)
 simp [execOp, ho, resolve, hc, Act.eval, Deferred.ofValue, invoke, hr]
theorem ad1 (hA : la1 ρ H F w a ac.tmps) (hH : s5 W ρ H F w) (hG : GOk E F w) (hcalls : ∀ f, i5 E.P E.G f (E.call f)) {c : Call} {y : Operand} (ho : o.op = .call c) (hc : c.callee = .value y)
  (he : (evalOp E a H (.calld (g8 y) (c.args.toList.map g8))).run = some (x, H')) : j6 E.P o ac w (L9 W ρ H F w x H') := by
 obtain ⟨h1, h2⟩ := td6 (E := E) hA hG c.args
 have hy := l7 hA hG y
 simp only [evalOp] at he
 revert he hy
 cases c7 E a (g8 y) with
 | fn f caps =>
  intro he hy
  simp only at he
  obtain ⟨vs, e, hl, h3⟩ := pb1 hy
  obtain ⟨k1, k2⟩ := qc1 (args' := (c.args.map ac.eval).toList ++ vs.toList) hH hG (hcalls f) (by rw [C0]; simp only [List.length_append]; rw [h1, hl]; simp) (fun i u u' hu hu' => by
   rw [C0] at hu
   rcases Nat.lt_or_ge i (c.args.map ac.eval).toList.length with hi | hi
   ·rw [List.getElem?_append_left (by rw [h1]; exact hi)] at hu
    rw [List.getElem?_append_left hi] at hu'
    exact h2 i u u' hu hu'
   ·rw [List.getElem?_append_right (by rw [h1]; exact hi), h1] at hu
    rw [List.getElem?_append_right hi] at hu'
    exact .val (.cell (h3 _ u u' hu (by simpa using hu')))) he
  refine .enter (f := f) (args := c.args.map ac.eval ++ vs) ?_ ?_
  ·have hr := pb3 (w := w) k1 (c.args.map ac.eval ++ vs)
   simp [execOp, ho, resolve, hc, e, Deferred.ofValue, invoke, hr]
  ·have : ((c.args.map ac.eval).toList ++ vs.toList).toArray = c.args.map ac.eval ++ vs := by simp
   rw [this] at k2
   exact k2
 | _ => intro he; cases he
end
end Go.Ev
