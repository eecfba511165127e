/- Own work: a part of the proof. -/
import Derived.Test.YtlccibobknidjaaEvEq
import Derived.LoopN
import Derived.Scope
set_option linter.unusedVariables false
set_option linter.unusedSimpArgs false
set_option linter.unnecessarySimpa false
set_option linter.unusedSectionVars false
namespace Go.Ev
open Go
def Ya3 (P : Program) (f : FuncId) : Prop := ∃ fn, P.funcs[f]? = some fn ∧ fn.body.isSome = true ∧ fn.name ≠ "runtime.NumGoroutine"
def j6 (P : Program) (G : Nat → List Value) (f : FuncId) (S : List a7 → List a8 → DT (a7 × List a8)) : Prop :=
 ∀ (args : List a7) (blks : List a8) (r : a7) (out : List a8), (S args blks).run = some (r, out) →
  ∀ (W : Nat → Prop) (ρ : Rho) (F : Fz) (w : World) (args' : List Value), r8 W ρ blks F w → args.length = args'.length → (∀ (i : Nat) x x', args[i]? = some x → args'[i]? = some x' → y8 ρ blks F w x x') →
   (∀ g (c : Nat) x, (G g)[c]? = some x → x.oneCell' = true ∧ F g c ∧ w.cell? ⟨g, c, none⟩ = some x) →
   Ya3 P f ∧ Calls P f args'.toArray w fun e w' => ∃ r', e = .returned r' ∧ J3 W ρ blks F w r out r' w'
section
variable {W : Nat → Prop} {ρ ρ1 : Rho} {H H2 blks out : List a8} {F F1 : Fz} {w w1 : World}
def Cc2 (ρ : Rho) (H : List a8) (lent : Nat → Prop) : Fz := fun b o => ∃ id bb, lent id ∧ H[id]? = some bb ∧ bb.own = true ∧ b = (ρ id).blk ∧ (ρ id).off ≤ o ∧ o < (ρ id).off + bb.elems.length * bb.es
def Sb4 (ρ : Rho) (H : List a8) (F : Fz) (lent : Nat → Prop) : Fz := fun b o => F b o ∨ Cc2 ρ H lent b o
def ob0 (W : Nat → Prop) (ρ : Rho) (H : List a8) (w : World) (pos : Nat → Option Nat) : Nat → Prop :=
 fun k => W k ∧ (w.heap.size ≤ k ∨ ∃ id b j, pos id = some j ∧ H[id]? = some b ∧ b.own = true ∧ (ρ id).blk = k)
def hb9 (ρ : Rho) (H : List a8) (F F1 : Fz) (lent : Nat → Prop) (held : Prop) : Fz := fun b o => F1 b o ∧ (held ∨ ¬ Cc2 ρ H lent b o ∨ F b o)
def Z9 (ρ ρ1 : Rho) (n k : Nat) (pos : Nat → Option Nat) : Rho := fun id => match pos id with
 | some j => ρ1 j
 | none => if id < n then ρ id else ρ1 (k + (id - n))
structure fc6 (H : List a8) (blks out H2 : List a8) (pos : Nat → Option Nat) (lent : Nat → Prop) (held : Prop) : Prop where
 posLt : ∀ id j, pos id = some j → id < H.length ∧ j < blks.length
 posInj : ∀ id id' j, pos id = some j → pos id' = some j → id = id'
 posAll : ∀ j, j < blks.length → ∃ id, pos id = some j
 blkOk : ∀ (id j : Nat) b, pos id = some j → H[id]? = some b → blks[j]? = some { b with g := 0 } ∧ b.dead = false
 lentOk : ∀ id, lent id → pos id = none ∧ ∃ b, H[id]? = some b ∧ b.dead = false
 outLen : blks.length ≤ out.length
 old : ∀ (id : Nat) b2, id < H.length → pos id = none → H2[id]? = some b2 → ∃ b, H[id]? = some b ∧ b2 = { b with own := b2.own } ∧ (b2.own = b.own ∨ (held ∧ lent id ∧ b2.own = false))
 oldDis : ∀ (id : Nat) b2, held → lent id → H2[id]? = some b2 → b2.own = false
 root : ∀ (id j : Nat) b2, pos id = some j → H2[id]? = some b2 → ∃ b c, H[id]? = some b ∧ out[j]? = some c ∧ b2 = { c with g := b.g + c.g }
 new : ∀ (id : Nat) b2, H.length ≤ id → H2[id]? = some b2 → out[blks.length + (id - H.length)]? = some b2
 len : H2.length = H.length + (out.length - blks.length)
theorem fc6.start {pos : Nat → Option Nat} {lent : Nat → Prop} {held : Prop} (hS : fc6 H blks out H2 pos lent held) (hH : r8 W ρ H F w) (inv : Nat → Nat) (hinv : ∀ j, j < blks.length → pos (inv j) = some j) :
  r8 (ob0 W ρ H w pos) (fun j => ρ (inv j)) blks (Sb4 ρ H F lent) w := by
 have hsub : ∀ (j : Nat) c, blks[j]? = some c → ∃ b, H[inv j]? = some b ∧ c = { b with g := 0 } ∧ b.dead = false := fun j c hc => by
  have hj := (List.getElem?_eq_some_iff.1 hc).1
  have hp := hinv j hj
  have hlt := (hS.posLt _ _ hp).1
  obtain ⟨h1, h2⟩ := hS.blkOk _ j _ hp (List.getElem?_eq_getElem hlt)
  exact ⟨H[inv j], List.getElem?_eq_getElem hlt, Option.some.inj (hc.symm.trans h1), h2⟩
 have hL : ∀ (id : Nat) b, (∃ j, pos id = some j) → H[id]? = some b → b.dead = false → b.own = true → ∀ o, ¬ Cc2 ρ H lent (ρ id).blk o := fun id b hj hb hd ho o hl => by
  obtain ⟨id', bb, hl1, hb', ho', he, _⟩ := hl
  obtain ⟨hn, b2, hb2, hd2⟩ := hS.lentOk id' hl1
  have : b2 = bb := Option.some.inj (hb2.symm.trans hb')
  subst this
  have hne : id ≠ id' := fun e => by subst e; obtain ⟨j, hj⟩ := hj; rw [hn] at hj; cases hj
  exact hH.apart id id' b b2 hb hb' hd hd2 ho hne he
 refine ⟨fun j c hc _ => ?_, fun j j' c c' hc hc' _ _ ho hne => ?_, fun b o hf => ?_, fun k hk => ⟨hH.new k hk, .inl hk⟩⟩
 ·obtain ⟨b, hb, rfl, hd⟩ := hsub j c hc
  have hp := hinv j (List.getElem?_eq_some_iff.1 hc).1
  obtain ⟨cc, t, fr, hB⟩ := hH.blk _ b hb hd
  refine ⟨cc, t, fr, hB.obj, hB.room, hB.len, hB.rows, fun i r k x hr hx => ?_, fun ho => ?_, fun ho o hlt => .inl (hB.kept ho o hlt)⟩
  ·obtain ⟨x', h1, h2⟩ := hB.cell i r k x hr hx
   exact ⟨x', h1, h2.adv (fun _ _ h => .inl h) (fun _ _ _ => rfl)⟩
  ·obtain ⟨h1, h2, h3, h4, h5, h6⟩ := hB.own ho
   refine ⟨h1, ⟨h2, .inr ⟨inv j, b, j, hp, hb, ho, rfl⟩⟩, h3, h4, fun o hf => ?_, h6⟩
   rcases hf with hf | hf
   ·exact h5 o hf
   ·exact hL _ b ⟨j, hp⟩ hb hd ho o hf
 ·obtain ⟨b, hb, rfl, hd⟩ := hsub j c hc
  obtain ⟨b', hb', rfl, hd'⟩ := hsub j' c' hc'
  refine hH.apart _ _ b b' hb hb' hd hd' ho fun e => hne ?_
  have h1 := hinv j (List.getElem?_eq_some_iff.1 hc).1
  have h2 := hinv j' (List.getElem?_eq_some_iff.1 hc').1
  rw [e] at h1
  exact Option.some.inj (h1.symm.trans h2)
 ·rcases hf with hf | ⟨id, bb, hl, hb, ho, rfl, h1, h2⟩
  ·exact hH.frz b o hf
  ·obtain ⟨hn, b2, hb2, hd2⟩ := hS.lentOk id hl
   have : b2 = bb := Option.some.inj (hb2.symm.trans hb)
   subst this
   obtain ⟨cc, t, fr, hB⟩ := hH.blk id b2 hb hd2
   rw [hB.cellAt]
   have : o < cc.size := by have := hB.room; have := hB.len; omega
   simp [this]
theorem R2.bare {x : a7} {x' : Value} {F' : Fz} {w' : World} (h : R2 F w x x') (hx : na5 x = false) : R2 F' w' x x' := by
 cases h with
 | v _ h1 => exact .v _ h1
 | fn f => exact .fn f
 | tree => cases hx
 | nil => cases hx
theorem fc6.join {pos : Nat → Option Nat} {lent : Nat → Prop} {held : Prop} (hS : fc6 H blks out H2 pos lent held) (hH : r8 W ρ H F w) (inv : Nat → Nat) (hinv : ∀ j, j < blks.length → pos (inv j) = some j)
  (hA : Adv (ob0 W ρ H w pos) (fun j => ρ (inv j)) blks (Sb4 ρ H F lent) w ρ1 out F1 w1) (h1 : r8 (ob0 W ρ H w pos) ρ1 out F1 w1)
  (hbare : held ∨ ∀ (i : Nat) c (j : Nat) r (k : Nat) x, out[i]? = some c → c.elems[j]? = some r → r[k]? = some x → na5 x = false) :
  Adv W ρ H F w (Z9 ρ ρ1 H.length blks.length pos) H2 (hb9 ρ H F F1 lent held) w1 ∧ r8 W (Z9 ρ ρ1 H.length blks.length pos) H2 (hb9 ρ H F F1 lent held) w1 := by
 have hFF1 : ∀ b o, F b o → F1 b o := fun b o h => hA.more b o (.inl h)
 have hmore : ∀ b o, F b o → hb9 ρ H F F1 lent held b o := fun b o h => ⟨hFF1 b o h, .inr (.inr h)⟩
 have hcells : ∀ b o, F b o → w1.cell? ⟨b, o, none⟩ = w.cell? ⟨b, o, none⟩ := fun b o h => hA.ext.cells b o (.inl h)
 -- the ids
 have hρroot : ∀ id j, pos id = some j → Z9 ρ ρ1 H.length blks.length pos id = ρ1 j := fun id j h => by simp [Z9, h]
 have hρold : ∀ id, id < H.length → pos id = none → Z9 ρ ρ1 H.length blks.length pos id = ρ id := fun id hid h => by simp [Z9, h, hid]
 have hposnew : ∀ id, H.length ≤ id → pos id = none := fun id hid => by
  cases h : pos id with
  | none => rfl
  | some j => have := (hS.posLt id j h).1; omega
 have hρnew : ∀ id, H.length ≤ id → Z9 ρ ρ1 H.length blks.length pos id = ρ1 (blks.length + (id - H.length)) := fun id hid => by
  have : ¬ id < H.length := by omega
  simp [Z9, hposnew id hid, this]
 have hposinv : ∀ id j, pos id = some j → inv j = id := fun id j h => hS.posInj _ _ j (hinv j (hS.posLt id j h).2) h
 -- a block of the caller's own, not handed over, is no block of the callee's
 have hnotW : ∀ (id : Nat) b, H[id]? = some b → b.dead = false → b.own = true → pos id = none → ¬ ob0 W ρ H w pos (ρ id).blk := fun id b hb hd ho hp hw => by
  obtain ⟨cc, t, fr, hB⟩ := hH.blk id b hb hd
  rcases hw.2 with hge | ⟨id', b', j, hp', hb', ho', he⟩
  ·have := hB.lt; omega
  ·have hne : id ≠ id' := fun e => by subst e; rw [hp] at hp'; cases hp'
   exact hH.apart id id' b b' hb hb' hd (hS.blkOk id' j b' hp' hb').2 ho hne he.symm
 have hblkOld : ∀ (id : Nat) b, H[id]? = some b → b.dead = false → pos id = none → ¬ ob0 W ρ H w pos (ρ id).blk → w1.heap[(ρ id).blk]? = w.heap[(ρ id).blk]? := fun id b hb hd hp hn => by
  obtain ⟨cc, t, fr, hB⟩ := hH.blk id b hb hd
  exact hA.ext.block _ hB.lt hn
 -- any old block, handed over or not: not in the callee's hands unless it is owned and a root
 have hnotW' : ∀ (id : Nat) b, H[id]? = some b → b.dead = false → pos id = none → ¬ ob0 W ρ H w pos (ρ id).blk := fun id b hb hd hp hw => by
  obtain ⟨cc, t, fr, hB⟩ := hH.blk id b hb hd
  rcases hw.2 with hge | ⟨id', b', j, hp', hb', ho', he⟩
  ·have := hB.lt; omega
  ·have hne : id' ≠ id := fun e => by subst e; rw [hp] at hp'; cases hp'
   exact hH.apart id' id b' b hb' hb (hS.blkOk id' j b' hp' hb').2 hd ho' hne he
 have hLold : ∀ b o, Cc2 ρ H lent b o → ¬ ob0 W ρ H w pos b := fun b o hl hw => by
  obtain ⟨id, bb, hl1, hb, ho, rfl, _⟩ := hl
  obtain ⟨hn, b2, hb2, hd2⟩ := hS.lentOk id hl1
  exact hnotW' id b2 hb2 hd2 hn hw
 -- where F1 is new
 have hF1 : ∀ b o, F1 b o → F b o ∨ Cc2 ρ H lent b o ∨ ob0 W ρ H w pos b := fun b o h => by
  rcases hA.new b o h with (h | h) | h
  ·exact .inl h
  ·exact .inr (.inl h)
  ·exact .inr (.inr h)
 -- the callee's block j, as the caller knows it
 have hcallee : ∀ (j : Nat) c, out[j]? = some c → c.dead = false →
   ∀ (id' : Nat) b', H[id']? = some b' → b'.dead = false → pos id' = none → (b'.own = true ∨ c.own = true) → (ρ1 j).blk ≠ (ρ id').blk := fun j c hc hcd id' b' hb' hd' hp' ho e => by
  have hinW : ob0 W ρ H w pos (ρ1 j).blk → False := fun hw => hnotW' id' b' hb' hd' hp' (e ▸ hw)
  rcases ho with ho | ho
  ·by_cases hf : ∀ b, blks[j]? = some b → c.g ≠ b.g
   ·exact hinW (hA.fresh j c hc hf)
   ·have : ∃ b, blks[j]? = some b ∧ c.g = b.g := Classical.byContradiction fun hne => hf fun b hb hg => hne ⟨b, hb, hg⟩
    obtain ⟨b0, hb0, hg0⟩ := this
    obtain ⟨c', hc', _, _, e4⟩ := hA.heap j b0 hb0
    have : c' = c := Option.some.inj (hc'.symm.trans hc)
    subst this
    have hρ := (e4 hg0).1
    have hjlt := (List.getElem?_eq_some_iff.1 hb0).1
    have hp := hinv j hjlt
    have hlt := (hS.posLt _ _ hp).1
    have hroot := hS.blkOk _ j _ hp (List.getElem?_eq_getElem hlt)
    have hne : id' ≠ inv j := fun e => by rw [e, hp] at hp'; cases hp'
    rw [hρ] at e
    exact hH.apart id' (inv j) b' _ hb' (List.getElem?_eq_getElem hlt) hd' hroot.2 ho hne e.symm
  ·obtain ⟨cc, t, fr, hB⟩ := h1.blk j c hc hcd
   exact hinW (hB.own ho).2.1
 -- each block of the new heap
 have hsplit : ∀ (id : Nat) b2, H2[id]? = some b2 → (∃ b, id < H.length ∧ pos id = none ∧ H[id]? = some b ∧ b2 = { b with own := b2.own } ∧ (b2.own = b.own ∨ (held ∧ lent id ∧ b2.own = false))) ∨
   (∃ j b c, pos id = some j ∧ H[id]? = some b ∧ out[j]? = some c ∧ b2 = { c with g := b.g + c.g } ∧ Z9 ρ ρ1 H.length blks.length pos id = ρ1 j) ∨
   (∃ j, H.length ≤ id ∧ j = blks.length + (id - H.length) ∧ out[j]? = some b2 ∧ Z9 ρ ρ1 H.length blks.length pos id = ρ1 j) := fun id b2 hb2 => by
  rcases Nat.lt_or_ge id H.length with hid | hid
  ·cases hp : pos id with
   | none =>
    obtain ⟨b, h2, h3, h4⟩ := hS.old id b2 hid hp hb2
    exact .inl ⟨b, hid, rfl, h2, h3, h4⟩
   | some j =>
    obtain ⟨b, c, h2, h3, h4⟩ := hS.root id j b2 hp hb2
    exact .inr (.inl ⟨j, b, c, rfl, h2, h3, h4, hρroot id j hp⟩)
  ·exact .inr (.inr ⟨_, hid, rfl, hS.new id b2 hid hb2, hρnew id hid⟩)
 have hm1 : ∀ {i : Nat} {c : a8} {j : Nat} {r : List a7} {k : Nat} {x : a7} {x' : Value}, out[i]? = some c → c.elems[j]? = some r → r[k]? = some x → R2 F1 w1 x x' → R2 (hb9 ρ H F F1 lent held) w1 x x' := fun {i c j r k x x'} h2 h3 h4 hm => by
  rcases hbare with hh | hh
  ·exact hm.adv (fun b o h => ⟨h, .inl hh⟩) (fun _ _ _ => rfl)
  ·exact hm.bare (hh i c j r k x h2 h3 h4)
 -- the callee's own blocks stand in the new relation
 have hBout : ∀ (j : Nat) c, out[j]? = some c → c.dead = false → ∀ g, ∃ cc t fr, Ab4 W (hb9 ρ H F F1 lent held) w1 (ρ1 j) { c with g := g } cc t fr := fun j c hc hcd g => by
  obtain ⟨cc, t, fr, hB⟩ := h1.blk j c hc hcd
  refine ⟨cc, t, fr, hB.obj, hB.room, hB.len, hB.rows, fun i r k x hr hx => ?_, fun ho => ?_, fun ho o hlt => ?_⟩
  ·obtain ⟨x', h2, h3⟩ := hB.cell i r k x hr hx
   exact ⟨x', h2, hm1 hc hr hx h3⟩
  ·obtain ⟨g1, g2, g3, g4, g5, g6⟩ := hB.own ho
   exact ⟨g1, g2.1, g3, g4, fun o hf => g5 o hf.1, g6⟩
  ·have hk := hB.kept ho o hlt
   by_cases hl : Cc2 ρ H lent (ρ1 j).blk ((ρ1 j).off + o)
   ·obtain ⟨id', bb, hl1, hb', ho', he, _⟩ := hl
    obtain ⟨hn, b2, hb2, hd2⟩ := hS.lentOk id' hl1
    have : b2 = bb := Option.some.inj (hb2.symm.trans hb')
    subst this
    exact absurd he (hcallee j c hc hcd id' b2 hb' hd2 hn (.inl ho'))
   ·exact ⟨hk, .inr (.inl hl)⟩
 -- the caller's other blocks
 have hBold : ∀ (id : Nat) b (b2 : a8), id < H.length → pos id = none → H[id]? = some b → b.dead = false → b2 = { b with own := b2.own } → (b2.own = b.own ∨ (held ∧ lent id ∧ b2.own = false)) → (held → lent id → b2.own = false) →
   ∃ cc t fr, Ab4 W (hb9 ρ H F F1 lent held) w1 (ρ id) b2 cc t fr := fun id b b2 hid hp hb hd e ho hdis => by
  obtain ⟨cc, t, fr, hB⟩ := hH.blk id b hb hd
  have hobj := hblkOld id b hb hd hp (hnotW' id b hb hd hp)
  have e1 : b2.elems = b.elems := by rw [e]
  have e2 : b2.es = b.es := by rw [e]
  have e3 : b2.et = b.et := by rw [e]
  refine ⟨cc, t, fr, hobj.trans hB.obj, hB.room, by rw [e1, e2]; exact hB.len, by rw [e1, e2]; exact hB.rows, fun i r k x hr hx => ?_, fun ho2 => ?_, fun ho2 o hlt => ?_⟩
  ·rw [e1] at hr
   obtain ⟨x', h2, h3⟩ := hB.cell i r k x hr hx
   rw [e2]
   exact ⟨x', h2, h3.adv hmore hcells⟩
  ·have hbo : b.own = true := by
    rcases ho with ho | ⟨_, _, ho⟩
    ·rw [← ho]; exact ho2
    ·rw [ho] at ho2; cases ho2
   obtain ⟨g1, g2, g3, g4, g5, g6⟩ := hB.own hbo
   refine ⟨g1, g2, g3, g4, fun o hf => ?_, by rw [e3]; exact g6⟩
   obtain ⟨hf1, hf2⟩ := hf
   rcases hF1 _ _ hf1 with h | h | h
   ·exact g5 o h
   ·rcases hf2 with hh | hh | hh
    ·-- held: the lent block is another one
     obtain ⟨id', bb, hl1, hb', ho', he, _⟩ := h
     obtain ⟨hn, b3, hb3, hd3⟩ := hS.lentOk id' hl1
     have : b3 = bb := Option.some.inj (hb3.symm.trans hb')
     subst this
     by_cases heq : id = id'
     ·subst heq
      rw [hdis hh hl1] at ho2
      cases ho2
     ·exact hH.apart id id' b b3 hb hb' hd hd3 hbo heq he
    ·exact hh h
    ·exact g5 o hh
   ·exact hnotW id b hb hd hbo hp h
  ·rw [e1, e2] at hlt
   cases hbo : b.own with
   | false => exact hmore _ _ (hB.kept hbo o hlt)
   | true =>
    rcases ho with ho | ⟨hh, hl, _⟩
    ·rw [hbo, ho2] at ho; cases ho
    ·refine ⟨hA.more _ _ (.inr ⟨id, b, hl, hb, hbo, rfl, by omega, by omega⟩), .inl hh⟩
 have hdisAll : ∀ (id : Nat) b2, H2[id]? = some b2 → held → lent id → b2.own = false := fun id b2 hb2 hh hl => hS.oldDis id b2 hh hl hb2
 constructor
 ·refine ⟨⟨hA.ext.os, hA.ext.tape, hA.ext.output, hA.ext.size, fun k hk hw => hA.ext.block k hk fun h => hw h.1, hcells, hA.ext.drawn⟩, fun id b hb => ?_, hmore, fun b o hf => ?_, fun id b2 hb2 hn => ?_⟩
  ·have hid := (List.getElem?_eq_some_iff.1 hb).1
   have hlt2 : id < H2.length := by have := hS.len; omega
   have hb2 : H2[id]? = some H2[id] := List.getElem?_eq_getElem hlt2
   rcases hsplit id _ hb2 with ⟨b', _, hp, hb', e, _⟩ | ⟨j, b', c, hp, hb', hc, e, hρ⟩ | ⟨j, hge, _⟩
   ·have : b' = b := Option.some.inj (hb'.symm.trans hb)
    subst this
    refine ⟨_, hb2, by rw [e], by rw [e]; exact Nat.le_refl _, fun _ => ⟨hρold id hid hp, by rw [e], by rw [e]; exact Nat.le_refl _⟩⟩
   ·have : b' = b := Option.some.inj (hb'.symm.trans hb)
    subst this
    obtain ⟨hbj, hdb⟩ := hS.blkOk id j b' hp hb
    obtain ⟨c', hc', d1, d2, d3⟩ := hA.heap j _ hbj
    have : c' = c := Option.some.inj (hc'.symm.trans hc)
    subst this
    refine ⟨_, hb2, by rw [e]; exact d1, by rw [e]; simp, fun hg => ?_⟩
    have hg0 : c'.g = 0 := by rw [e] at hg; simp at hg; omega
    obtain ⟨k1, k2, k3⟩ := d3 hg0
    refine ⟨by rw [hρ, k1]; simp only [hposinv id j hp], by rw [e]; exact k2, by rw [e]; exact k3⟩
   ·omega
  ·rcases hF1 b o hf.1 with h | h | h
   ·exact .inl h
   ·obtain ⟨id', bb, hl1, hb', ho', rfl, _⟩ := h
    obtain ⟨hn, b3, hb3, hd3⟩ := hS.lentOk id' hl1
    have : b3 = bb := Option.some.inj (hb3.symm.trans hb')
    subst this
    obtain ⟨cc, t, fr, hB⟩ := hH.blk id' b3 hb' hd3
    exact .inr (hB.own ho').2.1
   ·exact .inr h.1
  ·rcases hsplit id b2 hb2 with ⟨b', _, hp, hb', e, _⟩ | ⟨j, b', c, hp, hb', hc, e, hρ⟩ | ⟨j, hge, hj, hc, hρ⟩
   ·exact absurd (by rw [e]) (hn b' hb')
   ·rw [hρ]
    refine (hA.fresh j c hc fun bj hbj => ?_).1
    obtain ⟨hbj', _⟩ := hS.blkOk id j b' hp hb'
    have : bj = { b' with g := 0 } := Option.some.inj (hbj.symm.trans hbj')
    subst this
    intro hg
    refine hn b' hb' ?_
    rw [e]
    simp at hg ⊢
    omega
   ·rw [hρ]
    refine (hA.fresh j b2 hc fun bj hbj => ?_).1
    have := (List.getElem?_eq_some_iff.1 hbj).1
    omega
 ·refine ⟨fun id b2 hb2 hd2 => ?_, fun id id' b b' hb hb' hd hd' ho hne => ?_, fun b o hf => h1.frz b o hf.1, fun k hk => (h1.new k hk).1⟩
  ·rcases hsplit id b2 hb2 with ⟨b', hid, hp, hb', e, ho⟩ | ⟨j, b', c, hp, hb', hc, e, hρ⟩ | ⟨j, hge, hj, hc, hρ⟩
   ·rw [hρold id hid hp]
    exact hBold id b' b2 hid hp hb' (by rw [e] at hd2; exact hd2) e ho (hdisAll id b2 hb2)
   ·rw [hρ, e]
    exact hBout j c hc (by rw [e] at hd2; exact hd2) _
   ·rw [hρ]
    exact hBout j b2 hc hd2 b2.g
  ·rcases hsplit id b hb with ⟨b1, hid, hp, hb1, e, hoo⟩ | ⟨j, b1, c, hp, hb1, hc, e, hρ⟩ | ⟨j, hge, hj, hc, hρ⟩ <;>
    rcases hsplit id' b' hb' with ⟨b1', hid', hp', hb1', e', hoo'⟩ | ⟨j', b1', c', hp', hb1', hc', e', hρ'⟩ | ⟨j', hge', hj', hc', hρ'⟩
   ·rw [hρold id hid hp, hρold id' hid' hp']
    have hbo : b1.own = true := by
     rcases hoo with h | ⟨_, _, h⟩
     ·rw [← h]; exact ho
     ·rw [h] at ho; cases ho
    exact hH.apart id id' b1 b1' hb1 hb1' (by rw [e] at hd; exact hd) (by rw [e'] at hd'; exact hd') hbo hne
   ·have hbo : b1.own = true := by
     rcases hoo with h | ⟨_, _, h⟩
     ·rw [← h]; exact ho
     ·rw [h] at ho; cases ho
    rw [hρold id hid hp, hρ']
    exact (hcallee j' c' hc' (by rw [e'] at hd'; exact hd') id b1 hb1 (by rw [e] at hd; exact hd) hp (.inl hbo)).symm
   ·have hbo : b1.own = true := by
     rcases hoo with h | ⟨_, _, h⟩
     ·rw [← h]; exact ho
     ·rw [h] at ho; cases ho
    rw [hρold id hid hp, hρ']
    exact (hcallee j' b' hc' hd' id b1 hb1 (by rw [e] at hd; exact hd) hp (.inl hbo)).symm
   ·rw [hρ, hρold id' hid' hp']
    exact hcallee j c hc (by rw [e] at hd; exact hd) id' b1' hb1' (by rw [e'] at hd'; exact hd') hp' (.inr (by rw [e] at ho; exact ho))
   ·rw [hρ, hρ']
    refine h1.apart j j' c c' hc hc' (by rw [e] at hd; exact hd) (by rw [e'] at hd'; exact hd') (by rw [e] at ho; exact ho) fun h => hne ?_
    subst h
    exact hS.posInj id id' j hp hp'
   ·rw [hρ, hρ']
    refine h1.apart j j' c b' hc hc' (by rw [e] at hd; exact hd) hd' (by rw [e] at ho; exact ho) fun h => ?_
    have := (hS.posLt id j hp).2
    omega
   ·rw [hρ, hρold id' hid' hp']
    exact hcallee j b hc hd id' b1' hb1' (by rw [e'] at hd'; exact hd') hp' (.inr ho)
   ·rw [hρ, hρ']
    refine h1.apart j j' b c' hc hc' hd (by rw [e'] at hd'; exact hd') ho fun h => ?_
    have := (hS.posLt id' j' hp').2
    omega
   ·rw [hρ, hρ']
    exact h1.apart j j' b b' hc hc' hd hd' ho fun h => hne (by omega)
end
end Go.Ev
namespace Go.Ev
open Go
section
variable {W : Nat → Prop} {ρ ρ1 : Rho} {H H2 blks out : List a8} {F F1 : Fz} {w w1 : World}
theorem Ba7 : ∀ (l : List Nat) (k id j : Nat), ua6 id k l = some j → k ≤ j ∧ l[j - k]? = some id
 | [], k, id, j, h => by simp [ua6] at h
 | x :: l, k, id, j, h => by
  simp only [ua6] at h
  cases hb : Nat.beq x id with
  | true =>
   simp only [hb] at h
   injection h with h
   subst h
   have := Nat.eq_of_beq_eq_true hb
   simp [this]
  | false =>
   simp only [hb] at h
   obtain ⟨h1, h2⟩ := Ba7 l (k + 1) id j h
   refine ⟨by omega, ?_⟩
   rw [show j - k = (j - (k + 1)) + 1 by omega]
   simpa using h2
theorem Ba8 : ∀ (l : List Nat) (k id : Nat), ua6 id k l = none → id ∉ l
 | [], k, id, _ => by simp
 | x :: l, k, id, h => by
  simp only [ua6] at h
  cases hb : Nat.beq x id with
  | true => simp [hb] at h
  | false =>
   simp only [hb] at h
   have h1 := Ba8 l (k + 1) id h
   have := Nat.ne_of_beq_eq_false hb
   simp [h1]
   exact fun h => this h.symm
noncomputable def Ka5 (roots : List Nat) (id : Nat) : Option Nat := ua6 id 0 roots
theorem ga9 {roots : List Nat} {id j : Nat} (h : Ka5 roots id = some j) : roots[j]? = some id := by
 have := (Ba7 roots 0 id j h).2
 simpa using this
theorem Fb8 {roots : List Nat} {id j : Nat} (hn : roots.Nodup) (h : roots[j]? = some id) : Ka5 roots id = some j := by
 cases hp : Ka5 roots id with
 | none => exact absurd (List.mem_of_getElem? h) (Ba8 roots 0 id hp)
 | some j' =>
  have h' := ga9 hp
  have hj := (List.getElem?_eq_some_iff.1 h)
  have hj' := (List.getElem?_eq_some_iff.1 h')
  obtain ⟨a1, a2⟩ := hj
  obtain ⟨b1, b2⟩ := hj'
  have := (List.getElem_inj hn).1 (b2.trans a2.symm)
  rw [this]
theorem Fb9 {roots r : List Nat} {id j : Nat} (hn : roots.Nodup) (h : ga7 roots id = (j, r)) : r[j]? = some id ∧ r.Nodup ∧ (∀ (i : Nat) y, roots[i]? = some y → r[i]? = some y) ∧ ∀ y ∈ r, y ∈ roots ∨ y = id := by
 unfold ga7 at h
 split at h
 ·rename_i j' hj
  injection h with e1 e2
  subst e1 e2
  exact ⟨ga9 hj, hn, fun _ _ h => h, fun y hy => .inl hy⟩
 ·rename_i hj
  have hnm := Ba8 roots 0 id hj
  rw [j7, B4] at h
  injection h with e1 e2
  subst e1 e2
  refine ⟨by simp, ?_, fun i y hy => ?_, fun y hy => ?_⟩
  ·rw [List.nodup_append]
   exact ⟨hn, by simp, fun a ha b hb => by simp at hb; subst hb; exact fun e => hnm (e ▸ ha)⟩
  ·rw [List.getElem?_append_left (List.getElem?_eq_some_iff.1 hy).1]; exact hy
  ·simpa using hy
structure Ea6 (H : List a8) (p : fa6) : Prop where
 nodup : p.roots.Nodup
 live : ∀ id ∈ p.roots, ∃ b, H[id]? = some b ∧ b.dead = false
 lent : ∀ id ∈ p.lent, ∃ b, H[id]? = some b ∧ b.dead = false
def ya6 (p q : fa6) : Prop := (∀ (i : Nat) y, p.roots[i]? = some y → q.roots[i]? = some y) ∧ ∀ y ∈ p.lent, y ∈ q.lent
theorem ya6.refl (p : fa6) : ya6 p p := ⟨fun _ _ h => h, fun _ h => h⟩
theorem ya6.trans {p q r : fa6} (h : ya6 p q) (k : ya6 q r) : ya6 p r := ⟨fun i y hy => k.1 i y (h.1 i y hy), fun y hy => k.2 y (h.2 y hy)⟩
inductive PrC (H : List a8) (p : fa6) : a7 → a7 → Prop
 | v (u : Value) : PrC H p (.v u) (.v u)
 | ptr (id i c g j : Nat) (b : a8) (hb : blkAt H id g = some b) (hj : p.roots[j]? = some id) : PrC H p (.ptr id i c g) (.ptr j i c 0)
 | tree (es n : Nat) (get : Nat → List a7) : PrC H p (.tree es n get) (.tree es n get)
 | tptr (cs : List a7) : PrC H p (.tptr cs) (.tptr cs)
 | lend (id off n g : Nat) (b : a8) (hb : blkAt H id g = some b) (hl : id ∈ p.lent) : PrC H p (.sl id off n g) (Wa7 b off n)
 | fn (f : FuncId) : PrC H p (.fn f []) (.fn f [])
inductive PrV (H : List a8) (p : fa6) : a7 → a7 → Prop
 | cell {x z : a7} (h : PrC H p x z) : PrV H p x z
 | agg (cs ds : List a7) (hl : ds.length = cs.length) (h : ∀ (i : Nat) x z, cs[i]? = some x → ds[i]? = some z → PrC H p x z) : PrV H p (.agg cs) (.agg ds)
 | fn (f : FuncId) (cs ds : List a7) (hl : ds.length = cs.length) (h : ∀ (i : Nat) x z, cs[i]? = some x → ds[i]? = some z → PrC H p x z) : PrV H p (.fn f cs) (.fn f ds)
 | sl (id n g j : Nat) (b : a8) (hb : blkAt H id g = some b) (hj : p.roots[j]? = some id) : PrV H p (.sl id 0 n g) (.sl j 0 n 0)
theorem PrC.le {p q : fa6} {x z : a7} (h : PrC H p x z) (hle : ya6 p q) : PrC H q x z := by
 cases h with
 | v u => exact .v u
 | ptr id i c g j b hb hj => exact .ptr id i c g j b hb (hle.1 _ _ hj)
 | tree es n get => exact .tree es n get
 | tptr cs => exact .tptr cs
 | lend id off n g b hb hl => exact .lend id off n g b hb (hle.2 _ hl)
 | fn f => exact .fn f
theorem PrV.le {p q : fa6} {x z : a7} (h : PrV H p x z) (hle : ya6 p q) : PrV H q x z := by
 cases h with
 | cell h => exact .cell (h.le hle)
 | agg cs ds hl h => exact .agg cs ds hl fun i x z hx hz => (h i x z hx hz).le hle
 | fn f cs ds hl h => exact .fn f cs ds hl fun i x z hx hz => (h i x z hx hz).le hle
 | sl id n g j b hb hj => exact .sl id n g j b hb (hle.1 _ _ hj)
theorem ub6 {p q : fa6} {x z : a7} (hp : Ea6 H p) (h : capArg H p x = some (z, q)) : Ea6 H q ∧ ya6 p q ∧ PrC H q x z := by
 unfold capArg at h
 split at h
 ·injection h with h; injection h with e1 e2; subst e1 e2; exact ⟨hp, .refl p, .v _⟩
 ·rename_i id i c g
  cases hb : blkAt H id g with
  | none => simp [hb] at h
  | some b =>
  obtain ⟨hb1, hb2, hb3⟩ := q7 hb
  simp only [hb] at h
  cases hi : ga7 p.roots id with
  | mk j r =>
  simp only [hi] at h
  injection h with h; injection h with e1 e2; subst e1 e2
  obtain ⟨h1, h2, h3, h4⟩ := Fb9 hp.nodup hi
  refine ⟨⟨h2, fun y hy => ?_, hp.lent⟩, ⟨h3, fun y hy => hy⟩, .ptr id i c g j b hb h1⟩
  rcases h4 y hy with h | rfl
  ·exact hp.live y h
  ·exact ⟨b, hb1, hb2⟩
 ·injection h with h; injection h with e1 e2; subst e1 e2; exact ⟨hp, .refl p, .tree _ _ _⟩
 ·injection h with h; injection h with e1 e2; subst e1 e2; exact ⟨hp, .refl p, .tptr _⟩
 ·rename_i id off n g
  cases hb : blkAt H id g with
  | none => simp [hb] at h
  | some b =>
  obtain ⟨hb1, hb2, hb3⟩ := q7 hb
  simp only [hb] at h
  injection h with h; injection h with e1 e2; subst e1 e2
  refine ⟨⟨hp.nodup, hp.live, fun y hy => ?_⟩, ⟨fun _ _ h => h, fun y hy => by simp [hy]⟩, .lend id off n g b hb (by simp)⟩
  rcases List.mem_cons.1 hy with rfl | hy
  ·exact ⟨b, hb1, hb2⟩
  ·exact hp.lent y hy
 ·injection h with h; injection h with e1 e2; subst e1 e2; exact ⟨hp, .refl p, .fn _⟩
 ·cases h
theorem kb0 : ∀ {xs zs : List a7} {p q : fa6}, Ea6 H p → capArgs H p xs = some (zs, q) → Ea6 H q ∧ ya6 p q ∧ zs.length = xs.length ∧ ∀ (i : Nat) x z, xs[i]? = some x → zs[i]? = some z → PrC H q x z
 | [], zs, p, q, hp, h => by
  simp only [capArgs] at h
  injection h with h; injection h with e1 e2; subst e1 e2
  exact ⟨hp, .refl p, rfl, fun i x z hx => by simp at hx⟩
 | x :: xs, zs, p, q, hp, h => by
  simp only [capArgs] at h
  cases h1 : capArg H p x with
  | none => simp [h1] at h
  | some yq =>
  obtain ⟨y, p1⟩ := yq
  simp only [h1] at h
  cases h2 : capArgs H p1 xs with
  | none => simp [h2] at h
  | some lq =>
  obtain ⟨l, p2⟩ := lq
  simp only [h2] at h
  injection h with h; injection h with e1 e2; subst e1 e2
  obtain ⟨a1, a2, a3⟩ := ub6 hp h1
  obtain ⟨b1, b2, b3, b4⟩ := kb0 a1 h2
  refine ⟨b1, a2.trans b2, by simp [b3], fun i u z hu hz => ?_⟩
  cases i with
  | zero => simp at hu hz; subst hu hz; exact a3.le b2
  | succ i => exact b4 i u z (by simpa using hu) (by simpa using hz)
theorem qc4 {p q : fa6} {own : Bool} {x z : a7} (hp : Ea6 H p) (h : prepArg H own p x = some (z, q)) : Ea6 H q ∧ ya6 p q ∧ PrV H q x z := by
 unfold prepArg at h
 split at h
 ·injection h with h; injection h with e1 e2; subst e1 e2; exact ⟨hp, .refl p, .cell (.v _)⟩
 ·rename_i id off n g
  split at h
  ·cases hb : blkAt H id g with
   | none => simp [hb] at h
   | some b =>
   obtain ⟨hb1, hb2, hb3⟩ := q7 hb
   simp only [hb] at h
   cases hc : Nat.beq off 0 with
   | false => simp [hc] at h
   | true =>
   simp only [hc] at h
   have h0 := Nat.eq_of_beq_eq_true hc
   subst h0
   cases hi : ga7 p.roots id with
   | mk j r =>
   simp only [hi] at h
   injection h with h; injection h with e1 e2; subst e1 e2
   obtain ⟨h1, h2, h3, h4⟩ := Fb9 hp.nodup hi
   refine ⟨⟨h2, fun y hy => ?_, hp.lent⟩, ⟨h3, fun y hy => hy⟩, .sl id n g j b hb h1⟩
   rcases h4 y hy with h | rfl
   ·exact hp.live y h
   ·exact ⟨b, hb1, hb2⟩
  ·obtain ⟨a1, a2, a3⟩ := ub6 hp h
   exact ⟨a1, a2, .cell a3⟩
 ·cases h1 : capArgs H p _ with
  | none => rw [h1] at h; cases h
  | some lq =>
  obtain ⟨l, p2⟩ := lq
  rw [h1] at h
  injection h with h; injection h with e1 e2; subst e1 e2
  obtain ⟨b1, b2, b3, b4⟩ := kb0 hp h1
  exact ⟨b1, b2, .agg _ _ b3 b4⟩
 ·cases h1 : capArgs H p _ with
  | none => rw [h1] at h; cases h
  | some lq =>
  obtain ⟨l, p2⟩ := lq
  rw [h1] at h
  injection h with h; injection h with e1 e2; subst e1 e2
  obtain ⟨b1, b2, b3, b4⟩ := kb0 hp h1
  exact ⟨b1, b2, .fn _ _ _ b3 b4⟩
 ·obtain ⟨a1, a2, a3⟩ := ub6 hp h
  exact ⟨a1, a2, .cell a3⟩
theorem Ya4 {own : Nat → Bool} : ∀ {xs zs : List a7} {p q : fa6} {k : Nat}, Ea6 H p → prepArgs H own p k xs = some (zs, q) → Ea6 H q ∧ ya6 p q ∧ zs.length = xs.length ∧ ∀ (i : Nat) x z, xs[i]? = some x → zs[i]? = some z → PrV H q x z
 | [], zs, p, q, k, hp, h => by
  simp only [prepArgs] at h
  injection h with h; injection h with e1 e2; subst e1 e2
  exact ⟨hp, .refl p, rfl, fun i x z hx => by simp at hx⟩
 | x :: xs, zs, p, q, k, hp, h => by
  simp only [prepArgs] at h
  cases h1 : prepArg H (own k) p x with
  | none => simp [h1] at h
  | some yq =>
  obtain ⟨y, p1⟩ := yq
  simp only [h1] at h
  cases h2 : prepArgs H own p1 (k + 1) xs with
  | none => simp [h2] at h
  | some lq =>
  obtain ⟨l, p2⟩ := lq
  simp only [h2] at h
  injection h with h; injection h with e1 e2; subst e1 e2
  obtain ⟨a1, a2, a3⟩ := qc4 hp h1
  obtain ⟨b1, b2, b3, b4⟩ := Ya4 a1 h2
  refine ⟨b1, a2.trans b2, by simp [b3], fun i u z hu hz => ?_⟩
  cases i with
  | zero => simp at hu hz; subst hu hz; exact a3.le b2
  | succ i => exact b4 i u z (by simpa using hu) (by simpa using hz)
theorem Da7 : ∀ {roots : List Nat} {blks : List a8}, blksAt H roots = some blks → blks.length = roots.length ∧ ∀ (j : Nat) id, roots[j]? = some id → ∃ b, H[id]? = some b ∧ blks[j]? = some { b with g := 0 }
 | [], blks, h => by
  simp only [blksAt] at h
  injection h with h; subst h
  exact ⟨rfl, fun j id h => by simp at h⟩
 | id :: roots, blks, h => by
  simp only [blksAt, w6] at h
  cases hb : H[id]? with
  | none => simp [hb] at h
  | some b =>
  simp only [hb] at h
  cases hr : blksAt H roots with
  | none => simp [hr] at h
  | some l =>
  simp only [hr] at h
  injection h with h; subst h
  obtain ⟨h1, h2⟩ := Da7 hr
  refine ⟨by simp [h1], fun j id' hj => ?_⟩
  cases j with
  | zero => simp at hj; subst hj; exact ⟨b, hb, rfl⟩
  | succ j => exact h2 j id' (by simpa using hj)
theorem PrC.rel {p : fa6} {x z : a7} {x' : Value} (hH : r8 W ρ H F w) (hbl : blksAt H p.roots = some blks) (inv : Nat → Nat) (hinv : ∀ (j : Nat) id, p.roots[j]? = some id → inv j = id)
  (h : PrC H p x z) (hx : P6 ρ H F w x x') : P6 (fun j => ρ (inv j)) blks (Sb4 ρ H F (· ∈ p.lent)) w z x' := by
 obtain ⟨hl, hat⟩ := Da7 hbl
 have hmore : ∀ b o, F b o → Sb4 ρ H F (· ∈ p.lent) b o := fun b o h => .inl h
 cases h with
 | v u =>
  have := Q6 (.val (.cell hx))
  subst this
  exact .v _
 | ptr id i c g j b hb hj =>
  obtain ⟨ad, b', e, hb1, hd1, hg1, hh⟩ := ia9 (.val (.cell hx))
  obtain ⟨hb2, hd2, hg2⟩ := q7 hb
  have : b' = b := Option.some.inj (hb1.symm.trans hb2)
  subst this
  obtain ⟨b3, hb3, hb4⟩ := hat j id hj
  have : b3 = b' := Option.some.inj (hb3.symm.trans hb1)
  subst this
  rw [e]
  refine .ptr j i c 0 ad _ hb4 hd1 (Nat.zero_le _) fun _ => ?_
  rw [hh hg2]
  simp only [hinv j id hj]
 | tree es n get =>
  have ht := ga8 (.val (.cell hx))
  exact .mem (ht.adv hmore fun _ _ _ => rfl)
 | tptr cs =>
  obtain ⟨ad, vs, e, hs, hF, hw, hr⟩ := Na9 (.val (.cell hx))
  rw [e]
  exact .tptr cs ad vs hs (fun c hc => hmore _ _ (hF c hc)) hw fun c hc => (hr c hc).adv hmore fun _ _ _ => rfl
 | lend id off n g b hb hl =>
  obtain ⟨hb2, hd2, hg2⟩ := q7 hb
  refine .mem (ub4 hH hb (.val (.cell hx)) hmore fun o ho => ?_)
  obtain ⟨cc, t, fr, hB⟩ := hH.blk id b hb2 hd2
  cases hown : b.own with
  | false => exact .inl (hB.kept hown o ho)
  | true => exact .inr ⟨id, b, hl, hb2, hown, rfl, by omega, by omega⟩
 | fn f =>
  cases hx with
  | mem h => cases h; exact .mem (.fn f)
theorem PrV.rel {p : fa6} {x z : a7} {x' : Value} (hH : r8 W ρ H F w) (hbl : blksAt H p.roots = some blks) (inv : Nat → Nat) (hinv : ∀ (j : Nat) id, p.roots[j]? = some id → inv j = id)
  (h : PrV H p x z) (hx : y8 ρ H F w x x') : y8 (fun j => ρ (inv j)) blks (Sb4 ρ H F (· ∈ p.lent)) w z x' := by
 obtain ⟨hl, hat⟩ := Da7 hbl
 cases h with
 | cell h =>
  have hc : P6 ρ H F w x x' ∨ ∃ f, x = .fn f [] ∧ z = .fn f [] := by
   cases hx with
   | val hx => cases hx with
    | cell hx => exact .inl hx
    | agg => cases h
    | fn f caps vs hl h' => cases h; exact .inr ⟨_, rfl, rfl⟩
   | tup => cases h
  rcases hc with hc | ⟨f, rfl, rfl⟩
  ·exact .val (.cell (h.rel hH hbl inv hinv hc))
  ·obtain ⟨vs, e, hl, _⟩ := Qa4 hx
   have : vs = #[] := by simpa using hl.symm
   rw [e, this]
   exact .val (.cell (.mem (.fn f)))
 | agg cs ds hl2 h =>
  obtain ⟨vs, e, hl3, h3⟩ := ja0 hx
  rw [e]
  exact .val (.agg ds vs (hl2.trans hl3) fun i y y' hy hy' => by
   have hi : i < cs.length := hl2 ▸ (List.getElem?_eq_some_iff.1 hy).1
   exact (h i _ y (List.getElem?_eq_getElem hi) hy).rel hH hbl inv hinv (h3 i _ y' (List.getElem?_eq_getElem hi) hy'))
 | fn f cs ds hl2 h =>
  obtain ⟨vs, e, hl3, h3⟩ := Qa4 hx
  rw [e]
  exact .val (.fn f ds vs (hl2.trans hl3) fun i y y' hy hy' => by
   have hi : i < cs.length := hl2 ▸ (List.getElem?_eq_some_iff.1 hy).1
   exact (h i _ y (List.getElem?_eq_getElem hi) hy).rel hH hbl inv hinv (h3 i _ y' (List.getElem?_eq_getElem hi) hy'))
 | sl id n g j b hb hj =>
  obtain ⟨ad, cap, b', e, hb1, hd1, hg1, hn1, hs1, hm1, hh⟩ := ka8 hx
  obtain ⟨hb2, hd2, hg2⟩ := q7 hb
  have : b' = b := Option.some.inj (hb1.symm.trans hb2)
  subst this
  obtain ⟨b3, hb3, hb4⟩ := hat j id hj
  have : b3 = b' := Option.some.inj (hb3.symm.trans hb1)
  subst this
  rw [e]
  refine .val (.cell (.sl j 0 n 0 ad cap _ hb4 hd1 (Nat.zero_le _) hn1 hs1 hm1 fun _ => ?_))
  have := hh hg2
  simpa only [hinv j id hj] using this
end
end Go.Ev
namespace Go.Ev
open Go
section
variable {W : Nat → Prop} {ρ ρ1 : Rho} {H H2 blks out : List a8} {F F1 : Fz} {w w1 : World}
theorem fc7 (H : List a8) (id : Nat) (f : a8 → a8) (b : a8) (hb : H[id]? = some b) : modAt H id f = H.set id (f b) := by
 simp [modAt, w6, hb, y7]
theorem Sb5 (H : List a8) (id : Nat) (f : a8 → a8) : (modAt H id f).length = H.length := by
 unfold modAt
 split
 ·rw [y7]; simp
 ·rfl
theorem Gb0 : ∀ {roots : List Nat} {H out H2 : List a8}, roots.Nodup → (∀ id ∈ roots, id < H.length) → putBack H roots out = some H2 →
  roots.length ≤ out.length ∧ H2.length = H.length + (out.length - roots.length) ∧
  (∀ (j : Nat) id, roots[j]? = some id → ∃ b c, H[id]? = some b ∧ out[j]? = some c ∧ H2[id]? = some { c with g := b.g + c.g }) ∧
  (∀ id, id < H.length → id ∉ roots → H2[id]? = H[id]?) ∧ ∀ i, H2[H.length + i]? = out[roots.length + i]?
 | [], H, out, H2, _, _, h => by
  have h2 : H2 = H ++ out := by
   cases out with
   | nil => simp [putBack] at h; simp [h]
   | cons c out => simp [putBack, B4] at h; exact h.symm
  subst h2
  refine ⟨by simp, by simp, fun j id h => by simp at h, fun id hid _ => List.getElem?_append_left hid, fun i => ?_⟩
  rw [List.getElem?_append_right (by omega)]
  simp
 | id :: roots, H, [], H2, _, _, h => by simp [putBack] at h
 | id :: roots, H, c :: out, H2, hn, hlt, h => by
  simp only [putBack] at h
  have hid := hlt id (by simp)
  have hb := List.getElem?_eq_getElem hid
  rw [fc7 H id _ _ hb] at h
  obtain ⟨hn1, hn2⟩ := List.nodup_cons.1 hn
  obtain ⟨h1, h2, h3, h4, h5⟩ := Gb0 hn2 (fun id' h' => by simp; exact hlt id' (by simp [h'])) h
  simp only [List.length_set] at h2 h4 h5
  refine ⟨by simp; omega, by simp only [List.length_cons]; omega, fun j id' hj => ?_, fun id' hid' hni => ?_, fun i => ?_⟩
  ·cases j with
   | zero =>
    simp at hj
    subst hj
    refine ⟨_, c, hb, rfl, ?_⟩
    rw [h4 id hid hn1, List.getElem?_set_self hid]
   | succ j =>
    obtain ⟨b', c', g1, g2, g3⟩ := h3 j id' (by simpa using hj)
    have hne : id ≠ id' := fun e => by subst e; exact hn1 (List.mem_of_getElem? (by simpa using hj))
    rw [List.getElem?_set_ne hne] at g1
    exact ⟨b', c', g1, by simpa using g2, g3⟩
  ·have hne : id ≠ id' := fun e => hni (by simp [e])
   rw [h4 id' hid' (fun h => hni (by simp [h])), List.getElem?_set_ne hne]
  ·rw [h5 i]
   simp only [List.length_cons]
   rw [show roots.length + 1 + i = (roots.length + i) + 1 by omega]
   simp
theorem Ka6 (id : Nat) (lent : List Nat) (held : Bool) (H : List a8) : settle (id :: lent) held H = if held then disown (settle lent held H) id else settle lent held H := by
 have e : settle (id :: lent) held H = modAt (settle lent held H) id fun b => { b with own := Bool.rec b.own false held } := rfl
 rw [e]
 cases held with
 | true => rfl
 | false =>
  show modAt (settle lent false H) id (fun b => b) = settle lent false H
  unfold modAt
  rw [w6]
  cases h : (settle lent false H)[id]? with
  | none => rfl
  | some b =>
   show setAt (settle lent false H) id b = _
   rw [y7]
   apply List.ext_getElem?
   intro i
   rw [List.getElem?_set]
   split
   ·next hi =>
    subst hi
    rw [h]
    split
    ·rfl
    ·next hn => rw [List.getElem?_eq_none (by omega)] at h; cases h
   ·rfl
theorem Sb6 (held : Bool) (H : List a8) : ∀ (lent : List Nat), (settle lent held H).length = H.length ∧
  ∀ (id : Nat) b2, (settle lent held H)[id]? = some b2 → ∃ b, H[id]? = some b ∧ b2 = { b with own := b2.own } ∧ (b2.own = b.own ∨ (held = true ∧ id ∈ lent ∧ b2.own = false)) ∧ (held = true → id ∈ lent → b2.own = false)
 | [] => ⟨rfl, fun id b2 h => ⟨b2, h, rfl, .inl rfl, fun _ h => by simp at h⟩⟩
 | l :: lent => by
  obtain ⟨h1, h2⟩ := Sb6 held H lent
  rw [Ka6]
  cases held with
  | false =>
   simp only [Bool.false_eq_true, if_false]
   refine ⟨h1, fun id b2 hb => ?_⟩
   obtain ⟨b, g1, g2, g3, g4⟩ := h2 id b2 hb
   refine ⟨b, g1, g2, ?_, fun h => by cases h⟩
   rcases g3 with g3 | ⟨g3, _⟩
   ·exact .inl g3
   ·cases g3
  | true =>
   simp only [if_true]
   refine ⟨by simp [disown, Sb5, h1], fun id b2 hb => ?_⟩
   by_cases hl : l = id
   ·subst hl
    have hlt : l < (settle lent true H).length := by
     have := (List.getElem?_eq_some_iff.1 hb).1
     simpa [disown, Sb5] using this
    have hg := List.getElem?_eq_getElem hlt
    obtain ⟨b, g1, g2, g3, g4⟩ := h2 l _ hg
    unfold disown at hb
    rw [fc7 _ l _ _ hg, List.getElem?_set_self hlt] at hb
    injection hb with hb
    subst hb
    exact ⟨b, g1, by rw [g2], .inr ⟨trivial, List.mem_cons_self, rfl⟩, fun _ _ => rfl⟩
   ·have hb' : (settle lent true H)[id]? = some b2 := by
     unfold disown modAt at hb
     split at hb
     ·rwa [y7, List.getElem?_set_ne hl] at hb
     ·exact hb
    obtain ⟨b, g1, g2, g3, g4⟩ := h2 id b2 hb'
    refine ⟨b, g1, g2, ?_, fun h hm => ?_⟩
    ·rcases g3 with g3 | ⟨g3, g5, g6⟩
     ·exact .inl g3
     ·exact .inr ⟨trivial, List.mem_cons_of_mem _ g5, g6⟩
    ·rcases List.mem_cons.1 hm with h' | h'
     ·exact absurd h'.symm hl
     ·exact g4 rfl h'
theorem ub7 : ∀ {l r : List Nat}, Ea0 l r = true → ∀ x ∈ l, x ∉ r
 | [], _, _, x, hx => by simp at hx
 | y :: l, r, h, x, hx => by
  have h' : (Bool.rec (Ea0 l r) false (va7 y r) : Bool) = true := h
  cases hm : va7 y r with
  | true => rw [hm] at h'; cases h'
  | false =>
   rw [hm] at h'
   rcases List.mem_cons.1 hx with rfl | hx
   ·rw [Sc6] at hm; simpa using hm
   ·exact ub7 h' x hx
theorem fc8 {p : fa6} {held : Bool} (hp : Ea6 H p) (hbl : blksAt H p.roots = some blks) (hap : Ea0 p.lent p.roots = true) (hpb : putBack H p.roots out = some H2) :
  fc6 H blks out (settle p.lent held H2) (Ka5 p.roots) (· ∈ p.lent) (held = true) := by
 obtain ⟨hl, hat⟩ := Da7 hbl
 have hlt : ∀ id ∈ p.roots, id < H.length := fun id hid => by
  obtain ⟨b, hb, _⟩ := hp.live id hid
  exact (List.getElem?_eq_some_iff.1 hb).1
 obtain ⟨g1, g2, g3, g4, g5⟩ := Gb0 hp.nodup hlt hpb
 obtain ⟨s1, s2⟩ := Sb6 held H2 p.lent
 have hnone : ∀ id, Ka5 p.roots id = none → id ∉ p.roots := fun id h => Ba8 _ _ _ h
 have hnot : ∀ id, id ∈ p.lent → Ka5 p.roots id = none := fun id hid => by
  cases h : Ka5 p.roots id with
  | none => rfl
  | some j => exact absurd (List.mem_of_getElem? (ga9 h)) (ub7 hap id hid)
 refine ⟨fun id j h => ?_, fun id id' j h h' => ?_, fun j hj => ?_, fun id j b h hb => ?_, fun id h => ⟨hnot id h, hp.lent id h⟩, by omega, fun id b2 hid hn hb2 => ?_, fun id b2 hh hm hb2 => ?_, fun id j b2 h hb2 => ?_, fun id b2 hge hb2 => ?_, by rw [s1, g2, hl]⟩
 ·have h1 := ga9 h
  exact ⟨hlt id (List.mem_of_getElem? h1), by rw [hl]; exact (List.getElem?_eq_some_iff.1 h1).1⟩
 ·have h1 := ga9 h
  have h2 := ga9 h'
  exact Option.some.inj (h1.symm.trans h2)
 ·rw [hl] at hj
  exact ⟨p.roots[j], Fb8 hp.nodup (List.getElem?_eq_getElem hj)⟩
 ·have h1 := ga9 h
  obtain ⟨b', hb', hb2⟩ := hat j id h1
  have : b' = b := Option.some.inj (hb'.symm.trans hb)
  subst this
  obtain ⟨b3, hb3, hd3⟩ := hp.live id (List.mem_of_getElem? h1)
  have : b3 = b' := Option.some.inj (hb3.symm.trans hb)
  subst this
  exact ⟨hb2, hd3⟩
 ·obtain ⟨b, k1, k2, k3, _⟩ := s2 id b2 hb2
  rw [g4 id hid (hnone id hn)] at k1
  refine ⟨b, k1, k2, ?_⟩
  rcases k3 with k3 | ⟨a1, a2, a3⟩
  ·exact .inl k3
  ·exact .inr ⟨a1, a2, a3⟩
 ·obtain ⟨b, k1, k2, k3, k4⟩ := s2 id b2 hb2
  exact k4 hh hm
 ·have h1 := ga9 h
  obtain ⟨b, c, k1, k2, k3⟩ := g3 j id h1
  obtain ⟨b', m1, m2, m3, _⟩ := s2 id b2 hb2
  have : b' = { c with g := b.g + c.g } := Option.some.inj (m1.symm.trans k3)
  subst this
  refine ⟨b, c, k1, k2, ?_⟩
  rcases m3 with m3 | ⟨_, m4, _⟩
  ·rw [m2, m3]
  ·exact absurd (hnot id m4) (by rw [h]; simp)
 ·obtain ⟨b', m1, m2, m3, _⟩ := s2 id b2 hb2
  have e : id = H.length + (id - H.length) := by omega
  rw [e, g5] at m1
  rw [hl]
  rcases m3 with m3 | ⟨_, m4, _⟩
  ·have : b2 = b' := by rw [m2, m3]
   rw [this]; exact m1
  ·obtain ⟨b3, hb3, _⟩ := hp.lent id m4
   have := (List.getElem?_eq_some_iff.1 hb3).1
   omega
def Xb8 : a7 → Bool
 | .agg _ | .tup _ | .fn _ _ => false
 | _ => true
theorem Sb7 {p : fa6} {held : Bool} (hp : Ea6 H p) (hbl : blksAt H p.roots = some blks) (hap : Ea0 p.lent p.roots = true) (hpb : putBack H p.roots out = some H2) {j g id g' : Nat} {c : a8} (hc : out[j]? = some c)
  (hid : backId H p.roots j g = (id, g')) : ∃ b2, (settle p.lent held H2)[id]? = some b2 ∧ (∃ n, b2 = { c with g := n + c.g } ∧ g' = n + g) ∧ Z9 ρ ρ1 H.length blks.length (Ka5 p.roots) id = ρ1 j := by
 have hS := fc8 (held := held) hp hbl hap hpb
 obtain ⟨hl, hat⟩ := Da7 hbl
 unfold backId at hid
 rw [w6] at hid
 cases hr : p.roots[j]? with
 | some id0 =>
  obtain ⟨b, hb, _⟩ := hat j id0 hr
  simp only [hr, w6, hb] at hid
  injection hid with e1 e2
  subst e1 e2
  have hpos := Fb8 hp.nodup hr
  have hlt2 : id0 < (settle p.lent held H2).length := by have := hS.len; have := (hS.posLt id0 j hpos).1; omega
  obtain ⟨b', c', k1, k2, k3⟩ := hS.root id0 j _ hpos (List.getElem?_eq_getElem hlt2)
  have : b' = b := Option.some.inj (k1.symm.trans hb)
  subst this
  have : c' = c := Option.some.inj (k2.symm.trans hc)
  subst this
  exact ⟨_, List.getElem?_eq_getElem hlt2, ⟨b'.g, k3, rfl⟩, by simp [Z9, hpos]⟩
 | none =>
  simp only [hr, j7] at hid
  injection hid with e1 e2
  subst e1 e2
  have hjl := (List.getElem?_eq_some_iff.1 hc).1
  have hjge : p.roots.length ≤ j := by
   rcases Nat.lt_or_ge j p.roots.length with h | h
   ·rw [List.getElem?_eq_getElem h] at hr; cases hr
   ·exact h
  have hlt2 : H.length + (j - p.roots.length) < (settle p.lent held H2).length := by have := hS.len; omega
  have hn := hS.new _ _ (by omega) (List.getElem?_eq_getElem hlt2)
  have e : blks.length + (H.length + (j - p.roots.length) - H.length) = j := by omega
  rw [e] at hn
  have hbc := Option.some.inj (hn.symm.trans hc)
  refine ⟨_, List.getElem?_eq_getElem hlt2, ⟨0, by rw [hbc]; simp, by simp⟩, ?_⟩
  have hnn : Ka5 p.roots (H.length + (j - p.roots.length)) = none := by
   cases h : Ka5 p.roots (H.length + (j - p.roots.length)) with
   | none => rfl
   | some j' => have := (hS.posLt _ _ h).1; omega
  have hnl : ¬ (H.length + (j - p.roots.length) < H.length) := by omega
  simp only [Z9, hnn, if_neg hnl]
  rw [e]
section
variable {p : fa6} {held : Bool} (hp : Ea6 H p) (hbl : blksAt H p.roots = some blks) (hap : Ea0 p.lent p.roots = true) (hpb : putBack H p.roots out = some H2)
include hp hbl hap hpb
theorem ub8 {x : a7} {x' : Value} (hx : P6 ρ1 out F1 w1 x x') (hh : held = true ∨ na5 x = false) :
  P6 (Z9 ρ ρ1 H.length blks.length (Ka5 p.roots)) (settle p.lent held H2) (hb9 ρ H F F1 (· ∈ p.lent) (held = true)) w1 (backC H p.roots x) x' := by
 have hm : ∀ {y y'}, R2 F1 w1 y y' → (held = true ∨ na5 y = false) → R2 (hb9 ρ H F F1 (· ∈ p.lent) (held = true)) w1 y y' := fun {y y'} h hh => by
  rcases hh with hh | hh
  ·exact h.adv (fun b o h => ⟨h, .inl hh⟩) (fun _ _ _ => rfl)
  ·exact h.bare hh
 cases hx with
 | mem h =>
  cases h with
  | v u h1 => exact .v _
  | fn f => exact .mem (.fn f)
  | tree es n get ad cap cs hs hcap hes hF hw hr =>
   have hh' : held = true := hh.resolve_right (by simp [na5])
   exact .mem (hm (.tree es n get ad cap cs hs hcap hes hF hw hr) (.inl hh'))
  | nil es get => exact .mem (.nil es get)
 | v u => exact .v _
 | ptr id i c g ad b hb hd hg h =>
  simp only [backC]
  cases hid : backId H p.roots id g with
  | mk id2 g2 =>
  obtain ⟨b2, k1, ⟨n, k2, k3⟩, k4⟩ := Sb7 (ρ := ρ) (ρ1 := ρ1) (held := held) hp hbl hap hpb hb hid
  refine .ptr id2 i c g2 ad b2 k1 (by rw [k2]; exact hd) (by rw [k2, k3]; simp; exact hg) fun hge => ?_
  rw [k4, h (by rw [k2, k3] at hge; simp at hge; omega), k2]
 | sl id off n g ad cap b hb hd hg hn hs hcm h =>
  simp only [backC]
  cases hid : backId H p.roots id g with
  | mk id2 g2 =>
  obtain ⟨b2, k1, ⟨m, k2, k3⟩, k4⟩ := Sb7 (ρ := ρ) (ρ1 := ρ1) (held := held) hp hbl hap hpb hb hid
  refine .sl id2 off n g2 ad cap b2 k1 (by rw [k2]; exact hd) (by rw [k2, k3]; simp; exact hg) hn hs hcm fun hge => ?_
  have := h (by rw [k2, k3] at hge; simp at hge; omega)
  rw [k4, k2]
  exact this
 | tptr cs ad vs hs hF hw hr =>
  have hh' : held = true := hh.resolve_right (by simp [na5])
  exact .tptr cs ad vs hs (fun c hc => ⟨hF c hc, .inl hh'⟩) hw fun c hc => hm (hr c hc) (.inl hh')
 | unk x' => exact .unk _
theorem Hc6 {x : a7} {x' : Value} (hx : R3 ρ1 out F1 w1 x x') (hh : held = true ∨ ia7 x = false) :
  R3 (Z9 ρ ρ1 H.length blks.length (Ka5 p.roots)) (settle p.lent held H2) (hb9 ρ H F F1 (· ∈ p.lent) (held = true)) w1 (backVal1 H p.roots x) x' := by
 have hbar : ∀ {y : a7}, Xb8 y = true → backVal1 H p.roots y = backC H p.roots y ∧ ia7 y = na5 y := fun {y} h => by
  cases y with
  | agg => cases h
  | tup => cases h
  | fn => cases h
  | _ => exact ⟨rfl, rfl⟩
 cases hx with
 | cell h =>
  by_cases hb : Xb8 x = true
  ·obtain ⟨e1, e2⟩ := hbar hb
   rw [e1]
   exact .cell (ub8 hp hbl hap hpb h (e2 ▸ hh))
  ·cases h with
   | mem h => cases h with
    | fn f => exact .cell (.mem (.fn f))
    | _ => exact absurd rfl hb
   | _ => exact absurd rfl hb
 | agg cs vs hl h =>
  show R3 _ _ _ _ (.agg (o3 (backC H p.roots) cs)) _
  rw [n7]
  refine .agg _ vs (by simpa using hl) fun i x x' hx hx' => ?_
  simp only [List.getElem?_map, Option.map_eq_some_iff] at hx
  obtain ⟨y, hy, rfl⟩ := hx
  refine ub8 hp hbl hap hpb (h i y x' hy hx') (hh.imp id fun hh => ?_)
  have hh' : cs.any na5 = false := hh
  rw [List.any_eq_false] at hh'
  simpa using hh' y (List.mem_of_getElem? hy)
 | fn f caps vs hl h =>
  show R3 _ _ _ _ (.fn f (o3 (backC H p.roots) caps)) _
  rw [n7]
  refine .fn f _ vs (by simpa using hl) fun i x x' hx hx' => ?_
  simp only [List.getElem?_map, Option.map_eq_some_iff] at hx
  obtain ⟨y, hy, rfl⟩ := hx
  have hc := h i y x' hy hx'
  refine ub8 hp hbl hap hpb hc (hh.imp id fun hh => ?_)
  have hh' : caps.any Gc7 = false := hh
  rw [List.any_eq_false] at hh'
  have := hh' y (List.mem_of_getElem? hy)
  cases y with
  | fn f l => cases hc with
   | mem h => cases h; rfl
  | tree => exact absurd rfl this
  | tptr => exact absurd rfl this
  | _ => rfl
theorem dd6 {x : a7} {x' : Value} (hx : y8 ρ1 out F1 w1 x x') (hh : held = true ∨ ia7 x = false) :
  y8 (Z9 ρ ρ1 H.length blks.length (Ka5 p.roots)) (settle p.lent held H2) (hb9 ρ H F F1 (· ∈ p.lent) (held = true)) w1 (backVal H p.roots x) x' := by
 cases hx with
 | val h =>
  have e : backVal H p.roots x = backVal1 H p.roots x ∨ ∃ vs, x = .tup vs := by
   cases x with
   | tup vs => exact .inr ⟨vs, rfl⟩
   | _ => exact .inl rfl
  rcases e with e | ⟨vs, rfl⟩
  ·rw [e]
   exact .val (Hc6 hp hbl hap hpb h hh)
  ·cases h with
   | cell h => cases h with
    | mem h => cases h
 | tup xs vs hl h =>
  show y8 _ _ _ _ (.tup (o3 (backVal1 H p.roots) xs)) _
  rw [n7]
  refine .tup _ vs (by simpa using hl) fun i x x' hx hx' => ?_
  simp only [List.getElem?_map, Option.map_eq_some_iff] at hx
  obtain ⟨y, hy, rfl⟩ := hx
  refine Hc6 hp hbl hap hpb (h i y x' hy hx') (hh.imp id fun hh => ?_)
  have hh' : xs.any oc8 = false := hh
  rw [List.any_eq_false] at hh'
  have := hh' y (List.mem_of_getElem? hy)
  have e : ia7 y = oc8 y ∨ ∃ l, y = .tup l := by
   cases y with
   | tup l => exact .inr ⟨l, rfl⟩
   | _ => exact .inl rfl
  rcases e with e | ⟨l, rfl⟩
  ·rw [e]; simpa using this
  ·cases h i _ x' hy hx' with
   | cell h => cases h with
    | mem h => cases h
end
end
end Go.Ev
namespace Go.Ev
open Go
section
variable {W : Nat → Prop} {ρ : Rho} {H H' : List a8} {F : Fz} {w : World} {E : Env}
theorem Gb1 (hH : r8 W ρ H F w) (hG : GOk E F w) {f : FuncId} (hcall : j6 E.P E.G f (E.call f)) {args : List a7} {args' : List Value} {x : a7} (hlen : args.length = args'.length)
  (hargs : ∀ (i : Nat) x x', args[i]? = some x → args'[i]? = some x' → y8 ρ H F w x x') (he : (callA E f args H).run = some (x, H')) :
  Ya3 E.P f ∧ Calls E.P f args'.toArray w fun e w' => ∃ x', e = .returned x' ∧ J3 W ρ H F w x H' x' w' := by
 unfold callA at he
 cases hpr : prepArgs H (E.own f) { roots := [], lent := [] } 0 args with
 | none => rw [hpr] at he; cases he
 | some q =>
 obtain ⟨args2, p⟩ := q
 rw [hpr] at he
 simp only at he
 obtain ⟨hp, _, hl2, hPr⟩ := Ya4 (H := H) (p := { roots := [], lent := [] }) ⟨List.nodup_nil, fun id h => by simp at h, fun id h => by simp at h⟩ hpr
 cases hbl : blksAt H p.roots with
 | none => rw [hbl] at he; cases he
 | some blks =>
 cases hap : Ea0 p.lent p.roots with
 | false => rw [hbl, hap] at he; cases he
 | true =>
 rw [hbl, hap] at he
 simp only at he
 obtain ⟨⟨r, out⟩, hc, he⟩ := DT.run_bind_some he
 simp only at he
 cases hpb : putBack H p.roots out with
 | none => rw [hpb] at he; cases he
 | some H2 =>
 rw [hpb] at he
 simp only at he
 generalize hheld : (ia7 r || out.any Wa9) = held at he
 have he' : some (backVal H p.roots r, settle p.lent held H2) = some (x, H') := he
 injection he' with he'; injection he' with e1 e2
 have hS := fc8 (held := held) hp hbl hap hpb
 let inv : Nat → Nat := fun j => (p.roots[j]?).getD 0
 have hinv1 : ∀ (j : Nat) id, p.roots[j]? = some id → inv j = id := fun j id h => by simp [inv, h]
 obtain ⟨hbll, _⟩ := Da7 hbl
 have hinv : ∀ j, j < blks.length → Ka5 p.roots (inv j) = some j := fun j hj => by
  rw [hbll] at hj
  have h := List.getElem?_eq_getElem hj
  rw [hinv1 j _ h]
  exact Fb8 hp.nodup h
 have hst := hS.start hH inv hinv
 have hargs2 : ∀ (i : Nat) y y', args2[i]? = some y → args'[i]? = some y' → y8 (fun j => ρ (inv j)) blks (Sb4 ρ H F (· ∈ p.lent)) w y y' := fun i y y' hy hy' => by
  have hi : i < args.length := hl2 ▸ (List.getElem?_eq_some_iff.1 hy).1
  have hx := List.getElem?_eq_getElem hi
  exact (hPr i _ y hx hy).rel hH hbl inv hinv1 (hargs i _ y' hx hy')
 obtain ⟨hca, hcalls⟩ := hcall args2 blks r out hc _ _ _ w args' hst (hl2.trans hlen) hargs2 fun g c y hy => by
  obtain ⟨h1, h2, h3⟩ := hG g c y hy
  exact ⟨h1, .inl h2, h3⟩
 refine ⟨hca, hcalls.mono fun e w' ⟨r', her, ρ1, F1, hA, h1, hr⟩ => ?_⟩
 have hheld' : held = true ∨ (ia7 r = false ∧ ∀ b ∈ out, Wa9 b = false) := by
  cases held with
  | true => exact .inl rfl
  | false =>
   rw [Bool.or_eq_false_iff] at hheld
   refine .inr ⟨hheld.1, fun b hb => ?_⟩
   have := List.any_eq_false.1 hheld.2 b hb
   simpa using this
 have hbare : held = true ∨ ∀ (i : Nat) c (j : Nat) rr (k : Nat) y, out[i]? = some c → c.elems[j]? = some rr → rr[k]? = some y → na5 y = false := by
  rcases hheld' with h | ⟨_, h⟩
  ·exact .inl h
  ·refine .inr fun i c j rr k y hc hrr hy => ?_
   have h2 := h c (List.mem_of_getElem? hc)
   have h3 := List.any_eq_false.1 h2 rr (List.mem_of_getElem? hrr)
   have h4 : rr.any na5 = false := by simpa using h3
   have h5 := List.any_eq_false.1 h4 y (List.mem_of_getElem? hy)
   simpa using h5
 obtain ⟨j1, j2⟩ := hS.join hH inv hinv hA h1 hbare
 subst her
 refine ⟨r', rfl, _, _, e2 ▸ j1, e2 ▸ j2, ?_⟩
 rw [← e1, ← e2]
 exact dd6 hp hbl hap hpb hr (hheld'.imp id fun h => h.1)
variable {o : Oper} {ac : Act} {a : List a7} {x : a7}
theorem Qa6 {P : Program} {f : FuncId} (hc : Ya3 P f) (args : Array Value) : (callFunc f args).run P w = .ok (.enter f args) w := by
 obtain ⟨fn, h1, h2, h3⟩ := hc
 have h2' : ¬ fn.body = none := fun hb => by rw [hb] at h2; cases h2
 simp [callFunc, h1, if_neg h2', if_neg h3]
theorem vc8 (hA : ca7 ρ H F w a ac.tmps) (hG : GOk E F w) (l : Array Operand) : (o3 (a9 E a) (l.toList.map f0)).length = (l.map ac.eval).toList.length ∧
  ∀ (i : Nat) x x', (o3 (a9 E a) (l.toList.map f0))[i]? = some x → ((l.map ac.eval).toList)[i]? = some x' → y8 ρ H F w x x' := by
 rw [n7]
 refine ⟨by simp, fun i x x' hx hx' => ?_⟩
 simp at hx hx'
 obtain ⟨y, hy, rfl⟩ := hx
 obtain ⟨y', hy', rfl⟩ := hx'
 have : y' = y := Option.some.inj (hy'.symm.trans hy)
 subst this
 exact j5 hA hG y'
theorem qc5 (hA : ca7 ρ H F w a ac.tmps) (hH : r8 W ρ H F w) (hG : GOk E F w) (hcalls : ∀ f, j6 E.P E.G f (E.call f)) {c : Call} {f : FuncId} (ho : o.op = .call c) (hc : c.callee = .value (.func f))
  (he : (evalOp E a H (.call f (c.args.toList.map f0))).run = some (x, H')) : i5 E.P o ac w (J3 W ρ H F w x H') := by
 obtain ⟨h1, h2⟩ := vc8 (E := E) hA hG c.args
 obtain ⟨k1, k2⟩ := Gb1 hH hG (hcalls f) h1 h2 he
 refine .enter (f := f) (args := c.args.map ac.eval) ?_ (by
  rw [Array.toArray_toList] at k2
  exact k2)
 have hr := Qa6 (w := w) k1 (c.args.map ac.eval)
 simp [execOp, ho, resolve, hc, Act.eval, Deferred.ofValue, invoke, hr]
theorem fc9 (hA : ca7 ρ H F w a ac.tmps) (hH : r8 W ρ H F w) (hG : GOk E F w) (hcalls : ∀ f, j6 E.P E.G f (E.call f)) {c : Call} {y : Operand} (ho : o.op = .call c) (hc : c.callee = .value y)
  (he : (evalOp E a H (.calld (f0 y) (c.args.toList.map f0))).run = some (x, H')) : i5 E.P o ac w (J3 W ρ H F w x H') := by
 obtain ⟨h1, h2⟩ := vc8 (E := E) hA hG c.args
 have hy := j5 hA hG y
 simp only [evalOp] at he
 revert he hy
 cases a9 E a (f0 y) with
 | fn f caps =>
  intro he hy
  simp only at he
  obtain ⟨vs, e, hl, h3⟩ := Qa4 hy
  obtain ⟨k1, k2⟩ := Gb1 (args' := (c.args.map ac.eval).toList ++ vs.toList) hH hG (hcalls f) (by rw [B4]; simp only [List.length_append]; rw [h1, hl]; simp) (fun i u u' hu hu' => by
   rw [B4] at hu
   rcases Nat.lt_or_ge i (c.args.map ac.eval).toList.length with hi | hi
   ·rw [List.getElem?_append_left (by rw [h1]; exact hi)] at hu
    rw [List.getElem?_append_left hi] at hu'
    exact h2 i u u' hu hu'
   ·rw [List.getElem?_append_right (by rw [h1]; exact hi), h1] at hu
    rw [List.getElem?_append_right hi] at hu'
    exact .val (.cell (h3 _ u u' hu (by simpa using hu')))) he
  refine .enter (f := f) (args := c.args.map ac.eval ++ vs) ?_ ?_
  ·have hr := Qa6 (w := w) k1 (c.args.map ac.eval ++ vs)
   simp [execOp, ho, resolve, hc, e, Deferred.ofValue, invoke, hr]
  ·have : ((c.args.map ac.eval).toList ++ vs.toList).toArray = c.args.map ac.eval ++ vs := by simp
   rw [this] at k2
   exact k2
 | _ => intro he; cases he
end
end Go.Ev
namespace Go.Ev
open Go
section
variable {W : Nat → Prop} {ρ : Rho} {H H' : List a8} {F : Fz} {w : World} {E : Env} {o : Oper} {ac : Act} {a : List a7} {x : a7}
theorem i6 {α : Prop} (h : (evalOp E a H .bad).run = some (x, H')) : α := by cases h
theorem qc6 (hA : ca7 ρ H F w a ac.tmps) (hH : r8 W ρ H F w) (hG : GOk E F w) (hs : ∀ cs b, o.op ≠ .select cs b) (he : (evalOp E a H (Xa5 o)).run = some (x, H')) : i5 E.P o ac w (J3 W ρ H F w x H') := by
 unfold Xa5 at he
 cases hts : pa3 o.op.operands.toList with
 | none => rw [hts] at he; exact i6 he
 | some ts => rw [hts] at he; exact Sb0 hA hH hG hts hs he
theorem Db1 {P : Program} {t : TypeId} (h : szT P t ≠ 0) : ∃ i, P.info? t = some i ∧ szT P t = i.size ∧ i.size ≠ 0 := by
 cases hi : P.info? t with
 | none => simp [szT, hi] at h
 | some i => exact ⟨i, rfl, by simp [szT, hi], by simpa [szT, hi] using h⟩
theorem K2 {α : Type} {x : Array α} {l : List α} (h : x.toList = l) : x = l.toArray := by rw [← h]
theorem Ua7 {P : Program} (l : List Operand) (r : List TypeId) : (∃ s y t u, l = [s, y] ∧ r = [t, u]) ∨ (Wb8 P l r = .bad ∧ Hc0 P l r = .bad) := by
 rcases l with _ | ⟨s, _ | ⟨y, _ | ⟨_, _⟩⟩⟩ <;> rcases r with _ | ⟨t, _ | ⟨u, _ | ⟨_, _⟩⟩⟩ <;> first | exact .inr ⟨rfl, rfl⟩ | exact .inl ⟨_, _, _, _, rfl, rfl⟩
theorem ld0 {P : Program} {o : Oper} (l : List Operand) (r : List TypeId) : (∃ y t, l = [y] ∧ r = [t]) ∨ dd1 P o l r = .bad := by
 rcases l with _ | ⟨y, _ | ⟨_, _⟩⟩ <;> rcases r with _ | ⟨t, _ | ⟨_, _⟩⟩ <;> first | exact .inr rfl | exact .inl ⟨_, _, rfl, rfl⟩
set_option maxHeartbeats 1000000 in
theorem Hc7 (hA : ca7 ρ H F w a ac.tmps) (hH : r8 W ρ H F w) (hG : GOk E F w) (hcalls : ∀ f, j6 E.P E.G f (E.call f))
  (he : (evalOp E a H (cOp E.P o)).run = some (x, H')) : i5 E.P o ac w (J3 W ρ H F w x H') := by
 have hgen : (∀ cs b, o.op ≠ .select cs b) → (evalOp E a H (Xa5 o)).run = some (x, H') → i5 E.P o ac w (J3 W ρ H F w x H') := fun hs h => qc6 hA hH hG hs h
 unfold cOp at he
 cases ho : o.op with
 | move y => simp only [ho] at he; exact ec1 hA hH hG (.inl ho) he
 | assign y => simp only [ho] at he; exact ec1 hA hH hG (.inr ho) he
 | nilCheck y => simp only [ho] at he; exact ec2 hA hH hG ho he
 | pick c y z => simp only [ho] at he; exact pc7 hA hH hG ho he
 | alloc t =>
  simp only [ho] at he
  cases hz : zeT E.P t with
  | none => simp only [hz] at he; exact i6 he
  | some z => simp only [hz] at he; exact Ya0 hH ho hz he
 | box t y => simp only [ho] at he; exact Bc7 hA hH hG ho he
 | build t ps =>
  simp only [ho] at he
  cases hz : zeT E.P t with
  | none => simp only [hz] at he; exact i6 he
  | some z =>
  simp only [hz] at he
  cases hc : ya4 E.P t ps.toList with
  | none => simp only [hc] at he; exact i6 he
  | some l =>
  simp only [hc] at he
  split at he
  ·rename_i hall; exact ec9 hA hH hG ho hz hc hall he
  ·exact i6 he
 | buildSlice t n ps =>
  simp only [ho] at he
  cases hu : E.P.underlying t with
  | none => simp only [hu] at he; exact i6 he
  | some u =>
  cases u with
  | slice e =>
   simp only [hu] at he
   cases hz : zeT E.P e with
   | none => simp only [hz] at he; exact i6 he
   | some z =>
   simp only [hz] at he
   cases hc : ya4 E.P t ps.toList with
   | none => simp only [hc] at he; exact i6 he
   | some l =>
   simp only [hc] at he
   split at he
   ·rename_i hcond
    simp only [Bool.and_eq_true] at hcond
    exact Xb6 hA hH hG ho hu hz hc (Nat.le_of_ble_eq_true hcond.1.1) (Nat.eq_of_beq_eq_true hcond.1.2) (Nat.le_of_ble_eq_true hcond.2) he
   ·exact i6 he
  | _ => simp only [hu] at he; exact i6 he
 | load t y =>
  simp only [ho] at he
  cases hu : E.P.underlying t with
  | none => simp only [hu] at he; exact i6 he
  | some u => simp only [hu] at he; exact qc0 hA hH hG ho (by rw [hu]; simp) he
 | store t y z =>
  simp only [ho] at he
  split at he
  ·exact i6 he
  ·rename_i h0
   exact ec6 hA hH hG ho (fun h => h0 (by rw [h]; rfl)) he
 | fieldAddr s y f =>
  simp only [ho] at he
  cases hu : E.P.underlying s with
  | none => simp only [hu] at he; exact i6 he
  | some u =>
  cases u with
  | struct fs =>
   simp only [hu] at he
   cases hf : fs[f]? with
   | none => simp only [hf] at he; exact i6 he
   | some fd =>
   simp only [hf] at he
   split at he
   ·exact i6 he
   ·rename_i h0
    exact Bc4 hA hH hG ho hu hf (fun h => h0 (by rw [h]; rfl)) he
  | _ => simp only [hu] at he; exact i6 he
 | indexAddr t y z =>
  simp only [ho] at he
  cases hu : E.P.underlying t with
  | none => simp only [hu] at he; exact i6 he
  | some u =>
  cases u with
  | array n e =>
   simp only [hu] at he
   split at he
   ·rename_i hi
    obtain ⟨ei, hei⟩ := Option.isSome_iff_exists.1 hi
    exact pc8 hA hH hG ho hu hei he
   ·exact i6 he
  | slice e =>
   simp only [hu] at he
   split at he
   ·rename_i hi
    obtain ⟨ei, hei⟩ := Option.isSome_iff_exists.1 hi
    exact pc9 hA hH hG ho hu hei he
   ·exact i6 he
  | _ => simp only [hu] at he; exact i6 he
 | slice t y lo hi mx =>
  simp only [ho] at he
  cases hu : E.P.underlying t with
  | none => simp only [hu] at he; exact i6 he
  | some u =>
  cases u with
  | slice e =>
   cases mx with
   | some _ => simp only [hu] at he; exact i6 he
   | none =>
   simp only [hu] at he
   split at he
   ·rename_i hi
    obtain ⟨ei, hei⟩ := Option.isSome_iff_exists.1 hi
    exact fc2 hA hH hG ho hu hei he
   ·exact i6 he
  | string =>
   cases mx with
   | some _ => simp only [hu] at he; exact i6 he
   | none => simp only [hu] at he; exact hgen (fun cs b e => by rw [ho] at e; cases e) he
  | _ => simp only [hu] at he; exact i6 he
 | makeSlice t l c =>
  simp only [ho] at he
  cases hu : E.P.underlying t with
  | none => simp only [hu] at he; exact i6 he
  | some u =>
  cases u with
  | slice e =>
   simp only [hu] at he
   cases hz : zeT E.P e with
   | none => simp only [hz] at he; exact i6 he
   | some z =>
   simp only [hz] at he
   split at he
   ·rename_i hcond
    simp only [Bool.and_eq_true] at hcond
    exact qc2 hA hH hG ho hu hz (Nat.eq_of_beq_eq_true hcond.1) (Nat.le_of_ble_eq_true hcond.2) he
   ·exact i6 he
  | _ => simp only [hu] at he; exact i6 he
 | makeFunc fr first caps =>
  cases fr with
  | func f =>
   simp only [ho] at he
   split at he
   ·rename_i hf; exact qc3 hA hH hG ho hf he
   ·exact i6 he
  | _ => simp only [ho] at he; exact i6 he
 | extract y i => simp only [ho] at he; exact Bc3 hA hH hG ho he
 | field t y f =>
  simp only [ho] at he
  cases hu : E.P.underlying t with
  | none => simp only [hu] at he; exact i6 he
  | some u =>
  cases u with
  | struct fs =>
   simp only [hu] at he
   cases hf : fs[f]? with
   | none => simp only [hf] at he; exact i6 he
   | some fd =>
   simp only [hf] at he
   split at he
   ·rename_i hs; exact fc3 hA hH hG ho hu hf hs he
   ·exact i6 he
  | _ => simp only [hu] at he; exact i6 he
 | index t y z =>
  simp only [ho] at he
  cases hu : E.P.underlying t with
  | none => simp only [hu] at he; exact i6 he
  | some u =>
  cases u with
  | array n e =>
   simp only [hu] at he
   split at he
   ·rename_i hs; exact fc4 hA hH hG ho hu hs he
   ·exact i6 he
  | string => simp only [hu] at he; exact hgen (fun cs b e => by rw [ho] at e; cases e) he
  | _ => simp only [hu] at he; exact i6 he
 | binOp op t y z u0 =>
  have hg : (evalOp E a H (Xa5 o)).run = some (x, H') → i5 E.P o ac w (J3 W ρ H F w x H') := hgen (fun cs b e => by rw [ho] at e; cases e)
  have hrest : (evalOp E a H (cd9 E.P o op t y z)).run = some (x, H') → i5 E.P o ac w (J3 W ρ H F w x H') := fun he => by
   unfold cd9 at he
   cases op with
   | eql =>
    by_cases hag : agT E.P t = true
    ·simp only [hag, if_true] at he
     cases hf : Q5 E.P 9 t with
     | none => simp only [hf] at he; exact i6 he
     | some fl =>
     simp only [hf] at he
     by_cases hgt : E.P.eqGuardType E.P.depth t = true
     ·simp only [hgt, if_true] at he; exact i6 he
     ·simp only [hgt, if_false] at he; exact Sb3 hA hH hG ho (.inl ⟨rfl, rfl⟩) hag hf (by simpa using hgt) he
    simp only [hag, if_false] at he
    cases hts : pa3 o.op.operands.toList with
    | none => simp only [hts] at he; exact i6 he
    | some ts => simp only [hts] at he; exact Sb1 hA hH hG ho (.inl ⟨rfl, rfl⟩) hts he
   | neq =>
    by_cases hag : agT E.P t = true
    ·simp only [hag, if_true] at he
     cases hf : Q5 E.P 9 t with
     | none => simp only [hf] at he; exact i6 he
     | some fl =>
     simp only [hf] at he
     by_cases hgt : E.P.eqGuardType E.P.depth t = true
     ·simp only [hgt, if_true] at he; exact i6 he
     ·simp only [hgt, if_false] at he; exact Sb3 hA hH hG ho (.inr ⟨rfl, rfl⟩) hag hf (by simpa using hgt) he
    simp only [hag, if_false] at he
    cases hts : pa3 o.op.operands.toList with
    | none => simp only [hts] at he; exact i6 he
    | some ts => simp only [hts] at he; exact Sb1 hA hH hG ho (.inr ⟨rfl, rfl⟩) hts he
   | _ => exact hg he
  simp only [ho] at he
  cases hu : E.P.underlying t with
  | none => simp only [hu] at he; exact hrest he
  | some u =>
  cases u with
  | int k =>
   simp only [hu] at he
   cases op <;> first | exact Bc2 hA hH hG ho he | exact hg he
  | _ => simp only [hu] at he; exact hrest he
 | unOp op t y =>
  have hg : (evalOp E a H (Xa5 o)).run = some (x, H') → i5 E.P o ac w (J3 W ρ H F w x H') := hgen (fun cs b e => by rw [ho] at e; cases e)
  simp only [ho] at he
  cases op with
  | not => exact Bc0 hA hH hG ho he
  | neg =>
   cases hu : E.P.underlying t with
   | none => simp only [hu] at he; exact hg he
   | some u =>
   cases u with
   | int k => simp only [hu] at he; exact Bc1 hA hH hG ho he
   | _ => simp only [hu] at he; exact hg he
  | _ => exact hg he
 | call c =>
  have hg : (evalOp E a H (Xa5 o)).run = some (x, H') → i5 E.P o ac w (J3 W ρ H F w x H') := hgen (fun cs b e => by rw [ho] at e; cases e)
  simp only [ho] at he
  cases hc : c.callee with
  | value y =>
   simp only [hc] at he
   cases y with
   | func f => exact qc5 hA hH hG hcalls ho hc he
   | _ => exact fc9 hA hH hG hcalls ho hc he
  | invoke r m => simp only [hc] at he; exact i6 he
  | builtin b =>
   simp only [hc] at he
   cases b with
   | append =>
    rcases Ua7 c.args.toList c.argTypes.toList with ⟨s, y, t, u, h1, h2⟩ | h
    ·rw [h1, h2] at he
     simp only [Wb8] at he
     cases hu : E.P.underlying t with
     | none => simp only [hu] at he; exact i6 he
     | some uu =>
     cases uu with
     | slice e =>
      simp only [hu] at he
      split at he
      ·rename_i hcond
       simp only [Bool.and_eq_true, Bool.not_eq_true'] at hcond
       obtain ⟨⟨⟨⟨c1, c2⟩, c3⟩, c4⟩, c5⟩ := hcond
       have htu := Nat.eq_of_beq_eq_true c5
       subst htu
       obtain ⟨ei, hei, hs, _⟩ := Db1 (P := E.P) (t := e) (Nat.pos_iff_ne_zero.1 (Nat.le_of_ble_eq_true c1))
       have hb : byT E.P e = ei.bytes := by simp [byT, hei]
       unfold Gc9 at c3
       simp only [hei] at c3
       cases hz : ei.zero with
       | none => simp [hz] at c3
       | some zv =>
       simp only [hz] at c3
       exact Xb4 hA hH hG ho hc (K2 h1) (K2 h2) hu hei hz (Nat.eq_of_beq_eq_true c3) (hs ▸ Nat.le_of_ble_eq_true c1) (hb ▸ Nat.le_of_ble_eq_true c2) (Nat.ne_of_beq_eq_false c4) he
      ·exact i6 he
     | _ => simp only [hu] at he; exact i6 he
    ·rw [h.1] at he; exact i6 he
   | copy =>
    rcases Ua7 c.args.toList c.argTypes.toList with ⟨s, y, t, u, h1, h2⟩ | h
    ·rw [h1, h2] at he
     simp only [Hc0] at he
     cases hu : E.P.underlying t with
     | none => simp only [hu] at he; exact i6 he
     | some uu =>
     cases uu with
     | slice e =>
      simp only [hu] at he
      split at he
      ·rename_i hi
       obtain ⟨ei, hei⟩ := Option.isSome_iff_exists.1 hi
       exact qc1 hA hH hG ho hc (K2 h1) (K2 h2) hu hei he
      ·exact i6 he
     | _ => simp only [hu] at he; exact i6 he
    ·rw [h.2] at he; exact i6 he
   | clear =>
    have he' : (evalOp E a H (dd0 E.P c.args.toList c.argTypes.toList)).run = some (x, H') := he
    revert he'
    generalize hl1 : c.args.toList = l1
    generalize hl2 : c.argTypes.toList = l2
    intro he'
    unfold dd0 at he'
    split at he'
    ·split at he'
     ·rename_i e hu
      split at he'
      ·rename_i z hz
       split at he'
       ·rename_i hp
        exact Sb2 hA hH hG ho hc (K2 hl1) (K2 hl2) hu hz (by rwa [Nat.blt_eq] at hp) he'
       ·exact i6 he'
      ·exact i6 he'
     ·exact i6 he'
    ·exact i6 he'
   | len =>
    rcases ld0 c.args.toList c.argTypes.toList with ⟨y, t, h1, h2⟩ | h
    ·rw [h1, h2] at he
     simp only [dd1] at he
     cases hu : E.P.underlying t with
     | none => simp only [hu] at he; exact i6 he
     | some uu =>
     cases uu with
     | slice e => simp only [hu] at he; exact Bc9 hA hH hG ho hc (K2 h1) (K2 h2) hu he
     | array n e => simp only [hu] at he; exact Ob5 hH ho hc (K2 h1) (K2 h2) hu he
     | string => simp only [hu] at he; exact hg he
     | _ => simp only [hu] at he; exact i6 he
    ·rw [h] at he; exact i6 he
   | max => exact hg he
   | min => exact hg he
   | _ => exact i6 he
 | convert t u y => simp only [ho] at he; exact hgen (fun cs b e => by rw [ho] at e; cases e) he
 | makeInterface t y => simp only [ho] at he; exact hgen (fun cs b e => by rw [ho] at e; cases e) he
 | typeAssert t y u b => simp only [ho] at he; exact hgen (fun cs b e => by rw [ho] at e; cases e) he
 | _ => simp only [ho] at he; exact i6 he
theorem ob1 : ∀ {cs : List a7}, mb6 Xa0 cs = true → freezeCells H cs = some (cs, H)
 | [], _ => rfl
 | c :: cs, h => by
  have e : mb6 Xa0 (c :: cs) = Bool.rec false (mb6 Xa0 cs) (Xa0 c) := rfl
  rw [e] at h
  cases hc : Xa0 c with
  | false => rw [hc] at h; cases h
  | true =>
   rw [hc] at h
   have ih := ob1 h
   have h1 : freezeCell H c = some (c, H) := by
    unfold Xa0 at hc
    unfold freezeCell
    cases c with
    | v u => simp only at hc ⊢; rw [hc]
    | tree => rfl
    | fn f caps => cases caps with
     | nil => rfl
     | cons => cases hc
    | _ => cases hc
   simp only [freezeCells, h1, ih]
theorem Xb9 {e es n : Nat} {z : List a7} {l : List (Nat × Nat × Arg)} (hb : ∀ {x : a7} {H' : List a8}, (evalOp E a H (.bslice e es n z l)).run = some (x, H') → i5 E.P o ac w (J3 W ρ H F w x H'))
  (he : (evalOp E a H (.tslice es n z l)).run = some (x, H')) : i5 E.P o ac w (J3 W ρ H F w x H') := by
 simp only [evalOp] at he
 cases hf : Wa8 z (o3 (fun p => (p.1, p.2.1, a9 E a p.2.2)) l) with
 | none => rw [hf] at he; cases he
 | some cs =>
 rw [hf] at he
 simp only at he
 cases hp : mb6 Xa0 cs with
 | false => rw [hp] at he; cases he
 | true =>
 rw [hp] at he
 simp only [DT.run_ret] at he
 injection he with he; injection he with e1 e2; subst e1 e2
 have hrun : (evalOp E a H (.bslice e es n z l)).run = some (.sl H.length 0 n 0, H ++ [{ et := e, es, elems := fa5 es n cs, own := true, dead := false, g := 0 }]) := by
  simp only [evalOp, hf, ob1 hp, DT.run_ret, j7, aa5, B4]
 intro next Q hn
 refine hb hrun next Q fun x' w' ⟨ρ', F', a1, a2, a3⟩ => hn x' w' ?_
 generalize hblk : ({ et := e, es, elems := fa5 es n cs, own := true, dead := false, g := 0 } : a8) = blk at a1 a2 a3
 have hN : (H ++ [blk])[H.length]? = some blk := by simp
 have hd : blk.dead = false := by rw [← hblk]
 obtain ⟨F2, b1, b2, b3⟩ := a2.disown H.length blk hN hd
 have hat : blkAt (H ++ [blk]) H.length 0 = some blk := by
  unfold blkAt
  rw [w6, hN, ← hblk]
  rfl
 have htree := ub4 a2 hat a3 b1.more b3
 have hlow : ∀ (id : Nat) b, H[id]? = some b → ((H ++ [blk]).set H.length { blk with own := false })[id]? = some b := fun id b h => by
  have := (List.getElem?_eq_some_iff.1 h).1
  rw [List.getElem?_set_ne (by omega), List.getElem?_append_left this]
  exact h
 have hext : ∀ (id : Nat) b, H[id]? = some b → ρ' id = ρ id := fun id b h => by
  obtain ⟨b', h1, _, _, h4⟩ := a1.heap id b h
  rw [List.getElem?_append_left (List.getElem?_eq_some_iff.1 h).1] at h1
  have : b' = b := Option.some.inj (h1.symm.trans h)
  subst this
  exact (h4 rfl).1
 refine ⟨ρ', F2, ⟨a1.ext, fun id b h => ⟨b, h, rfl, Nat.le_refl _, fun _ => ⟨hext id b h, rfl, Nat.le_refl _⟩⟩, fun b o h => b1.more b o (a1.more b o h), fun b o h => ?_, fun id b h hn => absurd rfl (hn b h)⟩, ?_, ?_⟩
 ·rcases b1.new b o h with h | h
  ·exact a1.new b o h
  ·exact .inr h
 ·exact b2.pull (fun id => id) (fun id b h hd => ⟨hlow id b h, rfl⟩) fun _ _ _ _ _ _ _ _ h => h
 ·have e : Wa7 blk 0 n = .tree es n fun i => r7 (fa5 es n cs) (0 + i) := by rw [← hblk]; rfl
  rw [← e]
  exact .val (.cell (.mem htree))
theorem ub9 {ops : Array Oper} (hA : ca7 ρ H F w a ac.tmps) (hH : r8 W ρ H F w) (hG : GOk E F w) (hcalls : ∀ f, j6 E.P E.G f (E.call f))
  (he : (evalOp E a H (Qa2 E.P ops o)).run = some (x, H')) : i5 E.P o ac w (J3 W ρ H F w x H') := by
 have hs : (evalOp E a H (cOp E.P o)).run = some (x, H') → i5 E.P o ac w (J3 W ρ H F w x H') := fun h => Hc7 hA hH hG hcalls h
 unfold Qa2 at he
 split at he
 ·rename_i c ho
  split at he
  ·rename_i hcb
   revert he
   generalize hl1 : c.args.toList = l1
   generalize hl2 : c.argTypes.toList = l2
   intro he
   unfold kd8 at he
   split at he
   ·rename_i s y t u
    split at he
    ·rename_i e hu
     split at he
     ·rename_i hc
      simp only [Bool.and_eq_true, Nat.blt_eq] at hc
      have htu := Nat.eq_of_beq_eq_true hc.2.2
      subst htu
      obtain ⟨ti, hi, hi0, hi1⟩ := Db1 (Nat.ne_of_gt hc.2.1)
      exact Fb4 (y := .tmp s) hA hH hG ho hcb (K2 hl1) (K2 hl2) hu hi (by omega) he
     ·exact hs he
    ·exact hs he
   ·exact hs he
  ·exact hs he
 ·exact hs he
theorem Sb8 {ops : Array Oper} (tr : Nat) (hA : ca7 ρ H F w a ac.tmps) (hH : r8 W ρ H F w) (hG : GOk E F w) (hcalls : ∀ f, j6 E.P E.G f (E.call f))
  (he : (evalOp E a H (Xa8 tr (Qa2 E.P ops o))).run = some (x, H')) : i5 E.P o ac w (J3 W ρ H F w x H') := by
 have hs : ∀ {x : a7} {H' : List a8}, (evalOp E a H (Qa2 E.P ops o)).run = some (x, H') → i5 E.P o ac w (J3 W ρ H F w x H') := fun h => ub9 hA hH hG hcalls h
 revert hs he
 generalize Qa2 E.P ops o = q
 intro he hs
 cases q with
 | bslice e es n z l =>
  simp only [Xa8] at he
  split at he
  ·exact hs he
  ·exact Xb9 hs he
 | _ => exact hs he
end
end Go.Ev
namespace Go.Ev
open Go
section
variable {W : Nat → Prop} {ρ ρ0 : Rho} {H H0 H2 : List a8} {F F0 : Fz} {w w0 : World} {k : Nat} {roots : List Nat}
structure TOk (k : Nat) (roots : List Nat) : Prop where
 nodup : roots.Nodup
 first : ∀ i, i < k → roots[i]? = some i
def TLe (r s : List Nat) : Prop := ∀ (i : Nat) y, r[i]? = some y → s[i]? = some y
theorem TLe.refl (r : List Nat) : TLe r r := fun _ _ h => h
theorem TLe.trans {r s t : List Nat} (h : TLe r s) (k : TLe s t) : TLe r t := fun i y hy => k i y (h i y hy)
theorem TOk.start (k : Nat) : TOk k (List.range k) := ⟨List.nodup_range, fun i hi => by rw [List.getElem?_range hi]⟩
theorem TOk.idx {id j : Nat} {r : List Nat} (hr : TOk k roots) (h : ga7 roots id = (j, r)) : TOk k r ∧ TLe roots r ∧ r[j]? = some id := by
 obtain ⟨h1, h2, h3, _⟩ := Fb9 hr.nodup h
 exact ⟨⟨h2, fun i hi => h3 i i (hr.first i hi)⟩, h3, h1⟩
def gAt (k j g : Nat) : Nat := match Nat.blt j k with | true => g | false => 0
inductive TC (k : Nat) (H : List a8) (r : List Nat) : a7 → a7 → Prop
 | unk (x : a7) : TC k H r x .unk
 | ptr (id i c g j : Nat) (b : a8) (hb : blkAt H id g = some b) (hj : r[j]? = some id) : TC k H r (.ptr id i c g) (.ptr j i c (gAt k j g))
 | sl (id off n g j : Nat) (b : a8) (hb : blkAt H id g = some b) (hj : r[j]? = some id) : TC k H r (.sl id off n g) (.sl j off n (gAt k j g))
 | same (x : a7) (h : match x with | .ptr .. | .sl .. => False | _ => True) : TC k H r x x
inductive TV (k : Nat) (H : List a8) (r : List Nat) : a7 → a7 → Prop
 | cell {x z : a7} (hx : Xb8 x = true) (h : TC k H r x z) : TV k H r x z
 | agg (cs ds : List a7) (hl : ds.length = cs.length) (h : ∀ (i : Nat) x z, cs[i]? = some x → ds[i]? = some z → TC k H r x z) : TV k H r (.agg cs) (.agg ds)
 | fn (f : FuncId) (cs ds : List a7) (hl : ds.length = cs.length) (h : ∀ (i : Nat) x z, cs[i]? = some x → ds[i]? = some z → TC k H r x z) : TV k H r (.fn f cs) (.fn f ds)
 | tup (l : List a7) : TV k H r (.tup l) (.tup l)
inductive TW (k : Nat) (H : List a8) (r : List Nat) : a7 → a7 → Prop
 | val {x z : a7} (hx : ∀ l, x ≠ .tup l) (h : TV k H r x z) : TW k H r x z
 | tup (cs ds : List a7) (hl : ds.length = cs.length) (h : ∀ (i : Nat) x z, cs[i]? = some x → ds[i]? = some z → TV k H r x z) : TW k H r (.tup cs) (.tup ds)
theorem TC.le {r s : List Nat} {x z : a7} (h : TC k H r x z) (hle : TLe r s) : TC k H s x z := by
 cases h with
 | unk x => exact .unk x
 | ptr id i c g j b hb hj => exact .ptr id i c g j b hb (hle _ _ hj)
 | sl id off n g j b hb hj => exact .sl id off n g j b hb (hle _ _ hj)
 | same x h => exact .same x h
theorem TV.le {r s : List Nat} {x z : a7} (h : TV k H r x z) (hle : TLe r s) : TV k H s x z := by
 cases h with
 | cell hx h => exact .cell hx (h.le hle)
 | agg cs ds hl h => exact .agg cs ds hl fun i x z hx hz => (h i x z hx hz).le hle
 | fn f cs ds hl h => exact .fn f cs ds hl fun i x z hx hz => (h i x z hx hz).le hle
 | tup l => exact .tup l
theorem TW.le {r s : List Nat} {x z : a7} (h : TW k H r x z) (hle : TLe r s) : TW k H s x z := by
 cases h with
 | val hx h => exact .val hx (h.le hle)
 | tup cs ds hl h => exact .tup cs ds hl fun i x z hx hz => (h i x z hx hz).le hle
theorem gc0 {x z : a7} {r : List Nat} (hr : TOk k roots) (h : Eb7 k H roots x = (z, r)) : TOk k r ∧ TLe roots r ∧ TC k H r x z := by
 have hsame : ∀ {y : a7}, (y, roots) = (z, r) → TC k H roots x y → TOk k r ∧ TLe roots r ∧ TC k H r x z := fun {y} e hc => by
  injection e with e1 e2
  subst e1 e2
  exact ⟨hr, .refl _, hc⟩
 unfold Eb7 at h
 cases x with
 | ptr id i c g =>
  simp only at h
  cases hb : blkAt H id g with
  | none => simp only [hb] at h; exact hsame h (.unk _)
  | some b =>
   simp only [hb] at h
   cases hi : ga7 roots id with
   | mk j r2 =>
    simp only [hi] at h
    injection h with e1 e2
    subst e1 e2
    obtain ⟨h1, h2, h3⟩ := hr.idx hi
    exact ⟨h1, h2, .ptr id i c g j b hb h3⟩
 | sl id off n g =>
  simp only at h
  cases hb : blkAt H id g with
  | none => simp only [hb] at h; exact hsame h (.unk _)
  | some b =>
   simp only [hb] at h
   cases hi : ga7 roots id with
   | mk j r2 =>
    simp only [hi] at h
    injection h with e1 e2
    subst e1 e2
    obtain ⟨h1, h2, h3⟩ := hr.idx hi
    exact ⟨h1, h2, .sl id off n g j b hb h3⟩
 | _ => exact hsame h (.same _ trivial)
theorem Gb2 : ∀ {l z : List a7} {roots r : List Nat}, TOk k roots → mb7 k H l roots = (z, r) → TOk k r ∧ TLe roots r ∧ z.length = l.length ∧ ∀ (i : Nat) x y, l[i]? = some x → z[i]? = some y → TC k H r x y
 | [], z, roots, r, hr, h => by
  simp only [mb7] at h
  injection h with e1 e2
  subst e1 e2
  exact ⟨hr, .refl _, rfl, fun i x y hx => by simp at hx⟩
 | x :: l, z, roots, r, hr, h => by
  simp only [mb7] at h
  cases h1 : Eb7 k H roots x with
  | mk y r1 =>
  simp only [h1] at h
  cases h2 : mb7 k H l r1 with
  | mk l2 r2 =>
  simp only [h2] at h
  injection h with e1 e2
  subst e1 e2
  obtain ⟨a1, a2, a3⟩ := gc0 hr h1
  obtain ⟨b1, b2, b3, b4⟩ := Gb2 a1 h2
  refine ⟨b1, a2.trans b2, by simp [b3], fun i u v hu hv => ?_⟩
  cases i with
  | zero => simp at hu hv; subst hu hv; exact a3.le b2
  | succ i => exact b4 i u v (by simpa using hu) (by simpa using hv)
theorem Sb9 {x z : a7} {r : List Nat} (hr : TOk k roots) (h : Xa2 k H roots x = (z, r)) : TOk k r ∧ TLe roots r ∧ TV k H r x z := by
 have h1 : ∀ (hx : Xb8 x = true), Eb7 k H roots x = (z, r) → TOk k r ∧ TLe roots r ∧ TV k H r x z := fun hx h => by
  obtain ⟨a1, a2, a3⟩ := gc0 hr h
  exact ⟨a1, a2, .cell hx a3⟩
 cases x with
 | fn f caps =>
  simp only [Xa2] at h
  cases h2 : mb7 k H caps roots with
  | mk l r2 =>
  simp only [h2] at h
  injection h with e1 e2
  subst e1 e2
  obtain ⟨b1, b2, b3, b4⟩ := Gb2 hr h2
  exact ⟨b1, b2, .fn f caps l b3 b4⟩
 | agg caps =>
  simp only [Xa2] at h
  cases h2 : mb7 k H caps roots with
  | mk l r2 =>
  simp only [h2] at h
  injection h with e1 e2
  subst e1 e2
  obtain ⟨b1, b2, b3, b4⟩ := Gb2 hr h2
  exact ⟨b1, b2, .agg caps l b3 b4⟩
 | tup l =>
  simp only [Xa2, Eb7] at h
  injection h with e1 e2
  subst e1 e2
  exact ⟨hr, .refl _, .tup l⟩
 | _ => exact h1 rfl h
theorem Tb0 : ∀ {l z : List a7} {roots r : List Nat}, TOk k roots → jb4 k H l roots = (z, r) → TOk k r ∧ TLe roots r ∧ z.length = l.length ∧ ∀ (i : Nat) x y, l[i]? = some x → z[i]? = some y → TV k H r x y
 | [], z, roots, r, hr, h => by
  simp only [jb4] at h
  injection h with e1 e2
  subst e1 e2
  exact ⟨hr, .refl _, rfl, fun i x y hx => by simp at hx⟩
 | x :: l, z, roots, r, hr, h => by
  simp only [jb4] at h
  cases h1 : Xa2 k H roots x with
  | mk y r1 =>
  simp only [h1] at h
  cases h2 : jb4 k H l r1 with
  | mk l2 r2 =>
  simp only [h2] at h
  injection h with e1 e2
  subst e1 e2
  obtain ⟨a1, a2, a3⟩ := Sb9 hr h1
  obtain ⟨b1, b2, b3, b4⟩ := Tb0 a1 h2
  refine ⟨b1, a2.trans b2, by simp [b3], fun i u v hu hv => ?_⟩
  cases i with
  | zero => simp at hu hv; subst hu hv; exact a3.le b2
  | succ i => exact b4 i u v (by simpa using hu) (by simpa using hv)
theorem Gb3 {x z : a7} {r : List Nat} (hr : TOk k roots) (h : Eb8 k H roots x = (z, r)) : TOk k r ∧ TLe roots r ∧ TW k H r x z := by
 have h1 : (∀ l, x ≠ .tup l) → Xa2 k H roots x = (z, r) → TOk k r ∧ TLe roots r ∧ TW k H r x z := fun hx h => by
  obtain ⟨a1, a2, a3⟩ := Sb9 hr h
  exact ⟨a1, a2, .val hx a3⟩
 cases x with
 | tup caps =>
  simp only [Eb8] at h
  cases h2 : jb4 k H caps roots with
  | mk l r2 =>
  simp only [h2] at h
  injection h with e1 e2
  subst e1 e2
  obtain ⟨b1, b2, b3, b4⟩ := Tb0 hr h2
  exact ⟨b1, b2, .tup caps l b3 b4⟩
 | _ => exact h1 (fun _ e => by cases e) h
theorem Gb4 : ∀ {l z : List a7} {roots r : List Nat}, TOk k roots → mb8 k H l roots = (z, r) → TOk k r ∧ TLe roots r ∧ z.length = l.length ∧ ∀ (i : Nat) x y, l[i]? = some x → z[i]? = some y → TW k H r x y
 | [], z, roots, r, hr, h => by
  simp only [mb8] at h
  injection h with e1 e2
  subst e1 e2
  exact ⟨hr, .refl _, rfl, fun i x y hx => by simp at hx⟩
 | x :: l, z, roots, r, hr, h => by
  simp only [mb8] at h
  cases h1 : Eb8 k H roots x with
  | mk y r1 =>
  simp only [h1] at h
  cases h2 : mb8 k H l r1 with
  | mk l2 r2 =>
  simp only [h2] at h
  injection h with e1 e2
  subst e1 e2
  obtain ⟨a1, a2, a3⟩ := Gb3 hr h1
  obtain ⟨b1, b2, b3, b4⟩ := Gb4 a1 h2
  refine ⟨b1, a2.trans b2, by simp [b3], fun i u v hu hv => ?_⟩
  cases i with
  | zero => simp at hu hv; subst hu hv; exact a3.le b2
  | succ i => exact b4 i u v (by simpa using hu) (by simpa using hv)
def reG (k j : Nat) (b : a8) : a8 := match Nat.blt j k with | true => b | false => { b with g := 0 }
theorem Ya5 : ∀ {roots : List Nat} {j0 : Nat} {H2 : List a8}, la2 k H j0 roots = some H2 → H2.length = roots.length ∧ ∀ (j : Nat) id, roots[j]? = some id → ∃ b, H[id]? = some b ∧ H2[j]? = some (reG k (j0 + j) b)
 | [], j0, H2, h => by
  simp only [la2] at h
  injection h with h
  subst h
  exact ⟨rfl, fun j id h => by simp at h⟩
 | id :: roots, j0, H2, h => by
  simp only [la2, w6] at h
  cases hb : H[id]? with
  | none => simp [hb] at h
  | some b =>
  simp only [hb] at h
  cases hr : la2 k H (j0 + 1) roots with
  | none => simp [hr] at h
  | some l =>
  simp only [hr] at h
  injection h with h; subst h
  obtain ⟨h1, h2⟩ := Ya5 hr
  refine ⟨by simp [h1], fun j id' hj => ?_⟩
  cases j with
  | zero => simp at hj; subst hj; exact ⟨b, hb, rfl⟩
  | succ j =>
   obtain ⟨b', k1, k2⟩ := h2 j id' (by simpa using hj)
   exact ⟨b', k1, by rw [show j0 + (j + 1) = j0 + 1 + j by omega]; exact k2⟩
theorem la3 (j : Nat) (b : a8) : (reG k j b).dead = b.dead := by unfold reG; split <;> rfl
theorem Yb0 (j : Nat) (b : a8) : (reG k j b).own = b.own := by unfold reG; split <;> rfl
theorem Ea7 (j : Nat) (b : a8) : (reG k j b).es = b.es := by unfold reG; split <;> rfl
theorem oa2 (j : Nat) (b : a8) : (reG k j b).elems = b.elems := by unfold reG; split <;> rfl
theorem kb1 (j : Nat) (b : a8) : (reG k j b).et = b.et := by unfold reG; split <;> rfl
theorem ad5 (j : Nat) (b : a8) : (reG k j b).g = gAt k j b.g := by unfold reG gAt; split <;> rfl
section
variable (hr : TOk k roots) (hH : r8 W ρ H F w) (hb : la2 k H 0 roots = some H2)
include hb
theorem ob2 {j : Nat} {c : a8} (hc : H2[j]? = some c) : ∃ id b, roots[j]? = some id ∧ (roots[j]?).getD 0 = id ∧ H[id]? = some b ∧ c = reG k j b := by
 obtain ⟨hl, hat⟩ := Ya5 hb
 have hj : j < roots.length := hl ▸ (List.getElem?_eq_some_iff.1 hc).1
 have hg := List.getElem?_eq_getElem hj
 obtain ⟨b, h1, h2⟩ := hat j _ hg
 refine ⟨_, b, hg, by simp [hg], h1, ?_⟩
 rw [Nat.zero_add] at h2
 exact Option.some.inj (hc.symm.trans h2)
include hr hH in
theorem db3 : r8 W (fun j => ρ ((roots[j]?).getD 0)) H2 F w := by
 refine ⟨fun j c hc hd => ?_, fun j j' c c' hc hc' hd hd' ho hne => ?_, hH.frz, hH.new⟩
 ·obtain ⟨id, b, h1, h2, h3, h4⟩ := ob2 hb hc
  subst h4
  rw [la3] at hd
  obtain ⟨cc, t, fr, hB⟩ := hH.blk id b h3 hd
  simp only [h2]
  exact ⟨cc, t, fr, hB.obj, hB.room, by rw [oa2, Ea7]; exact hB.len, by rw [oa2, Ea7]; exact hB.rows, by rw [oa2, Ea7]; exact hB.cell, by rw [Yb0, kb1]; exact hB.own, by rw [Yb0, oa2, Ea7]; exact hB.kept⟩
 ·obtain ⟨id, b, h1, h2, h3, h4⟩ := ob2 hb hc
  obtain ⟨id', b', h1', h2', h3', h4'⟩ := ob2 hb hc'
  subst h4 h4'
  simp only [h2, h2']
  rw [la3] at hd hd'
  rw [Yb0] at ho
  refine hH.apart id id' b b' h3 h3' hd hd' ho fun e => hne ?_
  subst e
  obtain ⟨a1, a2⟩ := List.getElem?_eq_some_iff.1 h1
  obtain ⟨b1, b2⟩ := List.getElem?_eq_some_iff.1 h1'
  exact (List.getElem_inj hr.nodup).1 (a2.trans b2.symm)
theorem db4 {x z : a7} {x' : Value} (h : TC k H roots x z) (hx : P6 ρ H F w x x') : P6 (fun j => ρ ((roots[j]?).getD 0)) H2 F w z x' := by
 obtain ⟨hl, hat⟩ := Ya5 hb
 cases h with
 | unk x => exact .unk _
 | ptr id i c g j b hb1 hj =>
  obtain ⟨hb2, hd2, hg2⟩ := q7 hb1
  obtain ⟨b', k1, k2⟩ := hat j id hj
  have : b' = b := Option.some.inj (k1.symm.trans hb2)
  subst this
  rw [Nat.zero_add] at k2
  obtain ⟨ad, b3, e, m1, m2, m3, m4⟩ := ia9 (.val (.cell hx))
  have : b3 = b' := Option.some.inj (m1.symm.trans hb2)
  subst this
  rw [e]
  refine .ptr j i c _ ad _ k2 (by rw [la3]; exact hd2) (by rw [ad5, hg2]; exact Nat.le_refl _) fun _ => ?_
  rw [m4 hg2, Ea7]
  simp [hj]
 | sl id off n g j b hb1 hj =>
  obtain ⟨hb2, hd2, hg2⟩ := q7 hb1
  obtain ⟨b', k1, k2⟩ := hat j id hj
  have : b' = b := Option.some.inj (k1.symm.trans hb2)
  subst this
  rw [Nat.zero_add] at k2
  obtain ⟨ad, cap, b3, e, m1, m2, m3, m4, m5, m6, m7⟩ := ka8 (.val (.cell hx))
  have : b3 = b' := Option.some.inj (m1.symm.trans hb2)
  subst this
  rw [e]
  refine .sl j off n _ ad cap _ k2 (by rw [la3]; exact hd2) (by rw [ad5, hg2]; exact Nat.le_refl _) m4 m5 m6 fun _ => ?_
  have := m7 hg2
  rw [Ea7, oa2]
  simpa [hj] using this
 | same x hs =>
  cases hx with
  | mem h => exact .mem h
  | v => exact .v _
  | ptr => exact hs.elim
  | sl => exact hs.elim
  | tptr cs a vs h1 h2 h3 h4 => exact .tptr cs a vs h1 h2 h3 h4
  | unk x' => exact .unk _
theorem gc1 {x z : a7} {x' : Value} (h : TV k H roots x z) (hx : R3 ρ H F w x x') : R3 (fun j => ρ ((roots[j]?).getD 0)) H2 F w z x' := by
 cases h with
 | cell hbare h =>
  cases hx with
  | cell hx => exact .cell (db4 hb h hx)
  | _ => cases hbare
 | agg cs ds hl h =>
  obtain ⟨vs, e, hl2, h2⟩ := ja0 (.val hx)
  rw [e]
  refine .agg ds vs (hl.trans hl2) fun i y y' hy hy' => ?_
  have hi : i < cs.length := hl ▸ (List.getElem?_eq_some_iff.1 hy).1
  exact db4 hb (h i _ y (List.getElem?_eq_getElem hi) hy) (h2 i _ y' (List.getElem?_eq_getElem hi) hy')
 | fn f cs ds hl h =>
  obtain ⟨vs, e, hl2, h2⟩ := Qa4 (.val hx)
  rw [e]
  refine .fn f ds vs (hl.trans hl2) fun i y y' hy hy' => ?_
  have hi : i < cs.length := hl ▸ (List.getElem?_eq_some_iff.1 hy).1
  exact db4 hb (h i _ y (List.getElem?_eq_getElem hi) hy) (h2 i _ y' (List.getElem?_eq_getElem hi) hy')
 | tup l =>
  cases hx with
  | cell hx => cases hx with
   | mem h => cases h
theorem Yb1 {x z : a7} {x' : Value} (h : TW k H roots x z) (hx : y8 ρ H F w x x') : y8 (fun j => ρ ((roots[j]?).getD 0)) H2 F w z x' := by
 cases h with
 | val hnt h =>
  cases hx with
  | val hx => exact .val (gc1 hb h hx)
  | tup cs vs hl h2 => exact absurd rfl (hnt cs)
 | tup cs ds hl h =>
  obtain ⟨vs, e, hl2, h2⟩ := Xb2 hx
  rw [e]
  refine .tup ds vs (hl.trans hl2) fun i y y' hy hy' => ?_
  have hi : i < cs.length := hl ▸ (List.getElem?_eq_some_iff.1 hy).1
  exact gc1 hb (h i _ y (List.getElem?_eq_getElem hi) hy) (h2 i _ y' (List.getElem?_eq_getElem hi) hy')
end
end
end Go.Ev
namespace Go.Ev
open Go
section
variable {W : Nat → Prop} {ρ ρ0 : Rho} {H H0 : List a8} {F F0 : Fz} {w w0 : World} {E : Env}
def Inv (W : Nat → Prop) (ρ0 : Rho) (H0 : List a8) (F0 : Fz) (w0 : World) (s : St) (ac : Act) (w : World) : Prop :=
 ac.defers = [] ∧ ∃ ρ F, Adv W ρ0 H0 F0 w0 ρ s.H F w ∧ r8 W ρ s.H F w ∧ ca7 ρ s.H F w s.a ac.tmps
theorem db5 (a : List a7) (dst : Option Nat) (x : a7) : putA a dst x = match dst with | some d => a.set d x | none => a := by
 have : putA a dst x = Option.rec (motive := fun _ => List a7) a (fun d => setAt a d x) dst := rfl
 rw [this]
 cases dst with
 | none => rfl
 | some d => simp [y7]
theorem ca7.putA {a : List a7} {ac : Act} (h : ca7 ρ H F w a ac.tmps) (dst : Option Nat) {x : a7} {x' : Value} (hx : y8 ρ H F w x x') : ca7 ρ H F w (Ev.putA a dst x) (ac.put dst x').tmps := by
 rw [db5]
 cases dst with
 | none => exact h
 | some d => exact h.put d hx
theorem o6 {ac : Act} (dst : Option Nat) (x : Value) : (ac.put dst x).defers = ac.defers := by cases dst <;> rfl
theorem gc2 {s : St} {n : Nat} {x : a7} (hx : x ≠ .unk) (h : a9 E s.a (.t n) = x) : setAt s.a n x = s.a := by
 rw [ua8] at h
 rw [y7]
 rcases Nat.lt_or_ge n s.a.length with hlt | hge
 ·rw [List.getElem?_eq_getElem hlt] at h
  simp only [Option.getD_some] at h
  subst h
  exact List.set_getElem_self hlt
 ·rw [List.getElem?_eq_none hge] at h
  exact absurd h.symm hx
theorem zb1 (s : St) (dst : Option Nat) (g : Nat × Bool) (hide : List Nat) (op : PO) : (pa0 E s ⟨dst, some g, hide, op⟩).run = (match a9 E s.a (.t g.1) with
   | .v (.bool b) => .ite (match g.2 with | true => b | false => !b) (Ab3 E s ⟨dst, some g, hide, op⟩) (.ret ⟨putA s.a dst (.v (.tuple #[])), s.H⟩)
   | .v (.tuple _) => .ret ⟨putA s.a dst (.v (.tuple #[])), s.H⟩
   | _ => .fail : DT St).run := by
 obtain ⟨d, want⟩ := g
 have e : pa0 E s ⟨dst, some (d, want), hide, op⟩ = (match a9 E s.a (.t d) with
   | .v (.bool b) => Bool.rec (motive := fun _ => DT St)
     (.ite b (.ret ⟨putA (setAt s.a d (.v (.bool true))) dst (.v (.tuple #[])), s.H⟩) (Ab3 E ⟨setAt s.a d (.v (.bool false)), s.H⟩ ⟨dst, some (d, want), hide, op⟩))
     (.ite b (Ab3 E ⟨setAt s.a d (.v (.bool true)), s.H⟩ ⟨dst, some (d, want), hide, op⟩) (.ret ⟨putA (setAt s.a d (.v (.bool false))) dst (.v (.tuple #[])), s.H⟩)) want
   | .v (.tuple _) => .ret ⟨putA s.a dst (.v (.tuple #[])), s.H⟩
   | _ => .fail) := rfl
 rw [e]
 have hk : ∀ b, a9 E s.a (.t d) = .v (.bool b) → setAt s.a d (.v (.bool b)) = s.a := fun b h => gc2 (E := E) (by simp) h
 revert hk
 generalize a9 E s.a (.t d) = u
 intro hk
 cases u with
 | v x =>
  cases x with
  | bool b =>
   have := hk b rfl
   cases want <;> cases b <;> simp only [DT.run_ite, this] <;> rfl
  | _ => rfl
 | _ => rfl
theorem Qa7 {ops : Array Oper} {tmps : Array Value} {j d : Nat} {oj : Oper} {b : Bool} (hj : ops[j]? = some oj) (hd : oj.dst = some d) (h : tmps[d]? = some (.bool b)) : yielded ops tmps j = some b := by
 simp [yielded, hj, hd, h]
theorem La4 {ops : Array Oper} {tmps : Array Value} {j d : Nat} {oj : Oper} {vs : Array Value} (hj : ops[j]? = some oj) (hd : oj.dst = some d) (h : tmps[d]? = some (.tuple vs)) : yielded ops tmps j = none := by
 simp [yielded, hj, hd, h]
theorem zb2 {ops : Array Oper} {o : Oper} {g : Option (Nat × Bool)} {hide : List Nat} {op : PO} {s s' : St} {ac : Act} (hg : M4 ops o = some g) (hA : ca7 ρ H F w s.a ac.tmps)
  (he : (pa0 E s ⟨o.dst, g, hide, op⟩).run = some s') :
  (Region.wanted o (yielded ops ac.tmps) = true ∧ (Ab3 E s ⟨o.dst, g, hide, op⟩).run = some s') ∨ (Region.wanted o (yielded ops ac.tmps) = false ∧ s' = ⟨putA s.a o.dst (.v (.tuple #[])), s.H⟩) := by
 unfold M4 at hg
 unfold Region.wanted
 cases hgo : o.guard with
 | none =>
  simp only [hgo] at hg ⊢
  injection hg with hg
  subst hg
  exact .inl ⟨trivial, he⟩
 | some jw =>
  obtain ⟨j, want⟩ := jw
  simp only [hgo] at hg ⊢
  cases hj : ops[j]? with
  | none => simp [hj] at hg
  | some oj =>
  simp only [hj] at hg
  cases hd : oj.dst with
  | none => simp [hd] at hg
  | some d =>
  simp only [hd] at hg
  injection hg with hg
  subst hg
  rw [zb1] at he
  have hev := ua8 E s.a d
  have hrel : ∀ v, a9 E s.a (.t d) = .v v → ac.tmps[d]? = some v := fun v hv => by
   rw [hev] at hv
   rcases Nat.lt_or_ge d s.a.length with hlt | hge
   ·rw [List.getElem?_eq_getElem hlt] at hv
    have hlt' : d < ac.tmps.size := hA.1 ▸ hlt
    have h1 := hA.2 d _ _ (List.getElem?_eq_getElem hlt) (Array.getElem?_eq_getElem hlt')
    simp only [Option.getD_some] at hv
    rw [hv] at h1
    rw [Array.getElem?_eq_getElem hlt', Q6 h1]
   ·rw [List.getElem?_eq_none hge] at hv; cases hv
  revert he hrel
  generalize a9 E s.a (.t d) = u
  intro he hrel
  split at he
  ·rename_i b
   have hb := hrel _ rfl
   rw [Qa7 hj hd hb]
   rcases DT.run_ite_some he with ⟨h1, h2⟩ | ⟨h1, h2⟩
   ·refine .inl ⟨?_, h2⟩
    revert h1
    cases want <;> cases b <;> first | (intro _; rfl) | (intro h; cases h)
   ·refine .inr ⟨?_, ?_⟩
    ·revert h1
     cases want <;> cases b <;> first | (intro _; rfl) | (intro h; cases h)
    ·simpa using h2.symm
  ·rename_i vs
   have hb := hrel _ rfl
   rw [La4 hj hd hb]
   exact .inr ⟨rfl, by simpa using he.symm⟩
  ·cases he
theorem Tb1 {P : Program} {ops : Array Oper} {o : Oper} {r : List Oper} {l : List PI} (h : fb8 P ops (o :: r) = some l) : ∃ g l', M4 ops o = some g ∧ fb8 P ops r = some l' ∧ l = ⟨o.dst, g, [], Qa2 P ops o⟩ :: l' := by
 simp only [fb8] at h
 cases hg : M4 ops o with
 | none => simp [hg] at h
 | some g =>
 simp only [hg] at h
 cases hl : fb8 P ops r with
 | none => simp [hl] at h
 | some l' =>
 simp only [hl] at h
 injection h with h
 exact ⟨g, l', rfl, rfl, h.symm⟩
section
variable (hG0 : GOk E F0 w0) (hcalls : ∀ f, j6 E.P E.G f (E.call f))
include hG0 hcalls
theorem Hc8 {ops : Array Oper} {o : Oper} {g : Option (Nat × Bool)} {s s' : St} {ac : Act} {i : Nat} {Q : Exit → Act → World → Prop} {K : Act → World → Prop} (hi : ops[i]? = some o) (hg : M4 ops o = some g)
  (hI : Inv W ρ0 H0 F0 w0 s ac w) (he : (pa0 E s ⟨o.dst, g, [], Qa2 E.P ops o⟩).run = some s') (hK : ∀ ac' w', Inv W ρ0 H0 F0 w0 s' ac' w' → K ac' w') : wpOp E.P ops Q i K ac w := by
 obtain ⟨hd, ρ, F, hAdv, hH, hA⟩ := hI
 unfold wpOp
 simp only [hi]
 rcases zb2 hg hA he with ⟨hw, he⟩ | ⟨hw, he⟩
 ·rw [if_pos hw]
  refine .inl ?_
  unfold Ab3 at he
  obtain ⟨⟨x, H'⟩, h1, h2⟩ := DT.run_bind_some he
  have h1' : (evalOp E s.a s.H (Qa2 E.P ops o)).run = some (x, H') := h1
  refine ub9 hA hH (hG0.adv hAdv) hcalls h1' K Q fun x' w' hp => ?_
  obtain ⟨ρ', F', a1, a2, a3⟩ := hp
  have h2' : some (⟨putA s.a o.dst x, H'⟩ : St) = some s' := h2
  injection h2' with h2'
  subst h2'
  exact hK _ _ ⟨(o6 _ _).trans hd, ρ', F', hAdv.trans a1, a2, (hA.adv a1).putA o.dst a3⟩
 ·rw [if_neg (by simp [hw])]
  subst he
  exact hK _ _ ⟨(o6 _ _).trans hd, ρ, F, hAdv, hH, hA.putA o.dst (.ofv _)⟩
theorem Tb2 {ops : Array Oper} {Q : Exit → Act → World → Prop} : ∀ (r : List Oper) (k : Nat) (l : List PI) (s s' : St) (ac : Act) (w : World), ops.toList.drop k = r → fb8 E.P ops r = some l → Inv W ρ0 H0 F0 w0 s ac w → (E8 E l s).run = some s' →
  (∀ ac' w', Inv W ρ0 H0 F0 w0 s' ac' w' → Q .normal ac' w') → wpOps E.P ops Q (List.range' k r.length) ac w
 | [], k, l, s, s', ac, w, hr, hl, hI, he, hQ => by
  simp only [fb8] at hl
  injection hl with hl
  subst hl
  have he' : some s = some s' := he
  injection he' with he'
  subst he'
  exact hQ ac w hI
 | o :: r, k, l, s, s', ac, w, hr, hl, hI, he, hQ => by
  obtain ⟨g, l', h1, h2, rfl⟩ := Tb1 hl
  have he' : ((pa0 E s ⟨o.dst, g, [], Qa2 E.P ops o⟩).bind (E8 E l')).run = some s' := he
  obtain ⟨s1, h3, h4⟩ := DT.run_bind_some he'
  have hi : ops[k]? = some o := by
   have : (ops.toList.drop k)[0]? = some o := by rw [hr]; rfl
   simpa using this
  rw [show (o :: r).length = r.length + 1 from rfl, List.range'_succ, wpOps_cons]
  refine Hc8 hG0 hcalls hi h1 hI h3 fun ac' w' hI' => ?_
  refine Tb2 r (k + 1) l' s1 s' ac' w' ?_ h2 hI' h4 hQ
  rw [← List.drop_drop, hr]
  rfl
end
def toX : c8 → Exit
 | .normal => .normal
 | .exit id => .exit id
 | .ret => .ret
inductive F8 (P : Program) : Code → PC → Prop
 | skip : F8 P .skip .skip
 | ops (id : Nat) (ops : Array Oper) (l : List PI) (h : fb8 P ops ops.toList = some l) : F8 P (.region id ops false) (.ops l)
 | draw (id : Nat) (ops : Array Oper) (dsts : List Nat) (as l : List PI) (ps : List (PO × PO)) (h : Ea2 P ops = .draw dsts as l ps) : F8 P (.region id ops true) (.draw dsts as l ps)
 | seq {a b : Code} {x y : PC} (ha : F8 P a x) (hb : F8 P b y) : F8 P (.seq a b) (.seq x y)
 | cond (c : Operand) {a b : Code} {x y : PC} (ha : F8 P a x) (hb : F8 P b y) : F8 P (.cond c a b) (.cond (f0 c) x y)
 | block (id : Nat) {a : Code} {x : PC} (ha : F8 P a x) : F8 P (.block id a) (.block id x)
 | loop (keep : List Nat) {a : Code} {x : PC} (ha : F8 P a x) : F8 P (.loop a) (.loop keep x)
 | scope {a : Code} {x : PC} (ha : F8 P a x) : F8 P (.scope a) x
 | label (l : Nat) : F8 P (.label l) .skip
 | exit (id : Nat) : F8 P (.exit id) (.exit id)
 | ret : F8 P .ret .ret
 | bad (c : Code) : F8 P c .bad
theorem Tc2 (P : Program) : ∀ c : Code, F8 P c (nb4 P c) := by
 intro c
 induction c with
 | skip => exact .skip
 | region id ops d =>
  cases d with
  | false =>
   show F8 P _ (match fb8 P ops ops.toList with | some l => PC.ops l | none => .bad)
   cases h : fb8 P ops ops.toList with
   | none => exact .bad _
   | some l => exact .ops id ops l h
  | true =>
   show F8 P _ (Ea2 P ops)
   have hT : ∀ tr, (∃ a b c d, Ea1 tr P ops = .draw a b c d) ∨ Ea1 tr P ops = .bad := fun tr => by
    unfold Ea1 Xb0
    simp only
    split
    ·split
     ·exact .inl ⟨_, _, _, _, rfl⟩
     ·exact .inr rfl
    ·exact .inr rfl
   have hc : (∃ a b c d, Ea2 P ops = .draw a b c d) ∨ Ea2 P ops = .bad := by
    unfold Ea2
    rcases hT 0 with ⟨a, b, c, d, h⟩ | h
    ·rw [h]; exact .inl ⟨_, _, _, _, rfl⟩
    ·rw [h]
     rcases hT 1 with ⟨a, b, c, d, h⟩ | h
     ·rw [h]; exact .inl ⟨_, _, _, _, rfl⟩
     ·rw [h]; exact hT 2
   rcases hc with ⟨a, b, c, d, h⟩ | h
   ·rw [h]; exact .draw id ops a b c d h
   ·rw [h]; exact .bad _
 | seq a b ha hb => exact .seq ha hb
 | cond c a b ha hb => exact .cond c ha hb
 | block id a ha => exact .block id ha
 | loop a ha => exact .loop _ ha
 | scope a ha => exact .scope ha
 | label l => exact .label l
 | exit id => exact .exit id
 | ret => exact .ret
 | _ => exact .bad _
theorem F8.note {P : Program} {c : Code} {x : PC} (h : F8 P c x) (n ret : Nat) : ∀ (out : Nat) (ex : Nat → Nat), F8 P c (Ev.note n ret x out ex) := by
 induction h with
 | skip => exact fun _ _ => .skip
 | ops id ops l h => exact fun _ _ => .ops id ops l h
 | draw id ops dsts as l ps h => exact fun _ _ => .draw id ops dsts as l ps h
 | seq ha hb iha ihb => exact fun out ex => .seq (iha _ _) (ihb _ _)
 | cond c ha hb iha ihb => exact fun out ex => .cond c (iha _ _) (ihb _ _)
 | block id ha ih => exact fun out ex => .block id (ih _ _)
 | loop keep ha ih => exact fun out ex => .loop _ (ih _ _)
 | scope ha ih => exact fun out ex => .scope (ih out ex)
 | label l => exact fun _ _ => .label l
 | exit id => exact fun _ _ => .exit id
 | ret => exact fun _ _ => .ret
 | bad c => exact fun _ _ => .bad c
theorem Inv.keep {s : St} {ac : Act} {a : List a7} (h : Inv W ρ0 H0 F0 w0 s ac w) (ha : a.length = s.a.length) (hat : ∀ (i : Nat) x, a[i]? = some x → x = .unk ∨ s.a[i]? = some x) : Inv W ρ0 H0 F0 w0 ⟨a, s.H⟩ ac w := by
 obtain ⟨hd, ρ, F, h1, h2, h3⟩ := h
 refine ⟨hd, ρ, F, h1, h2, ha.trans h3.1, fun i x x' hx hx' => ?_⟩
 rcases hat i x hx with rfl | h
 ·exact .unk _
 ·exact h3.2 i x x' h hx'
theorem Ya6 (keep : List Nat) : ∀ (l : List a7) (k : Nat), (G4 keep l k).length = l.length ∧ ∀ (i : Nat) x, (G4 keep l k)[i]? = some x → x = .unk ∨ l[i]? = some x
 | [], k => ⟨rfl, fun i x h => by simp [G4] at h⟩
 | y :: l, k => by
  obtain ⟨h1, h2⟩ := Ya6 keep l (k + 1)
  have e : G4 keep (y :: l) k = Bool.rec .unk y (va7 k keep) :: G4 keep l (k + 1) := rfl
  rw [e]
  refine ⟨by simp [h1], fun i x hx => ?_⟩
  cases i with
  | zero =>
   simp at hx
   subst hx
   cases va7 k keep
   ·exact .inl rfl
   ·exact .inr rfl
  | succ i => exact h2 i x (by simpa using hx)
theorem ob3 {roots : List Nat} {H2 : List a8} (hr : TOk H0.length roots) (hb : la2 H0.length H 0 roots = some H2) (h : Adv W ρ0 H0 F0 w0 ρ H F w) : Adv W ρ0 H0 F0 w0 (fun j => ρ ((roots[j]?).getD 0)) H2 F w := by
 obtain ⟨hl, hat⟩ := Ya5 hb
 refine ⟨h.ext, fun id b hid => ?_, h.more, h.new, fun id b' hid hn => ?_⟩
 ·have hlt := (List.getElem?_eq_some_iff.1 hid).1
  obtain ⟨b1, h1, h2, h3, h4⟩ := h.heap id b hid
  have hroot := hr.first id hlt
  obtain ⟨b2, k1, k2⟩ := hat id id hroot
  have : b2 = b1 := Option.some.inj (k1.symm.trans h1)
  subst this
  have hre : reG H0.length (0 + id) b2 = b2 := by
   rw [Nat.zero_add]
   unfold reG
   have : Nat.blt id H0.length = true := by simpa [Nat.blt_eq] using hlt
   rw [this]
  rw [hre] at k2
  exact ⟨b2, k2, h2, h3, fun hg => by simp only [hroot, Option.getD_some]; exact h4 hg⟩
 ·obtain ⟨id', b, h1, h2, h3, h4⟩ := ob2 hb hid
  simp only [h2]
  by_cases hlt : id < H0.length
  ·have hroot := hr.first id hlt
   have : id' = id := Option.some.inj (h1.symm.trans hroot)
   subst this
   refine h.fresh id' b h3 fun bb hbb hg => hn bb hbb ?_
   rw [h4]
   have : Nat.blt id' H0.length = true := by simpa [Nat.blt_eq] using hlt
   simp only [reG, this]
   exact hg
  ·refine h.fresh id' b h3 fun bb hbb _ => ?_
   have hlt' := (List.getElem?_eq_some_iff.1 hbb).1
   have hroot := hr.first id' hlt'
   obtain ⟨a1, a2⟩ := List.getElem?_eq_some_iff.1 h1
   obtain ⟨b1, b2⟩ := List.getElem?_eq_some_iff.1 hroot
   have := (List.getElem_inj hr.nodup).1 (a2.trans b2.symm)
   omega
theorem Inv.tidy {s s' : St} {ac : Act} (h : Inv W ρ0 H0 F0 w0 s ac w) (he : (Ev.tidy H0.length s).run = some s') : Inv W ρ0 H0 F0 w0 s' ac w := by
 obtain ⟨hd, ρ, F, h1, h2, h3⟩ := h
 unfold Ev.tidy at he
 cases ht : mb8 H0.length s.H s.a (List.range H0.length) with
 | mk a roots =>
 simp only [ht] at he
 cases hb : la2 H0.length s.H 0 roots with
 | none => simp [hb] at he
 | some H2 =>
 simp only [hb] at he
 have he' : some (⟨a, H2⟩ : St) = some s' := he
 injection he' with he'
 subst he'
 obtain ⟨k1, _, k3, k4⟩ := Gb4 (TOk.start _) ht
 refine ⟨hd, _, F, ob3 k1 hb h1, db3 k1 h2 hb, k3.trans h3.1, fun i x x' hx hx' => ?_⟩
 have hi : i < s.a.length := k3 ▸ (List.getElem?_eq_some_iff.1 hx).1
 exact Yb1 hb (k4 i _ x (List.getElem?_eq_getElem hi) hx) (h3.2 i _ x' (List.getElem?_eq_getElem hi) hx')
def qc7 (E : Env) : Prop := ∀ (W : Nat → Prop) (ρ0 : Rho) (H0 : List a8) (F0 : Fz) (w0 : World), GOk E F0 w0 →
 ∀ (id : Nat) (ops : Array Oper) (dsts : List Nat) (as l : List PI) (ps : List (PO × PO)), Ea2 E.P ops = .draw dsts as l ps →
 ∀ (s x s' ), (G2 E H0.length (.draw dsts as l ps) s).run = some (x, s') → ∀ (ac : Act) (w : World) (Q : Exit → Act → World → Prop), Inv W ρ0 H0 F0 w0 s ac w →
 (∀ ac' w', Inv W ρ0 H0 F0 w0 s' ac' w' → Q (toX x) ac' w') → (Code.region id ops true).wp E.P Q ac w
theorem Gb5 {c : Code} {y : PC} {keep : List Nat} (ih : ∀ (s : St) (x : c8) (s' : St), (G2 E H0.length y s).run = some (x, s') → ∀ (ac : Act) (w : World) (Q : Exit → Act → World → Prop), Inv W ρ0 H0 F0 w0 s ac w →
  (∀ ac' w', Inv W ρ0 H0 F0 w0 s' ac' w' → Q (toX x) ac' w') → c.wp E.P Q ac w) :
  ∀ (n : Nat) (s : St) (x : c8) (s' : St), (Va8 (fun s => tidy H0.length ⟨G4 keep s.a 0, s.H⟩) (G2 E H0.length y) n s).run = some (x, s') → ∀ (ac : Act) (w : World) (Q : Exit → Act → World → Prop), Inv W ρ0 H0 F0 w0 s ac w →
  (∀ ac' w', Inv W ρ0 H0 F0 w0 s' ac' w' → Q (toX x) ac' w') → Code.rounds E.P c Q n ac w
 | 0, s, x, s', he, ac, w, Q, hI, hQ => by cases he
 | n + 1, s, x, s', he, ac, w, Q, hI, hQ => by
  have he' : ((tidy H0.length ⟨G4 keep s.a 0, s.H⟩).bind fun s => (G2 E H0.length y s).bind fun r =>
   c8.rec (motive := fun _ => DT (c8 × St)) (Va8 (fun s => tidy H0.length ⟨G4 keep s.a 0, s.H⟩) (G2 E H0.length y) n r.2) (fun id => .ret (.exit id, r.2)) (.ret (.ret, r.2)) r.1).run = some (x, s') := he
  obtain ⟨s1, h1, h2⟩ := DT.run_bind_some he'
  obtain ⟨⟨x2, s2⟩, h3, h4⟩ := DT.run_bind_some h2
  obtain ⟨k1, k2⟩ := Ya6 keep s.a 0
  have hI1 := (hI.keep (a := G4 keep s.a 0) k1 k2).tidy h1
  rw [rounds_succ]
  refine ih s1 x2 s2 h3 ac w _ hI1 fun ac' w' hI2 => ?_
  cases x2 with
  | normal => exact Gb5 ih n s2 x s' h4 ac' w' Q hI2 hQ
  | exit id =>
   have h4' : some (c8.exit id, s2) = some (x, s') := h4
   injection h4' with h4'; injection h4' with e1 e2; subst e1 e2
   exact hQ _ _ hI2
  | ret =>
   have h4' : some (c8.ret, s2) = some (x, s') := h4
   injection h4' with h4'; injection h4' with e1 e2; subst e1 e2
   exact hQ _ _ hI2
section
variable (hG0 : GOk E F0 w0) (hcalls : ∀ f, j6 E.P E.G f (E.call f)) (hdraw : qc7 E)
include hG0 hcalls hdraw
theorem qc8 {c : Code} {y : PC} (hc : F8 E.P c y) : ∀ (s : St) (x : c8) (s' : St), (G2 E H0.length y s).run = some (x, s') → ∀ (ac : Act) (w : World) (Q : Exit → Act → World → Prop), Inv W ρ0 H0 F0 w0 s ac w →
  (∀ ac' w', Inv W ρ0 H0 F0 w0 s' ac' w' → Q (toX x) ac' w') → c.wp E.P Q ac w := by
 induction hc with
 | skip =>
  intro s x s' he ac w Q hI hQ
  have he' : some (c8.normal, s) = some (x, s') := he
  injection he' with he'; injection he' with e1 e2; subst e1 e2
  exact wp_skip (hQ _ _ hI)
 | ops id ops l h =>
  intro s x s' he ac w Q hI hQ
  have he' : ((E8 E l s).bind fun s => .ret (c8.normal, s)).run = some (x, s') := he
  obtain ⟨s1, h1, h2⟩ := DT.run_bind_some he'
  have h2' : some (c8.normal, s1) = some (x, s') := h2
  injection h2' with h2'; injection h2' with e1 e2; subst e1 e2
  refine wp_region ?_
  rw [List.range_eq_range']
  have := Tb2 (Q := Q) hG0 hcalls ops.toList 0 l s s1 ac w rfl h hI h1 hQ
  simpa using this
 | draw id ops dsts as l ps h =>
  intro s x s' he ac w Q hI hQ
  exact hdraw W ρ0 H0 F0 w0 hG0 id ops dsts as l ps h s x s' he ac w Q hI hQ
 | seq ha hb iha ihb =>
  intro s x s' he ac w Q hI hQ
  obtain ⟨⟨x1, s1⟩, h1, h2⟩ := DT.run_bind_some he
  refine wp_seq (iha s x1 s1 h1 ac w _ hI fun ac' w' hI' => ?_)
  cases x1 with
  | normal => exact ihb s1 x s' h2 ac' w' Q hI' hQ
  | exit id =>
   have h2' : some (c8.exit id, s1) = some (x, s') := h2
   injection h2' with h2'; injection h2' with e1 e2; subst e1 e2
   exact hQ _ _ hI'
  | ret =>
   have h2' : some (c8.ret, s1) = some (x, s') := h2
   injection h2' with h2'; injection h2' with e1 e2; subst e1 e2
   exact hQ _ _ hI'
 | @cond c a b y z ha hb iha ihb =>
  intro s x s' he ac w Q hI hQ
  have he' : (match a9 E s.a (f0 c) with
   | .v (.bool b) => DT.ite b (G2 E H0.length y s) (G2 E H0.length z s)
   | _ => DT.fail).run = some (x, s') := he
  have hc : y8 _ _ _ _ (a9 E s.a (f0 c)) (ac.eval c) := j5 hI.2.choose_spec.choose_spec.2.2 (hG0.adv hI.2.choose_spec.choose_spec.1) c
  revert he' hc
  generalize a9 E s.a (f0 c) = u
  intro he' hc
  split at he'
  ·rename_i b
   have hb := Q6 hc
   rcases DT.run_ite_some he' with ⟨rfl, h⟩ | ⟨rfl, h⟩
   ·exact wp_cond_true hb (iha s x s' h ac w Q hI hQ)
   ·exact wp_cond_false hb (ihb s x s' h ac w Q hI hQ)
  ·cases he'
 | @block id a y ha ih =>
  intro s x s' he ac w Q hI hQ
  obtain ⟨⟨x1, s1⟩, h1, h2⟩ := DT.run_bind_some he
  refine wp_block (ih s x1 s1 h1 ac w _ hI fun ac' w' hI' => ?_)
  cases x1 with
  | normal =>
   have h2' : some (c8.normal, s1) = some (x, s') := h2
   injection h2' with h2'; injection h2' with e1 e2; subst e1 e2
   exact hQ _ _ hI'
  | ret =>
   have h2' : some (c8.ret, s1) = some (x, s') := h2
   injection h2' with h2'; injection h2' with e1 e2; subst e1 e2
   exact hQ _ _ hI'
  | exit id' =>
   have h2' : (Bool.rec (motive := fun _ => DT (c8 × St)) (.ret (.exit id', s1)) (.ret (.normal, s1)) (Nat.beq id' id)).run = some (x, s') := h2
   show if id' = id then Q .normal ac' w' else Q (.exit id') ac' w'
   cases hb : Nat.beq id' id with
   | true =>
    rw [hb] at h2'
    have h3 : some (c8.normal, s1) = some (x, s') := h2'
    injection h3 with h3; injection h3 with e1 e2; subst e1 e2
    rw [if_pos (Nat.eq_of_beq_eq_true hb)]
    exact hQ _ _ hI'
   | false =>
    rw [hb] at h2'
    have h3 : some (c8.exit id', s1) = some (x, s') := h2'
    injection h3 with h3; injection h3 with e1 e2; subst e1 e2
    rw [if_neg (Nat.ne_of_beq_eq_false hb)]
    exact hQ _ _ hI'
 | loop keep ha ih =>
  intro s x s' he ac w Q hI hQ
  exact wp_loop_rounds E.N (Gb5 ih E.N s x s' he ac w Q hI hQ)
 | scope ha ih =>
  intro s x s' he ac w Q hI hQ
  refine wp_scope_straight (ih s x s' he ac w (Exit.noGoto Q) hI fun ac' w' hI' => ?_)
  have := hQ ac' w' hI'
  cases x with
  | normal => exact this
  | exit id => exact this
  | ret => exact this
 | label l =>
  intro s x s' he ac w Q hI hQ
  have he' : some (c8.normal, s) = some (x, s') := he
  injection he' with he'; injection he' with e1 e2; subst e1 e2
  exact wp_label (hQ _ _ hI)
 | exit id =>
  intro s x s' he ac w Q hI hQ
  have he' : some (c8.exit id, s) = some (x, s') := he
  injection he' with he'; injection he' with e1 e2; subst e1 e2
  exact wp_exit (hQ _ _ hI)
 | ret =>
  intro s x s' he ac w Q hI hQ
  have he' : some (c8.ret, s) = some (x, s') := he
  injection he' with he'; injection he' with e1 e2; subst e1 e2
  exact wp_ret (hQ _ _ hI)
 | bad c =>
  intro s x s' he ac w Q hI hQ
  cases he
end
end
end Go.Ev
namespace Go.Ev
open Go
section
variable {W : Nat → Prop} {ρ ρ0 : Rho} {H H0 : List a8} {F F0 : Fz} {w w0 : World} {E : Env}
theorem qc9 {P : Program} {t : TypeId} {p z : a7} {p' : Value} {cs : List a7} (hH : r8 W ρ H F w) (hy : y8 ρ H F w p p') (hu : P.underlying t ≠ none) (hl : Ev.loadCells H p (szT P t) = some cs) (h1 : La0 (agT P t) cs = some z) :
  ∃ ad z', p' = .pointer (some ad) ∧ (loadVar t ad).run P w = .ok z' w ∧ R3 ρ H F w z z' := by
 obtain ⟨ad, vs, e, hs, hcl, hvl, hw, hr⟩ := hb6 hH hy hl
 have hti : ∃ i, P.info? t = some i ∧ i.size = szT P t := by
  cases hd : P.underlying t with
  | none => exact absurd hd hu
  | some d => exact Ea3 hd
 obtain ⟨ti, hi1, hi2⟩ := hti
 rcases cb8 h1 with ⟨hag, rfl⟩ | ⟨hag, z', rfl, rfl⟩
 ·refine ⟨ad, .agg vs.toArray, e, ?_, .agg cs vs.toArray (by simp [hcl, hvl]) fun i x x' hx hx' => .mem (hr i x x' hx (by simpa using hx'))⟩
  have hlc : (Go.loadCells ad (szT P t)).run P w = .ok vs.toArray w := by
   rw [← hvl]
   refine run_loadCells_list (P := P) w ad vs fun j v hj => ?_
   have hj' : j < szT P t := by rw [← hvl]; exact (List.getElem?_eq_some_iff.1 hj).1
   rw [T6 (hs (by omega))]
   exact hw j v hj
  simp [loadVar, Da6 hag, sizeOf, typeInfo, hi1, hi2, hlc]
 ·have h1 : szT P t = 1 := by simpa using hcl.symm
  have hv1 : vs.length = 1 := by omega
  obtain ⟨v, rfl⟩ : ∃ v, vs = [v] := by
   match vs, hv1 with
   | [v], _ => exact ⟨v, rfl⟩
  have hc := hw 0 v rfl
  have hsp := hs (by omega)
  have hcell : w.cell? ad = some v := by
   obtain ⟨b, of, sp⟩ := ad
   simp at hsp
   subst hsp
   simpa using hc
  exact ⟨ad, v, e, by simp [loadVar, sa8 hag hu, hcell], .cell (.mem (hr 0 _ v rfl rfl))⟩
def Tc3 (tmps : Array Value) : ResultVar → Sem Value
 | .tmp t => pure (tmps.getD t undef)
 | .cell a t => do loadVar t (← asAddr (tmps.getD a undef))
noncomputable def Gb6 (P : Program) (w : World) (tmps : Array Value) (r : ResultVar) : Value :=
 match r with
 | .tmp t => tmps.getD t undef
 | .cell a t => match (do loadVar t (← asAddr (tmps.getD a undef)) : Sem Value).run P w with
  | .ok v _ => v
  | _ => undef
theorem Cc3 {P : Program} {a : List a7} {tmps : Array Value} (hH : r8 W ρ H F w) (hA : ca7 ρ H F w a tmps) {r : ResultVar} (hr : ec0 P r = true) {x : a7} (hx : ya3 a H (Fb1 P r) = some x) :
  (Tc3 tmps r).run P w = .ok (Gb6 P w tmps r) w ∧ R3 ρ H F w x (Gb6 P w tmps r) := by
 have hat : ∀ {t : Nat} {y : a7}, a[t]? = some y → y8 ρ H F w y (tmps.getD t undef) := fun {t y} hy => by
  have hlt := (List.getElem?_eq_some_iff.1 hy).1
  have hlt' : t < tmps.size := hA.1 ▸ hlt
  have := hA.2 t y _ hy (Array.getElem?_eq_getElem hlt')
  simpa [Array.getD, hlt'] using this
 cases r with
 | tmp t =>
  simp only [Fb1, ya3, w6] at hx
  cases hy : a[t]? with
  | none => simp [hy] at hx
  | some y =>
   rw [hy] at hx
   have hxy : y = x ∧ ∀ l, y ≠ .tup l := by
    cases y <;> first | (simp at hx; done) | (injection hx with hx; exact ⟨hx, fun _ e => by cases e⟩)
   obtain ⟨rfl, hnt⟩ := hxy
   refine ⟨rfl, ?_⟩
   show R3 ρ H F w y (tmps.getD t undef)
   have h := hat hy
   revert h
   generalize tmps.getD t undef = u
   intro h
   cases h with
   | val h => exact h
   | tup xs => exact absurd rfl (hnt xs)
 | cell p t =>
  simp only [Fb1, ya3, w6] at hx
  cases hy : a[p]? with
  | none => simp [hy] at hx
  | some y =>
  simp only [hy] at hx
  cases hl : Ev.loadCells H y (szT P t) with
  | none => simp [hl] at hx
  | some cs =>
  simp only [hl] at hx
  have hu : P.underlying t ≠ none := fun h => by simp [ec0, h] at hr
  obtain ⟨ad, z', e, h1, h2⟩ := qc9 hH (hat hy) hu hl hx
  have hrun : (do loadVar t (← asAddr (tmps.getD p undef)) : Sem Value).run P w = .ok z' w := by
   rw [e]
   simp [asAddr, h1]
  have hv : Gb6 P w tmps (.cell p t) = z' := by
   simp only [Gb6, hrun]
  rw [hv]
  exact ⟨hrun, h2⟩
theorem Gb7 {fn : Func} {a : List a7} {tmps : Array Value} {P : Program} (hH : r8 W ρ H F w) (hA : ca7 ρ H F w a tmps) (hr : fn.results.toList.all (ec0 P) = true) {l : List a7} (hl : va6 (ya3 a H) (fn.results.toList.map (Fb1 P)) = some l) :
  ∃ v, (results fn tmps).run P w = .ok v w ∧ y8 ρ H F w (La2 l) v := by
 obtain ⟨hlen, hat⟩ := Rb6 hl
 simp only [List.length_map, Array.length_toList] at hlen
 have hone : ∀ (i : Nat) r, fn.results.toList[i]? = some r → ∃ x, l[i]? = some x ∧ (Tc3 tmps r).run P w = .ok (Gb6 P w tmps r) w ∧ R3 ρ H F w x (Gb6 P w tmps r) := fun i r hri => by
  obtain ⟨x, h1, h2⟩ := hat i (Fb1 P r) (by simp only [List.getElem?_map, hri, Option.map_some])
  exact ⟨x, h2, Cc3 hH hA (List.all_eq_true.1 hr r (List.mem_of_getElem? hri)) h1⟩
 have hm : (fn.results.mapM (Tc3 tmps)).run P w = .ok (fn.results.map (Gb6 P w tmps)) w := by
  refine nb8 _ _ w fn.results fun r hrm => ?_
  obtain ⟨i, hi⟩ := List.getElem?_of_mem (Array.mem_toList_iff.2 hrm)
  obtain ⟨x, _, h2, _⟩ := hone i r hi
  exact h2
 have hrun : (results fn tmps).run P w = .ok (if h : (fn.results.map (Gb6 P w tmps)).size = 1 then (fn.results.map (Gb6 P w tmps))[0] else .tuple (fn.results.map (Gb6 P w tmps))) w := by
  have e : results fn tmps = (do
    let vs ← fn.results.mapM (Tc3 tmps)
    pure (if h : vs.size = 1 then vs[0] else .tuple vs)) := by
   unfold results
   congr 1
  rw [e, Sem.run_bind, hm]
  rfl
 refine ⟨_, hrun, ?_⟩
 by_cases h1 : fn.results.size = 1
 ·have hl1 : l.length = 1 := hlen.trans h1
  obtain ⟨x, rfl⟩ : ∃ x, l = [x] := by
   match l, hl1 with
   | [x], _ => exact ⟨x, rfl⟩
  have hlt : 0 < fn.results.toList.length := by simp [h1]
  obtain ⟨x', k1, _, k3⟩ := hone 0 _ (List.getElem?_eq_getElem hlt)
  simp at k1
  subst k1
  rw [dif_pos (by simpa using h1)]
  simp at k3 ⊢
  exact .val k3
 ·rw [dif_neg (by simpa using h1)]
  have e : La2 l = .tup l := by
   match l, hlen with
   | [], _ => rfl
   | [x], h => exact absurd h.symm h1
   | _ :: _ :: _, _ => rfl
  rw [e]
  refine .tup l _ (by simp [hlen]) fun i x x' hx hx' => ?_
  have hi : i < fn.results.toList.length := by
   have := (List.getElem?_eq_some_iff.1 hx).1
   simpa [hlen] using this
  obtain ⟨y, k1, _, k3⟩ := hone i _ (List.getElem?_eq_getElem hi)
  have : y = x := Option.some.inj (k1.symm.trans hx)
  subst this
  have : x' = Gb6 P w tmps fn.results.toList[i] := by
   simp only [Array.getElem?_map, Option.map_eq_some_iff] at hx'
   obtain ⟨r, hr1, hr2⟩ := hx'
   rw [← hr2]
   congr 1
   have hr3 : fn.results.toList[i]? = some r := by simpa using hr1
   exact (Option.some.inj ((List.getElem?_eq_getElem hi).symm.trans hr3)).symm
  rw [this]
  exact k3
theorem Hc9 {f : FuncId} {fn : Func} {pf : PFn} (hf : E.P.funcs[f]? = some fn) (hname : fn.name ≠ "runtime.NumGoroutine") (hc : i9 E.P fn = some pf) (hcalls : ∀ f, j6 E.P E.G f (E.call f)) (hdraw : qc7 E) :
  j6 E.P E.G f (p9 E pf) := by
 intro args blks r out he W ρ F w args' hH hlen hargs hG
 unfold i9 at hc
 cases hb : fn.body with
 | none => simp [hb] at hc
 | some c =>
 simp only [hb] at hc
 split at hc
 case isFalse => cases hc
 rename_i hres
 injection hc with hc
 subst hc
 refine ⟨⟨fn, hf, by simp [hb], hname⟩, ?_⟩
 unfold p9 at he
 rw [j7, B4, j7] at he
 obtain ⟨⟨x, s1⟩, h1, h2⟩ := DT.run_bind_some he
 simp only at h2 h1
 refine calls_of_wp hf hb ?_
 have hI : Inv W ρ blks F w ⟨args ++ List.replicate (fn.ntmps - args.length) (.v (.tuple #[])), blks⟩ { tmps := args'.toArray ++ Array.replicate (fn.ntmps - args'.toArray.size) undef, defers := [] } w := by
  refine ⟨rfl, ρ, F, .refl, hH, by simp [hlen], fun i y y' hy hy' => ?_⟩
  simp only at hy hy'
  rcases Nat.lt_or_ge i args.length with hi | hi
  ·rw [List.getElem?_append_left hi] at hy
   rw [Array.getElem?_append_left (by simpa [← hlen] using hi)] at hy'
   exact hargs i y y' hy (by simpa using hy')
  ·rw [List.getElem?_append_right hi] at hy
   rw [Array.getElem?_append_right (by simpa [← hlen] using hi)] at hy'
   rw [List.getElem?_replicate] at hy
   rw [Array.getElem?_replicate] at hy'
   split at hy
   ·split at hy'
    ·injection hy with hy; injection hy' with hy'
     subst hy hy'
     exact .ofv _
    ·cases hy'
   ·cases hy
 have hfin : ∀ (ac' : Act) (w' : World), Inv W ρ blks F w s1 ac' w' → (match x with | .exit _ => False | _ => True) → (match va6 (ya3 s1.a s1.H) (fn.results.toList.map (Fb1 E.P)) with
    | some l => Xa4 blks.length s1.H (La2 l)
    | none => .fail).run = some (r, out) → ac'.defers = [] ∧ ∃ v, (results fn ac'.tmps).run E.P w' = .ok v w' ∧ ∃ r', Ending.returned v = .returned r' ∧ J3 W ρ blks F w r out r' w' := fun ac' w' hI' _ hr => by
  obtain ⟨hd, ρ1, F1, a1, a2, a3⟩ := hI'
  cases hm : va6 (ya3 s1.a s1.H) (fn.results.toList.map (Fb1 E.P)) with
  | none => rw [hm] at hr; cases hr
  | some l =>
  rw [hm] at hr
  obtain ⟨v, k1, k2⟩ := Gb7 a2 a3 hres hm
  refine ⟨hd, v, k1, v, rfl, ?_⟩
  simp only [Xa4] at hr
  cases ht : Eb8 blks.length s1.H (List.range blks.length) (La2 l) with
  | mk z roots =>
  simp only [ht] at hr
  cases hb2 : la2 blks.length s1.H 0 roots with
  | none => simp [hb2] at hr
  | some H2 =>
  simp only [hb2] at hr
  have hr' : some (z, H2) = some (r, out) := hr
  injection hr' with hr'; injection hr' with e1 e2; subst e1 e2
  obtain ⟨m1, _, m3⟩ := Gb3 (TOk.start _) ht
  exact ⟨_, F1, ob3 m1 hb2 a1, db3 m1 a2 hb2, Yb1 hb2 m3 k2⟩
 refine qc8 hG hcalls hdraw ((Tc2 E.P c).note _ _ _ _) _ x s1 h1 _ w _ hI fun ac' w' hI' => ?_
 cases x with
 | normal => exact hfin ac' w' hI' trivial h2
 | ret => exact hfin ac' w' hI' trivial h2
 | exit id => cases h2
end
end Go.Ev
namespace Go.Ev
open Go
structure B8 (D : Nat → Prop) (H10 H20 H1 H2 : List a8) : Prop where
 lenq : H1.length = H2.length
 same : ∀ id, ¬ D id → H1[id]? = H2[id]?
 dead : ∀ (id : Nat) b, D id → H1[id]? = some b → b.dead = true
 at1 : ∀ id, D id → H1[id]? = H10[id]?
 at2 : ∀ id, D id → H2[id]? = H20[id]?
 bound : ∀ id, D id → id < H1.length
section
variable {D : Nat → Prop} {H10 H20 H1 H2 : List a8} {E : Env} {a : List a7}
theorem B8.blkAt (h : B8 D H10 H20 H1 H2) {id g : Nat} {b : a8} (hb : Ev.blkAt H1 id g = some b) : ¬ D id ∧ Ev.blkAt H2 id g = some b := by
 obtain ⟨h1, h2, h3⟩ := q7 hb
 have hD : ¬ D id := fun hD => by rw [h.dead id b hD h1] at h2; cases h2
 refine ⟨hD, ?_⟩
 have hs := h.same id hD
 unfold Ev.blkAt at hb ⊢
 rw [w6] at hb ⊢
 rw [← hs]
 exact hb
theorem B8.setAt (h : B8 D H10 H20 H1 H2) {id : Nat} (hD : ¬ D id) (b : a8) : B8 D H10 H20 (Ev.setAt H1 id b) (Ev.setAt H2 id b) := by
 rw [y7, y7]
 refine ⟨by simp [h.lenq], fun i hi => ?_, fun i c hi hc => ?_, fun i hi => ?_, fun i hi => ?_, fun i hi => by simpa using h.bound i hi⟩
 ·by_cases e : id = i
  ·subst e
   rcases Nat.lt_or_ge id H1.length with hl | hl
   ·rw [List.getElem?_set_self hl, List.getElem?_set_self (h.lenq ▸ hl)]
   ·rw [List.getElem?_eq_none (by simpa using hl), List.getElem?_eq_none (by simpa using h.lenq ▸ hl)]
  ·rw [List.getElem?_set_ne e, List.getElem?_set_ne e]; exact h.same i hi
 all_goals
  have e : id ≠ i := fun e => hD (e ▸ hi)
 ·rw [List.getElem?_set_ne e] at hc; exact h.dead i c hi hc
 ·rw [List.getElem?_set_ne e]; exact h.at1 i hi
 ·rw [List.getElem?_set_ne e]; exact h.at2 i hi
theorem B8.app (h : B8 D H10 H20 H1 H2) (l : List a8) : B8 D H10 H20 (Ev.app H1 l) (Ev.app H2 l) := by
 rw [B4, B4]
 refine ⟨by simp [h.lenq], fun i hi => ?_, fun i c hi hc => ?_, fun i hi => ?_, fun i hi => ?_, fun i hi => by have := h.bound i hi; simp; omega⟩
 ·rcases Nat.lt_or_ge i H1.length with hl | hl
  ·rw [List.getElem?_append_left hl, List.getElem?_append_left (h.lenq ▸ hl)]; exact h.same i hi
  ·rw [List.getElem?_append_right hl, List.getElem?_append_right (h.lenq ▸ hl), h.lenq]
 all_goals
  have hl := h.bound i hi
 ·rw [List.getElem?_append_left hl] at hc; exact h.dead i c hi hc
 ·rw [List.getElem?_append_left hl]; exact h.at1 i hi
 ·rw [List.getElem?_append_left (h.lenq ▸ hl)]; exact h.at2 i hi
theorem B8.modAt (h : B8 D H10 H20 H1 H2) {id : Nat} (hD : ¬ D id) (f : a8 → a8) : B8 D H10 H20 (Ev.modAt H1 id f) (Ev.modAt H2 id f) := by
 have hs := h.same id hD
 unfold Ev.modAt
 rw [w6, w6, ← hs]
 cases H1[id]? with
 | none => exact h
 | some b => exact h.setAt hD _
theorem B8.disown (h : B8 D H10 H20 H1 H2) {id : Nat} (hD : ¬ D id) : B8 D H10 H20 (Ev.disown H1 id) (Ev.disown H2 id) := h.modAt hD _
theorem B8.freezeCell (h : B8 D H10 H20 H1 H2) {x y : a7} {H1' : List a8} (hf : Ev.freezeCell H1 x = some (y, H1')) : ∃ H2', Ev.freezeCell H2 x = some (y, H2') ∧ B8 D H10 H20 H1' H2' := by
 unfold Ev.freezeCell at hf ⊢
 cases x with
 | v u =>
  simp only at hf ⊢
  cases ho : Ob2 u with
  | false => simp [ho] at hf
  | true =>
   simp only [ho] at hf ⊢
   injection hf with hf; injection hf with e1 e2; subst e1 e2
   exact ⟨_, rfl, h⟩
 | tree es n get =>
  simp only at hf ⊢
  injection hf with hf; injection hf with e1 e2; subst e1 e2
  exact ⟨_, rfl, h⟩
 | fn f caps =>
  cases caps with
  | nil =>
   simp only at hf ⊢
   injection hf with hf; injection hf with e1 e2; subst e1 e2
   exact ⟨_, rfl, h⟩
  | cons => cases hf
 | sl id off n g =>
  simp only at hf ⊢
  cases hb : Ev.blkAt H1 id g with
  | none => simp [hb] at hf
  | some b =>
   obtain ⟨hD, hb2⟩ := h.blkAt hb
   simp only [hb, hb2] at hf ⊢
   injection hf with hf; injection hf with e1 e2; subst e1 e2
   exact ⟨_, rfl, h.disown hD⟩
 | _ => cases hf
theorem B8.freezeCells : ∀ {H1 H2 : List a8} {xs ys : List a7} {H1' : List a8}, B8 D H10 H20 H1 H2 → Ev.freezeCells H1 xs = some (ys, H1') → ∃ H2', Ev.freezeCells H2 xs = some (ys, H2') ∧ B8 D H10 H20 H1' H2'
 | H1, H2, [], ys, H1', h, hf => by
  simp only [Ev.freezeCells] at hf ⊢
  injection hf with hf; injection hf with e1 e2; subst e1 e2
  exact ⟨_, rfl, h⟩
 | H1, H2, x :: xs, ys, H1', h, hf => by
  simp only [Ev.freezeCells] at hf ⊢
  cases h1 : Ev.freezeCell H1 x with
  | none => simp [h1] at hf
  | some yh =>
  obtain ⟨y, Ha⟩ := yh
  obtain ⟨Hb, h2, h3⟩ := h.freezeCell h1
  simp only [h1, h2] at hf ⊢
  cases h4 : Ev.freezeCells Ha xs with
  | none => simp [h4] at hf
  | some lh =>
  obtain ⟨l, Hc⟩ := lh
  obtain ⟨Hd, h5, h6⟩ := B8.freezeCells h3 h4
  simp only [h4, h5] at hf ⊢
  injection hf with hf; injection hf with e1 e2; subst e1 e2
  exact ⟨_, rfl, h6⟩
theorem B8.elemsOf (h : B8 D H10 H20 H1 H2) {es : Nat} {x : a7} {l : List (List a7)} (hf : Ev.elemsOf es H1 x = some l) : Ev.elemsOf es H2 x = some l := by
 unfold Ev.elemsOf at hf ⊢
 cases x with
 | sl id off n g =>
  simp only at hf ⊢
  cases hb : Ev.blkAt H1 id g with
  | none => simp [hb] at hf
  | some b =>
   obtain ⟨_, hb2⟩ := h.blkAt hb
   simp only [hb, hb2] at hf ⊢
   exact hf
 | v u =>
  cases u with
  | slice ad n c => cases ad <;> cases n <;> cases c <;> exact hf
  | _ => exact hf
 | _ => exact hf
theorem B8.capArg (h : B8 D H10 H20 H1 H2) {p : fa6} {x : a7} {r : a7 × fa6} (hf : Ev.capArg H1 p x = some r) : Ev.capArg H2 p x = some r := by
 unfold Ev.capArg at hf ⊢
 cases x with
 | ptr id i c g =>
  simp only at hf ⊢
  cases hb : Ev.blkAt H1 id g with
  | none => simp [hb] at hf
  | some b =>
   obtain ⟨_, hb2⟩ := h.blkAt hb
   simp only [hb, hb2] at hf ⊢
   exact hf
 | sl id off n g =>
  simp only at hf ⊢
  cases hb : Ev.blkAt H1 id g with
  | none => simp [hb] at hf
  | some b =>
   obtain ⟨_, hb2⟩ := h.blkAt hb
   simp only [hb, hb2] at hf ⊢
   exact hf
 | fn f caps => cases caps <;> exact hf
 | _ => exact hf
theorem B8.capArgs (h : B8 D H10 H20 H1 H2) : ∀ {xs : List a7} {p : fa6} {r : List a7 × fa6}, Ev.capArgs H1 p xs = some r → Ev.capArgs H2 p xs = some r
 | [], p, r, hf => hf
 | x :: xs, p, r, hf => by
  simp only [Ev.capArgs] at hf ⊢
  cases h1 : Ev.capArg H1 p x with
  | none => simp [h1] at hf
  | some yq =>
  rw [h.capArg h1]
  simp only [h1] at hf ⊢
  cases h2 : Ev.capArgs H1 yq.2 xs with
  | none => simp [h2] at hf
  | some lq =>
  rw [B8.capArgs h h2]
  simp only [h2] at hf ⊢
  exact hf
theorem B8.prepArg (h : B8 D H10 H20 H1 H2) {own : Bool} {p : fa6} {x : a7} {r : a7 × fa6} (hf : Ev.prepArg H1 own p x = some r) : Ev.prepArg H2 own p x = some r := by
 unfold Ev.prepArg at hf ⊢
 cases x with
 | v u => exact hf
 | sl id off n g =>
  cases own with
  | false => exact h.capArg hf
  | true =>
   simp only at hf ⊢
   cases hb : Ev.blkAt H1 id g with
   | none => simp [hb] at hf
   | some b =>
    obtain ⟨_, hb2⟩ := h.blkAt hb
    simp only [hb, hb2] at hf ⊢
    exact hf
 | agg cs =>
  simp only at hf ⊢
  cases h1 : Ev.capArgs H1 p cs with
  | none => simp [h1] at hf
  | some lq =>
  rw [h.capArgs h1]
  simp only [h1] at hf ⊢
  exact hf
 | fn f cs =>
  simp only at hf ⊢
  cases h1 : Ev.capArgs H1 p cs with
  | none => simp [h1] at hf
  | some lq =>
  rw [h.capArgs h1]
  simp only [h1] at hf ⊢
  exact hf
 | _ => exact h.capArg hf
theorem B8.prepArgs (h : B8 D H10 H20 H1 H2) {own : Nat → Bool} : ∀ {xs : List a7} {p : fa6} {k : Nat} {r : List a7 × fa6}, Ev.prepArgs H1 own p k xs = some r → Ev.prepArgs H2 own p k xs = some r
 | [], p, k, r, hf => hf
 | x :: xs, p, k, r, hf => by
  simp only [Ev.prepArgs] at hf ⊢
  cases h1 : Ev.prepArg H1 (own k) p x with
  | none => simp [h1] at hf
  | some yq =>
  rw [h.prepArg h1]
  simp only [h1] at hf ⊢
  cases h2 : Ev.prepArgs H1 own yq.2 (k + 1) xs with
  | none => simp [h2] at hf
  | some lq =>
  rw [B8.prepArgs h h2]
  simp only [h2] at hf ⊢
  exact hf
theorem B8.blksAt (h : B8 D H10 H20 H1 H2) : ∀ {roots : List Nat} {r : List a8}, (∀ id ∈ roots, ¬ D id) → Ev.blksAt H1 roots = some r → Ev.blksAt H2 roots = some r
 | [], r, _, hf => hf
 | id :: roots, r, hr, hf => by
  simp only [Ev.blksAt, w6] at hf ⊢
  rw [← h.same id (hr id (by simp))]
  cases hb : H1[id]? with
  | none => simp [hb] at hf
  | some b =>
  simp only [hb] at hf ⊢
  cases h2 : Ev.blksAt H1 roots with
  | none => simp [h2] at hf
  | some l =>
  rw [h.blksAt (fun i hi => hr i (by simp [hi])) h2]
  simp only [h2] at hf ⊢
  exact hf
theorem B8.putBack : ∀ {roots : List Nat} {H1 H2 out H1' : List a8}, B8 D H10 H20 H1 H2 → (∀ id ∈ roots, ¬ D id) → Ev.putBack H1 roots out = some H1' → ∃ H2', Ev.putBack H2 roots out = some H2' ∧ B8 D H10 H20 H1' H2'
 | [], H1, H2, [], H1', h, _, hf => by
  simp only [Ev.putBack] at hf ⊢
  injection hf with hf; subst hf
  exact ⟨_, rfl, h⟩
 | [], H1, H2, c :: out, H1', h, _, hf => by
  simp only [Ev.putBack] at hf ⊢
  injection hf with hf; subst hf
  exact ⟨_, rfl, h.app _⟩
 | id :: roots, H1, H2, [], H1', h, _, hf => by simp [Ev.putBack] at hf
 | id :: roots, H1, H2, c :: out, H1', h, hr, hf => by
  simp only [Ev.putBack] at hf ⊢
  exact B8.putBack (h.modAt (hr id (by simp)) _) (fun i hi => hr i (by simp [hi])) hf
theorem B8.settle (h : B8 D H10 H20 H1 H2) (held : Bool) : ∀ {lent : List Nat}, (∀ id ∈ lent, ¬ D id) → B8 D H10 H20 (Ev.settle lent held H1) (Ev.settle lent held H2)
 | [], _ => h
 | id :: lent, hr => by
  have ih := B8.settle h held (lent := lent) fun i hi => hr i (by simp [hi])
  rw [Ka6, Ka6]
  split
  ·exact ih.disown (hr id (by simp))
  ·exact ih
theorem B8.backId (h : B8 D H10 H20 H1 H2) {roots : List Nat} (hr : ∀ id ∈ roots, ¬ D id) (j g : Nat) : Ev.backId H1 roots j g = Ev.backId H2 roots j g := by
 unfold Ev.backId
 rw [w6]
 cases hj : roots[j]? with
 | none => simp only [j7, h.lenq]
 | some id => simp only [w6, h.same id (hr id (List.mem_of_getElem? hj))]
theorem B8.backC (h : B8 D H10 H20 H1 H2) {roots : List Nat} (hr : ∀ id ∈ roots, ¬ D id) : Ev.backC H1 roots = Ev.backC H2 roots := by
 funext x
 cases x with
 | ptr => simp only [Ev.backC, h.backId hr]
 | sl => simp only [Ev.backC, h.backId hr]
 | _ => rfl
theorem B8.backVal1 (h : B8 D H10 H20 H1 H2) {roots : List Nat} (hr : ∀ id ∈ roots, ¬ D id) : Ev.backVal1 H1 roots = Ev.backVal1 H2 roots := by
 funext x
 unfold Ev.backVal1
 rw [h.backC hr]
theorem B8.backVal (h : B8 D H10 H20 H1 H2) {roots : List Nat} (hr : ∀ id ∈ roots, ¬ D id) : Ev.backVal H1 roots = Ev.backVal H2 roots := by
 funext x
 unfold Ev.backVal
 rw [h.backVal1 hr]
theorem B8.callA (h : B8 D H10 H20 H1 H2) {f : FuncId} {args : List a7} {x : a7} {H1' : List a8} (he : (Ev.callA E f args H1).run = some (x, H1')) : ∃ H2', (Ev.callA E f args H2).run = some (x, H2') ∧ B8 D H10 H20 H1' H2' := by
 unfold Ev.callA at he ⊢
 cases hpr : Ev.prepArgs H1 (E.own f) { roots := [], lent := [] } 0 args with
 | none => rw [hpr] at he; cases he
 | some q =>
 obtain ⟨Ua7, p⟩ := q
 obtain ⟨hp, _, hl2, hPr⟩ := Ya4 (H := H1) (p := { roots := [], lent := [] }) ⟨List.nodup_nil, fun id h => by simp at h, fun id h => by simp at h⟩ hpr
 have hroots : ∀ id ∈ p.roots, ¬ D id := fun id hid hD => by
  obtain ⟨b, h1, h2⟩ := hp.live id hid
  rw [h.dead id b hD h1] at h2; cases h2
 have hlent : ∀ id ∈ p.lent, ¬ D id := fun id hid hD => by
  obtain ⟨b, h1, h2⟩ := hp.lent id hid
  rw [h.dead id b hD h1] at h2; cases h2
 rw [h.prepArgs hpr]
 rw [hpr] at he
 simp only at he ⊢
 cases hbl : Ev.blksAt H1 p.roots with
 | none => rw [hbl] at he; cases he
 | some blks =>
 rw [h.blksAt hroots hbl]
 cases hap : Ea0 p.lent p.roots with
 | false => rw [hbl, hap] at he; cases he
 | true =>
 rw [hbl, hap] at he
 simp only at he ⊢
 obtain ⟨⟨r, out⟩, hc, he⟩ := DT.run_bind_some he
 simp only at he
 cases hpb : Ev.putBack H1 p.roots out with
 | none => rw [hpb] at he; cases he
 | some H1b =>
 obtain ⟨H2b, k1, k2⟩ := B8.putBack h hroots hpb
 rw [hpb] at he
 simp only at he
 have he' : some (Ev.backVal H1 p.roots r, Ev.settle p.lent (ia7 r || out.any Wa9) H1b) = some (x, H1') := he
 injection he' with he'; injection he' with e1 e2; subst e1 e2
 refine ⟨Ev.settle p.lent (ia7 r || out.any Wa9) H2b, ?_, k2.settle _ hlent⟩
 rw [DT.run_bind, hc]
 simp only [Option.bind_some, k1]
 rw [h.backVal hroots]
 rfl
theorem B8.appendA (h : B8 D H10 H20 H1 H2) {et es bytes : Nat} {s y x : a7} {H1' : List a8} (he : (Ev.appendA et es bytes s y H1).run = some (x, H1')) : ∃ H2', (Ev.appendA et es bytes s y H2).run = some (x, H2') ∧ B8 D H10 H20 H1' H2' := by
 unfold Ev.appendA at he ⊢
 cases hel : Ev.elemsOf es H1 y with
 | none => rw [hel] at he; cases he
 | some news =>
 rw [h.elemsOf hel]
 rw [hel] at he
 simp only at he ⊢
 have hnil : ∀ {H1' : List a8}, (DT.ite (Nat.beq (len news) 0) (.ret (a7.v (.slice none 0 0), H1))
    (.guard (Nat.ble (len news * bytes) room) (.ret (.sl (len H1) 0 (len news) 0, aa5 H1 et es news)))).run = some (x, H1') →
   ∃ H2', (DT.ite (Nat.beq (len news) 0) (.ret (a7.v (.slice none 0 0), H2))
    (.guard (Nat.ble (len news * bytes) room) (.ret (.sl (len H2) 0 (len news) 0, aa5 H2 et es news)))).run = some (x, H2') ∧ B8 D H10 H20 H1' H2' := fun {H1'} he => by
  rcases DT.run_ite_some he with ⟨h1, h2⟩ | ⟨h1, h2⟩
  ·rw [h1]
   simp only [DT.run_ret] at h2
   injection h2 with h2; injection h2 with e1 e2; subst e1 e2
   exact ⟨_, rfl, h⟩
  ·obtain ⟨h3, h4⟩ := DT.run_guard_some h2
   rw [h1]
   simp only [DT.run_ret] at h4
   injection h4 with h4; injection h4 with e1 e2; subst e1 e2
   have hl : len H2 = len H1 := by rw [j7, j7, h.lenq]
   refine ⟨aa5 H2 et es news, ?_, h.app _⟩
   rw [hl]
   simp only [DT.run_ite, DT.guard, h3, DT.run_ret, if_true, Bool.false_eq_true, if_false]
 cases s with
 | v u =>
  cases u with
  | slice ad n c =>
   cases ad with
   | some _ => cases he
   | none =>
    cases n with
    | succ _ => cases he
    | zero =>
     cases c with
     | succ _ => cases he
     | zero => exact hnil he
  | _ => cases he
 | sl id off n g =>
  simp only at he ⊢
  cases hb : Ev.blkAt H1 id g with
  | none => rw [hb] at he; cases he
  | some b =>
  obtain ⟨hD, hb2⟩ := h.blkAt hb
  rw [hb] at he
  rw [hb2]
  simp only at he ⊢
  split at he
  ·rcases DT.run_ite_some he with ⟨h1, h2⟩ | ⟨h1, h2⟩
   ·rw [h1]
    simp only [DT.run_ret] at h2
    injection h2 with h2; injection h2 with e1 e2; subst e1 e2
    exact ⟨_, rfl, h⟩
   ·obtain ⟨h3, h4⟩ := DT.run_guard_some h2
    rw [h1]
    simp only [DT.run_ret] at h4
    injection h4 with h4; injection h4 with e1 e2; subst e1 e2
    refine ⟨_, ?_, h.setAt hD _⟩
    simp only [DT.run_ite, DT.guard, h3, DT.run_ret, if_true, Bool.false_eq_true, if_false]
  ·cases he
 | _ => cases he
theorem B8.copyA (h : B8 D H10 H20 H1 H2) {es : Nat} {d s x : a7} {H1' : List a8} (he : Ev.copyA es d s H1 = some (x, H1')) : ∃ H2', Ev.copyA es d s H2 = some (x, H2') ∧ B8 D H10 H20 H1' H2' := by
 unfold Ev.copyA at he ⊢
 cases d with
 | sl id off n g =>
  simp only at he ⊢
  cases hb : Ev.blkAt H1 id g with
  | none => rw [hb] at he; cases he
  | some b =>
  obtain ⟨hD, hb2⟩ := h.blkAt hb
  rw [hb] at he
  rw [hb2]
  simp only at he ⊢
  cases hel : Ev.elemsOf es H1 s with
  | none => rw [hel] at he; cases he
  | some news =>
  rw [h.elemsOf hel]
  rw [hel] at he
  simp only at he ⊢
  split at he
  ·injection he with he; injection he with e1 e2; subst e1 e2
   exact ⟨_, rfl, h.setAt hD _⟩
  ·cases he
 | _ => cases he
theorem B8.apreA (h : B8 D H10 H20 H1 H2) {es : Nat} {d s x : a7} {H1' : List a8} (he : (Ev.apreA es d s H1).run = some (x, H1')) : ∃ H2', (Ev.apreA es d s H2).run = some (x, H2') ∧ B8 D H10 H20 H1' H2' := by
 unfold Ev.apreA at he ⊢
 cases hel : Ev.elemsOf es H1 s with
 | none => rw [hel] at he; cases he
 | some news =>
 rw [h.elemsOf hel]
 rw [hel] at he
 simp only at he ⊢
 split at he
 ·obtain ⟨h0, he⟩ := DT.run_guard_some he
  simp only [DT.run_ret] at he
  injection he with he; injection he with e1 e2; subst e1 e2
  refine ⟨H2, ?_, h⟩
  simp only [DT.guard, DT.run_ite, h0, DT.run_ret, if_true]
 ·rename_i id off n g
  cases hb : Ev.blkAt H1 id g with
  | none => rw [hb] at he; cases he
  | some b =>
  obtain ⟨hD, hb2⟩ := h.blkAt hb
  rw [hb] at he
  rw [hb2]
  simp only at he ⊢
  split at he
  ·rename_i hc
   obtain ⟨h0, he⟩ := DT.run_guard_some he
   simp only [DT.run_ret] at he
   injection he with he; injection he with e1 e2; subst e1 e2
   refine ⟨_, ?_, h.setAt hD _⟩
   simp only [hc, DT.guard, DT.run_ite, h0, DT.run_ret, if_true]
  ·cases he
 ·cases he
theorem B8.clrA (h : B8 D H10 H20 H1 H2) {es : Nat} {z : List a7} {d x : a7} {H1' : List a8} (he : Ev.clrA es z d H1 = some (x, H1')) : ∃ H2', Ev.clrA es z d H2 = some (x, H2') ∧ B8 D H10 H20 H1' H2' := by
 unfold Ev.clrA at he ⊢
 split at he
 ·injection he with he; injection he with e1 e2; subst e1 e2
  exact ⟨H2, rfl, h⟩
 ·rename_i id off n g
  cases hb : Ev.blkAt H1 id g with
  | none => rw [hb] at he; cases he
  | some b =>
  obtain ⟨hD, hb2⟩ := h.blkAt hb
  rw [hb] at he
  simp only [hb2]
  simp only at he ⊢
  split at he
  ·rename_i hc
   injection he with he; injection he with e1 e2; subst e1 e2
   exact ⟨_, by simp only [hc], h.setAt hD _⟩
  ·cases he
 ·cases he
def Db2 : PO → Bool
 | .alloc _ | .box _ | .bslice .. | .mksl .. | .store .. | .append .. | .copy .. | .apre .. | .clr .. | .call .. | .calld .. | .bad => true
 | _ => false
theorem B8.evalOp (h : B8 D H10 H20 H1 H2) {o : PO} (ho : Db2 o = true) {x : a7} {H1' : List a8} (he : (Ev.evalOp E a H1 o).run = some (x, H1')) : ∃ H2', (Ev.evalOp E a H2 o).run = some (x, H2') ∧ B8 D H10 H20 H1' H2' := by
 cases o with
 | alloc z =>
  simp only [Ev.evalOp, DT.run_ret] at he ⊢
  injection he with he; injection he with e1 e2; subst e1 e2
  have hl : len H2 = len H1 := by rw [j7, j7, h.lenq]
  exact ⟨_, by rw [hl]; rfl, h.app _⟩
 | box y =>
  simp only [Ev.evalOp] at he ⊢
  cases hf : Ev.freezeCells H1 (z6 (a9 E a y)) with
  | none => rw [hf] at he; cases he
  | some p =>
  obtain ⟨cs, Ha⟩ := p
  obtain ⟨Hb, h1, h2⟩ := B8.freezeCells h hf
  rw [hf] at he
  rw [h1]
  simp only [DT.run_ret] at he ⊢
  injection he with he; injection he with e1 e2; subst e1 e2
  have hl : len Hb = len Ha := by rw [j7, j7, h2.lenq]
  exact ⟨_, by rw [hl]; rfl, h2.app _⟩
 | bslice et es n z parts =>
  simp only [Ev.evalOp] at he ⊢
  cases hl : Wa8 z (o3 (fun p => (p.1, p.2.1, a9 E a p.2.2)) parts) with
  | none => rw [hl] at he; cases he
  | some cs =>
  rw [hl] at he
  simp only at he ⊢
  cases hf : Ev.freezeCells H1 cs with
  | none => rw [hf] at he; cases he
  | some p =>
  obtain ⟨cs, Ha⟩ := p
  obtain ⟨Hb, h1, h2⟩ := B8.freezeCells h hf
  rw [hf] at he
  rw [h1]
  simp only [DT.run_ret] at he ⊢
  injection he with he; injection he with e1 e2; subst e1 e2
  have hl : len Hb = len Ha := by rw [j7, j7, h2.lenq]
  exact ⟨_, by rw [hl]; rfl, h2.app _⟩
 | mksl et es bytes z l c =>
  simp only [Ev.evalOp] at he ⊢
  cases h1 : Y6 (a9 E a l) with
  | none => rw [h1] at he; cases he
  | some n =>
  cases h2 : Y6 (a9 E a c) with
  | none => rw [h1, h2] at he; cases he
  | some m =>
  rw [h1, h2] at he
  simp only at he ⊢
  obtain ⟨h3, h4⟩ := DT.run_guard_some he
  simp only [DT.run_ret] at h4
  injection h4 with h4; injection h4 with e1 e2; subst e1 e2
  refine ⟨_, ?_, h.app _⟩
  simp only [DT.guard, DT.run_ite, h3, if_true, DT.run_ret]
  have hl : len H2 = len H1 := by rw [j7, j7, h.lenq]
  rw [hl]
  rfl
 | store n p y =>
  simp only [Ev.evalOp] at he ⊢
  revert he
  cases a9 E a p with
  | ptr id i c g =>
   intro he
   simp only at he ⊢
   cases hf : Ev.freezeCells H1 (z6 (a9 E a y)) with
   | none => rw [hf] at he; cases he
   | some q =>
   obtain ⟨cs, Ha⟩ := q
   obtain ⟨Hb, h1, h2⟩ := B8.freezeCells h hf
   rw [hf] at he
   rw [h1]
   simp only at he ⊢
   cases hb : Ev.blkAt Ha id g with
   | none => rw [hb] at he; cases he
   | some b =>
   obtain ⟨hD, hb2⟩ := h2.blkAt hb
   rw [hb] at he
   rw [hb2]
   simp only at he ⊢
   obtain ⟨hg, he⟩ := DT.run_guard_some he
   rw [hg]
   simp only [DT.run_ret] at he ⊢
   injection he with he; injection he with e1 e2; subst e1 e2
   exact ⟨_, rfl, h2.setAt hD _⟩
  | _ => intro he; cases he
 | append et es bytes s y => exact h.appendA he
 | copy es d s =>
  obtain ⟨H2', h1, h2⟩ := h.copyA (Na8 he)
  refine ⟨H2', ?_, h2⟩
  show (Ac8 (Ev.copyA es (a9 E a d) (a9 E a s) H2)).run = _
  rw [h1]
  rfl
 | apre es s y => exact h.apreA he
 | clr es z y =>
  obtain ⟨H2', h1, h2⟩ := h.clrA (Na8 he)
  refine ⟨H2', ?_, h2⟩
  show (Ac8 (Ev.clrA es z (a9 E a y) H2)).run = _
  rw [h1]
  rfl
 | call f args => exact h.callA he
 | calld y args =>
  simp only [Ev.evalOp] at he ⊢
  revert he
  cases a9 E a y with
  | fn f caps => intro he; exact h.callA he
  | _ => intro he; cases he
 | bad => cases he
 | _ => cases ho
end
end Go.Ev
