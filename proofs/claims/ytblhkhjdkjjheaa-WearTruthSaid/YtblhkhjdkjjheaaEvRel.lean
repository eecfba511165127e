/- How abstract values and heaps stand to the model's (own work). -/
import Derived.Test.YtblhkhjdkjjheaaEvLists
import Derived.Laws.World
import Derived.Laws.Sem
import Derived.Laws.Entries
import GoSem.ClaimData
set_option linter.unusedVariables false
set_option linter.unusedSimpArgs false
set_option linter.unnecessarySimpa false
set_option linter.unusedSectionVars false
namespace Go.Ev
open Go

structure Base where
  blk : Nat
  off : Nat
  size : Nat
abbrev Rho := Nat → Base
abbrev Fz := Nat → Nat → Prop

/-- a cell's content -/
inductive MRel (F : Fz) (w : World) : AVal → Value → Prop
  | v (x : Value) (h1 : x.oneCell' = true) : MRel F w (.v x) x
  | fn (f : FuncId) : MRel F w (.fn f []) (.func (.func f) #[] #[])
  | tree (es n : Nat) (get : Nat → List AVal) (a : Addr) (cap : Nat) (cs : Nat → Nat → Value) (hs : 0 < n → a.spot = none) (hcap : n ≤ cap)
      (hes : ∀ i, i < n → (get i).length = es)
      (hF : ∀ i c, i < n → c < es → F a.block (a.off + (i * es + c)))
      (hw : ∀ i c, i < n → c < es → w.cell? ⟨a.block, a.off + (i * es + c), none⟩ = some (cs i c))
      (hr : ∀ i c (_ : i < n) (hc : c < (get i).length), MRel F w ((get i)[c]) (cs i c)) : MRel F w (.tree es n get) (.slice (some a) n cap)
  | nil (es : Nat) (get : Nat → List AVal) : MRel F w (.tree es 0 get) (.slice none 0 0)

/-- a value without parts -/
inductive CRel (ρ : Rho) (H : List ABlk) (F : Fz) (w : World) : AVal → Value → Prop
  | mem {x : AVal} {x' : Value} (h : MRel F w x x') : CRel ρ H F w x x'
  | v (x : Value) : CRel ρ H F w (.v x) x
  | ptr (id i c g : Nat) (a : Addr) (b : ABlk) (hb : H[id]? = some b) (hd : b.dead = false) (hg : g ≤ b.g)
      (h : b.g = g → a = ⟨(ρ id).blk, (ρ id).off + (i * b.es + c), none⟩) : CRel ρ H F w (.ptr id i c g) (.pointer (some a))
  | sl (id off n g : Nat) (a : Addr) (cap : Nat) (b : ABlk) (hb : H[id]? = some b) (hd : b.dead = false) (hg : g ≤ b.g) (hn : n ≤ cap) (hs : a.spot = none) (hm : cap ≤ maxLen)
      (h : b.g = g → ((cap = 0 ∧ 0 < off) ∨ a = ⟨(ρ id).blk, (ρ id).off + off * b.es, none⟩) ∧ (off + cap) * b.es = (ρ id).size ∧ off + n ≤ b.elems.length) :
      CRel ρ H F w (.sl id off n g) (.slice (some a) n cap)
  | tptr (cs : List AVal) (a : Addr) (vs : Nat → Value) (hs : a.spot = none)
      (hF : ∀ c, c < cs.length → F a.block (a.off + c))
      (hw : ∀ c, c < cs.length → w.cell? ⟨a.block, a.off + c, none⟩ = some (vs c))
      (hr : ∀ c (hc : c < cs.length), MRel F w (cs[c]) (vs c)) : CRel ρ H F w (.tptr cs) (.pointer (some a))
  | unk (x' : Value) : CRel ρ H F w .unk x'

/-- a value of one of Go's types -/
inductive VRel (ρ : Rho) (H : List ABlk) (F : Fz) (w : World) : AVal → Value → Prop
  | cell {x : AVal} {x' : Value} (h : CRel ρ H F w x x') : VRel ρ H F w x x'
  | agg (cs : List AVal) (vs : Array Value) (hl : cs.length = vs.size) (h : ∀ (i : Nat) x x', cs[i]? = some x → vs[i]? = some x' → CRel ρ H F w x x') : VRel ρ H F w (.agg cs) (.agg vs)
  | fn (f : FuncId) (caps : List AVal) (vs : Array Value) (hl : caps.length = vs.size) (h : ∀ (i : Nat) x x', caps[i]? = some x → vs[i]? = some x' → CRel ρ H F w x x') : VRel ρ H F w (.fn f caps) (.func (.func f) #[] vs)

/-- a slot's value -/
inductive WRel (ρ : Rho) (H : List ABlk) (F : Fz) (w : World) : AVal → Value → Prop
  | val {x : AVal} {x' : Value} (h : VRel ρ H F w x x') : WRel ρ H F w x x'
  | tup (xs : List AVal) (vs : Array Value) (hl : xs.length = vs.size) (h : ∀ (i : Nat) x x', xs[i]? = some x → vs[i]? = some x' → VRel ρ H F w x x') : WRel ρ H F w (.tup xs) (.tuple vs)

/-- a block of the heap -/
structure BRel (W : Nat → Prop) (F : Fz) (w : World) (base : Base) (b : ABlk) (cc : Array Value) (t : TypeId) (fr : Nat × Nat) : Prop where
  obj : w.heap[base.blk]? = some (.cells cc t fr)
  room : base.off + base.size ≤ cc.size
  len : b.elems.length * b.es ≤ base.size
  rows : ∀ (i : Nat) r, b.elems[i]? = some r → r.length = b.es
  cell : ∀ (i : Nat) r (c : Nat) x, b.elems[i]? = some r → r[c]? = some x → ∃ x', cc[base.off + (i * b.es + c)]? = some x' ∧ MRel F w x x'
  own : b.own = true → fr = (0, 0) ∧ W base.blk ∧ base.off = 0 ∧ base.size = cc.size ∧ (∀ o, ¬ F base.blk o) ∧ (b.et ≠ 0 → t = b.et)
  kept : b.own = false → ∀ o, o < b.elems.length * b.es → F base.blk (base.off + o)

structure HRel (W : Nat → Prop) (ρ : Rho) (H : List ABlk) (F : Fz) (w : World) : Prop where
  blk : ∀ (id : Nat) b, H[id]? = some b → b.dead = false → ∃ cc t fr, BRel W F w (ρ id) b cc t fr
  apart : ∀ (id id' : Nat) b b', H[id]? = some b → H[id']? = some b' → b.dead = false → b'.dead = false → b.own = true → id ≠ id' → (ρ id).blk ≠ (ρ id').blk
  frz : ∀ b o, F b o → (w.cell? ⟨b, o, none⟩).isSome
  new : ∀ k, w.heap.size ≤ k → W k

/-- the slots -/
def ARel (ρ : Rho) (H : List ABlk) (F : Fz) (w : World) (a : List AVal) (vs : Array Value) : Prop :=
  a.length = vs.size ∧ ∀ (i : Nat) x x', a[i]? = some x → vs[i]? = some x' → WRel ρ H F w x x'

structure Ext (W : Nat → Prop) (F : Fz) (w w' : World) : Prop where
  os : w'.os = w.os
  tape : w'.tape = w.tape
  output : w'.output = w.output
  size : w.heap.size ≤ w'.heap.size
  block : ∀ k, k < w.heap.size → ¬ W k → w'.heap[k]? = w.heap[k]?
  cells : ∀ b o, F b o → w'.cell? ⟨b, o, none⟩ = w.cell? ⟨b, o, none⟩

def HExt (ρ : Rho) (H : List ABlk) (ρ' : Rho) (H' : List ABlk) : Prop :=
  ∀ (id : Nat) b, H[id]? = some b → ∃ b', H'[id]? = some b' ∧ b'.dead = b.dead ∧ b.g ≤ b'.g ∧ (b'.g = b.g → ρ' id = ρ id ∧ b'.es = b.es ∧ b.elems.length ≤ b'.elems.length)

structure Adv (W : Nat → Prop) (ρ : Rho) (H : List ABlk) (F : Fz) (w : World) (ρ' : Rho) (H' : List ABlk) (F' : Fz) (w' : World) : Prop where
  ext : Ext W F w w'
  heap : HExt ρ H ρ' H'
  more : ∀ b o, F b o → F' b o
  new : ∀ b o, F' b o → F b o ∨ W b
  fresh : ∀ (id : Nat) b', H'[id]? = some b' → (∀ b, H[id]? = some b → b'.g ≠ b.g) → W (ρ' id).blk

section
variable {W : Nat → Prop} {ρ ρ' ρ'' : Rho} {H H' H'' : List ABlk} {F F' F'' : Fz} {w w' w'' : World}

theorem Ext.refl : Ext W F w w := ⟨rfl, rfl, rfl, Nat.le_refl _, fun _ _ _ => rfl, fun _ _ _ => rfl⟩
theorem Ext.trans (h : Ext W F w w') (hf : ∀ b o, F b o → F' b o) (k : Ext W F' w' w'') : Ext W F w w'' :=
  ⟨k.os.trans h.os, k.tape.trans h.tape, k.output.trans h.output, Nat.le_trans h.size k.size,
   fun i hi hw => (k.block i (Nat.lt_of_lt_of_le hi h.size) hw).trans (h.block i hi hw), fun b o hb => (k.cells b o (hf b o hb)).trans (h.cells b o hb)⟩
theorem HExt.refl : HExt ρ H ρ H := fun _ b h => ⟨b, h, rfl, Nat.le_refl _, fun _ => ⟨rfl, rfl, Nat.le_refl _⟩⟩
theorem HExt.trans (h : HExt ρ H ρ' H') (k : HExt ρ' H' ρ'' H'') : HExt ρ H ρ'' H'' := by
  intro id b hb
  obtain ⟨b1, h1, hd1, hg1, e1⟩ := h id b hb
  obtain ⟨b2, h2, hd2, hg2, e2⟩ := k id b1 h1
  refine ⟨b2, h2, hd2.trans hd1, Nat.le_trans hg1 hg2, fun hg => ?_⟩
  have g1 : b1.g = b.g := by omega
  obtain ⟨r1, s1, l1⟩ := e1 g1
  obtain ⟨r2, s2, l2⟩ := e2 (by omega)
  exact ⟨r2.trans r1, s2.trans s1, Nat.le_trans l1 l2⟩
theorem Adv.refl : Adv W ρ H F w ρ H F w := ⟨.refl, .refl, fun _ _ h => h, fun _ _ h => .inl h, fun _ b h hn => absurd rfl (hn b h)⟩
theorem Adv.trans (h : Adv W ρ H F w ρ' H' F' w') (k : Adv W ρ' H' F' w' ρ'' H'' F'' w'') : Adv W ρ H F w ρ'' H'' F'' w'' :=
  ⟨h.ext.trans h.more k.ext, h.heap.trans k.heap, fun b o hb => k.more b o (h.more b o hb), fun b o hb => (k.new b o hb).elim (h.new b o) .inr, fun id b'' hb'' hn => by
    by_cases hc : ∃ b', H'[id]? = some b' ∧ b''.g = b'.g
    · obtain ⟨b', hb', hg⟩ := hc
      obtain ⟨b2, h2, _, _, e2⟩ := k.heap id b' hb'
      have : b2 = b'' := Option.some.inj (h2.symm.trans hb'')
      subst this
      rw [(e2 hg).1]
      exact h.fresh id b' hb' fun b hb => hg ▸ hn b hb
    · exact k.fresh id b'' hb'' fun b' hb' hg => hc ⟨b', hb', hg⟩⟩

theorem MRel.adv {x : AVal} {x' : Value} (h : MRel F w x x') (hf : ∀ b o, F b o → F' b o) (hw : ∀ b o, F b o → w'.cell? ⟨b, o, none⟩ = w.cell? ⟨b, o, none⟩) : MRel F' w' x x' := by
  induction h with
  | v x h1 => exact .v x h1
  | fn f => exact .fn f
  | tree es n get a cap cs hs hcap hes hF hw0 hr ih =>
    exact .tree es n get a cap cs hs hcap hes (fun i c hi hc => hf _ _ (hF i c hi hc)) (fun i c hi hc => (hw _ _ (hF i c hi hc)).trans (hw0 i c hi hc)) (fun i c hi hc => ih i c hi hc)
  | nil es get => exact .nil es get
theorem CRel.adv {x : AVal} {x' : Value} (h : CRel ρ H F w x x') (k : Adv W ρ H F w ρ' H' F' w') : CRel ρ' H' F' w' x x' := by
  cases h with
  | mem h => exact .mem (h.adv k.more k.ext.cells)
  | v => exact .v _
  | ptr id i c g a b hb hd hg h =>
    obtain ⟨b', hb', hd', hg', e⟩ := k.heap id b hb
    refine .ptr id i c g a b' hb' (hd'.trans hd) (Nat.le_trans hg hg') fun hge => ?_
    have hbg : b'.g = b.g := by omega
    obtain ⟨e1, e2, e3⟩ := e hbg
    rw [e1, e2]
    exact h (by omega)
  | sl id off n g a cap b hb hd hg hn hs hm h =>
    obtain ⟨b', hb', hd', hg', e⟩ := k.heap id b hb
    refine .sl id off n g a cap b' hb' (hd'.trans hd) (Nat.le_trans hg hg') hn hs hm fun hge => ?_
    have hbg : b'.g = b.g := by omega
    obtain ⟨e1, e2, e3⟩ := e hbg
    obtain ⟨h1, h2, h3⟩ := h (by omega)
    rw [e1, e2]
    exact ⟨h1, h2, Nat.le_trans h3 e3⟩
  | tptr cs a vs hs hF hw hr => exact .tptr cs a vs hs (fun c hc => k.more _ _ (hF c hc)) (fun c hc => (k.ext.cells _ _ (hF c hc)).trans (hw c hc)) (fun c hc => (hr c hc).adv k.more k.ext.cells)
  | unk x' => exact .unk x'
theorem VRel.adv {x : AVal} {x' : Value} (h : VRel ρ H F w x x') (k : Adv W ρ H F w ρ' H' F' w') : VRel ρ' H' F' w' x x' := by
  cases h with
  | cell h => exact .cell (h.adv k)
  | agg cs vs hl h => exact .agg cs vs hl fun i x x' hx hx' => (h i x x' hx hx').adv k
  | fn f caps vs hl h => exact .fn f caps vs hl fun i x x' hx hx' => (h i x x' hx hx').adv k
theorem WRel.adv {x : AVal} {x' : Value} (h : WRel ρ H F w x x') (k : Adv W ρ H F w ρ' H' F' w') : WRel ρ' H' F' w' x x' := by
  cases h with
  | val h => exact .val (h.adv k)
  | tup xs vs hl h => exact .tup xs vs hl fun i x x' hx hx' => (h i x x' hx hx').adv k
theorem ARel.adv {a : List AVal} {vs : Array Value} (h : ARel ρ H F w a vs) (k : Adv W ρ H F w ρ' H' F' w') : ARel ρ' H' F' w' a vs :=
  ⟨h.1, fun i x x' hx hx' => (h.2 i x x' hx hx').adv k⟩

theorem MRel.one {x : AVal} {x' : Value} (h : MRel F w x x') : x'.oneCell' = true := by
  cases h <;> first | rfl | assumption
theorem WRel.ofv (x : Value) : WRel ρ H F w (.v x) x := .val (.cell (.v x))
theorem WRel.unk (x : Value) : WRel ρ H F w .unk x := .val (.cell (.unk x))

theorem ARel.put {a : List AVal} {vs : Array Value} (h : ARel ρ H F w a vs) (d : Nat) {x : AVal} {x' : Value} (hx : WRel ρ H F w x x') : ARel ρ H F w (a.set d x) (vs.setIfInBounds d x') := by
  refine ⟨by simpa using h.1, fun i y y' hy hy' => ?_⟩
  by_cases hid : d = i
  · subst hid
    have hlt : d < a.length := by
      rcases Nat.lt_or_ge d a.length with hh | hh
      · exact hh
      · rw [List.getElem?_eq_none (by simpa using hh)] at hy; cases hy
    have hlt' : d < vs.size := h.1 ▸ hlt
    simp [hlt] at hy
    simp [hlt'] at hy'
    subst hy hy'
    exact hx
  · rw [List.getElem?_set_ne hid] at hy
    rw [Array.getElem?_setIfInBounds_ne hid] at hy'
    exact h.2 i y y' hy hy'
end
end Go.Ev

