/- Own work: a part of the proof. -/
import Derived.Test.YtlccibobknidjaaGreatEvLists
import Derived.Laws.World
import Derived.Laws.Sem
import Derived.Laws.Entries
import GoSem.ClaimData
import Derived.Laws.OwnMore
import Derived.Maps.AppendAt
import Derived.Orders
set_option linter.unusedVariables false
set_option linter.unusedSimpArgs false
set_option linter.unnecessarySimpa false
set_option linter.unusedSectionVars false
namespace Go.Ev
open Go
structure ld4 where
  blk : Nat
  off : Nat
  size : Nat
abbrev Rho := Nat → ld4
abbrev Fz := Nat → Nat → Prop
inductive U0 (F : Fz) (w : World) : b7 → Value → Prop
  | v (x : Value) (h1 : x.oneCell' = true) : U0 F w (.v x) x
  | fn (f : FuncId) : U0 F w (.fn f []) (.func (.func f) #[] #[])
  | tree (es n : Nat) (get : Nat → List b7) (a : Addr) (cap : Nat) (cs : Nat → Nat → Value) (hs : 0 < n → a.spot = none) (hcap : n ≤ cap)
      (hes : ∀ i, i < n → (get i).length = es)
      (hF : ∀ i c, i < n → c < es → F a.block (a.off + (i * es + c)))
      (hw : ∀ i c, i < n → c < es → w.cell? ⟨a.block, a.off + (i * es + c), none⟩ = some (cs i c))
      (hr : ∀ i c (_ : i < n) (hc : c < (get i).length), U0 F w ((get i)[c]) (cs i c)) : U0 F w (.tree es n get) (.slice (some a) n cap)
  | nil (es : Nat) (get : Nat → List b7) : U0 F w (.tree es 0 get) (.slice none 0 0)
inductive U2 (ρ : Rho) (H : List b8) (F : Fz) (w : World) : b7 → Value → Prop
  | mem {x : b7} {x' : Value} (h : U0 F w x x') : U2 ρ H F w x x'
  | v (x : Value) : U2 ρ H F w (.v x) x
  | ptr (id i c g : Nat) (a : Addr) (b : b8) (hb : H[id]? = some b) (hd : b.dead = false) (hg : g ≤ b.g)
      (h : b.g = g → a = ⟨(ρ id).blk, (ρ id).off + (i * b.es + c), none⟩) : U2 ρ H F w (.ptr id i c g) (.pointer (some a))
  | sl (id off n g : Nat) (a : Addr) (cap : Nat) (b : b8) (hb : H[id]? = some b) (hd : b.dead = false) (hg : g ≤ b.g) (hn : n ≤ cap) (hs : a.spot = none) (hm : cap ≤ maxLen)
      (h : b.g = g → ((cap = 0 ∧ 0 < off) ∨ a = ⟨(ρ id).blk, (ρ id).off + off * b.es, none⟩) ∧ (off + cap) * b.es = (ρ id).size ∧ off + n ≤ b.elems.length) :
      U2 ρ H F w (.sl id off n g) (.slice (some a) n cap)
  | tptr (cs : List b7) (a : Addr) (vs : Nat → Value) (hs : a.spot = none)
      (hF : ∀ c, c < cs.length → F a.block (a.off + c))
      (hw : ∀ c, c < cs.length → w.cell? ⟨a.block, a.off + c, none⟩ = some (vs c))
      (hr : ∀ c (hc : c < cs.length), U0 F w (cs[c]) (vs c)) : U2 ρ H F w (.tptr cs) (.pointer (some a))
  | unk (x' : Value) : U2 ρ H F w .unk x'
inductive W0 (ρ : Rho) (H : List b8) (F : Fz) (w : World) : b7 → Value → Prop
  | cell {x : b7} {x' : Value} (h : U2 ρ H F w x x') : W0 ρ H F w x x'
  | agg (cs : List b7) (vs : Array Value) (hl : cs.length = vs.size) (h : ∀ (i : Nat) x x', cs[i]? = some x → vs[i]? = some x' → U2 ρ H F w x x') : W0 ρ H F w (.agg cs) (.agg vs)
  | fn (f : FuncId) (caps : List b7) (vs : Array Value) (hl : caps.length = vs.size) (h : ∀ (i : Nat) x x', caps[i]? = some x → vs[i]? = some x' → U2 ρ H F w x x') : W0 ρ H F w (.fn f caps) (.func (.func f) #[] vs)
inductive z8 (ρ : Rho) (H : List b8) (F : Fz) (w : World) : b7 → Value → Prop
  | val {x : b7} {x' : Value} (h : W0 ρ H F w x x') : z8 ρ H F w x x'
  | tup (xs : List b7) (vs : Array Value) (hl : xs.length = vs.size) (h : ∀ (i : Nat) x x', xs[i]? = some x → vs[i]? = some x' → W0 ρ H F w x x') : z8 ρ H F w (.tup xs) (.tuple vs)
structure ic9 (W : Nat → Prop) (F : Fz) (w : World) (base : ld4) (b : b8) (cc : Array Value) (t : TypeId) (fr : Nat × Nat) : Prop where
  obj : w.heap[base.blk]? = some (.cells cc t fr)
  room : base.off + base.size ≤ cc.size
  len : b.elems.length * b.es ≤ base.size
  rows : ∀ (i : Nat) r, b.elems[i]? = some r → r.length = b.es
  cell : ∀ (i : Nat) r (c : Nat) x, b.elems[i]? = some r → r[c]? = some x → ∃ x', cc[base.off + (i * b.es + c)]? = some x' ∧ U0 F w x x'
  own : b.own = true → fr = (0, 0) ∧ W base.blk ∧ base.off = 0 ∧ base.size = cc.size ∧ (∀ o, ¬ F base.blk o) ∧ (b.et ≠ 0 → t = b.et)
  kept : b.own = false → ∀ o, o < b.elems.length * b.es → F base.blk (base.off + o)
structure s5 (W : Nat → Prop) (ρ : Rho) (H : List b8) (F : Fz) (w : World) : Prop where
  blk : ∀ (id : Nat) b, H[id]? = some b → b.dead = false → ∃ cc t fr, ic9 W F w (ρ id) b cc t fr
  apart : ∀ (id id' : Nat) b b', H[id]? = some b → H[id']? = some b' → b.dead = false → b'.dead = false → b.own = true → id ≠ id' → (ρ id).blk ≠ (ρ id').blk
  frz : ∀ b o, F b o → (w.cell? ⟨b, o, none⟩).isSome
  new : ∀ k, w.heap.size ≤ k → W k
def la1 (ρ : Rho) (H : List b8) (F : Fz) (w : World) (a : List b7) (vs : Array Value) : Prop :=
  a.length = vs.size ∧ ∀ (i : Nat) x x', a[i]? = some x → vs[i]? = some x' → z8 ρ H F w x x'
structure Ext (W : Nat → Prop) (F : Fz) (w w' : World) : Prop where
  os : w'.os = w.os
  tape : w'.tape = w.tape
  output : w'.output = w.output
  size : w.heap.size ≤ w'.heap.size
  block : ∀ k, k < w.heap.size → ¬ W k → w'.heap[k]? = w.heap[k]?
  cells : ∀ b o, F b o → w'.cell? ⟨b, o, none⟩ = w.cell? ⟨b, o, none⟩
  drawn : w.drawn ≤ w'.drawn
def ld5 (ρ : Rho) (H : List b8) (ρ' : Rho) (H' : List b8) : Prop :=
  ∀ (id : Nat) b, H[id]? = some b → ∃ b', H'[id]? = some b' ∧ b'.dead = b.dead ∧ b.g ≤ b'.g ∧ (b'.g = b.g → ρ' id = ρ id ∧ b'.es = b.es ∧ b.elems.length ≤ b'.elems.length)
structure Adv (W : Nat → Prop) (ρ : Rho) (H : List b8) (F : Fz) (w : World) (ρ' : Rho) (H' : List b8) (F' : Fz) (w' : World) : Prop where
  ext : Ext W F w w'
  heap : ld5 ρ H ρ' H'
  more : ∀ b o, F b o → F' b o
  new : ∀ b o, F' b o → F b o ∨ W b
  fresh : ∀ (id : Nat) b', H'[id]? = some b' → (∀ b, H[id]? = some b → b'.g ≠ b.g) → W (ρ' id).blk
section
variable {W : Nat → Prop} {ρ ρ' ρ'' : Rho} {H H' H'' : List b8} {F F' F'' : Fz} {w w' w'' : World}
theorem Ext.refl : Ext W F w w := ⟨rfl, rfl, rfl, Nat.le_refl _, fun _ _ _ => rfl, fun _ _ _ => rfl, Nat.le_refl _⟩
theorem Ext.trans (h : Ext W F w w') (hf : ∀ b o, F b o → F' b o) (k : Ext W F' w' w'') : Ext W F w w'' :=
  ⟨k.os.trans h.os, k.tape.trans h.tape, k.output.trans h.output, Nat.le_trans h.size k.size,
   fun i hi hw => (k.block i (Nat.lt_of_lt_of_le hi h.size) hw).trans (h.block i hi hw), fun b o hb => (k.cells b o (hf b o hb)).trans (h.cells b o hb), Nat.le_trans h.drawn k.drawn⟩
theorem ld5.refl : ld5 ρ H ρ H := fun _ b h => ⟨b, h, rfl, Nat.le_refl _, fun _ => ⟨rfl, rfl, Nat.le_refl _⟩⟩
theorem ld5.trans (h : ld5 ρ H ρ' H') (k : ld5 ρ' H' ρ'' H'') : ld5 ρ H ρ'' H'' := by
  intro id b hb
  obtain ⟨b1, h1, hd1, hg1, e1⟩ := h id b hb
  obtain ⟨b2, h2, hd2, hg2, e2⟩ := k id b1 h1
  refine ⟨b2, h2, hd2.trans hd1, Nat.le_trans hg1 hg2, fun hg => ?_⟩
  have g1 : b1.g = b.g := by omega
  obtain ⟨r1, s1, l1⟩ := e1 g1
  obtain ⟨r2, s2, l2⟩ := e2 (by omega)
  exact ⟨r2.trans r1, s2.trans s1, Nat.le_trans l1 l2⟩
theorem Adv.refl : Adv W ρ H F w ρ H F w := ⟨.refl, .refl, fun _ _ h => h, fun _ _ h => .inl h, fun _ b h hn => absurd rfl (hn b h)⟩
theorem Adv.trans (h : Adv W ρ H F w ρ' H' F' w') (k : Adv W ρ' H' F' w' ρ'' H'' F'' w'') : Adv W ρ H F w ρ'' H'' F'' w'' :=
  ⟨h.ext.trans h.more k.ext, h.heap.trans k.heap, fun b o hb => k.more b o (h.more b o hb), fun b o hb => (k.new b o hb).elim (h.new b o) .inr, fun id b'' hb'' hn => by
    by_cases hc : ∃ b', H'[id]? = some b' ∧ b''.g = b'.g
    · obtain ⟨b', hb', hg⟩ := hc
      obtain ⟨b2, h2, _, _, e2⟩ := k.heap id b' hb'
      have : b2 = b'' := Option.some.inj (h2.symm.trans hb'')
      subst this
      rw [(e2 hg).1]
      exact h.fresh id b' hb' fun b hb => hg ▸ hn b hb
    · exact k.fresh id b'' hb'' fun b' hb' hg => hc ⟨b', hb', hg⟩⟩
theorem U0.adv {x : b7} {x' : Value} (h : U0 F w x x') (hf : ∀ b o, F b o → F' b o) (hw : ∀ b o, F b o → w'.cell? ⟨b, o, none⟩ = w.cell? ⟨b, o, none⟩) : U0 F' w' x x' := by
  induction h with
  | v x h1 => exact .v x h1
  | fn f => exact .fn f
  | tree es n get a cap cs hs hcap hes hF hw0 hr ih =>
    exact .tree es n get a cap cs hs hcap hes (fun i c hi hc => hf _ _ (hF i c hi hc)) (fun i c hi hc => (hw _ _ (hF i c hi hc)).trans (hw0 i c hi hc)) (fun i c hi hc => ih i c hi hc)
  | nil es get => exact .nil es get
theorem U2.adv {x : b7} {x' : Value} (h : U2 ρ H F w x x') (k : Adv W ρ H F w ρ' H' F' w') : U2 ρ' H' F' w' x x' := by
  cases h with
  | mem h => exact .mem (h.adv k.more k.ext.cells)
  | v => exact .v _
  | ptr id i c g a b hb hd hg h =>
    obtain ⟨b', hb', hd', hg', e⟩ := k.heap id b hb
    refine .ptr id i c g a b' hb' (hd'.trans hd) (Nat.le_trans hg hg') fun hge => ?_
    have hbg : b'.g = b.g := by omega
    obtain ⟨e1, e2, e3⟩ := e hbg
    rw [e1, e2]
    exact h (by omega)
  | sl id off n g a cap b hb hd hg hn hs hm h =>
    obtain ⟨b', hb', hd', hg', e⟩ := k.heap id b hb
    refine .sl id off n g a cap b' hb' (hd'.trans hd) (Nat.le_trans hg hg') hn hs hm fun hge => ?_
    have hbg : b'.g = b.g := by omega
    obtain ⟨e1, e2, e3⟩ := e hbg
    obtain ⟨h1, h2, h3⟩ := h (by omega)
    rw [e1, e2]
    exact ⟨h1, h2, Nat.le_trans h3 e3⟩
  | tptr cs a vs hs hF hw hr => exact .tptr cs a vs hs (fun c hc => k.more _ _ (hF c hc)) (fun c hc => (k.ext.cells _ _ (hF c hc)).trans (hw c hc)) (fun c hc => (hr c hc).adv k.more k.ext.cells)
  | unk x' => exact .unk x'
theorem W0.adv {x : b7} {x' : Value} (h : W0 ρ H F w x x') (k : Adv W ρ H F w ρ' H' F' w') : W0 ρ' H' F' w' x x' := by
  cases h with
  | cell h => exact .cell (h.adv k)
  | agg cs vs hl h => exact .agg cs vs hl fun i x x' hx hx' => (h i x x' hx hx').adv k
  | fn f caps vs hl h => exact .fn f caps vs hl fun i x x' hx hx' => (h i x x' hx hx').adv k
theorem z8.adv {x : b7} {x' : Value} (h : z8 ρ H F w x x') (k : Adv W ρ H F w ρ' H' F' w') : z8 ρ' H' F' w' x x' := by
  cases h with
  | val h => exact .val (h.adv k)
  | tup xs vs hl h => exact .tup xs vs hl fun i x x' hx hx' => (h i x x' hx hx').adv k
theorem la1.adv {a : List b7} {vs : Array Value} (h : la1 ρ H F w a vs) (k : Adv W ρ H F w ρ' H' F' w') : la1 ρ' H' F' w' a vs :=
  ⟨h.1, fun i x x' hx hx' => (h.2 i x x' hx hx').adv k⟩
theorem U0.one {x : b7} {x' : Value} (h : U0 F w x x') : x'.oneCell' = true := by
  cases h <;> first | rfl | assumption
theorem z8.ofv (x : Value) : z8 ρ H F w (.v x) x := .val (.cell (.v x))
theorem z8.unk (x : Value) : z8 ρ H F w .unk x := .val (.cell (.unk x))
theorem la1.put {a : List b7} {vs : Array Value} (h : la1 ρ H F w a vs) (d : Nat) {x : b7} {x' : Value} (hx : z8 ρ H F w x x') : la1 ρ H F w (a.set d x) (vs.setIfInBounds d x') := by
  refine ⟨by simpa using h.1, fun i y y' hy hy' => ?_⟩
  by_cases hid : d = i
  · subst hid
    have hlt : d < a.length := by
      rcases Nat.lt_or_ge d a.length with hh | hh
      · exact hh
      · rw [List.getElem?_eq_none (by simpa using hh)] at hy; cases hy
    have hlt' : d < vs.size := h.1 ▸ hlt
    simp [hlt] at hy
    simp [hlt'] at hy'
    subst hy hy'
    exact hx
  · rw [List.getElem?_set_ne hid] at hy
    rw [Array.getElem?_setIfInBounds_ne hid] at hy'
    exact h.2 i y y' hy hy'
end
end Go.Ev
namespace Go.Ev
open Go
section
variable {W : Nat → Prop} {ρ : Rho} {H : List b8} {F : Fz} {w w' : World}
theorem ob8 {b o : Nat} (h : (w.cell? ⟨b, o, none⟩).isSome) : b < w.heap.size := by
 obtain ⟨u, hu⟩ := Option.isSome_iff_exists.1 h
 exact World.block_lt_of_cell? _ _ hu
theorem ic9.cellAt {base : ld4} {b : b8} {cc : Array Value} {t : TypeId} {fr : Nat × Nat} (h : ic9 W F w base b cc t fr) (o : Nat) : w.cell? ⟨base.blk, o, none⟩ = cc[o]? := by
 simp [World.cell?, h.obj]
theorem ic9.lt {base : ld4} {b : b8} {cc : Array Value} {t : TypeId} {fr : Nat × Nat} (h : ic9 W F w base b cc t fr) : base.blk < w.heap.size := by
 rcases Nat.lt_or_ge base.blk w.heap.size with hh | hh
 ·exact hh
 ·have := h.obj; rw [Array.getElem?_eq_none hh] at this; cases this
theorem Ext.same (hh : w'.heap = w.heap) (h1 : w'.os = w.os) (h2 : w'.tape = w.tape) (h3 : w'.output = w.output) (h4 : w.drawn ≤ w'.drawn) : Ext W F w w' :=
 ⟨h1, h2, h3, by rw [hh]; exact Nat.le_refl _, fun _ _ _ => by rw [hh], fun _ _ _ => by simp [World.cell?, hh], h4⟩
theorem s5.same (h : s5 W ρ H F w) (hh : w'.heap = w.heap) : s5 W ρ H F w' := by
 have hc : ∀ a, w'.cell? a = w.cell? a := fun a => by simp [World.cell?, hh]
 refine ⟨fun id b hb hd => ?_, h.apart, fun b o hf => by rw [hc]; exact h.frz b o hf, fun k hk => h.new k (by rw [← hh]; exact hk)⟩
 obtain ⟨cc, t, fr, hB⟩ := h.blk id b hb hd
 refine ⟨cc, t, fr, by rw [hh]; exact hB.obj, hB.room, hB.len, hB.rows, fun i r c x hr hx => ?_, hB.own, hB.kept⟩
 obtain ⟨x', h1, h2⟩ := hB.cell i r c x hr hx
 exact ⟨x', h1, h2.adv (fun _ _ h => h) (fun _ _ _ => hc _)⟩
theorem Adv.same (hh : w'.heap = w.heap) (h1 : w'.os = w.os) (h2 : w'.tape = w.tape) (h3 : w'.output = w.output) (h4 : w.drawn ≤ w'.drawn) : Adv W ρ H F w ρ H F w' :=
 ⟨.same hh h1 h2 h3 h4, .refl, fun _ _ h => h, fun _ _ h => .inl h, fun _ b h hn => absurd rfl (hn b h)⟩
theorem ic9.keep {base : ld4} {b : b8} {cc : Array Value} {t : TypeId} {fr : Nat × Nat} (h : ic9 W F w base b cc t fr) (hblk : w'.heap[base.blk]? = w.heap[base.blk]?)
  (hw : ∀ b o, F b o → w'.cell? ⟨b, o, none⟩ = w.cell? ⟨b, o, none⟩) : ic9 W F w' base b cc t fr :=
 ⟨hblk.trans h.obj, h.room, h.len, h.rows, fun i r c x hr hx => by
  obtain ⟨x', h1, h2⟩ := h.cell i r c x hr hx
  exact ⟨x', h1, h2.adv (fun _ _ h => h) hw⟩, h.own, h.kept⟩
def ρnew (ρ : Rho) (H : List b8) (base : ld4) : Rho := fun id => if id = H.length then base else ρ id
theorem s5.newAt (h : s5 W ρ H F w) (hos : w'.os = w.os) (htape : w'.tape = w.tape) (hout : w'.output = w.output) (hdrawn : w.drawn ≤ w'.drawn) (hsize : w.heap.size ≤ w'.heap.size)
  (hold : ∀ k, k < w.heap.size → w'.heap[k]? = w.heap[k]?) (gb : Nat) (hgb : w.heap.size ≤ gb)
  (et es : Nat) (elems : List (List b7)) (cc : Array Value) (t : TypeId) (hobj : w'.heap[gb]? = some (.cells cc t (0, 0)))
  (hrows : ∀ (i : Nat) r, elems[i]? = some r → r.length = es) (hlen : elems.length * es ≤ cc.size)
  (hcell : ∀ (i : Nat) r (c : Nat) x, elems[i]? = some r → r[c]? = some x → ∃ x', cc[i * es + c]? = some x' ∧ U0 F w x x') (ht : et ≠ 0 → t = et) :
  Adv W ρ H F w (ρnew ρ H ⟨gb, 0, cc.size⟩) (H ++ [{ et, es, elems, own := true, dead := false, g := 0 }]) F w' ∧
  s5 W (ρnew ρ H ⟨gb, 0, cc.size⟩) (H ++ [{ et, es, elems, own := true, dead := false, g := 0 }]) F w' := by
 have hcells : ∀ b o, F b o → w'.cell? ⟨b, o, none⟩ = w.cell? ⟨b, o, none⟩ := fun b o hf => by
  have := hold b (ob8 (h.frz b o hf))
  simp [World.cell?, this]
 have hρ : ∀ id, id < H.length → ρnew ρ H ⟨gb, 0, cc.size⟩ id = ρ id := fun id hid => by
  simp [ρnew, Nat.ne_of_lt hid]
 have hρn : ρnew ρ H ⟨gb, 0, cc.size⟩ H.length = ⟨gb, 0, cc.size⟩ := by simp [ρnew]
 have hlook : ∀ (id : Nat) b, (H ++ [{ et, es, elems, own := true, dead := false, g := 0 }])[id]? = some b → (id < H.length ∧ H[id]? = some b) ∨ (id = H.length ∧ b = { et, es, elems, own := true, dead := false, g := 0 }) := fun id b hb => by
  rcases Nat.lt_or_ge id H.length with hh | hh
  ·rw [List.getElem?_append_left hh] at hb; exact .inl ⟨hh, hb⟩
  ·rw [List.getElem?_append_right hh] at hb
   have h0 : id - H.length = 0 := by
    rcases Nat.eq_zero_or_pos (id - H.length) with h0 | h0
    ·exact h0
    ·rw [List.getElem?_eq_none (by simp; omega)] at hb; cases hb
   rw [h0] at hb
   exact .inr ⟨by omega, by simpa using hb.symm⟩
 constructor
 ·refine ⟨⟨hos, htape, hout, hsize, fun k hk _ => hold k hk, hcells, hdrawn⟩, fun id b hb => ?_, fun _ _ h => h, fun _ _ h => .inl h, fun id b' hb' hn => ?_⟩
  ·have hid : id < H.length := (List.getElem?_eq_some_iff.1 hb).1
   exact ⟨b, by rw [List.getElem?_append_left hid]; exact hb, rfl, Nat.le_refl _, fun _ => ⟨hρ id hid, rfl, Nat.le_refl _⟩⟩
  ·rcases hlook id b' hb' with ⟨_, h0⟩ | ⟨rfl, _⟩
   ·exact absurd rfl (hn b' h0)
   ·rw [hρn]; exact h.new _ hgb
 ·refine ⟨fun id b hb hd => ?_, fun id id' b b' hb hb' hd hd' ho hne => ?_, fun b o hf => by rw [hcells b o hf]; exact h.frz b o hf, fun k hk => h.new k (by omega)⟩
  ·rcases hlook id b hb with ⟨hid, hb0⟩ | ⟨rfl, rfl⟩
   ·obtain ⟨cc', t', fr, hB⟩ := h.blk id b hb0 hd
    rw [hρ id hid]
    exact ⟨cc', t', fr, hB.keep (hold _ hB.lt) hcells⟩
   ·rw [hρn]
    refine ⟨cc, t, (0, 0), hobj, by simp, hlen, hrows, fun i r c x hr hx => ?_, fun _ => ⟨rfl, h.new _ hgb, rfl, rfl, fun o hf => ?_, ht⟩, fun hc => by cases hc⟩
    ·obtain ⟨x', h1, h2⟩ := hcell i r c x hr hx
     exact ⟨x', by simpa using h1, h2.adv (fun _ _ h => h) hcells⟩
    ·have := ob8 (h.frz _ _ hf)
     simp at this
     omega
  ·rcases hlook id b hb with ⟨hid, hb0⟩ | ⟨rfl, rfl⟩ <;> rcases hlook id' b' hb' with ⟨hid', hb0'⟩ | ⟨rfl, rfl⟩
   ·rw [hρ id hid, hρ id' hid']; exact h.apart id id' b b' hb0 hb0' hd hd' ho hne
   ·rw [hρ id hid, hρn]
    obtain ⟨cc', t', fr, hB⟩ := h.blk id b hb0 hd
    exact Nat.ne_of_lt (Nat.lt_of_lt_of_le hB.lt hgb)
   ·rw [hρ id' hid', hρn]
    obtain ⟨cc', t', fr, hB⟩ := h.blk id' b' hb0' hd'
    exact (Nat.ne_of_lt (Nat.lt_of_lt_of_le hB.lt hgb)).symm
   ·exact absurd rfl hne
theorem s5.alloc (h : s5 W ρ H F w) (et es : Nat) (elems : List (List b7)) (cc : Array Value) (t : TypeId)
  (hrows : ∀ (i : Nat) r, elems[i]? = some r → r.length = es) (hlen : elems.length * es ≤ cc.size)
  (hcell : ∀ (i : Nat) r (c : Nat) x, elems[i]? = some r → r[c]? = some x → ∃ x', cc[i * es + c]? = some x' ∧ U0 F w x x') (ht : et ≠ 0 → t = et) :
  Adv W ρ H F w (ρnew ρ H ⟨w.heap.size, 0, cc.size⟩) (H ++ [{ et, es, elems, own := true, dead := false, g := 0 }]) F (w.alloc (.cells cc t)) ∧
  s5 W (ρnew ρ H ⟨w.heap.size, 0, cc.size⟩) (H ++ [{ et, es, elems, own := true, dead := false, g := 0 }]) F (w.alloc (.cells cc t)) :=
 h.newAt (w' := w.alloc (.cells cc t)) rfl rfl rfl (Nat.le_refl _) (by simp) (fun k hk => by simp only [World.alloc, Array.getElem?_push]; rw [if_neg (Nat.ne_of_lt hk)]) w.heap.size (Nat.le_refl _) et es elems cc t
  (by simp only [World.alloc, Array.getElem?_push]; simp) hrows hlen hcell ht
def ρset (ρ : Rho) (id : Nat) (base : ld4) : Rho := fun k => if k = id then base else ρ k
theorem s5.moveAt (h : s5 W ρ H F w) (id : Nat) (b b' : b8) (hb : H[id]? = some b) (hd : b.dead = false) (ho : b.own = true)
  (hos : w'.os = w.os) (htape : w'.tape = w.tape) (hout : w'.output = w.output) (hdrawn : w.drawn ≤ w'.drawn) (hsize : w.heap.size ≤ w'.heap.size)
  (hold : ∀ k, k < w.heap.size → k ≠ (ρ id).blk → w'.heap[k]? = w.heap[k]?) (gb : Nat) (hgb : gb = (ρ id).blk ∨ w.heap.size ≤ gb)
  (cc : Array Value) (t : TypeId) (hobj : w'.heap[gb]? = some (.cells cc t (0, 0)))
  (e3 : b'.own = true) (e4 : b'.dead = false) (e5 : b.g < b'.g) (het : b'.et ≠ 0 → t = b'.et)
  (hrows : ∀ (i : Nat) r, b'.elems[i]? = some r → r.length = b'.es) (hlen : b'.elems.length * b'.es ≤ cc.size)
  (hcell : ∀ (i : Nat) r (c : Nat) x, b'.elems[i]? = some r → r[c]? = some x → ∃ x', cc[i * b'.es + c]? = some x' ∧ U0 F w x x') :
  Adv W ρ H F w (ρset ρ id ⟨gb, 0, cc.size⟩) (H.set id b') F w' ∧ s5 W (ρset ρ id ⟨gb, 0, cc.size⟩) (H.set id b') F w' := by
 have hid : id < H.length := (List.getElem?_eq_some_iff.1 hb).1
 obtain ⟨cc0, t0, fr0, hB0⟩ := h.blk id b hb hd
 obtain ⟨_, hW, hoff, hsz, hnF, _⟩ := hB0.own ho
 have hcells : ∀ k o, F k o → w'.cell? ⟨k, o, none⟩ = w.cell? ⟨k, o, none⟩ := fun k o hf => by
  have := hold k (ob8 (h.frz k o hf)) (fun e => hnF o (e ▸ hf))
  simp [World.cell?, this]
 have hρ : ∀ k, k ≠ id → ρset ρ id ⟨gb, 0, cc.size⟩ k = ρ k := fun k hk => by simp [ρset, hk]
 have hρn : ρset ρ id ⟨gb, 0, cc.size⟩ id = ⟨gb, 0, cc.size⟩ := by simp [ρset]
 have hlook : ∀ (k : Nat) c, (H.set id b')[k]? = some c → (k ≠ id ∧ H[k]? = some c) ∨ (k = id ∧ c = b') := fun k c hk => by
  by_cases e : id = k
  ·subst e; simp [hid] at hk; exact .inr ⟨rfl, hk.symm⟩
  ·rw [List.getElem?_set_ne e] at hk; exact .inl ⟨fun h => e h.symm, hk⟩
 have hWg : W gb := hgb.elim (fun e => e ▸ hW) (h.new gb)
 have hnFg : ∀ o, ¬ F gb o := fun o hf => hgb.elim (fun e => hnF o (e ▸ hf)) (fun hle => by have := ob8 (h.frz gb o hf); omega)
 refine ⟨⟨⟨hos, htape, hout, hsize, fun k hk hw => hold k hk (fun e => hw (e ▸ hW)), hcells, hdrawn⟩, fun k c hk => ?_, fun _ _ h => h, fun _ _ h => .inl h, fun k c hk hn => ?_⟩, ?_⟩
 ·by_cases e : id = k
  ·subst e
   have : c = b := Option.some.inj (hk.symm.trans hb)
   subst this
   exact ⟨b', by simp [hid], by rw [e4, hd], Nat.le_of_lt e5, fun hg => absurd hg (by omega)⟩
  ·exact ⟨c, by rw [List.getElem?_set_ne e]; exact hk, rfl, Nat.le_refl _, fun _ => ⟨hρ k (fun h => e h.symm), rfl, Nat.le_refl _⟩⟩
 ·rcases hlook k c hk with ⟨_, h0⟩ | ⟨rfl, rfl⟩
  ·exact absurd rfl (hn c h0)
  ·rw [hρn]; exact hWg
 ·have hother : ∀ k c, k ≠ id → H[k]? = some c → c.dead = false → (ρ k).blk ≠ gb := fun k c hne hk hdc => by
   obtain ⟨cc1, t1, fr1, hB1⟩ := h.blk k c hk hdc
   rcases hgb with e | hle
   ·rw [e]; exact (h.apart id k b c hb hk hd hdc ho (Ne.symm hne)).symm
   ·exact Nat.ne_of_lt (Nat.lt_of_lt_of_le hB1.lt hle)
  refine ⟨fun k c hk hdc => ?_, fun k k' c c' hk hk' hd1 hd2 hoc hne => ?_, fun k o hf => by rw [hcells k o hf]; exact h.frz k o hf, fun k hk => h.new k (by omega)⟩
  ·rcases hlook k c hk with ⟨hne, hk0⟩ | ⟨rfl, rfl⟩
   ·obtain ⟨cc1, t1, fr1, hB1⟩ := h.blk k c hk0 hdc
    rw [hρ k hne]
    exact ⟨cc1, t1, fr1, hB1.keep (hold _ hB1.lt (h.apart id k b c hb hk0 hd hdc ho (Ne.symm hne)).symm) hcells⟩
   ·rw [hρn]
    refine ⟨cc, t, (0, 0), hobj, by simp, hlen, hrows, fun i r x u hr hx => ?_, fun _ => ⟨rfl, hWg, rfl, rfl, hnFg, het⟩, fun hn => by rw [e3] at hn; cases hn⟩
    obtain ⟨x', h1, h2⟩ := hcell i r x u hr hx
    exact ⟨x', by simpa using h1, h2.adv (fun _ _ h => h) hcells⟩
  ·rcases hlook k c hk with ⟨hne1, hk0⟩ | ⟨rfl, rfl⟩ <;> rcases hlook k' c' hk' with ⟨hne2, hk0'⟩ | ⟨rfl, rfl⟩
   ·rw [hρ k hne1, hρ k' hne2]; exact h.apart k k' c c' hk0 hk0' hd1 hd2 hoc hne
   ·rw [hρ k hne1, hρn]; exact hother k c hne1 hk0 hd1
   ·rw [hρ k' hne2, hρn]; exact (hother k' c' hne2 hk0' hd2).symm
   ·exact absurd rfl hne
theorem s5.disown (h : s5 W ρ H F w) (id : Nat) (b : b8) (hb : H[id]? = some b) (hd : b.dead = false) :
  ∃ F', Adv W ρ H F w ρ (H.set id { b with own := false }) F' w ∧ s5 W ρ (H.set id { b with own := false }) F' w ∧
   (∀ o, o < b.elems.length * b.es → F' (ρ id).blk ((ρ id).off + o)) := by
 obtain ⟨cc, t, fr, hB⟩ := h.blk id b hb hd
 have hid : id < H.length := (List.getElem?_eq_some_iff.1 hb).1
 have hlook : ∀ (k : Nat) b', (H.set id { b with own := false })[k]? = some b' → (k ≠ id ∧ H[k]? = some b') ∨ (k = id ∧ b' = { b with own := false }) := fun k b' hk => by
  by_cases e : id = k
  ·subst e; simp [hid] at hk; exact .inr ⟨rfl, hk.symm⟩
  ·rw [List.getElem?_set_ne e] at hk; exact .inl ⟨fun h => e h.symm, hk⟩
 refine ⟨fun k o => F k o ∨ (b.own = true ∧ k = (ρ id).blk ∧ (ρ id).off ≤ o ∧ o < (ρ id).off + b.elems.length * b.es), ?_, ?_, ?_⟩
 ·refine ⟨.refl, fun k b' hk => ?_, fun _ _ h => .inl h, fun k o hk => ?_, fun k b' hk hn => ?_⟩
  ·by_cases e : id = k
   ·subst e
    have : b' = b := Option.some.inj (hk.symm.trans hb)
    subst this
    exact ⟨{ b' with own := false }, by simp [hid], rfl, Nat.le_refl _, fun _ => ⟨rfl, rfl, Nat.le_refl _⟩⟩
   ·exact ⟨b', by rw [List.getElem?_set_ne e]; exact hk, rfl, Nat.le_refl _, fun _ => ⟨rfl, rfl, Nat.le_refl _⟩⟩
  ·rcases hk with hk | ⟨ho, rfl, _⟩
   ·exact .inl hk
   ·exact .inr (hB.own ho).2.1
  ·rcases hlook k b' hk with ⟨_, h0⟩ | ⟨rfl, rfl⟩
   ·exact absurd rfl (hn b' h0)
   ·exact absurd rfl (hn b hb)
 ·have hm : ∀ {x x'}, U0 F w x x' → U0 (fun k o => F k o ∨ (b.own = true ∧ k = (ρ id).blk ∧ (ρ id).off ≤ o ∧ o < (ρ id).off + b.elems.length * b.es)) w x x' := fun hx => hx.adv (fun _ _ h => .inl h) (fun _ _ _ => rfl)
  refine ⟨fun k b' hk hd' => ?_, fun k k' c c' hk hk' hd1 hd2 ho hne => ?_, fun k o hk => ?_, h.new⟩
  ·rcases hlook k b' hk with ⟨hne, hk0⟩ | ⟨rfl, rfl⟩
   ·obtain ⟨cc', t', fr', hB'⟩ := h.blk k b' hk0 hd'
    refine ⟨cc', t', fr', hB'.obj, hB'.room, hB'.len, hB'.rows, fun i r c x hr hx => ?_, fun ho => ?_, fun ho o hlt => .inl (hB'.kept ho o hlt)⟩
    ·obtain ⟨x', h1, h2⟩ := hB'.cell i r c x hr hx
     exact ⟨x', h1, hm h2⟩
    ·obtain ⟨h1, h2, h3, h4, h5, h6⟩ := hB'.own ho
     refine ⟨h1, h2, h3, h4, fun o hf => ?_, h6⟩
     rcases hf with hf | ⟨_, he, _⟩
     ·exact h5 o hf
     ·exact h.apart k id b' b hk0 hb hd' hd ho hne he
   ·refine ⟨cc, t, fr, hB.obj, hB.room, hB.len, hB.rows, fun i r c x hr hx => ?_, (fun ho => by cases ho), fun _ o hlt => ?_⟩
    ·obtain ⟨x', h1, h2⟩ := hB.cell i r c x hr hx
     exact ⟨x', h1, hm h2⟩
    ·cases ho : b.own with
     | false => exact .inl (hB.kept ho o hlt)
     | true => exact .inr ⟨rfl, rfl, by omega, by simpa using hlt⟩
  ·rcases hlook k c hk with ⟨hne1, hk0⟩ | ⟨rfl, rfl⟩
   ·rcases hlook k' c' hk' with ⟨hne2, hk0'⟩ | ⟨rfl, rfl⟩
    ·exact h.apart k k' c c' hk0 hk0' hd1 hd2 ho hne
    ·exact h.apart k k' c b hk0 hb hd1 hd ho hne
   ·cases ho
  ·rcases hk with hk | ⟨ho, rfl, h1, h2⟩
   ·exact h.frz k o hk
   ·rw [hB.cellAt]
    have : o < cc.size := by have := hB.room; have := hB.len; omega
    simp [this]
 ·intro o hlt
  cases ho : b.own with
  | false => exact .inl (hB.kept ho o hlt)
  | true => exact .inr ⟨rfl, rfl, by omega, by omega⟩
theorem s5.rewrite (h : s5 W ρ H F w) (id : Nat) (b b' : b8) (hb : H[id]? = some b) (hd : b.dead = false) (ho : b.own = true)
  (cc : Array Value) (t : TypeId) (hB : ic9 W F w (ρ id) b cc t (0, 0)) (cc' : Array Value) (hsz : cc'.size = cc.size)
  (e1 : b'.es = b.es) (e2 : b'.et = b.et) (e3 : b'.own = true) (e4 : b'.dead = false) (e5 : b.g ≤ b'.g) (e6 : b'.g = b.g → b.elems.length ≤ b'.elems.length)
  (hlen : b'.elems.length * b.es ≤ (ρ id).size) (hrows : ∀ (i : Nat) r, b'.elems[i]? = some r → r.length = b.es)
  (hcell : ∀ (i : Nat) r (c : Nat) x, b'.elems[i]? = some r → r[c]? = some x → ∃ x', cc'[i * b.es + c]? = some x' ∧ U0 F w x x') :
  Adv W ρ H F w ρ (H.set id b') F (w.setRow (ρ id).blk cc') ∧ s5 W ρ (H.set id b') F (w.setRow (ρ id).blk cc') := by
 have hid : id < H.length := (List.getElem?_eq_some_iff.1 hb).1
 obtain ⟨_, hW, hoff, hsize, hnF, het⟩ := hB.own ho
 have hother : ∀ k, k ≠ (ρ id).blk → (w.setRow (ρ id).blk cc').heap[k]? = w.heap[k]? := fun k hk => setRow_other w _ k _ hk
 have hcells : ∀ k o, F k o → (w.setRow (ρ id).blk cc').cell? ⟨k, o, none⟩ = w.cell? ⟨k, o, none⟩ := fun k o hf => by
  have : k ≠ (ρ id).blk := fun e => hnF o (e ▸ hf)
  simp [World.cell?, hother k this]
 have hlook : ∀ (k : Nat) c, (H.set id b')[k]? = some c → (k ≠ id ∧ H[k]? = some c) ∨ (k = id ∧ c = b') := fun k c hk => by
  by_cases e : id = k
  ·subst e; simp [hid] at hk; exact .inr ⟨rfl, hk.symm⟩
  ·rw [List.getElem?_set_ne e] at hk; exact .inl ⟨fun h => e h.symm, hk⟩
 refine ⟨⟨⟨rfl, rfl, rfl, by simp, fun k _ hk => hother k (fun e => hk (e ▸ hW)), hcells, Nat.le_refl _⟩, fun k c hk => ?_, fun _ _ h => h, fun _ _ h => .inl h, fun k c hk hn => ?_⟩, ?_⟩
 ·by_cases e : id = k
  ·subst e
   have : c = b := Option.some.inj (hk.symm.trans hb)
   subst this
   exact ⟨b', by simp [hid], by rw [e4, hd], e5, fun hg => ⟨rfl, e1, e6 hg⟩⟩
  ·exact ⟨c, by rw [List.getElem?_set_ne e]; exact hk, rfl, Nat.le_refl _, fun _ => ⟨rfl, rfl, Nat.le_refl _⟩⟩
 ·rcases hlook k c hk with ⟨_, h0⟩ | ⟨rfl, rfl⟩
  ·exact absurd rfl (hn c h0)
  ·exact hW
 ·refine ⟨fun k c hk hdc => ?_, fun k k' c c' hk hk' hd1 hd2 hoc hne => ?_, fun k o hf => by rw [hcells k o hf]; exact h.frz k o hf, fun k hk => h.new k (by simpa using hk)⟩
  ·rcases hlook k c hk with ⟨hne, hk0⟩ | ⟨rfl, rfl⟩
   ·obtain ⟨cc1, t1, fr1, hB1⟩ := h.blk k c hk0 hdc
    exact ⟨cc1, t1, fr1, hB1.keep (hother _ (h.apart id k b c hb hk0 hd hdc ho (Ne.symm hne)).symm) hcells⟩
   ·refine ⟨cc', t, (0, 0), setRow_heap w _ cc _ t _ hB.obj, by rw [hsz]; exact hB.room, by rw [e1]; exact hlen, by rw [e1]; exact hrows, fun i r x u hr hx => ?_, fun _ => ⟨rfl, hW, hoff, by rw [hsz]; exact hsize, hnF, by rw [e2]; exact het⟩, fun hn => by rw [e3] at hn; cases hn⟩
    rw [e1, hoff, Nat.zero_add]
    obtain ⟨x', h1, h2⟩ := hcell i r x u hr hx
    exact ⟨x', h1, h2.adv (fun _ _ h => h) hcells⟩
  ·rcases hlook k c hk with ⟨hne1, hk0⟩ | ⟨rfl, rfl⟩ <;> rcases hlook k' c' hk' with ⟨hne2, hk0'⟩ | ⟨rfl, rfl⟩
   ·exact h.apart k k' c c' hk0 hk0' hd1 hd2 hoc hne
   ·exact h.apart k k' c b hk0 hb hd1 hd hoc hne
   ·exact h.apart k k' b c' hb hk0' hd hd2 ho hne
   ·exact absurd rfl hne
theorem s5.pull {ρ' : Rho} {H' : List b8} (h : s5 W ρ H F w) (π : Nat → Nat) (hπ : ∀ (i : Nat) b, H'[i]? = some b → b.dead = false → H[π i]? = some b ∧ ρ' i = ρ (π i)) (inj : ∀ (i i' : Nat) b b', H'[i]? = some b → b.dead = false → H'[i']? = some b' → b'.dead = false → π i = π i' → i = i') : s5 W ρ' H' F w := by
 refine ⟨fun id b hb hd => ?_, fun id id' b b' hb hb' hd hd' ho hne => ?_, h.frz, h.new⟩
 ·obtain ⟨h1, h2⟩ := hπ id b hb hd
  rw [h2]
  exact h.blk _ b h1 hd
 ·obtain ⟨h1, h2⟩ := hπ id b hb hd
  obtain ⟨h3, h4⟩ := hπ id' b' hb' hd'
  rw [h2, h4]
  exact h.apart _ _ b b' h1 h3 hd hd' ho fun e => hne (inj id id' b b' hb hd hb' hd' e)
end
end Go.Ev
namespace Go.Ev
open Go
def szT (P : Program) (t : TypeId) : Nat :=
 match P.info? t with
 | some i => i.size
 | none => 0
def byT (P : Program) (t : TypeId) : Nat :=
 match P.info? t with
 | some i => i.bytes
 | none => 0
def agT (P : Program) (t : TypeId) : Bool :=
 match P.underlying t with
 | some (.struct _) | some (.array _ _) => true
 | _ => false
def zeT (P : Program) (t : TypeId) : Option (List b7) :=
 match P.info? t with
 | some i => match i.zero with
  | some z => if z.cells.toList.all Bc7 then some (z.cells.toList.map .v) else none
  | none => none
 | none => none
def Fd7 (P : Program) (t : TypeId) : Bool :=
 match P.info? t with
 | some i => match i.zero with
  | some z => Nat.beq z.cells.size i.size
  | none => false
 | none => false
def Oc1 (P : Program) (sl : Bool) : Nat → TypeId → List CK
 | 0, t => List.replicate (szT P t) .any
 | d + 1, t => match P.underlying t with
  | some (.int k) => [.int k]
  | some .bool => [.bool]
  | some (.slice e) => match sl with
   | true => [.sl (szT P e)]
   | false => [.any]
  | some (.struct fs) => fs.toList.flatMap fun f => Oc1 P sl d f.type
  | some (.array n e) => (List.replicate n (Oc1 P sl d e)).flatten
  | _ => List.replicate (szT P t) .any
def g8 : Operand → Arg
 | .tmp t => .t t
 | .const v => .c (ofVal v)
 | .global g => .g g
 | .func f => .c (.fn f [])
def Lb1 (P : Program) (t : TypeId) (i : Nat) : Option (Nat × Nat) :=
 match P.underlying t with
 | some (.struct fs) => match fs[i]? with
  | some f => some (f.offset, szT P f.type)
  | none => none
 | some (.array _ e) => some (i * szT P e, szT P e)
 | some (.slice e) => some (i * szT P e, szT P e)
 | _ => none
def Ra7 (P : Program) (t : TypeId) : List (Nat × Operand) → Option (List (Nat × Nat × Arg))
 | [] => some []
 | (i, x) :: r => match Lb1 P t i with
  | some (off, size) => match Ra7 P t r with
   | some l => some ((off, size, g8 x) :: l)
   | none => none
  | none => none
def fc1 (o : Oper) : Oper := { o with dst := none, pos := "", after := #[], guard := none }
def Ea2 : List Operand → Option (List Nat)
 | [] => some []
 | .tmp t :: r => match Ea2 r with
  | some l => some (t :: l)
  | none => none
 | .global _ :: _ => none
 | _ :: r => Ea2 r
def Oc2 (P : Program) (t : TypeId) : Bool :=
 match P.underlying t with
 | some (.struct fs) => fs.all fun f => (P.info? f.type).isSome
 | some (.array _ e) => (P.info? e).isSome
 | _ => false
def wb8 (o : Oper) : PO :=
 match Ea2 o.op.operands.toList with
 | some ts => .gen (fc1 o) ts
 | none => .bad
def fa7 : List (Option (List (Nat × CK))) → Option (List (Nat × CK))
 | [] => some []
 | x :: r => match x, fa7 r with
  | some a, some b => some (a ++ b)
  | _, _ => none
def wb9 (off n : Nat) (x : Option (List (Nat × CK))) : Option (List (Nat × CK)) := match x with
 | some l => if l.all (fun p => Nat.blt p.1 n) then some (l.map fun p => (off + p.1, p.2)) else none
 | none => none
def S8 (P : Program) : Nat → TypeId → Option (List (Nat × CK))
 | 0, _ => none
 | d + 1, t => match P.underlying t with
  | some (.int k) => some [(0, .int k)]
  | some .bool => some [(0, .bool)]
  | some (.struct fs) => if P.stoodInHeld t then none else fa7 (fs.toList.map fun f => if f.name = "_" then none else wb9 f.offset (szT P f.type) (S8 P d f.type))
  | some (.array n e) => if (P.info? e).isSome then fa7 ((List.range n).map fun i => wb9 (i * szT P e) (szT P e) (S8 P d e)) else none
  | _ => none
def gb3 (P : Program) (t : TypeId) : Nat :=
 match P.underlying t with
 | some (.slice _) => 0
 | some (.pointer _) => 1
 | some (.func _ _ _) => 2
 | _ => 3
def fe1 (P : Program) (o : Oper) (op : BinOp) (t : TypeId) (x y : Operand) : PO :=
 match op with
 | .eql => if agT P t then (match S8 P 9 t with | some fl => if P.eqGuardType P.depth t then .bad else .eqc false fl (g8 x) (g8 y) | none => .bad) else match Ea2 o.op.operands.toList with
  | some ts => .eqn (gb3 P t) false (g8 x) (g8 y) (fc1 o) ts
  | none => .bad
 | .neq => if agT P t then (match S8 P 9 t with | some fl => if P.eqGuardType P.depth t then .bad else .eqc true fl (g8 x) (g8 y) | none => .bad) else match Ea2 o.op.operands.toList with
  | some ts => .eqn (gb3 P t) true (g8 x) (g8 y) (fc1 o) ts
  | none => .bad
 | _ => wb8 o
def Oc3 (P : Program) : List Operand → List TypeId → PO
 | [s, x], [t, u] => match P.underlying t with
  | some (.slice e) => if Nat.blt 0 (szT P e) && Nat.blt 0 (byT P e) && Fd7 P e && !(Nat.beq e 0) && Nat.beq t u then .append e (szT P e) (byT P e) (g8 s) (g8 x) else .bad
  | _ => .bad
 | _, _ => .bad
def Fd8 (P : Program) : List Operand → List TypeId → PO
 | [d, s], [t, _] => match P.underlying t with
  | some (.slice e) => if (P.info? e).isSome then .copy (szT P e) (g8 d) (g8 s) else .bad
  | _ => .bad
 | _, _ => .bad
def fe2 (P : Program) : List Operand → List TypeId → PO
 | [x], [t] => match P.underlying t with
  | some (.slice e) => match zeT P e with
   | some z => if Nat.blt 0 (szT P e) then .clr (szT P e) z (g8 x) else .bad
   | none => .bad
  | _ => .bad
 | _, _ => .bad
def fe3 (P : Program) (o : Oper) : List Operand → List TypeId → PO
 | [x], [t] => match P.underlying t with
  | some (.slice _) => .len (g8 x)
  | some (.array n _) => .mv (.c (.v (.int .i64 n)))
  | some .string => wb8 o
  | _ => .bad
 | _, _ => .bad
def cOp (P : Program) (o : Oper) : PO :=
 match o.op with
 | .move x | .assign x => .mv (g8 x)
 | .nilCheck x => .nilck (g8 x)
 | .pick c x y => .pick (g8 c) (g8 x) (g8 y)
 | .alloc t => match zeT P t with
  | some z => .alloc z
  | none => .bad
 | .box _ x => .box (g8 x)
 | .build t parts => match zeT P t with
  | some z => match Ra7 P t parts.toList with
   | some l => if Oc2 P t then .build z l else .bad
   | none => .bad
  | none => .bad
 | .buildSlice t n parts => match P.underlying t with
  | some (.slice e) => match zeT P e with
   | some z => match Ra7 P t parts.toList with
    | some l => if Nat.ble (n * szT P e) 16777216 && Nat.beq z.length (szT P e) && Nat.blt 0 (szT P e) then .bslice e (szT P e) n (List.replicate n z).flatten l else .bad
    | none => .bad
   | none => .bad
  | _ => .bad
 | .load t x => match P.underlying t with
  | some _ => .load (Oc1 P true 8 t) (szT P t) (agT P t) (g8 x)
  | none => .bad
 | .store t x y => if Nat.beq (szT P t) 0 then .bad else .store (szT P t) (g8 x) (g8 y)
 | .fieldAddr s x f => match P.underlying s with
  | some (.struct fs) => match fs[f]? with
   | some fd => if Nat.beq (szT P fd.type) 0 then .bad else .fld fd.offset (g8 x)
   | none => .bad
  | _ => .bad
 | .indexAddr t x i => match P.underlying t with
  | some (.array n e) => if (P.info? e).isSome then .idxA n (szT P e) (g8 x) (g8 i) else .bad
  | some (.slice e) => if (P.info? e).isSome then .idxS (szT P e) (g8 x) (g8 i) else .bad
  | _ => .bad
 | .slice t x lo hi mx => match P.underlying t, mx with
  | some (.slice e), none => if (P.info? e).isSome then .slice (szT P e) (g8 x) (lo.map g8) (hi.map g8) else .bad
  | some .string, none => wb8 o
  | _, _ => .bad
 | .makeSlice t l c => match P.underlying t with
  | some (.slice e) => match zeT P e with
   | some z => if Nat.beq z.length (szT P e) && Nat.blt 0 (szT P e) then .mksl e (szT P e) (byT P e) z (g8 l) (g8 c) else .bad
   | none => .bad
  | _ => .bad
 | .makeFunc (.func f) first caps => if first.isEmpty then .mkfn f (caps.toList.map g8) else .bad
 | .extract x i => .ext (g8 x) i
 | .field t x f => match P.underlying t with
  | some (.struct fs) => match fs[f]? with
   | some fd => if (P.underlying fd.type).isSome then .field fd.offset (szT P fd.type) (agT P fd.type) (g8 x) else .bad
   | none => .bad
  | _ => .bad
 | .index t x i => match P.underlying t with
  | some (.array n e) => if (P.underlying e).isSome then .index (Oc1 P false 8 e) n (szT P e) (agT P e) (g8 x) (g8 i) else .bad
  | some .string => wb8 o
  | _ => .bad
 | .binOp op t x y _ =>
  let plain := wb8 o
  match P.underlying t with
  | some (.int _) => match op with
   | .add | .sub | .mul | .quo | .rem | .lss | .leq | .gtr | .geq | .eql | .neq => .bin op (g8 x) (g8 y)
   | _ => plain
  | _ => fe1 P o op t x y
 | .unOp op t x =>
  match op, P.underlying t with
  | .not, _ => .not (g8 x)
  | .neg, some (.int _) => .neg (g8 x)
  | _, _ => wb8 o
 | .call c => match c.callee with
  | .value (.func f) => .call f (c.args.toList.map g8)
  | .value x => .calld (g8 x) (c.args.toList.map g8)
  | .invoke _ _ => .bad
  | .builtin b => match b with
   | .append => Oc3 P c.args.toList c.argTypes.toList
   | .copy => Fd8 P c.args.toList c.argTypes.toList
   | .clear => fe2 P c.args.toList c.argTypes.toList
   | .len => fe3 P o c.args.toList c.argTypes.toList
   | .max => wb8 o
   | .min => wb8 o
   | _ => .bad
 | .convert _ _ _ => wb8 o
 | .makeInterface _ _ => wb8 o
 | .typeAssert _ _ _ _ => wb8 o
 | _ => .bad
def Z8 (ops : Array Oper) (o : Oper) : Option (Option (Nat × Bool)) :=
 match o.guard with
 | none => some none
 | some (j, want) => match ops[j]? with
  | some oj => match oj.dst with
   | some d => some (some (d, want))
   | none => none
  | none => none
def me1 (ops : Array Oper) (s : Nat) : Bool := ops.toList.any fun q => match q.op, q.dst with
 | .slice _ _ none (some _) none, some d => Nat.beq d s
 | _, _ => false
def me2 (P : Program) (ops : Array Oper) (po : PO) : List Operand → List TypeId → PO
 | [.tmp s, x], [t, u] => match P.underlying t with
  | some (.slice e) => if me1 ops s && (Nat.blt 0 (szT P e) && Nat.beq t u) then .apre (szT P e) (.t s) (g8 x) else po
  | _ => po
 | _, _ => po
def ob9 (P : Program) (ops : Array Oper) (o : Oper) : PO := match o.op with
 | .call c => match c.callee with
  | .builtin .append => me2 P ops (cOp P o) c.args.toList c.argTypes.toList
  | _ => cOp P o
 | _ => cOp P o
def Hb2 (P : Program) (ops : Array Oper) : List Oper → Option (List PI)
 | [] => some []
 | o :: r => match Z8 ops o with
  | some g => match Hb2 P ops r with
   | some l => some (⟨o.dst, g, [], ob9 P ops o⟩ :: l)
   | none => none
  | none => none
def gb4 (o : Oper) : Bool := match o.op with
 | .alloc _ => o.guard.isNone
 | _ => false
def nc2 : PO → Bool
 | .mv _ | .nilck _ | .pick .. | .build .. | .tslice .. | .load .. | .fld .. | .idxA .. | .idxS .. | .slice .. | .mkfn .. | .ext .. | .field .. | .index .. | .bin .. | .eqn .. | .eqc .. | .not _ | .neg _ | .gen .. | .len _ => true
 | _ => false
def pa4 : Arg → List Nat
 | .t n => [n]
 | _ => []
def ld6 : Option Arg → List Nat
 | some x => pa4 x
 | none => []
def gb5 : PO → List Nat
 | .mv x | .nilck x | .box x | .load _ _ _ x | .fld _ x | .ext x _ | .field _ _ _ x | .not x | .neg x | .len x | .clr _ _ x => pa4 x
 | .pick c x y => pa4 c ++ pa4 x ++ pa4 y
 | .alloc _ | .bad => []
 | .build _ ps | .bslice _ _ _ _ ps | .tslice _ _ _ ps => ps.flatMap fun p => pa4 p.2.2
 | .store _ x y | .idxA _ _ x y | .idxS _ x y | .mksl _ _ _ _ x y | .index _ _ _ _ x y | .bin _ x y | .eqc _ _ x y | .append _ _ _ x y | .copy _ x y | .apre _ x y => pa4 x ++ pa4 y
 | .eqn _ _ x y _ ts => pa4 x ++ pa4 y ++ ts
 | .slice _ x lo hi => pa4 x ++ ld6 lo ++ ld6 hi
 | .mkfn _ xs | .call _ xs => xs.flatMap pa4
 | .gen _ ts => ts
 | .calld x xs => pa4 x ++ xs.flatMap pa4
def Lb2 : Option (Nat × Bool) → List Nat
 | some (d, _) => [d]
 | none => []
def qa9 (o : Oper) : List Nat := (o.after.toList.filter fun e => Region.binds .any e).map (·.on)
def Oc4 (ops : Array Oper) (M : List Nat) : Bool :=
 (List.range ops.size).all fun j => match ops[j]? with
  | some o => (qa9 o).all (Nat.blt · j) && (List.range ops.size).all fun i => !(M.getD j 0).testBit i || (qa9 o).any fun m => Nat.beq m i || (M.getD m 0).testBit i
  | none => false
def q8 (M : List Nat) (i j : Nat) : Bool := (M.getD j 0).testBit i
def pb0 : PO → Bool
 | .load .. | .idxS .. | .slice .. | .store .. | .append .. | .copy .. | .apre .. | .clr .. | .call .. | .calld .. => false
 | _ => true
def Rd4 (ops : Array Oper) (M : List Nat) (j : Nat) (loose : Bool) (reads : List Nat) (dst : Option Nat) : Bool :=
 (List.range ops.size).all fun i => match ops[i]? with
  | some o => match o.dst with
   | some d => (!(reads.contains d) || q8 M i j || (loose && !gb4 o && (q8 M j i || Nat.beq i j))) && (Nat.beq i j || dst != some d)
   | none => true
  | none => false
def xb0 (tr : Nat) (o : PO) : PO := match o with
 | .bslice et es n z ps => match Nat.beq tr 0 || (Nat.beq tr 1 && Nat.beq n 0) with
  | true => .bslice et es n z ps
  | false => .tslice es n z ps
 | o => o
def Ib5 (tr : Nat) (P : Program) (ops : Array Oper) (o : Oper) : Nat := if gb4 o then 0 else if nc2 (xb0 tr (ob9 P ops o)) then 1 else 2
def Yb8 (ops : Array Oper) (M : List Nat) (j : Nat) : List Nat := (List.range ops.size).filterMap fun i => match ops[i]? with
 | some oi => if gb4 oi && !q8 M i j then oi.dst else none
 | none => none
def cPI (tr : Nat) (P : Program) (ops : Array Oper) (M : List Nat) (j : Nat) (o : Oper) : Option (Nat × PI) :=
 match Z8 ops o with
 | some g => some (Ib5 tr P ops o, ⟨o.dst, g, if Nat.beq (Ib5 tr P ops o) 2 then Yb8 ops M j else [], xb0 tr (ob9 P ops o)⟩)
 | none => none
def zd0 (tr : Nat) (P : Program) (ops : Array Oper) (M : List Nat) : Nat → List Oper → Option (List (Nat × PI))
 | _, [] => some []
 | j, o :: r => match cPI tr P ops M j o, zd0 tr P ops M (j + 1) r with
  | some x, some l => some (x :: l)
  | _, _ => none
def xb1 (ks : List (Nat × PI)) (j : Nat) : Option PI := match ks[j]? with
 | some (0, p) => some p
 | _ => none
def Pb6 (ks : List (Nat × PI)) (j : Nat) : Option PI := match ks[j]? with
 | some (_ + 1, p) => some p
 | _ => none
def nc3 : Arg → Bool
 | .c x => match x with
  | .ptr .. | .sl .. => false
  | _ => true
 | _ => true
def Yc0 : PO → Bool
 | .load _ _ _ x => nc3 x
 | .idxS _ x _ => nc3 x
 | .slice _ x _ _ => nc3 x
 | _ => true
def Eb2 (ops : Array Oper) (M : List Nat) (ks : List (Nat × PI)) (j : Nat) : Bool := match ks[j]? with
 | some (k, p) => Rd4 ops M j (pb0 p.op) (Lb2 p.guard ++ gb5 p.op) p.dst && Yc0 p.op && (!Nat.beq k 0 || p.dst.isSome) && (!Nat.beq k 2 || (List.range j).all fun i => match ks[i]? with
  | some (2, _) => q8 M i j && Nat.beq ((M.getD i 0) &&& (M.getD j 0)) (M.getD i 0)
  | _ => true)
 | none => false
def Va1 (n : Nat) (M : List Nat) (ks : List (Nat × PI)) : List (PO × PO) := (List.range n).flatMap fun j => match ks[j]? with
 | some (1, pj) => (List.range n).filterMap fun i => match ks[i]? with
  | some (2, pi) => if q8 M i j || q8 M j i then none else some (pj.op, pi.op)
  | _ => none
 | _ => []
def ld7 (ops : Array Oper) (M : List Nat) (ks : List (Nat × PI)) : PC :=
 match Oc4 ops M && (List.range ops.size).all (Eb2 ops M ks) with
 | true => .draw (ops.toList.filterMap (·.dst)) ((List.range ops.size).filterMap (xb1 ks)) ((List.range ops.size).filterMap (Pb6 ks)) (Va1 ops.size M ks)
 | false => .bad
def xb2 (tr : Nat) (P : Program) (ops : Array Oper) : PC :=
 let M := (Region.before ops).toList
 match zd0 tr P ops M 0 ops.toList with
 | some ks => ld7 ops M ks
 | none => .bad
def Pb7 (P : Program) (ops : Array Oper) : PC :=
 match xb2 0 P ops with
 | .draw a b c d => .draw a b c d
 | _ => match xb2 1 P ops with
  | .draw a b c d => .draw a b c d
  | _ => xb2 2 P ops
def Pb8 (P : Program) : Code → PC
 | .skip => .skip
 | .region _ ops d => match d with
  | false => match Hb2 P ops ops.toList with
   | some l => .ops l
   | none => .bad
  | true => Pb7 P ops
 | .seq a b => .seq (Pb8 P a) (Pb8 P b)
 | .cond c x y => .cond (g8 c) (Pb8 P x) (Pb8 P y)
 | .block id c => .block id (Pb8 P c)
 | .loop c => .loop [] (Pb8 P c)
 | .scope c => Pb8 P c
 | .label _ => .skip
 | .exit id => .exit id
 | .ret => .ret
 | _ => .bad
def bit (n : Nat) : Nat := 2 ^ n
def less (s n : Nat) : Nat := if s.testBit n then s - 2 ^ n else s
def pc0 : Arg → Nat
 | .t n => bit n
 | _ => 0
def td3 (l : List Arg) : Nat := l.foldl (fun s x => s ||| pc0 x) 0
def me3 : Option Arg → Nat
 | some x => pc0 x
 | none => 0
def rOp : PO → Nat
 | .mv x | .nilck x | .box x | .load _ _ _ x | .fld _ x | .ext x _ | .field _ _ _ x | .not x | .neg x | .len x | .clr _ _ x => pc0 x
 | .pick c x y => pc0 c ||| pc0 x ||| pc0 y
 | .alloc _ | .bad => 0
 | .build _ ps | .bslice _ _ _ _ ps | .tslice _ _ _ ps => td3 (ps.map (·.2.2))
 | .store _ x y | .idxA _ _ x y | .idxS _ x y | .mksl _ _ _ _ x y | .index _ _ _ _ x y | .bin _ x y | .eqc _ _ x y | .eqn _ _ x y _ _ | .append _ _ _ x y | .copy _ x y | .apre _ x y => pc0 x ||| pc0 y
 | .slice _ x lo hi => pc0 x ||| me3 lo ||| me3 hi
 | .mkfn _ xs | .call _ xs => td3 xs
 | .gen _ ts => td3 (ts.map .t)
 | .calld x xs => pc0 x ||| td3 xs
def fe4 : Option (Nat × Bool) → Nat
 | some (d, _) => bit d
 | none => 0
def Oc5 : List PI → Nat → Nat
 | [], out => out
 | o :: r, out =>
  let s := Oc5 r out
  (match o.dst with | some d => less s d | none => s) ||| rOp o.op ||| fe4 o.guard
def live (ret : Nat) : PC → Nat → (Nat → Nat) → Nat
 | .skip, out, _ => out
 | .ops l, out, _ => Oc5 l out
 | .draw _ as l _, out, _ => Oc5 (as ++ l) out
 | .seq a b, out, ex => live ret a (live ret b out ex) ex
 | .cond c x y, out, ex => pc0 c ||| live ret x out ex ||| live ret y out ex
 | .block id c, out, ex => live ret c out (fun k => if k == id then out else ex k)
 | .loop _ c, _, ex =>
  let l1 := live ret c 0 ex
  let l2 := live ret c l1 ex
  l2 ||| live ret c l2 ex
 | .exit id, _, ex => ex id
 | .ret, _, _ => ret
 | .bad, _, _ => 0
 | .mask .., _, _ => 0
 | .sp .., _, _ => 0
 | .inner .., _, _ => 0
 | .round .., _, _ => 0
 | .loopM .., _, _ => 0
def fe5 (n s : Nat) : List Nat := (List.range n).filter (s.testBit ·)
def note (n ret : Nat) : PC → Nat → (Nat → Nat) → PC
 | .seq a b, out, ex => .seq (note n ret a (live ret b out ex) ex) (note n ret b out ex)
 | .cond c x y, out, ex => .cond c (note n ret x out ex) (note n ret y out ex)
 | .block id c, out, ex => .block id (note n ret c out (fun k => if k == id then out else ex k))
 | .loop _ c, _, ex =>
  let l1 := live ret c 0 ex
  let l2 := l1 ||| live ret c l1 ex
  let l3 := l2 ||| live ret c l2 ex
  .loop (fe5 n l3) (note n ret c l3 ex)
 | c, _, _ => c
def pc1 (P : Program) : ResultVar → Yb7
 | .tmp t => .t t
 | .cell a t => .cell a (szT P t) (agT P t)
def Yc1 (P : Program) : ResultVar → Bool
 | .tmp _ => true
 | .cell _ t => (P.underlying t).isSome
def Rd5 : List Yb7 → Nat
 | [] => 0
 | .t n :: r => bit n ||| Rd5 r
 | .cell a _ _ :: r => bit a ||| Rd5 r
def nc4 (P : Program) (fn : Func) : Option PFn :=
 match fn.body with
 | some c =>
  let res := fn.results.toList.map (pc1 P)
  if fn.results.toList.all (Yc1 P) then some ⟨fn.ntmps, res, note fn.ntmps (Rd5 res) (Pb8 P c) (Rd5 res) (fun _ => 0)⟩ else none
 | none => none
end Go.Ev
namespace Go.Ev
open Go
section
variable {W : Nat → Prop} {ρ ρ' : Rho} {H H' : List b8} {F F' : Fz} {w w' : World}
theorem Z1 {x x' : Value} (h : z8 ρ H F w (.v x) x') : x' = x := by
 cases h with
 | val h => cases h with
  | cell h => cases h with
   | mem h => cases h; rfl
   | v => rfl
theorem Ea3 {id i c g : Nat} {x' : Value} (h : z8 ρ H F w (.ptr id i c g) x') : ∃ (a : Addr) (b : b8), x' = .pointer (some a) ∧ H[id]? = some b ∧ b.dead = false ∧ g ≤ b.g ∧ (b.g = g → a = ⟨(ρ id).blk, (ρ id).off + (i * b.es + c), none⟩) := by
 cases h with
 | val h => cases h with
  | cell h => cases h with
   | mem h => cases h
   | ptr _ _ _ _ a b hb hd hg h => exact ⟨a, b, rfl, hb, hd, hg, h⟩
theorem Ba7 {id off n g : Nat} {x' : Value} (h : z8 ρ H F w (.sl id off n g) x') : ∃ (a : Addr) (cap : Nat) (b : b8), x' = .slice (some a) n cap ∧ H[id]? = some b ∧ b.dead = false ∧ g ≤ b.g ∧ n ≤ cap ∧ a.spot = none ∧ cap ≤ maxLen ∧
  (b.g = g → ((cap = 0 ∧ 0 < off) ∨ a = ⟨(ρ id).blk, (ρ id).off + off * b.es, none⟩) ∧ (off + cap) * b.es = (ρ id).size ∧ off + n ≤ b.elems.length) := by
 cases h with
 | val h => cases h with
  | cell h => cases h with
   | mem h => cases h
   | sl _ _ _ _ a cap b hb hd hg hn hs hm h => exact ⟨a, cap, b, rfl, hb, hd, hg, hn, hs, hm, h⟩
theorem ra0 {es n : Nat} {get : Nat → List b7} {x' : Value} (h : z8 ρ H F w (.tree es n get) x') : U0 F w (.tree es n get) x' := by
 cases h with
 | val h => cases h with
  | cell h => cases h with
   | mem h => exact h
theorem mb1 {cs : List b7} {x' : Value} (h : z8 ρ H F w (.tptr cs) x') : ∃ (a : Addr) (vs : Nat → Value), x' = .pointer (some a) ∧ a.spot = none ∧ (∀ c, c < cs.length → F a.block (a.off + c)) ∧
  (∀ c, c < cs.length → w.cell? ⟨a.block, a.off + c, none⟩ = some (vs c)) ∧ ∀ c (hc : c < cs.length), U0 F w (cs[c]) (vs c) := by
 cases h with
 | val h => cases h with
  | cell h => cases h with
   | mem h => cases h
   | tptr _ a vs hs hF hw hr => exact ⟨a, vs, rfl, hs, hF, hw, hr⟩
theorem Aa2 {cs : List b7} {x' : Value} (h : z8 ρ H F w (.agg cs) x') : ∃ vs : Array Value, x' = .agg vs ∧ cs.length = vs.size ∧ ∀ (i : Nat) x x', cs[i]? = some x → vs[i]? = some x' → U2 ρ H F w x x' := by
 cases h with
 | val h => cases h with
  | cell h => cases h with
   | mem h => cases h
  | agg _ vs hl h => exact ⟨vs, rfl, hl, h⟩
theorem Oc6 {cs : List b7} {x' : Value} (h : z8 ρ H F w (.tup cs) x') : ∃ vs : Array Value, x' = .tuple vs ∧ cs.length = vs.size ∧ ∀ (i : Nat) x x', cs[i]? = some x → vs[i]? = some x' → W0 ρ H F w x x' := by
 cases h with
 | val h => cases h with
  | cell h => cases h with
   | mem h => cases h
 | tup _ vs hl h => exact ⟨vs, rfl, hl, h⟩
theorem pb1 {f : FuncId} {cs : List b7} {x' : Value} (h : z8 ρ H F w (.fn f cs) x') : ∃ vs : Array Value, x' = .func (.func f) #[] vs ∧ cs.length = vs.size ∧ ∀ (i : Nat) x x', cs[i]? = some x → vs[i]? = some x' → U2 ρ H F w x x' := by
 cases h with
 | val h => cases h with
  | cell h => cases h with
   | mem h => cases h; exact ⟨#[], rfl, rfl, fun i x x' hx => by simp at hx⟩
  | fn _ _ vs hl h => exact ⟨vs, rfl, hl, h⟩
theorem W0.ofVal1 (v : Value) : W0 ρ H F w (ofVal1 v) v := by
 cases v with
 | agg cs =>
  exact .agg _ cs (by simp) fun i x x' hx hx' => by
   simp at hx
   obtain ⟨y, hy, rfl⟩ := hx
   rw [hy] at hx'
   injection hx' with e
   subst e
   exact .v _
 | _ => exact .cell (.v _)
theorem z8.ofVal (v : Value) : z8 ρ H F w (ofVal v) v := by
 cases v with
 | agg cs => exact .val (W0.ofVal1 (.agg cs))
 | tuple vs =>
  exact .tup _ vs (by simp) fun i x x' hx hx' => by
   simp at hx
   obtain ⟨y, hy, rfl⟩ := hx
   rw [hy] at hx'
   injection hx' with e
   subst e
   exact W0.ofVal1 _
 | _ => exact .val (.cell (.v _))
def GOk (E : Env) (F : Fz) (w : World) : Prop := ∀ g (c : Nat) x, (E.G g)[c]? = some x → x.oneCell' = true ∧ F g c ∧ w.cell? ⟨g, c, none⟩ = some x
theorem GOk.adv {E : Env} (h : GOk E F w) (k : Adv W ρ H F w ρ' H' F' w') : GOk E F' w' := fun g c x hx => by
 obtain ⟨h1, h2, h3⟩ := h g c x hx
 exact ⟨h1, k.more _ _ h2, (k.ext.cells _ _ h2).trans h3⟩
theorem Va2 (E : Env) (a : List b7) (t : Nat) : c7 E a (.t t) = (a[t]?).getD .unk := by
 have : c7 E a (.t t) = Option.rec (motive := fun _ => b7) .unk (fun y => y) (nth a t) := rfl
 rw [this, y6]
 cases a[t]? <;> rfl
theorem l7 {E : Env} {a : List b7} {ac : Act} (hA : la1 ρ H F w a ac.tmps) (hG : GOk E F w) (x : Operand) : z8 ρ H F w (c7 E a (g8 x)) (ac.eval x) := by
 cases x with
 | tmp t =>
  show z8 ρ H F w (c7 E a (.t t)) (ac.tmps.getD t undef)
  rw [Va2]
  rcases Nat.lt_or_ge t a.length with hh | hh
  ·have hh' : t < ac.tmps.size := hA.1 ▸ hh
   have h1 : a[t]? = some a[t] := List.getElem?_eq_getElem hh
   have h2 : ac.tmps[t]? = some ac.tmps[t] := Array.getElem?_eq_getElem hh'
   have := hA.2 t _ _ h1 h2
   simpa [h1, Array.getD, hh'] using this
  ·rw [List.getElem?_eq_none hh]
   exact .unk _
 | const v => exact z8.ofVal v
 | global g =>
  show z8 ρ H F w (.tptr (l0 .v (E.G g))) (.pointer (some ⟨g, 0, none⟩))
  rw [l8]
  refine .val (.cell (.tptr _ _ (fun c => (E.G g).getD c undef) rfl (fun c hc => ?_) (fun c hc => ?_) fun c hc => ?_))
  ·have hc' : c < (E.G g).length := by simpa using hc
   simpa using (hG g c _ (List.getElem?_eq_getElem hc')).2.1
  ·have hc' : c < (E.G g).length := by simpa using hc
   have := (hG g c _ (List.getElem?_eq_getElem hc')).2.2
   simpa [List.getD, List.getElem?_eq_getElem hc'] using this
  ·have hc' : c < (E.G g).length := by simpa using hc
   have := (hG g c _ (List.getElem?_eq_getElem hc')).1
   simp only [List.getElem_map, List.getD, List.getElem?_eq_getElem hc', Option.getD_some]
   exact .v _ this
 | func f => exact .val (.cell (.mem (.fn f)))
def j6 (P : Program) (o : Oper) (ac : Act) (w : World) (post : Value → World → Prop) : Prop :=
 ∀ (next : Act → World → Prop) (Q : Exit → Act → World → Prop), (∀ x' w', post x' w' → next (ac.put o.dst x') w') → o.wp P ac w next Q
def L9 (W : Nat → Prop) (ρ : Rho) (H : List b8) (F : Fz) (w : World) (x : b7) (H' : List b8) (x' : Value) (w' : World) : Prop :=
 ∃ ρ' F', Adv W ρ H F w ρ' H' F' w' ∧ s5 W ρ' H' F' w' ∧ z8 ρ' H' F' w' x x'
section
variable {P : Program} {o : Oper} {ac : Act} {post : Value → World → Prop}
theorem j6.value {x' : Value} (hrun : (execOp ac.eval o).run P w = .ok (.value x') w') (hp : post x' w') : j6 P o ac w post := fun next Q h => by
 unfold Oper.wp
 rw [hrun]
 exact h x' w' hp
theorem j6.skip (hrun : (execOp ac.eval o).run P w = .ok .skip w') (hp : post undef w') : j6 P o ac w post := fun next Q h => by
 unfold Oper.wp
 rw [hrun]
 exact h undef w' hp
theorem j6.enter {f : FuncId} {args : Array Value} (hrun : (execOp ac.eval o).run P w = .ok (.enter f args) w) (hp : Calls P f args w fun e w' => ∃ x', e = .returned x' ∧ post x' w') : j6 P o ac w post := fun next Q h => by
 unfold Oper.wp
 rw [hrun]
 show Calls P f args w _
 exact hp.mono fun e w' ⟨x', he, hx⟩ => by subst he; exact h x' w' hx
theorem L9.stay (hH : s5 W ρ H F w) {x : b7} {x' : Value} (hx : z8 ρ H F w x x') : L9 W ρ H F w x H x' w := ⟨ρ, F, .refl, hH, hx⟩
end
theorem ld8 {α : Type} {P : Program} {e : Sem α} {a : α} (h : gb1 P e = some a) (w : World) : e.run P w = .ok a w := by
 induction e with
 | pure b => simp [gb1] at h; subst h; rfl
 | program k ih => exact ih P (by simpa [gb1] using h)
 | mark m k ih => simp only [Sem.run]; exact ih (by simpa [gb1] using h)
 | _ => simp [gb1] at h
theorem ld9 {x : b7} {x' y : Value} (h : U2 ρ H F w x x') (hy : Nc9 x = some y) : x' = y := by
 cases h with
 | v => injection hy
 | mem h => cases h with
  | v => injection hy
  | fn f => injection hy
  | tree => cases hy
  | nil => cases hy
 | _ => cases hy
theorem Fd9 {x : b7} {x' y : Value} (h : z8 ρ H F w x x') (hy : Xc9 x = some y) : x' = y := by
 cases h with
 | tup => cases hy
 | val h => cases h with
  | fn f caps vs hl h =>
   cases caps with
   | nil =>
    have : vs = #[] := by simpa using hl.symm
    subst this; injection hy
   | cons => cases hy
  | agg cs vs hl h =>
   cases hm : Ma9 Nc9 cs with
   | none => simp [Xc9, hm] at hy
   | some l =>
    simp [Xc9, hm] at hy
    subst hy
    obtain ⟨h1, h2⟩ := Ic3 hm
    congr 1
    apply Array.ext
    ·simp [← hl, h1]
    ·intro i hi1 hi2
     have hi : i < cs.length := hl ▸ hi1
     obtain ⟨y, hy1, hy2⟩ := h2 i cs[i] (List.getElem?_eq_getElem hi)
     have := ld9 (h i _ _ (List.getElem?_eq_getElem hi) (Array.getElem?_eq_getElem hi1)) hy1
     have hi3 : i < l.length := by omega
     rw [List.getElem?_eq_getElem hi3] at hy2
     injection hy2 with hy2
     simp [this, hy2]
  | cell h => cases h with
   | v => injection hy
   | mem h => cases h with
    | v => injection hy
    | fn f => injection hy
    | tree => cases hy
    | nil => cases hy
   | _ => cases hy
end
end Go.Ev
