/- What the heap's changes do to the relation (own work). -/
import Derived.Test.YtblhkhjdkjjheaaEvRel
import Derived.Laws.OwnMore
import Derived.Maps.AppendAt
set_option linter.unusedVariables false
set_option linter.unusedSimpArgs false
set_option linter.unnecessarySimpa false
set_option linter.unusedSectionVars false
namespace Go.Ev
open Go
section
variable {W : Nat → Prop} {ρ : Rho} {H : List ABlk} {F : Fz} {w w' : World}

theorem cell_lt {b o : Nat} (h : (w.cell? ⟨b, o, none⟩).isSome) : b < w.heap.size := by
  obtain ⟨u, hu⟩ := Option.isSome_iff_exists.1 h
  exact World.block_lt_of_cell? _ _ hu

theorem BRel.cellAt {base : Base} {b : ABlk} {cc : Array Value} {t : TypeId} {fr : Nat × Nat} (h : BRel W F w base b cc t fr) (o : Nat) : w.cell? ⟨base.blk, o, none⟩ = cc[o]? := by
  simp [World.cell?, h.obj]
theorem BRel.lt {base : Base} {b : ABlk} {cc : Array Value} {t : TypeId} {fr : Nat × Nat} (h : BRel W F w base b cc t fr) : base.blk < w.heap.size := by
  rcases Nat.lt_or_ge base.blk w.heap.size with hh | hh
  · exact hh
  · have := h.obj; rw [Array.getElem?_eq_none hh] at this; cases this

/-- a world with the same heap, os, tape and output -/
theorem Ext.same (hh : w'.heap = w.heap) (h1 : w'.os = w.os) (h2 : w'.tape = w.tape) (h3 : w'.output = w.output) : Ext W F w w' :=
  ⟨h1, h2, h3, by rw [hh]; exact Nat.le_refl _, fun _ _ _ => by rw [hh], fun _ _ _ => by simp [World.cell?, hh]⟩
theorem HRel.same (h : HRel W ρ H F w) (hh : w'.heap = w.heap) : HRel W ρ H F w' := by
  have hc : ∀ a, w'.cell? a = w.cell? a := fun a => by simp [World.cell?, hh]
  refine ⟨fun id b hb hd => ?_, h.apart, fun b o hf => by rw [hc]; exact h.frz b o hf, fun k hk => h.new k (by rw [← hh]; exact hk)⟩
  obtain ⟨cc, t, fr, hB⟩ := h.blk id b hb hd
  refine ⟨cc, t, fr, by rw [hh]; exact hB.obj, hB.room, hB.len, hB.rows, fun i r c x hr hx => ?_, hB.own, hB.kept⟩
  obtain ⟨x', h1, h2⟩ := hB.cell i r c x hr hx
  exact ⟨x', h1, h2.adv (fun _ _ h => h) (fun _ _ _ => hc _)⟩
theorem Adv.same (hh : w'.heap = w.heap) (h1 : w'.os = w.os) (h2 : w'.tape = w.tape) (h3 : w'.output = w.output) : Adv W ρ H F w ρ H F w' :=
  ⟨.same hh h1 h2 h3, .refl, fun _ _ h => h, fun _ _ h => .inl h, fun _ b h hn => absurd rfl (hn b h)⟩

theorem BRel.keep {base : Base} {b : ABlk} {cc : Array Value} {t : TypeId} {fr : Nat × Nat} (h : BRel W F w base b cc t fr) (hblk : w'.heap[base.blk]? = w.heap[base.blk]?)
    (hw : ∀ b o, F b o → w'.cell? ⟨b, o, none⟩ = w.cell? ⟨b, o, none⟩) : BRel W F w' base b cc t fr :=
  ⟨hblk.trans h.obj, h.room, h.len, h.rows, fun i r c x hr hx => by
    obtain ⟨x', h1, h2⟩ := h.cell i r c x hr hx
    exact ⟨x', h1, h2.adv (fun _ _ h => h) hw⟩, h.own, h.kept⟩

def ρnew (ρ : Rho) (H : List ABlk) (base : Base) : Rho := fun id => if id = H.length then base else ρ id

/-- a new block -/
theorem HRel.newAt (h : HRel W ρ H F w) (hos : w'.os = w.os) (htape : w'.tape = w.tape) (hout : w'.output = w.output) (hsize : w.heap.size ≤ w'.heap.size)
    (hold : ∀ k, k < w.heap.size → w'.heap[k]? = w.heap[k]?) (gb : Nat) (hgb : w.heap.size ≤ gb)
    (et es : Nat) (elems : List (List AVal)) (cc : Array Value) (t : TypeId) (hobj : w'.heap[gb]? = some (.cells cc t (0, 0)))
    (hrows : ∀ (i : Nat) r, elems[i]? = some r → r.length = es) (hlen : elems.length * es ≤ cc.size)
    (hcell : ∀ (i : Nat) r (c : Nat) x, elems[i]? = some r → r[c]? = some x → ∃ x', cc[i * es + c]? = some x' ∧ MRel F w x x') (ht : et ≠ 0 → t = et) :
    Adv W ρ H F w (ρnew ρ H ⟨gb, 0, cc.size⟩) (H ++ [{ et, es, elems, own := true, dead := false, g := 0 }]) F w' ∧
    HRel W (ρnew ρ H ⟨gb, 0, cc.size⟩) (H ++ [{ et, es, elems, own := true, dead := false, g := 0 }]) F w' := by
  have hcells : ∀ b o, F b o → w'.cell? ⟨b, o, none⟩ = w.cell? ⟨b, o, none⟩ := fun b o hf => by
    have := hold b (cell_lt (h.frz b o hf))
    simp [World.cell?, this]
  have hρ : ∀ id, id < H.length → ρnew ρ H ⟨gb, 0, cc.size⟩ id = ρ id := fun id hid => by
    simp [ρnew, Nat.ne_of_lt hid]
  have hρn : ρnew ρ H ⟨gb, 0, cc.size⟩ H.length = ⟨gb, 0, cc.size⟩ := by simp [ρnew]
  have hlook : ∀ (id : Nat) b, (H ++ [{ et, es, elems, own := true, dead := false, g := 0 }])[id]? = some b → (id < H.length ∧ H[id]? = some b) ∨ (id = H.length ∧ b = { et, es, elems, own := true, dead := false, g := 0 }) := fun id b hb => by
    rcases Nat.lt_or_ge id H.length with hh | hh
    · rw [List.getElem?_append_left hh] at hb; exact .inl ⟨hh, hb⟩
    · rw [List.getElem?_append_right hh] at hb
      have h0 : id - H.length = 0 := by
        rcases Nat.eq_zero_or_pos (id - H.length) with h0 | h0
        · exact h0
        · rw [List.getElem?_eq_none (by simp; omega)] at hb; cases hb
      rw [h0] at hb
      exact .inr ⟨by omega, by simpa using hb.symm⟩
  constructor
  · refine ⟨⟨hos, htape, hout, hsize, fun k hk _ => hold k hk, hcells⟩, fun id b hb => ?_, fun _ _ h => h, fun _ _ h => .inl h, fun id b' hb' hn => ?_⟩
    · have hid : id < H.length := (List.getElem?_eq_some_iff.1 hb).1
      exact ⟨b, by rw [List.getElem?_append_left hid]; exact hb, rfl, Nat.le_refl _, fun _ => ⟨hρ id hid, rfl, Nat.le_refl _⟩⟩
    · rcases hlook id b' hb' with ⟨_, h0⟩ | ⟨rfl, _⟩
      · exact absurd rfl (hn b' h0)
      · rw [hρn]; exact h.new _ hgb
  · refine ⟨fun id b hb hd => ?_, fun id id' b b' hb hb' hd hd' ho hne => ?_, fun b o hf => by rw [hcells b o hf]; exact h.frz b o hf, fun k hk => h.new k (by omega)⟩
    · rcases hlook id b hb with ⟨hid, hb0⟩ | ⟨rfl, rfl⟩
      · obtain ⟨cc', t', fr, hB⟩ := h.blk id b hb0 hd
        rw [hρ id hid]
        exact ⟨cc', t', fr, hB.keep (hold _ hB.lt) hcells⟩
      · rw [hρn]
        refine ⟨cc, t, (0, 0), hobj, by simp, hlen, hrows, fun i r c x hr hx => ?_, fun _ => ⟨rfl, h.new _ hgb, rfl, rfl, fun o hf => ?_, ht⟩, fun hc => by cases hc⟩
        · obtain ⟨x', h1, h2⟩ := hcell i r c x hr hx
          exact ⟨x', by simpa using h1, h2.adv (fun _ _ h => h) hcells⟩
        · have := cell_lt (h.frz _ _ hf)
          simp at this
          omega
    · rcases hlook id b hb with ⟨hid, hb0⟩ | ⟨rfl, rfl⟩ <;> rcases hlook id' b' hb' with ⟨hid', hb0'⟩ | ⟨rfl, rfl⟩
      · rw [hρ id hid, hρ id' hid']; exact h.apart id id' b b' hb0 hb0' hd hd' ho hne
      · rw [hρ id hid, hρn]
        obtain ⟨cc', t', fr, hB⟩ := h.blk id b hb0 hd
        exact Nat.ne_of_lt (Nat.lt_of_lt_of_le hB.lt hgb)
      · rw [hρ id' hid', hρn]
        obtain ⟨cc', t', fr, hB⟩ := h.blk id' b' hb0' hd'
        exact (Nat.ne_of_lt (Nat.lt_of_lt_of_le hB.lt hgb)).symm
      · exact absurd rfl hne

theorem HRel.alloc (h : HRel W ρ H F w) (et es : Nat) (elems : List (List AVal)) (cc : Array Value) (t : TypeId)
    (hrows : ∀ (i : Nat) r, elems[i]? = some r → r.length = es) (hlen : elems.length * es ≤ cc.size)
    (hcell : ∀ (i : Nat) r (c : Nat) x, elems[i]? = some r → r[c]? = some x → ∃ x', cc[i * es + c]? = some x' ∧ MRel F w x x') (ht : et ≠ 0 → t = et) :
    Adv W ρ H F w (ρnew ρ H ⟨w.heap.size, 0, cc.size⟩) (H ++ [{ et, es, elems, own := true, dead := false, g := 0 }]) F (w.alloc (.cells cc t)) ∧
    HRel W (ρnew ρ H ⟨w.heap.size, 0, cc.size⟩) (H ++ [{ et, es, elems, own := true, dead := false, g := 0 }]) F (w.alloc (.cells cc t)) :=
  h.newAt (w' := w.alloc (.cells cc t)) rfl rfl rfl (by simp) (fun k hk => by simp only [World.alloc, Array.getElem?_push]; rw [if_neg (Nat.ne_of_lt hk)]) w.heap.size (Nat.le_refl _) et es elems cc t
    (by simp only [World.alloc, Array.getElem?_push]; simp) hrows hlen hcell ht

def ρset (ρ : Rho) (id : Nat) (base : Base) : Rho := fun k => if k = id then base else ρ k
/-- a block that has grown, where it was or elsewhere -/
theorem HRel.moveAt (h : HRel W ρ H F w) (id : Nat) (b b' : ABlk) (hb : H[id]? = some b) (hd : b.dead = false) (ho : b.own = true)
    (hos : w'.os = w.os) (htape : w'.tape = w.tape) (hout : w'.output = w.output) (hsize : w.heap.size ≤ w'.heap.size)
    (hold : ∀ k, k < w.heap.size → k ≠ (ρ id).blk → w'.heap[k]? = w.heap[k]?) (gb : Nat) (hgb : gb = (ρ id).blk ∨ w.heap.size ≤ gb)
    (cc : Array Value) (t : TypeId) (hobj : w'.heap[gb]? = some (.cells cc t (0, 0)))
    (e3 : b'.own = true) (e4 : b'.dead = false) (e5 : b.g < b'.g) (het : b'.et ≠ 0 → t = b'.et)
    (hrows : ∀ (i : Nat) r, b'.elems[i]? = some r → r.length = b'.es) (hlen : b'.elems.length * b'.es ≤ cc.size)
    (hcell : ∀ (i : Nat) r (c : Nat) x, b'.elems[i]? = some r → r[c]? = some x → ∃ x', cc[i * b'.es + c]? = some x' ∧ MRel F w x x') :
    Adv W ρ H F w (ρset ρ id ⟨gb, 0, cc.size⟩) (H.set id b') F w' ∧ HRel W (ρset ρ id ⟨gb, 0, cc.size⟩) (H.set id b') F w' := by
  have hid : id < H.length := (List.getElem?_eq_some_iff.1 hb).1
  obtain ⟨cc0, t0, fr0, hB0⟩ := h.blk id b hb hd
  obtain ⟨_, hW, hoff, hsz, hnF, _⟩ := hB0.own ho
  have hcells : ∀ k o, F k o → w'.cell? ⟨k, o, none⟩ = w.cell? ⟨k, o, none⟩ := fun k o hf => by
    have := hold k (cell_lt (h.frz k o hf)) (fun e => hnF o (e ▸ hf))
    simp [World.cell?, this]
  have hρ : ∀ k, k ≠ id → ρset ρ id ⟨gb, 0, cc.size⟩ k = ρ k := fun k hk => by simp [ρset, hk]
  have hρn : ρset ρ id ⟨gb, 0, cc.size⟩ id = ⟨gb, 0, cc.size⟩ := by simp [ρset]
  have hlook : ∀ (k : Nat) c, (H.set id b')[k]? = some c → (k ≠ id ∧ H[k]? = some c) ∨ (k = id ∧ c = b') := fun k c hk => by
    by_cases e : id = k
    · subst e; simp [hid] at hk; exact .inr ⟨rfl, hk.symm⟩
    · rw [List.getElem?_set_ne e] at hk; exact .inl ⟨fun h => e h.symm, hk⟩
  have hWg : W gb := hgb.elim (fun e => e ▸ hW) (h.new gb)
  have hnFg : ∀ o, ¬ F gb o := fun o hf => hgb.elim (fun e => hnF o (e ▸ hf)) (fun hle => by have := cell_lt (h.frz gb o hf); omega)
  refine ⟨⟨⟨hos, htape, hout, hsize, fun k hk hw => hold k hk (fun e => hw (e ▸ hW)), hcells⟩, fun k c hk => ?_, fun _ _ h => h, fun _ _ h => .inl h, fun k c hk hn => ?_⟩, ?_⟩
  · by_cases e : id = k
    · subst e
      have : c = b := Option.some.inj (hk.symm.trans hb)
      subst this
      exact ⟨b', by simp [hid], by rw [e4, hd], Nat.le_of_lt e5, fun hg => absurd hg (by omega)⟩
    · exact ⟨c, by rw [List.getElem?_set_ne e]; exact hk, rfl, Nat.le_refl _, fun _ => ⟨hρ k (fun h => e h.symm), rfl, Nat.le_refl _⟩⟩
  · rcases hlook k c hk with ⟨_, h0⟩ | ⟨rfl, rfl⟩
    · exact absurd rfl (hn c h0)
    · rw [hρn]; exact hWg
  · have hother : ∀ k c, k ≠ id → H[k]? = some c → c.dead = false → (ρ k).blk ≠ gb := fun k c hne hk hdc => by
      obtain ⟨cc1, t1, fr1, hB1⟩ := h.blk k c hk hdc
      rcases hgb with e | hle
      · rw [e]; exact (h.apart id k b c hb hk hd hdc ho (Ne.symm hne)).symm
      · exact Nat.ne_of_lt (Nat.lt_of_lt_of_le hB1.lt hle)
    refine ⟨fun k c hk hdc => ?_, fun k k' c c' hk hk' hd1 hd2 hoc hne => ?_, fun k o hf => by rw [hcells k o hf]; exact h.frz k o hf, fun k hk => h.new k (by omega)⟩
    · rcases hlook k c hk with ⟨hne, hk0⟩ | ⟨rfl, rfl⟩
      · obtain ⟨cc1, t1, fr1, hB1⟩ := h.blk k c hk0 hdc
        rw [hρ k hne]
        exact ⟨cc1, t1, fr1, hB1.keep (hold _ hB1.lt (h.apart id k b c hb hk0 hd hdc ho (Ne.symm hne)).symm) hcells⟩
      · rw [hρn]
        refine ⟨cc, t, (0, 0), hobj, by simp, hlen, hrows, fun i r x u hr hx => ?_, fun _ => ⟨rfl, hWg, rfl, rfl, hnFg, het⟩, fun hn => by rw [e3] at hn; cases hn⟩
        obtain ⟨x', h1, h2⟩ := hcell i r x u hr hx
        exact ⟨x', by simpa using h1, h2.adv (fun _ _ h => h) hcells⟩
    · rcases hlook k c hk with ⟨hne1, hk0⟩ | ⟨rfl, rfl⟩ <;> rcases hlook k' c' hk' with ⟨hne2, hk0'⟩ | ⟨rfl, rfl⟩
      · rw [hρ k hne1, hρ k' hne2]; exact h.apart k k' c c' hk0 hk0' hd1 hd2 hoc hne
      · rw [hρ k hne1, hρn]; exact hother k c hne1 hk0 hd1
      · rw [hρ k' hne2, hρn]; exact (hother k' c' hne2 hk0' hd2).symm
      · exact absurd rfl hne

/-- a block that stays as it is from now on -/
theorem HRel.disown (h : HRel W ρ H F w) (id : Nat) (b : ABlk) (hb : H[id]? = some b) (hd : b.dead = false) :
    ∃ F', Adv W ρ H F w ρ (H.set id { b with own := false }) F' w ∧ HRel W ρ (H.set id { b with own := false }) F' w ∧
      (∀ o, o < b.elems.length * b.es → F' (ρ id).blk ((ρ id).off + o)) := by
  obtain ⟨cc, t, fr, hB⟩ := h.blk id b hb hd
  have hid : id < H.length := (List.getElem?_eq_some_iff.1 hb).1
  have hlook : ∀ (k : Nat) b', (H.set id { b with own := false })[k]? = some b' → (k ≠ id ∧ H[k]? = some b') ∨ (k = id ∧ b' = { b with own := false }) := fun k b' hk => by
    by_cases e : id = k
    · subst e; simp [hid] at hk; exact .inr ⟨rfl, hk.symm⟩
    · rw [List.getElem?_set_ne e] at hk; exact .inl ⟨fun h => e h.symm, hk⟩
  refine ⟨fun k o => F k o ∨ (b.own = true ∧ k = (ρ id).blk ∧ (ρ id).off ≤ o ∧ o < (ρ id).off + b.elems.length * b.es), ?_, ?_, ?_⟩
  · refine ⟨.refl, fun k b' hk => ?_, fun _ _ h => .inl h, fun k o hk => ?_, fun k b' hk hn => ?_⟩
    · by_cases e : id = k
      · subst e
        have : b' = b := Option.some.inj (hk.symm.trans hb)
        subst this
        exact ⟨{ b' with own := false }, by simp [hid], rfl, Nat.le_refl _, fun _ => ⟨rfl, rfl, Nat.le_refl _⟩⟩
      · exact ⟨b', by rw [List.getElem?_set_ne e]; exact hk, rfl, Nat.le_refl _, fun _ => ⟨rfl, rfl, Nat.le_refl _⟩⟩
    · rcases hk with hk | ⟨ho, rfl, _⟩
      · exact .inl hk
      · exact .inr (hB.own ho).2.1
    · rcases hlook k b' hk with ⟨_, h0⟩ | ⟨rfl, rfl⟩
      · exact absurd rfl (hn b' h0)
      · exact absurd rfl (hn b hb)
  · have hm : ∀ {x x'}, MRel F w x x' → MRel (fun k o => F k o ∨ (b.own = true ∧ k = (ρ id).blk ∧ (ρ id).off ≤ o ∧ o < (ρ id).off + b.elems.length * b.es)) w x x' := fun hx => hx.adv (fun _ _ h => .inl h) (fun _ _ _ => rfl)
    refine ⟨fun k b' hk hd' => ?_, fun k k' c c' hk hk' hd1 hd2 ho hne => ?_, fun k o hk => ?_, h.new⟩
    · rcases hlook k b' hk with ⟨hne, hk0⟩ | ⟨rfl, rfl⟩
      · obtain ⟨cc', t', fr', hB'⟩ := h.blk k b' hk0 hd'
        refine ⟨cc', t', fr', hB'.obj, hB'.room, hB'.len, hB'.rows, fun i r c x hr hx => ?_, fun ho => ?_, fun ho o hlt => .inl (hB'.kept ho o hlt)⟩
        · obtain ⟨x', h1, h2⟩ := hB'.cell i r c x hr hx
          exact ⟨x', h1, hm h2⟩
        · obtain ⟨h1, h2, h3, h4, h5, h6⟩ := hB'.own ho
          refine ⟨h1, h2, h3, h4, fun o hf => ?_, h6⟩
          rcases hf with hf | ⟨_, he, _⟩
          · exact h5 o hf
          · exact h.apart k id b' b hk0 hb hd' hd ho hne he
      · refine ⟨cc, t, fr, hB.obj, hB.room, hB.len, hB.rows, fun i r c x hr hx => ?_, (fun ho => by cases ho), fun _ o hlt => ?_⟩
        · obtain ⟨x', h1, h2⟩ := hB.cell i r c x hr hx
          exact ⟨x', h1, hm h2⟩
        · cases ho : b.own with
          | false => exact .inl (hB.kept ho o hlt)
          | true => exact .inr ⟨rfl, rfl, by omega, by simpa using hlt⟩
    · rcases hlook k c hk with ⟨hne1, hk0⟩ | ⟨rfl, rfl⟩
      · rcases hlook k' c' hk' with ⟨hne2, hk0'⟩ | ⟨rfl, rfl⟩
        · exact h.apart k k' c c' hk0 hk0' hd1 hd2 ho hne
        · exact h.apart k k' c b hk0 hb hd1 hd ho hne
      · cases ho
    · rcases hk with hk | ⟨ho, rfl, h1, h2⟩
      · exact h.frz k o hk
      · rw [hB.cellAt]
        have : o < cc.size := by have := hB.room; have := hB.len; omega
        simp [this]
  · intro o hlt
    cases ho : b.own with
    | false => exact .inl (hB.kept ho o hlt)
    | true => exact .inr ⟨rfl, rfl, by omega, by omega⟩

/-- a block's content and count turned, in place -/
theorem HRel.rewrite (h : HRel W ρ H F w) (id : Nat) (b b' : ABlk) (hb : H[id]? = some b) (hd : b.dead = false) (ho : b.own = true)
    (cc : Array Value) (t : TypeId) (hB : BRel W F w (ρ id) b cc t (0, 0)) (cc' : Array Value) (hsz : cc'.size = cc.size)
    (e1 : b'.es = b.es) (e2 : b'.et = b.et) (e3 : b'.own = true) (e4 : b'.dead = false) (e5 : b.g ≤ b'.g) (e6 : b'.g = b.g → b.elems.length ≤ b'.elems.length)
    (hlen : b'.elems.length * b.es ≤ (ρ id).size) (hrows : ∀ (i : Nat) r, b'.elems[i]? = some r → r.length = b.es)
    (hcell : ∀ (i : Nat) r (c : Nat) x, b'.elems[i]? = some r → r[c]? = some x → ∃ x', cc'[i * b.es + c]? = some x' ∧ MRel F w x x') :
    Adv W ρ H F w ρ (H.set id b') F (w.setRow (ρ id).blk cc') ∧ HRel W ρ (H.set id b') F (w.setRow (ρ id).blk cc') := by
  have hid : id < H.length := (List.getElem?_eq_some_iff.1 hb).1
  obtain ⟨_, hW, hoff, hsize, hnF, het⟩ := hB.own ho
  have hother : ∀ k, k ≠ (ρ id).blk → (w.setRow (ρ id).blk cc').heap[k]? = w.heap[k]? := fun k hk => setRow_other w _ k _ hk
  have hcells : ∀ k o, F k o → (w.setRow (ρ id).blk cc').cell? ⟨k, o, none⟩ = w.cell? ⟨k, o, none⟩ := fun k o hf => by
    have : k ≠ (ρ id).blk := fun e => hnF o (e ▸ hf)
    simp [World.cell?, hother k this]
  have hlook : ∀ (k : Nat) c, (H.set id b')[k]? = some c → (k ≠ id ∧ H[k]? = some c) ∨ (k = id ∧ c = b') := fun k c hk => by
    by_cases e : id = k
    · subst e; simp [hid] at hk; exact .inr ⟨rfl, hk.symm⟩
    · rw [List.getElem?_set_ne e] at hk; exact .inl ⟨fun h => e h.symm, hk⟩
  refine ⟨⟨⟨rfl, rfl, rfl, by simp, fun k _ hk => hother k (fun e => hk (e ▸ hW)), hcells⟩, fun k c hk => ?_, fun _ _ h => h, fun _ _ h => .inl h, fun k c hk hn => ?_⟩, ?_⟩
  · by_cases e : id = k
    · subst e
      have : c = b := Option.some.inj (hk.symm.trans hb)
      subst this
      exact ⟨b', by simp [hid], by rw [e4, hd], e5, fun hg => ⟨rfl, e1, e6 hg⟩⟩
    · exact ⟨c, by rw [List.getElem?_set_ne e]; exact hk, rfl, Nat.le_refl _, fun _ => ⟨rfl, rfl, Nat.le_refl _⟩⟩
  · rcases hlook k c hk with ⟨_, h0⟩ | ⟨rfl, rfl⟩
    · exact absurd rfl (hn c h0)
    · exact hW
  · refine ⟨fun k c hk hdc => ?_, fun k k' c c' hk hk' hd1 hd2 hoc hne => ?_, fun k o hf => by rw [hcells k o hf]; exact h.frz k o hf, fun k hk => h.new k (by simpa using hk)⟩
    · rcases hlook k c hk with ⟨hne, hk0⟩ | ⟨rfl, rfl⟩
      · obtain ⟨cc1, t1, fr1, hB1⟩ := h.blk k c hk0 hdc
        exact ⟨cc1, t1, fr1, hB1.keep (hother _ (h.apart id k b c hb hk0 hd hdc ho (Ne.symm hne)).symm) hcells⟩
      · refine ⟨cc', t, (0, 0), setRow_heap w _ cc _ t _ hB.obj, by rw [hsz]; exact hB.room, by rw [e1]; exact hlen, by rw [e1]; exact hrows, fun i r x u hr hx => ?_, fun _ => ⟨rfl, hW, hoff, by rw [hsz]; exact hsize, hnF, by rw [e2]; exact het⟩, fun hn => by rw [e3] at hn; cases hn⟩
        rw [e1, hoff, Nat.zero_add]
        obtain ⟨x', h1, h2⟩ := hcell i r x u hr hx
        exact ⟨x', h1, h2.adv (fun _ _ h => h) hcells⟩
    · rcases hlook k c hk with ⟨hne1, hk0⟩ | ⟨rfl, rfl⟩ <;> rcases hlook k' c' hk' with ⟨hne2, hk0'⟩ | ⟨rfl, rfl⟩
      · exact h.apart k k' c c' hk0 hk0' hd1 hd2 hoc hne
      · exact h.apart k k' c b hk0 hb hd1 hd hoc hne
      · exact h.apart k k' b c' hb hk0' hd hd2 ho hne
      · exact absurd rfl hne

theorem HRel.pull {ρ' : Rho} {H' : List ABlk} (h : HRel W ρ H F w) (π : Nat → Nat) (hπ : ∀ (i : Nat) b, H'[i]? = some b → b.dead = false → H[π i]? = some b ∧ ρ' i = ρ (π i)) (inj : ∀ (i i' : Nat) b b', H'[i]? = some b → b.dead = false → H'[i']? = some b' → b'.dead = false → π i = π i' → i = i') : HRel W ρ' H' F w := by
  refine ⟨fun id b hb hd => ?_, fun id id' b b' hb hb' hd hd' ho hne => ?_, h.frz, h.new⟩
  · obtain ⟨h1, h2⟩ := hπ id b hb hd
    rw [h2]
    exact h.blk _ b h1 hd
  · obtain ⟨h1, h2⟩ := hπ id b hb hd
    obtain ⟨h3, h4⟩ := hπ id' b' hb' hd'
    rw [h2, h4]
    exact h.apart _ _ b b' h1 h3 hd hd' ho fun e => hne (inj id id' b b' hb hd hb' hd' e)
end
end Go.Ev

