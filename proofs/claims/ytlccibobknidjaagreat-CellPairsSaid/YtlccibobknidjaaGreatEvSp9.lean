/- Own work: a part of the proof. -/
import Derived.Test.YtlccibobknidjaaGreatEvSp4
import Derived.MapKept
import GoSem.Instr.MapUpdate
import Derived.Test.YtlccibobknidjaaGreatEvEq
set_option linter.unusedVariables false
set_option linter.unusedSimpArgs false
set_option linter.unnecessarySimpa false
set_option linter.unusedSectionVars false
namespace Go.Ev
open Go
section
variable {WB K : Nat → Prop} {J : List Value → World → Prop} {ρ ρ0 : Rho} {H H0 H' : List b8} {F F0 : Fz} {w w0 w' : World} {W' : Nat → Prop} {up : List Value} {E : Env} {a : List b7} {ac : Act} {x : b7} {o : Oper}
def ub3 (P : Program) (WB K : Nat → Prop) (J : List Value → World → Prop) (ρ0 : Rho) (H0 : List b8) (F0 : Fz) (w0 : World) (ρ : Rho) (H : List b8) (F : Fz) (w : World) (up : List Value) (ds : List Deferred) (x : b7) (H' : List b8) (x' : Value) (w' : World) : Prop :=
 ∃ ρ' F' W'', C2 P WB K J ρ0 H0 F0 w0 H' ds w' ρ' F' W'' up ∧ Tr ρ H F w ρ' H' F' w' ∧ XW ρ' H' F' w' x x'
def ltO (n : Nat) : Operand → Bool
 | .tmp t => Nat.blt t n
 | _ => true
theorem mb5 {n : Nat} (hv : VR ρ H F w a (ac.tmps.toList ++ up)) (hn : ac.tmps.size = n) (hG : GOk E F w) (y : Operand) (hy : ltO n y = true) : XW ρ H F w (c7 E a (g8 y)) (ac.eval y) := by
 cases y with
 | tmp t =>
  show XW ρ H F w (c7 E a (.t t)) (ac.tmps.getD t undef)
  have hlt : t < n := by have := hy; unfold ltO at this; rwa [Nat.blt_eq] at this
  rw [Va2]
  have hl := hv.1
  rw [List.length_append] at hl
  have hsz : ac.tmps.toList.length = ac.tmps.size := Array.length_toList
  have hlt' : t < ac.tmps.size := hn ▸ hlt
  have ha : t < a.length := by rw [hl, hsz]; exact Nat.lt_of_lt_of_le hlt' (Nat.le_add_right _ _)
  have h1 : a[t]? = some a[t] := List.getElem?_eq_getElem ha
  have h2 : (ac.tmps.toList ++ up)[t]? = some ac.tmps[t] := by
   rw [List.getElem?_append_left (by rw [hsz]; exact hlt')]
   simp [hlt']
  have := hv.2 t _ _ h1 h2
  simpa [h1, Array.getD, hlt'] using this
 | const v => exact .w (z8.ofVal v)
 | func f => exact .w (.val (.cell (.mem (.fn f))))
 | global g =>
  have : la1 (fun _ => ⟨0, 0, 0⟩) [] F w [] #[] := ⟨rfl, fun i x x' hx => by simp at hx⟩
  have h := l7 (ρ := ρ) (H := o6 H) (a := []) (ac := ⟨#[], []⟩) ⟨rfl, fun i x x' hx => by simp at hx⟩ hG (.global g)
  exact .w h
theorem Fb5 {t : Nat} {b : b8} (h : cd3 b) (h' : cd4 t b) : False := by
 have h1 : b.et = 0 := h.2
 have h2 : b.et = t + 1 := h'.2
 rw [h1] at h2
 cases h2
theorem ac5 {id c g : Nat} {b : b8} {v : Value} (hs : Pb3 0 H x = some (id, c, g, b)) (hx : XW ρ H F w x v) : x = .ptr id 0 c g ∧ H[id]? = some b ∧ b.dead = false ∧ cd3 b ∧ v = .pointer (some ⟨(ρ id).blk, c, none⟩) := by
 revert hs hx
 cases x with
 | ptr id' i' c' g' =>
  intro hs hx
  simp only [Pb3, y6] at hs
  cases hb : H[id']? with
  | none => simp [hb] at hs
  | some b' =>
  simp only [hb] at hs
  cases hd : b'.dead with
  | true => simp [hd] at hs
  | false =>
  simp only [hd] at hs
  cases he : (A1 b' && Nat.beq b'.et 0) with
  | false => simp [he] at hs
  | true =>
  simp only [he] at hs
  cases hg : Nat.beq b'.g g' with
  | false => simp [hg] at hs
  | true =>
  simp only [hg] at hs
  cases hi : Nat.beq i' 0 with
  | false => simp [hi] at hs
  | true =>
  simp only [hi] at hs
  injection hs with hs
  injection hs with e1 hs; injection hs with e2 hs; injection hs with e3 e4
  subst e1 e2 e3 e4
  rw [Bool.and_eq_true] at he
  have he := And.intro (Nat.eq_of_beq_eq_true he.1) (Nat.eq_of_beq_eq_true he.2)
  have hi := Nat.eq_of_beq_eq_true hi
  subst hi
  refine ⟨rfl, hb, hd, he, ?_⟩
  have hdead : ∀ q, (o6 H)[id']? = some q → q.dead = true := fun q hq => by
   rw [sc9 hb (Za5 he)] at hq
   injection hq with hq
   rw [← hq]
  have hno : ∀ {v}, U2 ρ (o6 H) F w (.ptr id' 0 c' g') v → False := fun {v} h => by
   cases h with
   | mem h => cases h
   | ptr _ _ _ _ ad q hq hd' => rw [hdead q hq] at hd'; cases hd'
  cases hx with
  | w h => cases h with
   | val h => cases h with
    | cell h => exact (hno h).elim
  | c h =>
   cases h with
   | n h => exact (hno h).elim
   | box => rfl
   | map _ _ _ b2 t hb2 _ he2 =>
    have : b2 = b' := Option.some.inj (hb2.symm.trans hb)
    subst this
    exact (Fb5 he he2).elim
 | _ => intro hs; cases hs
theorem Kc7 {t id c g : Nat} {b : b8} {v : Value} (hs : Pb3 (t + 1) H x = some (id, c, g, b)) (hx : XW ρ H F w x v) : x = .ptr id 0 c g ∧ H[id]? = some b ∧ b.dead = false ∧ cd4 t b ∧ v = .map (some (ρ id).blk) := by
 revert hs hx
 cases x with
 | ptr id' i' c' g' =>
  intro hs hx
  simp only [Pb3, y6] at hs
  cases hb : H[id']? with
  | none => simp [hb] at hs
  | some b' =>
  simp only [hb] at hs
  cases hd : b'.dead with
  | true => simp [hd] at hs
  | false =>
  simp only [hd] at hs
  cases he : (A1 b' && Nat.beq b'.et (t + 1)) with
  | false => simp [he] at hs
  | true =>
  simp only [he] at hs
  cases hg : Nat.beq b'.g g' with
  | false => simp [hg] at hs
  | true =>
  simp only [hg] at hs
  cases hi : Nat.beq i' 0 with
  | false => simp [hi] at hs
  | true =>
  simp only [hi] at hs
  injection hs with hs
  injection hs with e1 hs; injection hs with e2 hs; injection hs with e3 e4
  subst e1 e2 e3 e4
  rw [Bool.and_eq_true] at he
  have he := And.intro (Nat.eq_of_beq_eq_true he.1) (Nat.eq_of_beq_eq_true he.2)
  have hi := Nat.eq_of_beq_eq_true hi
  subst hi
  refine ⟨rfl, hb, hd, he, ?_⟩
  have hdead : ∀ q, (o6 H)[id']? = some q → q.dead = true := fun q hq => by
   rw [sc9 hb (Za6 he)] at hq
   injection hq with hq
   rw [← hq]
  have hno : ∀ {v}, U2 ρ (o6 H) F w (.ptr id' 0 c' g') v → False := fun {v} h => by
   cases h with
   | mem h => cases h
   | ptr _ _ _ _ ad q hq hd' => rw [hdead q hq] at hd'; cases hd'
  cases hx with
  | w h => cases h with
   | val h => cases h with
    | cell h => exact (hno h).elim
  | c h =>
   cases h with
   | n h => exact (hno h).elim
   | map => rfl
   | box _ _ _ b2 hb2 _ he2 =>
    have : b2 = b' := Option.some.inj (hb2.symm.trans hb)
    subst this
    exact (Fb5 he2 he).elim
 | _ => intro hs; cases hs
theorem cd5 (H : List b8) (et : Nat) (elems : List (List b7)) : Pb4 H et elems = H ++ [{ et, es := 0, elems, own := true, dead := false, g := 0 }] := by simp [Pb4, C0]
theorem cd6 {y : b7} {y' : Value} (hy : XW ρ H F w y y') (hp : Ja6 y = true) (hb : Pb0 yd9 (A0 y) = true) :
  (A0 y).length = y'.cells.toList.length ∧ ∀ (i : Nat) z z', (A0 y)[i]? = some z → y'.cells.toList[i]? = some z' → z'.oneCell' = true ∧ XC ρ H F w z z' := by
 have hone : ∀ {i : Nat} {z : b7} {z' : Value}, (A0 y)[i]? = some z → XC ρ H F w z z' → z'.oneCell' = true ∧ XC ρ H F w z z' := fun {i z z'} hz hx => ⟨hx.one (Pc1 hb z (List.mem_of_getElem? hz)), hx⟩
 cases hy with
 | w h =>
  obtain ⟨h1, h2⟩ := Eb5 h hp
  exact ⟨h1, fun i z z' hz hz' => hone hz (.n (h2 i z z' hz hz'))⟩
 | c h =>
  have h0 := h
  cases h with
  | n h =>
   obtain ⟨h1, h2⟩ := Eb5 (.val (.cell h)) hp
   exact ⟨h1, fun i z z' hz hz' => hone hz (.n (h2 i z z' hz hz'))⟩
  | box id c g b h1 h2 h3 =>
   refine ⟨rfl, fun i z z' hz hz' => ?_⟩
   cases i with
   | zero => simp [A0, Value.cells] at hz hz'; subst hz hz'; exact ⟨rfl, h0⟩
   | succ i => simp [A0] at hz
  | map id c g b t h1 h2 h3 =>
   refine ⟨rfl, fun i z z' hz hz' => ?_⟩
   cases i with
   | zero => simp [A0, Value.cells] at hz hz'; subst hz hz'; exact ⟨rfl, h0⟩
   | succ i => simp [A0] at hz
section
variable {ds : List Deferred} (hC : C2 E.P WB K J ρ0 H0 F0 w0 H ds w ρ F W' up) (hJ : ac0 K J)
include hC hJ
theorem Jd2 (row : List b7) (vs : Array Value) (t : TypeId) (hl : row.length = vs.size) (hc : ∀ (c : Nat) x x', row[c]? = some x → vs[c]? = some x' → x'.oneCell' = true ∧ XC ρ H F w x x') :
  ub3 E.P WB K J ρ0 H0 F0 w0 ρ H F w up ds (.ptr H.length 0 0 0) (Pb4 H 0 [row]) (.pointer (some ⟨w.heap.size, 0, none⟩)) (w.alloc (.cells vs t)) := by
 obtain ⟨c1, c2, c3, c4⟩ := hC.alloc hJ (.cells vs t)
 have hap : ∀ (id : Nat) b, H[id]? = some b → A1 b = true → b.dead = false → (ρ id).blk ≠ w.heap.size := fun id b hb hs hd => Nat.ne_of_lt (hC.srel.has id b hb hs hd).2.2.2.1
 rw [cd5]
 have hnew : (w.alloc (.cells vs t)).heap[w.heap.size]? = some (.cells vs t (0, 0)) := by simp only [World.alloc, Array.getElem?_push]; simp
 have hfirst : ∀ {x x'}, XC ρ H F (w.alloc (.cells vs t)) x x' → XC (ρnew ρ H ⟨w.heap.size, 0, 0⟩) (H ++ [{ et := 0, es := 0, elems := [row], own := true, dead := false, g := 0 }]) F (w.alloc (.cells vs t)) x x' := fun {x x'} hx => by
  have hlt : ∀ {id : Nat} {b : b8}, H[id]? = some b → id < H.length := fun h => (List.getElem?_eq_some_iff.1 h).1
  have hρ : ∀ id, id < H.length → ρnew ρ H ⟨w.heap.size, 0, 0⟩ id = ρ id := fun id hid => by simp [ρnew, Nat.ne_of_lt hid]
  cases hx with
  | n hx =>
   refine .n (hx.carry (fun id b hb hd => ?_) (fun _ _ h => h) (fun _ _ _ => rfl))
   obtain ⟨k1, k2⟩ := fa8 hb hd
   exact ⟨b, ca6 (by rw [List.getElem?_append_left (hlt k1)]; exact k1) k2, hd, Nat.le_refl _, fun _ => ⟨hρ id (hlt k1), rfl, Nat.le_refl _⟩⟩
  | box id c g b hb hd he =>
   rw [← hρ id (hlt hb)]
   exact .box id c g b (by rw [List.getElem?_append_left (hlt hb)]; exact hb) hd he
  | map id c g b t hb hd he =>
   rw [← hρ id (hlt hb)]
   exact .map id c g b t (by rw [List.getElem?_append_left (hlt hb)]; exact hb) hd he
 obtain ⟨d1, d2⟩ := c1.adopt w.heap.size 0 c3 (fun h => h.2 rfl) (fun o hf => c4 o hf) (by simp) hap (fun hk => Nat.lt_irrefl _ (hC.kept _ hk).2) { et := 0, es := 0, elems := [row], own := true, dead := false, g := 0 } (Za5 ⟨rfl, rfl⟩) rfl
  (.inl ⟨⟨rfl, rfl⟩, row, vs, t, rfl, hnew, hl, fun c x x' hx hx' => by
   obtain ⟨k1, k2⟩ := hc c x x' hx hx'
   have k3 := c2 x x' (.c k2)
   refine ⟨k1, hfirst ?_⟩
   cases k3 with
   | c h => exact h
   | w h =>
    cases k2 with
    | n k2 =>
     cases h with
     | val h =>
      cases h with
      | cell h => exact .n h
      | agg => cases k1
      | fn f caps vs' hl' h' =>
       exact .n (k2.carry (fun id b hb hd => ⟨b, hb, hd, Nat.le_refl _, fun _ => ⟨rfl, rfl, Nat.le_refl _⟩⟩) (fun _ _ h => h) fun b o hf => qb2 (a := ⟨b, o, none⟩) (by
        have := ob8 (hC.hrel.frz b o hf)
        simp only [World.alloc, Array.getElem?_push]; rw [if_neg (Nat.ne_of_lt this)]))
     | tup => cases k1
    | box id c g b hb hd he => exact .box id c g b hb hd he
    | map id c g b t hb hd he => exact .map id c g b t hb hd he⟩)
 refine ⟨_, F, _, d1, fun x x' hx => d2 _ _ (c2 _ _ hx), .c ?_⟩
 have hρn : (ρnew ρ H ⟨w.heap.size, 0, 0⟩ H.length).blk = w.heap.size := by simp [ρnew]
 have := XC.box (ρ := ρnew ρ H ⟨w.heap.size, 0, 0⟩) (F := F) (w := w.alloc (.cells vs t)) H.length 0 0 { et := 0, es := 0, elems := [row], own := true, dead := false, g := 0 } (H := H ++ [{ et := 0, es := 0, elems := [row], own := true, dead := false, g := 0 }]) (by simp) rfl ⟨rfl, rfl⟩
 rwa [hρn] at this
theorem Cd5 {t : TypeId} {z : List b7} (ho : o.op = .alloc t) (hz : zeT E.P t = some z) (he : (vb2 E a H (.balloc z)).run = some (x, H')) :
  j6 E.P o ac w (ub3 E.P WB K J ρ0 H0 F0 w0 ρ H F w up ds x H') := by
 have he' : some (b7.ptr (len H) 0 0 0, Pb4 H 0 [z]) = some (x, H') := he
 injection he' with he'; injection he' with e1 e2; subst e1 e2
 rw [l6]
 obtain ⟨ti, zv, hi, hzz, rfl, hone⟩ := Ja9 hz
 refine .value (x' := .pointer (some ⟨w.heap.size, 0, none⟩)) (w' := w.alloc (.cells zv.cells t)) (by simp [execOp, ho, Instr.alloc, zeroValue, typeInfo, hi, hzz, newVar, newRow]) ?_
 refine Jd2 hC hJ _ zv.cells t (by simp) fun c y y' hy hy' => ?_
 rw [List.getElem?_map] at hy
 have hy'' : zv.cells.toList[c]? = some y' := by simpa using hy'
 rw [hy''] at hy
 simp at hy
 subst hy
 exact ⟨hone y' (List.mem_of_getElem? hy''), .n (.v _)⟩
theorem Td7 {n : Nat} {t : TypeId} {y : Operand} (hv : VR ρ H F w a (ac.tmps.toList ++ up)) (hn : ac.tmps.size = n) (hG : GOk E F w) (ho : o.op = .box t y) (hy : ltO n y = true) (he : (vb2 E a H (.bbox (g8 y))).run = some (x, H')) :
  j6 E.P o ac w (ub3 E.P WB K J ρ0 H0 F0 w0 ρ H F w up ds x H') := by
 have hyr := mb5 hv hn hG y hy
 simp only [vb2] at he
 cases hc : (Ja6 (c7 E a (g8 y)) && Pb0 yd9 (A0 (c7 E a (g8 y)))) with
 | false => rw [hc] at he; cases he
 | true =>
 rw [hc] at he
 have he' : some (b7.ptr (len H) 0 0 0, Pb4 H 0 [A0 (c7 E a (g8 y))]) = some (x, H') := he
 injection he' with he'; injection he' with e1 e2; subst e1 e2
 rw [Bool.and_eq_true] at hc
 rw [l6]
 obtain ⟨h1, h2⟩ := cd6 hyr hc.1 hc.2
 refine .value (x' := .pointer (some ⟨w.heap.size, 0, none⟩)) (w' := w.alloc (.cells (ac.eval y).cells t)) (by simp [execOp, ho, Instr.box, newVar, newRow]) ?_
 exact Jd2 hC hJ _ (ac.eval y).cells t (by simpa using h1) fun c y y' hy hy' => h2 c y y' hy (by simpa using hy')
end
end
end Go.Ev
namespace Go.Ev
open Go
section
variable {WB K : Nat → Prop} {J : List Value → World → Prop} {ρ ρ0 : Rho} {H H0 H' : List b8} {F F0 : Fz} {w w0 w' : World} {W' : Nat → Prop} {up : List Value} {E : Env} {a : List b7} {ac : Act} {x : b7} {o : Oper}
variable {ds : List Deferred} {n : Nat} (hC : C2 E.P WB K J ρ0 H0 F0 w0 H ds w ρ F W' up) (hJ : ac0 K J) (hv : VR ρ H F w a (ac.tmps.toList ++ up)) (hn : ac.tmps.size = n) (hG : GOk E F w)
theorem Td8 {x : b7} {x' : Value} (h : XC ρ H F w x x') : U2 ρ (o6 H) F w (da3 H x) x' := by
 cases h with
 | n h =>
  unfold da3
  split
  ·split
   ·rename_i b hb
    cases A1 b with
    | true => exact .unk _
    | false => exact h
   ·exact .unk _
  ·exact h
 | box id c g b hb hd he =>
  unfold da3
  simp only [y6, hb, Za5 he]
  exact .unk _
 | map id c g b t hb hd he =>
  unfold da3
  simp only [y6, hb, Za6 he]
  exact .unk _
include hC hJ hv hn hG
omit hJ in
theorem Jd3 {t : TypeId} {p : Nat} (ho : o.op = .load t (.tmp p)) (hp : Nat.blt p n = true) (hu : E.P.underlying t ≠ none) (he : (vb2 E a H (.bload (szT E.P t) (agT E.P t) p)).run = some (x, H')) :
  j6 E.P o ac w (ub3 E.P WB K J ρ0 H0 F0 w0 ρ H F w up ds x H') := by
 have hyr := mb5 hv hn hG (.tmp p) hp
 simp only [vb2] at he
 cases hs : Pb3 0 H (c7 E a (.t p)) with
 | none => rw [hs] at he; cases he
 | some q =>
 obtain ⟨id, c, g, b⟩ := q
 rw [hs] at he
 simp only at he
 obtain ⟨h1, h2, h3, h4, h5⟩ := ac5 hs hyr
 cases hle : Nat.ble (c + szT E.P t) (len (d9 b.elems 0)) with
 | false => rw [hle] at he; cases he
 | true =>
 rw [hle] at he
 obtain ⟨z, hz1, hz2⟩ := Ma0 he
 obtain ⟨e0, rfl⟩ : x = z ∧ H = H' := by injection hz2 with e1 e2; exact ⟨e1, e2.symm⟩
 rw [e0]
 clear e0 hz2
 obtain ⟨_, _, _, _, hcont⟩ := hC.srel.has id b h2 (Za5 h4) h3
 rcases hcont with ⟨_, row, vs, tt, m1, m2, m3, m4⟩ | ⟨t', K', El, fl, es, clk, m1, _⟩
 case inr => exact (Fb5 h4 m1).elim
 have hrow : d9 b.elems 0 = row := by rw [m1]; rfl
 rw [hrow] at hle hz1
 rw [l6] at hle
 have hle := Nat.le_of_ble_eq_true hle
 have hti : ∃ i, E.P.info? t = some i ∧ i.size = szT E.P t := by
  cases hd : E.P.underlying t with
  | none => exact absurd hd hu
  | some d => exact Ya4 hd
 obtain ⟨ti, hi1, hi2⟩ := hti
 generalize hsz : szT E.P t = k at *
 have hcell : ∀ j, j < k → w.cell? ⟨(ρ id).blk, c + j, none⟩ = some (vs.getD (c + j) undef) := fun j hj => by
  have hlt : c + j < vs.size := by omega
  simp [World.cell?, m2, hlt]
 have hrel : ∀ j, j < k → ∀ y, row[c + j]? = some y → XC ρ H F w y (vs.getD (c + j) undef) := fun j hj y hy => by
  have hlt : c + j < vs.size := by omega
  exact (m4 (c + j) y _ hy (by simp [hlt])).2
 have hvals : ∀ (j : Nat) v, ((List.range k).map fun j => vs.getD (c + j) undef)[j]? = some v → w.cell? (Addr.add ⟨(ρ id).blk, c, none⟩ j) = some v := fun j v hj => by
  obtain ⟨hj1, hj2⟩ := Ea4 hj
  rw [S9 rfl]
  rw [← hj2]
  exact hcell j hj1
 have hev : ac.eval (.tmp p) = .pointer (some ⟨(ρ id).blk, c, none⟩) := h5
 cases hag : agT E.P t with
 | true =>
  rw [hag] at hz1
  have hz1 : some (b7.agg (l0 (da3 H) (D6 (d8 row c) k))) = some z := hz1
  injection hz1 with hz1
  subst hz1
  have hlc : (Go.loadCells ⟨(ρ id).blk, c, none⟩ k).run E.P w = .ok ((List.range k).map fun j => vs.getD (c + j) undef).toArray w := by
   have := run_loadCells_list (P := E.P) w ⟨(ρ id).blk, c, none⟩ ((List.range k).map fun j => vs.getD (c + j) undef) hvals
   simpa using this
  refine .value (x' := .agg ((List.range k).map fun j => vs.getD (c + j) undef).toArray) (w' := w) ?_ ⟨ρ, F, W', hC, fun _ _ h => h, .w (.val (.agg _ _ ?_ fun i y y' hy hy' => ?_))⟩
  ·simp [execOp, ho, hev, Instr.loadAt, Instr.sureAddr, loadVar, Xa5 hag, sizeOf, typeInfo, hi1, hi2, hlc]
  ·rw [l8, B8, B9]; simp; omega
  ·rw [l8, B8, B9, List.getElem?_map] at hy
   have hy' : ((List.range k).map fun j => vs.getD (c + j) undef)[i]? = some y' := by simpa using hy'
   obtain ⟨hj1, hj2⟩ := Ea4 hy'
   rw [List.getElem?_take, if_pos hj1, List.getElem?_drop] at hy
   cases hq : row[c + i]? with
   | none => rw [hq] at hy; cases hy
   | some q =>
    rw [hq] at hy
    injection hy with hy
    subst hy
    rw [← hj2]
    exact Td8 (hrel i hj1 q hq)
 | false =>
  rw [hag] at hz1
  have hz1 : (match D6 (d8 row c) k with | [x] => some x | _ => none : Option b7) = some z := hz1
  rw [B8, B9] at hz1
  have hk1 : k = 1 ∧ row[c]? = some z := by
   have hl : ((row.drop c).take k).length = k := by simp; omega
   split at hz1
   ·rename_i y hy
    injection hz1 with hz1
    subst hz1
    rw [hy] at hl
    have hk : k = 1 := by simpa using hl.symm
    refine ⟨hk, ?_⟩
    have h0 : ((row.drop c).take k)[0]? = some y := by rw [hy]; rfl
    rw [List.getElem?_take, if_pos (by omega), List.getElem?_drop] at h0
    simpa using h0
   ·cases hz1
  obtain ⟨hk, hz⟩ := hk1
  subst hk
  have hc0 := hcell 0 (by omega)
  rw [Nat.add_zero] at hc0
  refine .value (x' := vs.getD c undef) (w' := w) ?_ ⟨ρ, F, W', hC, fun _ _ h => h, .c ?_⟩
  ·simp [execOp, ho, hev, Instr.loadAt, Instr.sureAddr, loadVar, Ja8 hag hu, hc0]
  ·have := hrel 0 (by omega) z (by rw [Nat.add_zero]; exact hz)
   rwa [Nat.add_zero] at this
omit hJ in
theorem Td9 {s : TypeId} {p f : Nat} {fs : Array Field} {fd : Field} (ho : o.op = .fieldAddr s (.tmp p) f) (hp : Nat.blt p n = true) (hs' : E.P.underlying s = some (.struct fs)) (hf : fs[f]? = some fd) (hz : szT E.P fd.type ≠ 0)
  (he : (vb2 E a H (.bfld fd.offset p)).run = some (x, H')) : j6 E.P o ac w (ub3 E.P WB K J ρ0 H0 F0 w0 ρ H F w up ds x H') := by
 have hyr := mb5 hv hn hG (.tmp p) hp
 simp only [vb2] at he
 cases hs : Pb3 0 H (c7 E a (.t p)) with
 | none => rw [hs] at he; cases he
 | some q =>
 obtain ⟨id, c, g, b⟩ := q
 rw [hs] at he
 have he' : some (b7.ptr id 0 (c + fd.offset) g, H) = some (x, H') := he
 obtain ⟨rfl, rfl⟩ : x = b7.ptr id 0 (c + fd.offset) g ∧ H = H' := by injection he' with he'; injection he' with e1 e2; exact ⟨e1.symm, e2⟩
 obtain ⟨h1, h2, h3, h4, h5⟩ := ac5 hs hyr
 obtain ⟨ti, hi, hi0, hi1⟩ := nc6 hz
 have hev : ac.eval (.tmp p) = .pointer (some ⟨(ρ id).blk, c, none⟩) := h5
 refine .value (x' := .pointer (some (Addr.add ⟨(ρ id).blk, c, none⟩ fd.offset))) (w' := w) (by simp [execOp, ho, hev, Instr.fieldAt, Instr.sureAddr, run_underlying hs', hf, fieldPlace, sizeOf, typeInfo, hi, hi1]) ⟨ρ, F, W', hC, fun _ _ h => h, .c ?_⟩
 rw [S9 rfl]
 exact .box id (c + fd.offset) g b h2 h3 h4
theorem Cd6 {t : TypeId} {p : Nat} {y : Operand} (ho : o.op = .store t (.tmp p) y) (hp : Nat.blt p n = true) (hy : ltO n y = true) (h0 : szT E.P t ≠ 0) (he : (vb2 E a H (.bstore (szT E.P t) p (g8 y))).run = some (x, H')) :
  j6 E.P o ac w (ub3 E.P WB K J ρ0 H0 F0 w0 ρ H F w up ds x H') := by
 have hpr := mb5 hv hn hG (.tmp p) hp
 have hyr := mb5 hv hn hG y hy
 simp only [vb2] at he
 cases hs : Pb3 0 H (c7 E a (.t p)) with
 | none => rw [hs] at he; cases he
 | some q =>
 obtain ⟨id, c, g, b⟩ := q
 rw [hs] at he
 simp only at he
 obtain ⟨h1, h2, h3, h4, h5⟩ := ac5 hs hpr
 generalize hcs : A0 (c7 E a (g8 y)) = cs at *
 cases hcc : (Nat.ble (c + szT E.P t) (len (d9 b.elems 0)) && Nat.beq (len cs) (szT E.P t) && (Ja6 (c7 E a (g8 y)) && Pb0 yd9 cs)) with
 | false => rw [hcc] at he; cases he
 | true =>
 rw [hcc] at he
 have he' : some (b7.v (.tuple #[]), setAt H id { b with elems := [I1 (d9 b.elems 0) c cs] }) = some (x, H') := he
 injection he' with he'; injection he' with e1 e2; subst e1 e2
 simp only [Bool.and_eq_true, l6] at hcc
 obtain ⟨⟨hle, hlen⟩, hpo, hbo⟩ := hcc
 have hle := Nat.le_of_ble_eq_true hle
 have hlen := Nat.eq_of_beq_eq_true hlen
 rw [← hcs] at hbo
 obtain ⟨k1, k2⟩ := cd6 hyr hpo hbo
 rw [hcs] at k1 k2
 obtain ⟨hWB, hnW, hnF, hlt, hcont⟩ := hC.srel.has id b h2 (Za5 h4) h3
 rcases hcont with ⟨_, row, vs, tt, m1, m2, m3, m4⟩ | ⟨t', K', El, fl, es, clk, m1, _⟩
 case inr => exact (Fb5 h4 m1).elim
 have hrow : d9 b.elems 0 = row := by rw [m1]; rfl
 rw [hrow] at hle ⊢
 generalize hys : (ac.eval y).cells.toList = ys at *
 have hl2 : ys.length = cs.length := k1.symm
 have hone : ∀ v ∈ ys, v.oneCell' = true := fun v hv' => by
  obtain ⟨j, hj, rfl⟩ := List.mem_iff_getElem.1 hv'
  have hj' : j < cs.length := by omega
  exact (k2 j _ _ (List.getElem?_eq_getElem hj') (List.getElem?_eq_getElem hj)).1
 have hfits : c + ys.length ≤ vs.size := by omega
 have hstore := run_storeCells_at (P := E.P) (ρ id).blk c tt ys 0 vs w m2 (by simpa using hfits) hone
 simp only [Nat.add_zero] at hstore
 obtain ⟨ti, hi1, hi2⟩ := Yc4 h0
 have hsz0 : (ac.eval y).cells.size = ti.size := by
  have : (ac.eval y).cells.toList.length = ys.length := by rw [hys]
  rw [Array.length_toList] at this
  omega
 have hev : ac.eval (.tmp p) = .pointer (some ⟨(ρ id).blk, c, none⟩) := h5
 have hid := (List.getElem?_eq_some_iff.1 h2).1
 rw [z6]
 refine .skip (w' := w.setRow (ρ id).blk (vs.toList.take c ++ ys ++ vs.toList.drop (c + ys.length)).toArray) ?_ ?_
 ·simp [execOp, ho, hev, Instr.storeAt, Instr.sureAddr, storeVar, sizeOf, typeInfo, hi1, hsz0, hys, hstore]
 ·have hheap := setRow_heap w (ρ id).blk vs (vs.toList.take c ++ ys ++ vs.toList.drop (c + ys.length)).toArray tt (0, 0) m2
  have hsize : ((vs.toList.take c ++ ys ++ vs.toList.drop (c + ys.length)).toArray).size = vs.size := by simp; omega
  have hK := fun k (hk : K k) => hC.kept k hk
  have hnK : ∀ k, K k → k ≠ (ρ id).blk := fun k hk e => hC.far id b h2 (Za5 h4) h3 (e ▸ hk)
  obtain ⟨c1, c2⟩ := hC.change (w' := w.setRow (ρ id).blk (vs.toList.take c ++ ys ++ vs.toList.drop (c + ys.length)).toArray) (H' := H.set id { b with elems := [I1 row c cs] }) (up' := up) (ρ id).blk hWB hnW hnF rfl rfl rfl (Nat.le_refl _) (by simp [World.setRow]) (fun j hj => setRow_other w _ j _ hj)
   (fun cc t' fr hcc => by rw [m2] at hcc; cases hcc; exact ⟨_, hheap, hsize⟩) (by simp)
   (fun id' b' hb' => by
    by_cases e : id = id'
    ·subst e
     obtain rfl : b' = b := Option.some.inj (hb'.symm.trans h2)
     exact ⟨{ b' with elems := [I1 row c cs] }, by simp [hid], rfl, rfl, rfl, rfl, by rw [m1]; simp, fun hs0 => by rw [Za5 h4] at hs0; cases hs0⟩
    ·exact ⟨b', by rw [List.getElem?_set_ne e]; exact hb', rfl, rfl, rfl, rfl, Nat.le_refl _, fun _ => rfl⟩)
   (fun id' b' hb' hs' hd' hne => by
    have e : id ≠ id' := fun e => hne (by rw [e])
    rw [List.getElem?_set_ne e]; exact hb')
   (fun hx id' b' hb' hs' hd' hblk => by
    have e : id = id' := Classical.byContradiction fun hne => by
     rw [List.getElem?_set_ne hne] at hb'
     exact hC.srel.apart id id' b b' h2 hb' (Za5 h4) hs' h3 hd' hne hblk.symm
    subst e
    have : b' = { b with elems := [I1 row c cs] } := by simpa [hid] using hb'.symm
    subst this
    have hfit : c + cs.length ≤ row.length := by omega
    refine .inl ⟨h4, _, _, tt, rfl, hheap, by rw [Ma1 hfit, hsize]; exact m3, fun j u u' hu hu' => ?_⟩
    rw [pb2 hfits] at hu'
    rcases Lb3 hfit hu with ⟨g1, g2, g3⟩ | ⟨g1, g3⟩
    ·rw [if_pos (by omega)] at hu'
     obtain ⟨q1, q2⟩ := k2 (j - c) u u' g3 hu'
     exact ⟨q1, hx _ _ q2⟩
    ·rw [if_neg (by omega)] at hu'
     obtain ⟨q1, q2⟩ := m4 j u u' g3 hu'
     exact ⟨q1, hx _ _ q2⟩)
   (hJ up w _ (fun k hk => setRow_other w _ k _ (hnK k hk)) hC.jot)
   (fun D _ hD e => by rw [e, m2] at hD; cases hD)
  exact ⟨ρ, F, W', c1, c2, .w (.ofv _)⟩
end
end Go.Ev
namespace Go.Ev
open Go
section
variable {P : Program} {w : World}
def Jd4 (P : Program) (w : World) (em : Bool) (m : Nat) (t : TypeId) (l : List (Nat × CK)) : Prop :=
 ∀ v : Value, (agT P t = true → v = .agg v.cells) → (agT P t = false → v.cells = #[v]) → (∀ p ∈ l, ua9 v.cells p) → (Instr.checkKey em m t v).run P w = .ok () w
theorem Jd4.step {em : Bool} {m : Nat} {t : TypeId} {l : List (Nat × CK)} (h : Jd4 P w em m t l) (hf : Rd8 P w 0 t l ∨ True) (hu : P.underlying t ≠ none) (hone : agT P t = false → l ≠ [] ∧ ∀ p ∈ l, p.1 = 0) {xs : Array Value} {off : Nat} (hl : ∀ p ∈ l, p.1 < szT P t) (hx : ∀ p ∈ l.map fun p => (off + p.1, p.2), ua9 xs p) :
  ∃ a, (part t xs off).run P w = .ok a w ∧ (Instr.checkKey em m t a).run P w = .ok () w := by
 have hx' : ∀ p ∈ l, ua9 xs (off + p.1, p.2) := fun p hp => hx _ (List.mem_map.2 ⟨p, hp, rfl⟩)
 obtain ⟨a, a1, a2, a4, a3⟩ := pc5 (w := w) hu hone hl hx'
 refine ⟨a, a1, h a a2 a4 fun p hp => ?_⟩
 have := hx' p hp; unfold ua9 at this ⊢; rw [a3 p hp]; exact this
theorem Rc2 (em : Bool) : ∀ (d : Nat) (t : TypeId) (l : List (Nat × CK)), S8 P d t = some l → ∀ m, d ≤ m → Jd4 P w em m t l
 | 0, _, _, h, _, _ => by cases h
 | d + 1, t, l, h, 0, hm => by omega
 | d + 1, t, l, h, m + 1, hm => by
  intro v hv1 hv2 hv3
  unfold S8 at h
  cases hu : P.underlying t with
  | none => simp [hu] at h
  | some u =>
  cases u with
  | int k =>
   simp only [hu] at h
   injection h with h; subst h
   have hag : agT P t = false := nc5 (by simp [hu]) (by simp [hu])
   obtain ⟨n, e1⟩ := hv3 (0, .int k) (by simp)
   rw [hv2 hag] at e1
   have e1' : v = .int k n := by simpa using e1
   subst e1'
   simp [Instr.checkKey, run_underlying hu]
  | bool =>
   simp only [hu] at h
   injection h with h; subst h
   have hag : agT P t = false := nc5 (by simp [hu]) (by simp [hu])
   obtain ⟨n, e1⟩ := hv3 (0, .bool) (by simp)
   rw [hv2 hag] at e1
   have e1' : v = .bool n := by simpa using e1
   subst e1'
   simp [Instr.checkKey, run_underlying hu]
  | struct fs =>
   simp only [hu] at h
   split at h
   ·cases h
   have hag : agT P t = true := by simp [agT, hu]
   rw [hv1 hag]
   generalize v.cells = xs at *
   rw [Instr.checkKey]
   simp only [Sem.run_bind, run_underlying hu, Result.andThen_ok]
   rw [← Array.forIn_toList]
   clear hu hv1 hv2 hag
   generalize fs.toList = fl at *
   induction fl generalizing l with
   | nil => simp
   | cons f fl ih =>
    simp only [List.map_cons, fa7] at h
    split at h
    ·rename_i l1 l2 e1 e2
     injection h with h; subst h
     split at e1
     ·cases e1
     rename_i hnm
     obtain ⟨l', g1, g2, g3⟩ := Ca5 e1
     subst g3
     have hfl := gb6 (w := w) d f.type l' g1
     obtain ⟨a, p1, p2⟩ := (Rc2 em d f.type l' g1 m (by omega)).step (w := w) (.inr trivial) hfl.und hfl.one g2 (fun p hp => hv3 p (List.mem_append_left _ hp))
     simp only [List.forIn_cons, Sem.run_bind, hnm, ne_eq, not_false_eq_true, if_true, Result.andThen_ok, p1, p2, Sem.run_pure]
     exact ih l2 (fun p hp => hv3 p (List.mem_append_right _ hp)) e2
    ·cases h
  | array n e =>
   simp only [hu] at h
   split at h
   case isFalse => cases h
   rename_i hi
   obtain ⟨ti, hi⟩ := Option.isSome_iff_exists.1 hi
   have hag : agT P t = true := by simp [agT, hu]
   rw [hv1 hag]
   generalize v.cells = xs at *
   rw [Instr.checkKey]
   simp only [Sem.run_bind, run_underlying hu, Result.andThen_ok]
   simp only [Std.Legacy.Range.forIn_eq_forIn_range', Std.Legacy.Range.size, Nat.sub_zero, Nat.add_one_sub_one, Nat.div_one]
   rw [List.range_eq_range'] at h
   have hsz : ∀ w : World, (sizeOf e).run P w = .ok (szT P e) w := fun w => by simp [sizeOf, typeInfo, hi, szT]
   clear hu hv1 hv2 hag
   generalize List.range' 0 n = fl at *
   induction fl generalizing l with
   | nil => simp
   | cons f fl ih =>
    simp only [List.map_cons, fa7] at h
    split at h
    ·rename_i l1 l2 e1 e2
     injection h with h; subst h
     obtain ⟨l', g1, g2, g3⟩ := Ca5 e1
     subst g3
     have hfl := gb6 (w := w) d e l' g1
     obtain ⟨a, p1, p2⟩ := (Rc2 em d e l' g1 m (by omega)).step (w := w) (.inr trivial) hfl.und hfl.one g2 (fun p hp => hv3 p (List.mem_append_left _ hp))
     simp only [List.forIn_cons, Sem.run_bind, hsz, Result.andThen_ok, p1, p2, Sem.run_pure]
     exact ih l2 (fun p hp => hv3 p (List.mem_append_right _ hp)) e2
    ·cases h
  | _ => simp [hu] at h
theorem pd2 {fl : List (Nat × CK)} (hk : ∀ p ∈ fl, (∃ i, p.2 = .int i) ∨ p.2 = .bool) {vs us : Array Value} (h1 : ∀ p ∈ fl, ua9 vs p) (h2 : ∀ p ∈ fl, ua9 us p) {cs ds : List b7} (hc : ∀ (i : Nat) v, vs[i]? = some v → hdA (d8 cs i) = .v v) (hd : ∀ (i : Nat) v, us[i]? = some v → hdA (d8 ds i) = .v v) :
  fl.all (Ra8 vs us) = Hb1 fl cs ds := by
 induction fl with
 | nil => rfl
 | cons p fl ih =>
  have e : Hb1 (p :: fl) cs ds = (ee9 p.2 (hdA (d8 cs p.1)) (hdA (d8 ds p.1)) && Hb1 fl cs ds) := rfl
  rw [List.all_cons, ih (fun q hq => hk q (by simp [hq])) (fun q hq => h1 q (by simp [hq])) (fun q hq => h2 q (by simp [hq])), e]
  congr 1
  have g1 := h1 p (by simp)
  have g2 := h2 p (by simp)
  obtain ⟨n, kk⟩ := p
  unfold ua9 at g1 g2
  unfold Ra8
  rcases hk (n, kk) (by simp) with ⟨i, hi⟩ | hi
  ·simp only at hi; subst hi
   obtain ⟨m, hm⟩ := g1
   obtain ⟨m', hm'⟩ := g2
   simp only at hm hm' ⊢
   rw [hc n _ hm, hd n _ hm', hm, hm']
   rfl
  ·simp only at hi; subst hi
   obtain ⟨m, hm⟩ := g1
   obtain ⟨m', hm'⟩ := g2
   simp only at hm hm' ⊢
   rw [hc n _ hm, hd n _ hm', hm, hm']
   rfl
theorem Jd5 {ks : Array Value} {r : List b7} (i : Nat) (v : Value) (h : ks[i]? = some v) : hdA (d8 (ks.toList.map .v ++ r) i) = .v v := by
 rw [Qb3]
 have hlt := (Array.getElem?_eq_some_iff.1 h).1
 rw [List.getElem?_append_left (by simpa using hlt), List.getElem?_map]
 simp [h]
theorem he7 {ks : Array Value} (i : Nat) (v : Value) (h : ks[i]? = some v) : hdA (d8 (ks.toList.map .v) i) = .v v := by
 have := Jd5 (r := []) i v h
 rwa [List.append_nil] at this
section
variable {K : TypeId} {fl : List (Nat × CK)} {kl : Nat} (hag : agT P K = true) (hf : S8 P 9 K = some fl)
include hag hf
theorem he8 {ks us : Array Value} (h1 : ∀ p ∈ fl, ua9 ks p) (h2 : ∀ p ∈ fl, ua9 us p) : (Op.equal K (.agg ks) (.agg us)).run P w = .ok (fl.all (Ra8 ks us)) w :=
 (gb6 (w := w) (9 + 9991) K fl (Lb6 hf 9991)).eq (.agg ks) (.agg us) (fun _ => rfl) (fun _ => rfl) (fun h => by rw [hag] at h; cases h) (fun h => by rw [hag] at h; cases h) h1 h2
theorem cd7 {ks : Array Value} (h1 : ∀ p ∈ fl, ua9 ks p) : ∀ (es : List MapEntry) (rows : List (List b7)) (i : Nat), es.length = rows.length → (∀ (j : Nat) r e, rows[j]? = some r → es[j]? = some e → tc1 fl kl r e) →
  ((Instr.findAsking K (.agg ks) es i).run P w = .ok none w ∧ fc0 fl (ks.toList.map .v) rows = none ∧ ∀ new, ib4 fl (ks.toList.map .v) new rows = rows ++ [new]) ∨
  (∃ j e r, (Instr.findAsking K (.agg ks) es i).run P w = .ok (some (i + j, e.val)) w ∧ es[j]? = some e ∧ rows[j]? = some r ∧ fc0 fl (ks.toList.map .v) rows = some r ∧ (∀ new, ib4 fl (ks.toList.map .v) new rows = rows.set j new) ∧ ∃ us, e.key = .agg us ∧ fl.all (Ra8 ks us) = true)
 | [], [], i, _, _ => .inl ⟨by simp [Instr.findAsking], rfl, fun new => rfl⟩
 | [], r :: rows, i, hl, _ => by simp at hl
 | e :: es, [], i, hl, _ => by simp at hl
 | e :: es, r :: rows, i, hl, hr => by
  obtain ⟨us, v, g1, g2, g3, g4, g5⟩ := hr 0 r e rfl rfl
  have hk := Ya6 9 K fl hf
  have he := he8 (w := w) hag hf h1 g5
  have hq : fl.all (Ra8 ks us) = Hb1 fl (ks.toList.map .v) r := by
   rw [g1]
   exact pd2 hk h1 g5 he7 Jd5
  have eR : fc0 fl (ks.toList.map .v) (r :: rows) = Bool.rec (motive := fun _ => Option (List b7)) (fc0 fl (ks.toList.map .v) rows) (some r) (Hb1 fl (ks.toList.map .v) r) := rfl
  have eU : ∀ new, ib4 fl (ks.toList.map .v) new (r :: rows) = Bool.rec (motive := fun _ => List (List b7)) (r :: ib4 fl (ks.toList.map .v) new rows) (new :: rows) (Hb1 fl (ks.toList.map .v) r) := fun _ => rfl
  cases hb : fl.all (Ra8 ks us) with
  | true =>
   rw [hb] at he
   rw [hb] at hq
   refine .inr ⟨0, e, r, by simp [Instr.findAsking, g3, he], rfl, rfl, by rw [eR, ← hq], fun new => by rw [eU, ← hq]; rfl, us, g3, hb⟩
  | false =>
   rw [hb] at he
   rw [hb] at hq
   rcases cd7 h1 es rows (i + 1) (by simpa using hl) (fun j r' e' hj hj' => hr (j + 1) r' e' (by simpa using hj) (by simpa using hj')) with ⟨k1, k2, k3⟩ | ⟨j, e', r', k1, k2, k3, k4, k5, k6⟩
   ·refine .inl ⟨by simp [Instr.findAsking, g3, he, k1], by rw [eR, ← hq]; exact k2, fun new => by rw [eU, ← hq]; show r :: ib4 _ _ _ _ = _; rw [k3 new]; rfl⟩
   ·refine .inr ⟨j + 1, e', r', by simp [Instr.findAsking, g3, he, k1, Nat.add_assoc, Nat.add_comm 1 j], by simpa using k2, by simpa using k3, by rw [eR, ← hq]; exact k4, fun new => by rw [eU, ← hq]; show r :: ib4 _ _ _ _ = _; rw [k5 new]; rfl, k6⟩
end
end
end Go.Ev
namespace Go.Ev
open Go
def zb7 (fl : List (Nat × CK)) (kl : Nat) : Bool := (List.range kl).all fun i => fl.any fun p => Nat.beq p.1 i
def Jd6 (P : Program) (t : TypeId) : Bool := match P.info? t with
 | some i => match i.zero with
  | some (.bool b) => !b
  | _ => false
 | none => false
theorem Kc8 {fl : List (Nat × CK)} {kl i : Nat} (h : zb7 fl kl = true) (hi : i < kl) : ∃ p ∈ fl, p.1 = i := by
 unfold zb7 at h
 rw [List.all_eq_true] at h
 have := h i (List.mem_range.2 hi)
 rw [List.any_eq_true] at this
 obtain ⟨p, h1, h2⟩ := this
 exact ⟨p, h1, Nat.eq_of_beq_eq_true h2⟩
section
variable {WB K : Nat → Prop} {J : List Value → World → Prop} {ρ ρ0 : Rho} {H H0 H' : List b8} {F F0 : Fz} {w w0 w' : World} {W' : Nat → Prop} {up : List Value} {E : Env} {a : List b7} {ac : Act} {x : b7} {o : Oper}
theorem Cd7 {x x' : Value} (h : XW ρ H F w (.v x) x') : x' = x := by
 cases h with
 | w h => exact Z1 h
 | c h => cases h with
  | n h => exact Z1 (.val (.cell h))
theorem Jd7 {fl : List (Nat × CK)} {kl : Nat} {ks : List b7} {v : Value} (hcov : zb7 fl kl = true) (hk : ∀ p ∈ fl, (∃ i, p.2 = .int i) ∨ p.2 = .bool) (hx : XW ρ H F w (.agg ks) v) (hlen : ks.length = kl) (hok : ld2 fl ks = true) :
  ∃ vs : Array Value, v = .agg vs ∧ ks = vs.toList.map .v ∧ vs.size = kl ∧ ∀ p ∈ fl, ua9 vs p := by
 have hx' : z8 ρ (o6 H) F w (.agg ks) v := by
  cases hx with
  | w h => exact h
  | c h => cases h with
   | n h => exact .val (.cell h)
 obtain ⟨vs, rfl, hl, hr⟩ := Aa2 hx'
 have h1 := pc7 hok
 have k1 : ∀ p ∈ fl, ua9 vs p := fun p hp => (xb4 hl hr (hk p hp) (h1 p hp)).1
 refine ⟨vs, rfl, List.ext_getElem (by simpa using hl) fun i hi hi' => ?_, by rw [← hl]; exact hlen, k1⟩
 obtain ⟨p, hp, rfl⟩ := Kc8 hcov (hlen ▸ hi)
 have h2 := h1 p hp
 rw [Qb3, List.getElem?_eq_getElem hi] at h2
 simp only [Option.getD_some] at h2
 have hi2 : p.1 < vs.size := hl ▸ hi
 have hrel := hr p.1 _ _ (List.getElem?_eq_getElem hi) (Array.getElem?_eq_getElem hi2)
 have hv : ∃ u, ks[p.1] = .v u := by
  rcases hk p hp with ⟨q, e⟩ | e <;> rw [e] at h2 <;> revert h2 <;> cases ks[p.1] <;> intro h2 <;> first | exact ⟨_, rfl⟩ | cases h2
 obtain ⟨u, hu⟩ := hv
 rw [hu] at hrel ⊢
 have := Z1 (.val (.cell hrel))
 simp [this]
theorem Jd8 (m : Nat) (k : IntKind) (a : Int) : Instr.sameBits m (.int k a) (.int k a) = true := by cases m <;> simp [Instr.sameBits]
theorem Cd8 (m : Nat) (a : Bool) : Instr.sameBits m (.bool a) (.bool a) = true := by cases m <;> simp [Instr.sameBits]
theorem Cd9 {fl : List (Nat × CK)} {kl m : Nat} {ks us : Array Value} (hcov : zb7 fl kl = true) (hk : ∀ p ∈ fl, (∃ i, p.2 = .int i) ∨ p.2 = .bool) (h1 : ks.size = kl) (h2 : us.size = kl) (a1 : ∀ p ∈ fl, ua9 ks p) (a2 : ∀ p ∈ fl, ua9 us p) (he : fl.all (Ra8 ks us) = true) :
  Instr.sameBits (m + 1) (.agg us) (.agg ks) = true := by
 rw [Instr.sameBits]
 rw [Bool.and_eq_true]
 refine ⟨by simp [h1, h2], ?_⟩
 rw [List.all_eq_true]
 intro q hq
 obtain ⟨i, hi, hq⟩ := List.mem_iff_getElem.1 hq
 rw [List.getElem_zip] at hq
 have hi' : i < kl := by rw [List.length_zip, Array.length_toList, Array.length_toList] at hi; omega
 obtain ⟨p, hp, rfl⟩ := Kc8 hcov hi'
 have e := List.all_eq_true.1 he p hp
 have b1 := a1 p hp
 have b2 := a2 p hp
 have g1 : ks[p.1]? = some (ks[p.1]'(by omega)) := Array.getElem?_eq_getElem _
 have g2 : us[p.1]? = some (us[p.1]'(by omega)) := Array.getElem?_eq_getElem _
 rw [← hq]
 simp only [Array.getElem_toList]
 unfold ua9 at b1 b2
 unfold Ra8 at e
 rcases hk p hp with ⟨k, hkk⟩ | hkk
 ·rw [hkk] at b1 b2
  obtain ⟨n, b1⟩ := b1
  obtain ⟨n', b2⟩ := b2
  rw [b1, b2] at e
  have e : n = n' := by simpa using e
  subst e
  rw [g1] at b1; rw [g2] at b2
  rw [Option.some.inj b1, Option.some.inj b2]
  exact Jd8 _ _ _
 ·rw [hkk] at b1 b2
  obtain ⟨n, b1⟩ := b1
  obtain ⟨n', b2⟩ := b2
  rw [b1, b2] at e
  have e : n = n' := by simpa using e
  subst e
  rw [g1] at b1; rw [g2] at b2
  rw [Option.some.inj b1, Option.some.inj b2]
  exact Cd8 _ _
theorem zb8 {k : Nat} {es : Array MapEntry} {clk : Nat} (P : Program) (h : w.heap[k]? = some (.map es clk)) : (getObj k).run P w = .ok (.map es clk) w := by simp [getObj, Sem.run, h]
theorem zb9 {k : Nat} {es : Array MapEntry} {clk : Nat} (P : Program) (o : Obj) (h : w.heap[k]? = some (.map es clk)) : (setObj k o).run P w = .ok () (w.putObj k o) := by simp [setObj, Sem.run, h, World.putObj]
theorem gc0 {P : Program} {t : TypeId} {fl : List (Nat × CK)} {kl : Nat} (hag : agT P t = true) (hf : S8 P 9 t = some fl) {ks : Array Value} (h1 : ∀ p ∈ fl, ua9 ks p) (es : List MapEntry) (rows : List (List b7)) (hl : es.length = rows.length) (hr : ∀ (j : Nat) r e, rows[j]? = some r → es[j]? = some e → tc1 fl kl r e) :
  ((Instr.findKey t (.agg ks) es).run P w = .ok none w ∧ fc0 fl (ks.toList.map .v) rows = none ∧ ∀ new, ib4 fl (ks.toList.map .v) new rows = rows ++ [new]) ∨
  (∃ j e r, (Instr.findKey t (.agg ks) es).run P w = .ok (some (j, e.val)) w ∧ es[j]? = some e ∧ rows[j]? = some r ∧ fc0 fl (ks.toList.map .v) rows = some r ∧ (∀ new, ib4 fl (ks.toList.map .v) new rows = rows.set j new) ∧ ∃ us, e.key = .agg us ∧ fl.all (Ra8 ks us) = true) := by
 have hu : ∃ d, P.underlying t = some d ∧ ∀ e es i, Instr.findNow d (.agg ks) (e :: es) i = none := by
  unfold agT at hag
  split at hag
  ·rename_i fs h; exact ⟨_, h, fun e es i => rfl⟩
  ·rename_i n e h; exact ⟨_, h, fun e es i => rfl⟩
  ·cases hag
 obtain ⟨d, hd, hnow⟩ := hu
 have := cd7 (w := w) (kl := kl) hag hf h1 es rows 0 hl hr
 have e0 : (Instr.findKey t (.agg ks) es).run P w = (Instr.findAsking t (.agg ks) es 0).run P w := by
  unfold Instr.findKey
  simp only [Sem.run_bind, run_underlying hd, Result.andThen_ok]
  cases es with
  | nil => simp [Instr.findNow, Instr.findAsking]
  | cons e es => rw [hnow]
 rw [e0]
 simpa using this
section
variable {ds : List Deferred} {n : Nat} (hC : C2 E.P WB K J ρ0 H0 F0 w0 H ds w ρ F W' up) (hJ : ac0 K J)
include hC hJ
theorem Jd9 {t : TypeId} {kt el : TypeId} {fl : List (Nat × CK)} (ho : o.op = .makeMap t none) (hu : E.P.underlying t = some (.map kt el)) (hf : S8 E.P 9 kt = some fl) (he : (vb2 E a H (.mmake t)).run = some (x, H')) :
  j6 E.P o ac w (ub3 E.P WB K J ρ0 H0 F0 w0 ρ H F w up ds x H') := by
 have he' : some (b7.ptr (len H) 0 0 0, Pb4 H (t + 1) []) = some (x, H') := he
 injection he' with he'; injection he' with e1 e2; subst e1 e2
 rw [l6]
 obtain ⟨c1, c2, c3, c4⟩ := hC.alloc hJ (.map #[] 0)
 have hap : ∀ (id : Nat) b, H[id]? = some b → A1 b = true → b.dead = false → (ρ id).blk ≠ w.heap.size := fun id b hb hs hd => Nat.ne_of_lt (hC.srel.has id b hb hs hd).2.2.2.1
 rw [cd5]
 have hnew : (w.alloc (.map #[] 0)).heap[w.heap.size]? = some (.map #[] 0) := World.alloc_heap_new w _
 refine .value (x' := .map (some w.heap.size)) (w' := w.alloc (.map #[] 0)) (by simp [execOp, ho, Instr.makeMap, run_newObj_alloc]) ?_
 obtain ⟨d1, d2⟩ := c1.adopt w.heap.size 0 c3 (fun h => h.2 rfl) (fun o hf => c4 o hf) (by simp) hap (fun hk => Nat.lt_irrefl _ (hC.kept _ hk).2) { et := t + 1, es := 0, elems := [], own := true, dead := false, g := 0 } (Za6 (t := t) ⟨rfl, rfl⟩) rfl
  (.inr ⟨t, kt, el, fl, #[], 0, ⟨rfl, rfl⟩, hu, hf, hnew, rfl, fun i r e hr => by simp at hr⟩)
 refine ⟨_, F, _, d1, fun x x' hx => d2 _ _ (c2 _ _ hx), .c ?_⟩
 have hρn : (ρnew ρ H ⟨w.heap.size, 0, 0⟩ H.length).blk = w.heap.size := by simp [ρnew]
 have := XC.map (ρ := ρnew ρ H ⟨w.heap.size, 0, 0⟩) (F := F) (w := w.alloc (.map #[] 0)) H.length 0 0 { et := t + 1, es := 0, elems := [], own := true, dead := false, g := 0 } t (H := H ++ [{ et := t + 1, es := 0, elems := [], own := true, dead := false, g := 0 }]) (by simp) rfl ⟨rfl, rfl⟩
 rwa [hρn] at this
variable (hv : VR ρ H F w a (ac.tmps.toList ++ up)) (hn : ac.tmps.size = n) (hG : GOk E F w)
include hv hn hG
omit hJ in
theorem Kd0 {t : TypeId} {kt el : TypeId} {fl : List (Nat × CK)} {m : Nat} {y : Operand} (ho : o.op = .lookup t (.tmp m) y false) (hm : Nat.blt m n = true) (hy : ltO n y = true) (hu : E.P.underlying t = some (.map kt el)) (hag : agT E.P kt = true) (hf : S8 E.P 9 kt = some fl) (hcov : zb7 fl (szT E.P kt) = true) (hz : Jd6 E.P el = true)
  (he : (vb2 E a H (.mlook t (szT E.P kt) fl m (g8 y))).run = some (x, H')) :
  j6 E.P o ac w (ub3 E.P WB K J ρ0 H0 F0 w0 ρ H F w up ds x H') := by
 have hmr := mb5 hv hn hG (.tmp m) hm
 have hyr := mb5 hv hn hG y hy
 have hev : (ac.eval (.tmp m)) = ac.tmps.getD m undef := rfl
 simp only [vb2] at he
 have hcA : g8 (.tmp m) = .t m := rfl
 rw [hcA] at hmr
 cases hs : Pb3 (t + 1) H (c7 E a (.t m)) with
 | none => rw [hs] at he; cases he
 | some q =>
 obtain ⟨id, c, g, b⟩ := q
 rw [hs] at he
 simp only at he
 obtain ⟨h1, h2, h3, h4, h5⟩ := Kc7 hs hmr
 revert he hyr
 generalize c7 E a (g8 y) = ya
 intro hyr he
 split at he
 case h_2 => cases he
 ·rename_i ks
  obtain ⟨hgd, he⟩ := DT.run_guard_some he
  have he : some (b7.v (.bool (Pb5 (szT E.P kt) fl ks b.elems)), H) = some (x, H') := he
  rw [Bool.and_eq_true, l6] at hgd
  obtain ⟨vs, e1, e2, e3, e4⟩ := Jd7 hcov (Ya6 9 kt fl hf) hyr (Nat.eq_of_beq_eq_true hgd.1) hgd.2
  obtain ⟨rfl, rfl⟩ : x = b7.v (.bool (Pb5 (szT E.P kt) fl ks b.elems)) ∧ H = H' := by injection he with he; injection he with e1 e2; exact ⟨e1.symm, e2⟩
  subst e2
  obtain ⟨_, _, _, _, hcont⟩ := hC.srel.has id b h2 (Za6 h4) h3
  rcases hcont with ⟨hb, _⟩ | ⟨t', K', El, fl', es, clk, m1, m2, m3, m4, m5, m6⟩
  ·exact (Fb5 hb h4).elim
  have ht : t' = t := Nat.succ.inj (m1.2.symm.trans h4.2)
  subst ht
  rw [hu] at m2
  injection m2 with m2; injection m2 with q1 q2; subst q1 q2
  rw [hf] at m3
  injection m3 with m3; subst m3
  have hlen : es.toList.length = b.elems.length := by rw [Array.length_toList]; exact m5.symm
  have hrow : ∀ (j : Nat) r e, b.elems[j]? = some r → es.toList[j]? = some e → tc1 fl (szT E.P kt) r e := fun j r e hr he => m6 j r e hr (by simpa using he)
  have hfind := gc0 (w := w) (kl := szT E.P kt) hag hf e4 es.toList b.elems hlen hrow
  have hck : (Instr.checkKey es.isEmpty 10000 kt (.agg vs)).run E.P w = .ok () w := Rc2 es.isEmpty 9 kt fl hf 10000 (by decide) (.agg vs) (fun _ => rfl) (fun h => by rw [hag] at h; cases h) e4
  have hgo : (getObj (ρ id).blk).run E.P w = .ok (.map es clk) w := zb8 E.P m4
  rcases hfind with ⟨k1, k2, _⟩ | ⟨j, e, r, k1, k2, k3, k4, _, _⟩
  ·have hz' : (zeroValue el).run E.P w = .ok (.bool false) w := by
    unfold Jd6 at hz
    split at hz
    ·rename_i i hi
     split at hz
     ·rename_i bb hbb
      cases bb with
      | true => cases hz
      | false => simp [zeroValue, typeInfo, hi, hbb]
     ·cases hz
    ·cases hz
   refine .value (x' := .bool false) (w' := w) ?_ ⟨ρ, F, W', hC, fun _ _ h => h, ?_⟩
   ·simp [execOp, ho, Instr.lookup, run_underlying hu, h5, e1, hgo, hck, k1, hz']
   ·unfold Pb5
    rw [k2]
    exact .w (.val (.cell (.v _)))
  ·obtain ⟨us, bb, g1, g2, g3, g4, g5⟩ := hrow j r e k3 k2
   refine .value (x' := .bool bb) (w' := w) ?_ ⟨ρ, F, W', hC, fun _ _ h => h, ?_⟩
   ·simp [execOp, ho, Instr.lookup, run_underlying hu, h5, e1, hgo, hck, k1, g4]
   ·unfold Pb5
    rw [k4]
    have : toB (hdA (d8 r (szT E.P kt))) = bb := by
     rw [Qb3, g1, ← g2]
     rw [List.getElem?_append_right (by simp)]
     simp [toB]
    show XW ρ H F w (.v (.bool (toB (hdA (d8 r (szT E.P kt)))))) _
    rw [this]
    exact .w (.val (.cell (.v _)))
theorem Ud0 {t : TypeId} {kt el : TypeId} {fl : List (Nat × CK)} {m : Nat} {y z : Operand} (ho : o.op = .mapUpdate t (.tmp m) y z) (hm : Nat.blt m n = true) (hy : ltO n y = true) (hz : ltO n z = true) (hu : E.P.underlying t = some (.map kt el)) (hag : agT E.P kt = true) (hf : S8 E.P 9 kt = some fl) (hcov : zb7 fl (szT E.P kt) = true)
  (he : (vb2 E a H (.mupd t (szT E.P kt) fl m (g8 y) (g8 z))).run = some (x, H')) :
  j6 E.P o ac w (ub3 E.P WB K J ρ0 H0 F0 w0 ρ H F w up ds x H') := by
 have hmr := mb5 hv hn hG (.tmp m) hm
 have hyr := mb5 hv hn hG y hy
 have hzr := mb5 hv hn hG z hz
 simp only [vb2] at he
 have hcA : g8 (.tmp m) = .t m := rfl
 rw [hcA] at hmr
 cases hs : Pb3 (t + 1) H (c7 E a (.t m)) with
 | none => rw [hs] at he; cases he
 | some q =>
 obtain ⟨id, c, g, b⟩ := q
 rw [hs] at he
 simp only at he
 obtain ⟨h1, h2, h3, h4, h5⟩ := Kc7 hs hmr
 revert he hyr hzr
 generalize c7 E a (g8 y) = ya
 generalize c7 E a (g8 z) = za
 intro hyr hzr he
 split at he
 case h_2 => cases he
 rename_i ks bv
 obtain ⟨hgd, he⟩ := DT.run_guard_some he
 have he : some (b7.v (.tuple #[]), setAt H id { b with elems := ib4 fl ks (app ks [.v (.bool bv)]) b.elems }) = some (x, H') := he
 rw [Bool.and_eq_true, l6] at hgd
 have hkinds := Ya6 9 kt fl hf
 obtain ⟨vs, e1, e2, e3, e4⟩ := Jd7 hcov hkinds hyr (Nat.eq_of_beq_eq_true hgd.1) hgd.2
 have e5 := Cd7 hzr
 injection he with he; injection he with q1 q2
 subst q1 q2 e2
 obtain ⟨hWB, hnW, hnF, hlt, hcont⟩ := hC.srel.has id b h2 (Za6 h4) h3
 rcases hcont with ⟨hb, _⟩ | ⟨t', K', El, fl', es, clk, m1, m2, m3, m4, m5, m6⟩
 ·exact (Fb5 hb h4).elim
 have ht : t' = t := Nat.succ.inj (m1.2.symm.trans h4.2)
 subst ht
 rw [hu] at m2
 injection m2 with m2; injection m2 with q1 q2; subst q1 q2
 rw [hf] at m3
 injection m3 with m3; subst m3
 have hlen : es.toList.length = b.elems.length := by rw [Array.length_toList]; exact m5.symm
 have hrow : ∀ (j : Nat) r e, b.elems[j]? = some r → es.toList[j]? = some e → tc1 fl (szT E.P kt) r e := fun j r e hr he => m6 j r e hr (by simpa using he)
 have hfind := gc0 (w := w) (kl := szT E.P kt) hag hf e4 es.toList b.elems hlen hrow
 have hck : (Instr.checkKey false 10000 kt (.agg vs)).run E.P w = .ok () w := Rc2 false 9 kt fl hf 10000 (by decide) (.agg vs) (fun _ => rfl) (fun h => by rw [hag] at h; cases h) e4
 have hgo : (getObj (ρ id).blk).run E.P w = .ok (.map es clk) w := zb8 E.P m4
 have hnK : ∀ k, K k → k ≠ (ρ id).blk := fun k hk e => hC.far id b h2 (Za6 h4) h3 (e ▸ hk)
 have hid := (List.getElem?_eq_some_iff.1 h2).1
 have hnewrow : ∀ us : MapEntry, tc1 fl (szT E.P kt) (app (vs.toList.map .v) [.v (.bool bv)]) { us with key := .agg vs, val := .bool bv } := fun us => ⟨vs, bv, by rw [C0], e3, rfl, rfl, e4⟩
 have hfin : ∀ (es' : Array MapEntry) (clk' : Nat), (ib4 fl (vs.toList.map .v) (app (vs.toList.map .v) [.v (.bool bv)]) b.elems).length = es'.size → b.elems.length ≤ es'.size → (∀ (i : Nat) r e, (ib4 fl (vs.toList.map .v) (app (vs.toList.map .v) [.v (.bool bv)]) b.elems)[i]? = some r → es'[i]? = some e → tc1 fl (szT E.P kt) r e) →
   ub3 E.P WB K J ρ0 H0 F0 w0 ρ H F w up ds (.v (.tuple #[])) (H.set id { b with elems := ib4 fl (vs.toList.map .v) (app (vs.toList.map .v) [.v (.bool bv)]) b.elems }) (.tuple #[]) (w.putObj (ρ id).blk (.map es' clk')) := fun es' clk' hl1 hl2 hrows => by
  obtain ⟨c1, c2⟩ := hC.change (w' := w.putObj (ρ id).blk (.map es' clk')) (H' := H.set id { b with elems := ib4 fl (vs.toList.map .v) (app (vs.toList.map .v) [.v (.bool bv)]) b.elems }) (up' := up) (ρ id).blk hWB hnW hnF rfl rfl rfl (Nat.le_refl _) (by simp) (fun j hj => World.putObj_heap_other hj)
   (fun cc t' fr hcc => by rw [m4] at hcc; cases hcc) (by simp)
   (fun id' b' hb' => by
    by_cases e : id = id'
    ·subst e
     obtain rfl : b' = b := Option.some.inj (hb'.symm.trans h2)
     exact ⟨{ b' with elems := ib4 fl (vs.toList.map .v) (app (vs.toList.map .v) [.v (.bool bv)]) b'.elems }, by simp [hid], rfl, rfl, rfl, rfl, by simp only; rw [hl1]; exact hl2, fun hs0 => by rw [Za6 h4] at hs0; cases hs0⟩
    ·exact ⟨b', by rw [List.getElem?_set_ne e]; exact hb', rfl, rfl, rfl, rfl, Nat.le_refl _, fun _ => rfl⟩)
   (fun id' b' hb' hs' hd' hne => by
    have e : id ≠ id' := fun e => hne (by rw [e])
    rw [List.getElem?_set_ne e]; exact hb')
   (fun hx id' b' hb' hs' hd' hblk => by
    have e : id = id' := Classical.byContradiction fun hne => by
     rw [List.getElem?_set_ne hne] at hb'
     exact hC.srel.apart id id' b b' h2 hb' (Za6 h4) hs' h3 hd' hne hblk.symm
    subst e
    have : b' = { b with elems := ib4 fl (vs.toList.map .v) (app (vs.toList.map .v) [.v (.bool bv)]) b.elems } := by simpa [hid] using hb'.symm
    subst this
    exact .inr ⟨t', kt, el, fl, es', clk', h4, hu, hf, World.putObj_heap_same hlt, hl1, hrows⟩)
   (hJ up w _ (fun k hk => World.putObj_heap_other (hnK k hk)) hC.jot)
   (fun D _ hD e => by rw [e, m4] at hD; cases hD)
  exact ⟨ρ, F, W', c1, c2, .w (.ofv _)⟩
 rw [z6]
 rcases hfind with ⟨k1, _, k3⟩ | ⟨j, e, r, k1, k2, k3, k4, k5, us, k6, k7⟩
 ·have hso := zb9 E.P (.map (es.push { key := .agg vs, val := .bool bv, born := clk }) (clk + 1)) m4
  refine .skip (w' := w.putObj (ρ id).blk (.map (es.push { key := .agg vs, val := .bool bv, born := clk }) (clk + 1))) ?_ (hfin _ _ ?_ ?_ ?_)
  ·simp [execOp, ho, Instr.mapUpdate, run_underlying hu, h5, e1, e5, hgo, hck, k1, hso]
  ·rw [k3]; simp [m5]
  ·simp [m5]
  ·intro i r e hr he
   rw [k3] at hr
   by_cases hi : i < b.elems.length
   ·rw [List.getElem?_append_left hi] at hr
    rw [Array.getElem?_push, if_neg (by omega)] at he
    exact m6 i r e hr he
   ·rw [List.getElem?_append_right (by omega)] at hr
    have hi0 : i - b.elems.length = 0 := by
     rcases Nat.eq_zero_or_pos (i - b.elems.length) with h | h
     ·exact h
     ·rw [List.getElem?_eq_none (by simp; omega)] at hr; cases hr
    rw [hi0] at hr
    rw [Array.getElem?_push, if_pos (by omega)] at he
    simp at hr he
    subst hr he
    exact hnewrow { key := .agg vs, val := .bool bv, born := clk }
 ·have k2' : es[j]? = some e := by simpa using k2
  obtain ⟨us', bb, g1, g2, g3, g4, g5⟩ := hrow j r e k3 k2
  rw [k6] at g3
  injection g3 with g3
  subst g3
  have hsame : Instr.sameBits 10000 (.agg us) (.agg vs) = true := Cd9 (m := 9999) hcov hkinds e3 g2 e4 g5 k7
  have hso := zb9 E.P (.map (es.modify j fun e => { e with key := .agg vs, val := .bool bv }) clk) m4
  refine .skip (w' := w.putObj (ρ id).blk (.map (es.modify j fun e => { e with key := .agg vs, val := .bool bv }) clk)) ?_ (hfin _ _ ?_ ?_ ?_)
  ·simp [execOp, ho, Instr.mapUpdate, run_underlying hu, h5, e1, e5, hgo, hck, k1, k2', k6, Instr.keyThatStays, hsame, hso]
  ·rw [k5]; simp [m5]
  ·simp [m5]
  ·intro i r' e' hr he
   rw [k5] at hr
   rw [Array.getElem?_modify] at he
   by_cases hi : j = i
   ·subst hi
    rw [if_pos rfl, k2'] at he
    have hj := (List.getElem?_eq_some_iff.1 k3).1
    rw [List.getElem?_set_self hj] at hr
    simp at hr he
    subst hr he
    exact hnewrow e
   ·rw [if_neg hi] at he
    rw [List.getElem?_set_ne hi] at hr
    exact m6 i r' e' hr he
end
end
end Go.Ev
namespace Go.Ev
open Go
def Kd1 (pr : List Nat) : Operand → Option Nat
 | .tmp p => if pr.contains p then some p else none
 | _ => none
def Kd2 (pr : List Nat) (o : Oper) : Bool := match o.dst with
 | some d => pr.contains d
 | none => false
def Jb3 (b : Bool) (x : SP) : SP := match b with
 | true => x
 | false => .bad
structure ne4 where
 kt : TypeId
 el : TypeId
 fl : List (Nat × CK)
def Kd3 (P : Program) (t : TypeId) : Option ne4 := match P.underlying t with
 | some (.map kt el) => match S8 P 9 kt with
  | some fl => match agT P kt && zb7 fl (szT P kt) with
   | true => some ⟨kt, el, fl⟩
   | false => none
  | none => none
 | _ => none
def cSp (P : Program) (n : Nat) (pr : List Nat) (o : Oper) : Option SP :=
 match o.op with
 | .alloc t => match Kd2 pr o with
  | true => match zeT P t with
   | some z => some (.balloc z)
   | none => some .bad
  | false => none
 | .box _ x => match Kd2 pr o with
  | true => some (Jb3 (ltO n x) (.bbox (g8 x)))
  | false => none
 | .load t x => match Kd1 pr x with
  | some p => some (Jb3 (Nat.blt p n && (P.underlying t).isSome) (.bload (szT P t) (agT P t) p))
  | none => none
 | .store t x y => match Kd1 pr x with
  | some p => some (Jb3 (Nat.blt p n && ltO n y && !Nat.beq (szT P t) 0) (.bstore (szT P t) p (g8 y)))
  | none => none
 | .fieldAddr s x f => match Kd1 pr x with
  | some p => match P.underlying s with
   | some (.struct fs) => match fs[f]? with
    | some fd => some (Jb3 (Nat.blt p n && !Nat.beq (szT P fd.type) 0) (.bfld fd.offset p))
    | none => some .bad
   | _ => some .bad
  | none => none
 | .makeMap t none => match Kd3 P t with
  | some _ => some (.mmake t)
  | none => some .bad
 | .lookup t (.tmp m) y false => match Kd3 P t with
  | some q => some (Jb3 (Nat.blt m n && ltO n y && Jd6 P q.el) (.mlook t (szT P q.kt) q.fl m (g8 y)))
  | none => some .bad
 | .mapUpdate t (.tmp m) y z => match Kd3 P t with
  | some q => some (Jb3 (Nat.blt m n && ltO n y && ltO n z) (.mupd t (szT P q.kt) q.fl m (g8 y) (g8 z)))
  | none => some .bad
 | .call c => match c.callee with
  | .builtin .append => match Kd2 pr o with
   | true => match c.args.toList, c.argTypes.toList with
    | [s, x], [t, u] => match P.underlying t with
     | some (.slice e) => some (Jb3 (Nat.blt 0 (szT P e) && Nat.beq t u) (.old n (.apre (szT P e) (g8 s) (g8 x))))
     | _ => some .bad
    | _, _ => some .bad
   | false => none
  | .builtin .clear => match c.args.toList, c.argTypes.toList with
   | [x], [t] => match P.underlying t with
    | some (.slice e) => match zeT P e with
     | some z => some (Jb3 (Nat.blt 0 (szT P e)) (.old n (.clr (szT P e) z (g8 x))))
     | none => some .bad
    | _ => some .bad
   | _, _ => some .bad
  | _ => none
 | _ => none
structure Rd where
 nOut : Nat
 ps : List Nat
 as : PC
 body : PC
def Sb5 (S : List Nat) (o : Oper) : Option (List Operand) := match o.op with
 | .call c => match c.callee with
  | .value (.tmp t) => if S.contains t then some c.args.toList else none
  | _ => none
 | _ => none
def tc5 (S : List Nat) (o : Oper) : Option Nat := match o.op, o.guard, o.dst with
 | .move (.tmp t), none, some d => if S.contains t then some d else none
 | _, _, _ => none
def gOk (n : Nat) : Option (Nat × Bool) → Bool
 | none => true
 | some (d, _) => Nat.blt d n
def dOk (n : Nat) : Option Nat → Bool
 | none => true
 | some d => Nat.blt d n
def rmD (S : List Nat) : Option Nat → List Nat
 | none => S
 | some d => S.filter fun t => !Nat.beq t d
def Rc3 (l : List Oper) : List Nat := l.filterMap (·.dst)
def ac6 (p : Oper → Bool) : List Oper → Nat
 | [] => 0
 | o :: r => match p o with
  | true => ac6 p r + 1
  | false => 0
def cd8 (P : Program) (n : Nat) (pr S : List Nat) (o : Oper) : Bool := (cSp P n pr o).isNone && (Sb5 S o).isNone && (tc5 S o).isNone
def Ud1 (l r : List Nat) : Bool := l.all fun x => r.contains x
def cd9 (P : Program) (n : Nat) (pr : List Nat) (yl : Option Rd) (S0 : List Nat) (ops : Array Oper) : Nat → List Oper → List Nat → PC
 | 0, _, _ => .bad
 | _ + 1, [], S => match Ud1 S0 S with
  | true => .skip
  | false => .bad
 | f + 1, o :: r, S => match Sb5 S o with
  | some args => match yl, Z8 ops o with
   | some rd, some g => match gOk n g && dOk n o.dst && args.all (ltO n) && Nat.beq args.length rd.ps.length with
    | true => .seq (.round o.dst g (args.map g8) n rd.nOut rd.ps rd.as rd.body) (cd9 P n pr yl S0 ops f r (rmD S o.dst))
    | false => .bad
   | _, _ => .bad
  | none => match tc5 S o with
   | some d => match Nat.blt d n with
    | true => .seq (.mask n [d] (.ops [⟨some d, none, [], .mv (.c .unk)⟩])) (cd9 P n pr yl S0 ops f r (d :: S))
    | false => .bad
   | none => match cSp P n pr o with
    | some so => match Z8 ops o with
     | some g => match gOk n g && dOk n o.dst with
      | true => .seq (.sp o.dst g so) (cd9 P n pr yl S0 ops f r (rmD S o.dst))
      | false => .bad
     | none => .bad
    | none => match Hb2 P ops (o :: r.take (ac6 (cd8 P n pr S) r)) with
     | some l => .seq (.mask n (Rc3 (o :: r.take (ac6 (cd8 P n pr S) r))) (.ops l)) (cd9 P n pr yl S0 ops f (r.drop (ac6 (cd8 P n pr S) r)) (S.filter fun t => !(Rc3 (o :: r.take (ac6 (cd8 P n pr S) r))).contains t))
     | none => .bad
def ra3 (P : Program) (n : Nat) (pr : List Nat) (yl : Option Rd) (S0 : List Nat) (kp : Nat → List Nat) (rf : Operand → Array Tmp → Code → Code → PC) (cur : Nat) : Code → PC
 | .skip => .skip
 | .region _ ops d => match d with
  | false => cd9 P n pr yl S0 ops (ops.size + 1) ops.toList S0
  | true => .bad
 | .seq a b => .seq (ra3 P n pr yl S0 kp rf cur a) (ra3 P n pr yl S0 kp rf cur b)
 | .cond c x y => match ltO n c with
  | true => .cond (g8 c) (ra3 P n pr yl S0 kp rf cur x) (ra3 P n pr yl S0 kp rf cur y)
  | false => .bad
 | .block id c => .block id (ra3 P n pr yl S0 kp rf id c)
 | .loop c => .loopM (kp cur) (ra3 P n pr yl S0 kp rf cur c)
 | .label _ => .skip
 | .exit id => .exit id
 | .ret => .ret
 | .rangeFunc g ps as body => rf g ps as body
 | _ => .bad
structure Rc4 where
 pr : List Nat
 kp : List (Nat × List Nat)
 fi : FuncId
 ki : List (Nat × List Nat)
def Dd0 (l : List (Nat × List Nat)) (id : Nat) : List Nat := match l.find? fun p => Nat.beq p.1 id with
 | some p => p.2
 | none => []
def Sb6 (_ : Operand) (_ : Array Tmp) (_ _ : Code) : PC := .bad
def ne5 (P : Program) (h : Rc4) (n : Nat) (ps : Array Tmp) (as body : Code) : Rd :=
 ⟨n, ps.toList, ra3 P n h.pr none [] (Dd0 h.kp) Sb6 0 as, ra3 P n h.pr none [] (Dd0 h.kp) Sb6 0 body⟩
def pd3 (P : Program) (h : Rc4) (fnI : Func) (cI : Code) (n : Nat) (g : Operand) (ps : Array Tmp) (as body : Code) : PC :=
 match ltO n g && Nat.beq fnI.results.size 0 && ps.toList.all (fun p => Nat.blt p n) with
 | true => .inner h.fi (g8 g) fnI.ntmps (ra3 P fnI.ntmps [] (some (ne5 P h n ps as body)) [0] (Dd0 h.ki) Sb6 0 cI)
 | false => .bad
def Sb7 (P : Program) (h : Rc4) (fnI fn : Func) : Option PFn :=
 match fn.body, fnI.body with
 | some c, some cI =>
  if fn.results.toList.all (Yc1 P) then some ⟨fn.ntmps, fn.results.toList.map (pc1 P), ra3 P fn.ntmps h.pr none [] (Dd0 h.kp) (pd3 P h fnI cI fn.ntmps) 0 c⟩ else none
 | _, _ => none
noncomputable def dd0 (H : List b8) : Bool := List.rec (motive := fun _ => Bool) true (fun b _ ih => Bool.rec (motive := fun _ => Bool) ih false (A1 b)) H
noncomputable def Ab0 (E : Env) (fn : PFn) (args : List b7) (blks : List b8) : DT (b7 × List b8) :=
 .guard (Bool.and (dd0 blks) (Nat.ble (len args) fn.ntmps)) ((K2 E (len blks) fn.body ⟨app args (List.replicate (fn.ntmps - len args) (.v (.tuple #[]))), blks⟩).bind fun r =>
  match r.1 with
  | .exit _ => .fail
  | _ => match Ma9 (Ra6 (l0 (da3 r.2.H) r.2.a) (o6 r.2.H)) fn.res with
   | some l => .guard (dd0 (D6 r.2.H (len blks))) (wb7 (len blks) (o6 r.2.H) (ib5 l))
   | none => .fail)
end Go.Ev
