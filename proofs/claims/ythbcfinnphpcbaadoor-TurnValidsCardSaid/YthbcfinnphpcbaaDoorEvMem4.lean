/- Structs, arrays, literals, and what is left (own work). -/
import Derived.Test.YthbcfinnphpcbaaDoorEvMem3
namespace Go.Ev
open Go
section
variable {W : Nat → Prop} {ρ : Rho} {H H' : List ABlk} {F : Fz} {w : World} {E : Env} {o : Oper} {a : List AVal} {ac : Act} {x : AVal}

theorem fold_set (off : Nat) : ∀ (l : List Value) (s : Nat) (cells : Array Value) (k : Nat), off + s + l.length ≤ cells.size →
    ((l.zipIdx s).foldl (fun cs (p : Value × Nat) => cs.setIfInBounds (off + p.2) p.1) cells).size = cells.size ∧
    ((l.zipIdx s).foldl (fun cs (p : Value × Nat) => cs.setIfInBounds (off + p.2) p.1) cells)[k]? = if off + s ≤ k ∧ k < off + s + l.length then l[k - (off + s)]? else cells[k]?
  | [], s, cells, k, _ => by
    refine ⟨rfl, ?_⟩
    rw [if_neg (by simp)]
    rfl
  | v :: l, s, cells, k, h => by
    have ih := fold_set off l (s + 1) (cells.setIfInBounds (off + s) v) k (by simp at h ⊢; omega)
    simp only [List.zipIdx_cons, List.foldl_cons]
    refine ⟨ih.1.trans (by simp), ih.2.trans ?_⟩
    simp only [List.length_cons] at h ⊢
    by_cases h1 : off + (s + 1) ≤ k ∧ k < off + (s + 1) + l.length
    · rw [if_pos h1, if_pos (by omega), show k - (off + s) = (k - (off + (s + 1))) + 1 by omega]
      rfl
    · rw [if_neg h1]
      by_cases h2 : k = off + s
      · subst h2
        have hlt : off + s < cells.size := by omega
        rw [if_pos (by omega)]
        simp [hlt]
      · rw [if_neg (by omega), Array.getElem?_setIfInBounds_ne (by omega)]

theorem fill_step (cells : Array Value) (vs : Array Value) (off k : Nat) (h : off + vs.size ≤ cells.size) :
    (vs.zipIdx.foldl (fun cs (p : Value × Nat) => cs.setIfInBounds (off + p.2) p.1) cells).size = cells.size ∧
    (vs.zipIdx.foldl (fun cs (p : Value × Nat) => cs.setIfInBounds (off + p.2) p.1) cells)[k]? = if off ≤ k ∧ k < off + vs.size then vs[k - off]? else cells[k]? := by
  have := fold_set off vs.toList 0 cells k (by simpa using h)
  rw [← Array.foldl_toList]
  simpa using this

/-- the model's filling and the evaluator's -/
theorem fill_ok (place : Nat → Option (Nat × Nat)) : ∀ (parts : List (Nat × Nat × AVal)) (parts' : List (Nat × Value)) (cells : List AVal) (cells' : Array Value) (cs : List AVal),
    parts.length = parts'.length → (∀ (i : Nat) p p', parts[i]? = some p → parts'[i]? = some p' → place p'.1 = some (p.1, p.2.1) ∧ WRel ρ H F w p.2.2 p'.2) →
    cells.length = cells'.size → (∀ (i : Nat) x x', cells[i]? = some x → cells'[i]? = some x' → CRel ρ H F w x x') → fillA cells parts = some cs →
    ∃ cs', Instr.fill place cells' parts' = some cs' ∧ cs'.size = cells'.size ∧ cs.length = cells.length ∧ ∀ (i : Nat) x x', cs[i]? = some x → cs'[i]? = some x' → CRel ρ H F w x x'
  | [], parts', cells, cells', cs, hl, _, hc, hr, he => by
    have : parts' = [] := List.eq_nil_of_length_eq_zero (by simpa using hl.symm)
    subst this
    simp only [fillA] at he
    injection he with he
    subst he
    exact ⟨cells', rfl, rfl, rfl, hr⟩
  | (off, size, y) :: parts, parts', cells, cells', cs, hl, hp, hc, hr, he => by
    cases parts' with
    | nil => simp at hl
    | cons p' parts' =>
    obtain ⟨i0, y'⟩ := p'
    obtain ⟨hpl, hy⟩ := hp 0 _ _ rfl rfl
    simp only at hpl hy
    simp only [fillA, len_eq] at he
    cases hb : (partOk y && Nat.beq (aCells y).length size && Nat.ble (off + size) cells.length) with
    | false => simp [hb] at he
    | true =>
    simp only [hb] at he
    simp only [Bool.and_eq_true] at hb
    obtain ⟨⟨h1, h2⟩, h3⟩ := hb
    have h2 := Nat.eq_of_beq_eq_true h2
    have h3 : off + size ≤ cells.length := Nat.le_of_ble_eq_true h3
    obtain ⟨h4, h5⟩ := aCells_ok hy h1
    have h4' : (aCells y).length = y'.cells.size := by simpa using h4
    have hfit : off + (aCells y).length ≤ cells.length := by omega
    have hstep := fun k => fill_step cells' y'.cells off k (by omega)
    obtain ⟨cs', h6, h7, h8, h9⟩ := fill_ok place parts parts' (splice cells off (aCells y)) (y'.cells.zipIdx.foldl (fun cs (p : Value × Nat) => cs.setIfInBounds (off + p.2) p.1) cells') cs
      (by simpa using hl) (fun i p p' h h' => hp (i + 1) p p' (by simpa using h) (by simpa using h')) (by rw [splice_length hfit, (hstep 0).1]; exact hc)
      (fun k u u' hu hu' => by
        rw [(hstep k).2] at hu'
        rcases splice_get hfit hu with ⟨g1, g2, g3⟩ | ⟨g1, g3⟩
        · rw [if_pos (by omega)] at hu'
          exact h5 _ u u' g3 (by simpa using hu')
        · rw [if_neg (by omega)] at hu'
          exact hr k u u' g3 hu') he
    refine ⟨cs', ?_, h7.trans (hstep 0).1, by rw [h8, splice_length hfit], h9⟩
    unfold Instr.fill
    simp only [hpl]
    rw [if_neg (by simp; omega)]
    exact h6

theorem cParts_ok {P : Program} {t : TypeId} : ∀ {ps : List (Nat × Operand)} {l : List (Nat × Nat × Arg)}, cParts P t ps = some l →
    l.length = ps.length ∧ ∀ (i : Nat) p q, l[i]? = some p → ps[i]? = some q → placeT P t q.1 = some (p.1, p.2.1) ∧ p.2.2 = cArg q.2
  | [], l, h => by
    simp only [cParts] at h
    injection h with h
    subst h
    exact ⟨rfl, fun i p q h => by simp at h⟩
  | (i0, y) :: ps, l, h => by
    simp only [cParts] at h
    cases hp : placeT P t i0 with
    | none => simp [hp] at h
    | some os =>
    obtain ⟨off, size⟩ := os
    simp only [hp] at h
    cases hc : cParts P t ps with
    | none => simp [hc] at h
    | some r =>
    simp only [hc] at h
    injection h with h
    subst h
    obtain ⟨h1, h2⟩ := cParts_ok hc
    refine ⟨by simp [h1], fun i p q hp' hq => ?_⟩
    cases i with
    | zero => simp at hp' hq; subst hp' hq; exact ⟨hp, rfl⟩
    | succ i => exact h2 i p q (by simpa using hp') (by simpa using hq)

theorem run_mapM_list {α β : Type} {P : Program} (g : α → Sem β) (h : α → β) (w : World) : ∀ (l : List α), (∀ y ∈ l, (g y).run P w = .ok (h y) w) → (l.mapM g).run P w = .ok (l.map h) w
  | [], _ => by simp
  | y :: l, hy => by
    have ih := run_mapM_list g h w l (fun z hz => hy z (by simp [hz]))
    simp [List.mapM_cons, hy y (by simp), ih]
theorem run_mapM_arr {α β : Type} {P : Program} (g : α → Sem β) (h : α → β) (w : World) (l : Array α) (hl : ∀ y ∈ l, (g y).run P w = .ok (h y) w) : (l.mapM g).run P w = .ok (l.map h) w := by
  rw [Array.mapM_eq_mapM_toList]
  have := run_mapM_list g h w l.toList (fun y hy => hl y (by simpa using hy))
  simp only [Sem.run_map, this, Result.andThen_ok]
  congr 1
  apply Array.ext'
  simp

section
variable (hA : ARel ρ H F w a ac.tmps) (hH : HRel W ρ H F w) (hG : GOk E F w)
include hA hH hG

omit hH in
theorem parts_rel {ps : List (Nat × Operand)} {t : TypeId} {l : List (Nat × Nat × Arg)} (hc : cParts E.P t ps = some l) :
    (mapL (fun p => (p.1, p.2.1, evalA E a p.2.2)) l).length = (ps.map fun p => (p.1, ac.eval p.2)).length ∧
    ∀ (i : Nat) p p', (mapL (fun p => (p.1, p.2.1, evalA E a p.2.2)) l)[i]? = some p → (ps.map fun p => (p.1, ac.eval p.2))[i]? = some p' → placeT E.P t p'.1 = some (p.1, p.2.1) ∧ WRel ρ H F w p.2.2 p'.2 := by
  obtain ⟨h1, h2⟩ := cParts_ok hc
  rw [mapL_eq]
  refine ⟨by simp [h1], fun i p p' hp hp' => ?_⟩
  rw [List.getElem?_map] at hp hp'
  cases hl : l[i]? with
  | none => simp [hl] at hp
  | some q =>
  cases hq : ps[i]? with
  | none => simp [hq] at hp'
  | some q' =>
  simp [hl] at hp
  simp [hq] at hp'
  subst hp hp'
  obtain ⟨h3, h4⟩ := h2 i q q' hl hq
  exact ⟨h3, by simp only [h4]; exact evalA_ok hA hG q'.2⟩

omit hA hG hH in
theorem zero_cells {t : TypeId} {z : List AVal} (hz : zeT E.P t = some z) : ∃ i zv, E.P.info? t = some i ∧ i.zero = some zv ∧ z = zv.cells.toList.map .v ∧ (∀ u ∈ zv.cells.toList, u.oneCell' = true) := by
  unfold zeT at hz
  cases hi : E.P.info? t with
  | none => simp [hi] at hz
  | some i =>
  cases hzz : i.zero with
  | none => simp [hi, hzz] at hz
  | some zv =>
  simp only [hi, hzz] at hz
  split at hz
  · rename_i hall
    injection hz with hz
    exact ⟨i, zv, rfl, hzz, hz.symm, fun u hu => by rw [← oneV_eq]; exact List.all_eq_true.1 hall u hu⟩
  · cases hz

theorem sound_build {t : TypeId} {ps : Array (Nat × Operand)} {z : List AVal} {l : List (Nat × Nat × Arg)} (ho : o.op = .build t ps) (hz : zeT E.P t = some z) (hc : cParts E.P t ps.toList = some l) (hall : infoAll E.P t = true)
    (he : (evalOp E a H (.build z l)).run = some (x, H')) : OpGives E.P o ac w (Post W ρ H F w x H') := by
  simp only [evalOp] at he
  cases hf : fillA z (mapL (fun p => (p.1, p.2.1, evalA E a p.2.2)) l) with
  | none => rw [hf] at he; cases he
  | some cs =>
  rw [hf] at he
  have he' := Option.some.inj he
  injection he' with e1 e2; subst e1 e2
  obtain ⟨ti, zv, hi, hzz, rfl, hone⟩ := zero_cells hz
  obtain ⟨hl1, hl2⟩ := parts_rel hA hG hc
  have hfill := fun place hpl => fill_ok (ρ := ρ) (H := H) (F := F) (w := w) place _ (ps.toList.map fun p => (p.1, ac.eval p.2)) (zv.cells.toList.map .v) zv.cells cs hl1 hpl (by simp)
    (fun i u u' h h' => by
      rw [List.getElem?_map] at h
      have : zv.cells.toList[i]? = some u' := by simpa using h'
      rw [this] at h
      simp at h
      subst h
      exact .v _) hf
  unfold infoAll at hall
  cases hu : E.P.underlying t with
  | none => simp [hu] at hall
  | some d =>
  cases d with
  | struct fs =>
    simp only [hu] at hall
    have hmap : (fs.mapM fun f => (do pure (f.offset, ← sizeOf f.type) : Sem (Nat × Nat))).run E.P w = .ok (fs.map fun f => (f.offset, szT E.P f.type)) w := by
      refine run_mapM_arr _ _ w fs fun f hf => ?_
      have hsome := Array.all_eq_true_iff_forall_mem.1 hall f hf
      obtain ⟨fi, hfi⟩ := Option.isSome_iff_exists.1 hsome
      simp [sizeOf, typeInfo, hfi, szT]
    obtain ⟨cs', h1, h2, h3, h4⟩ := hfill (fun i => (fs.map fun f => (f.offset, szT E.P f.type))[i]?) (fun i p p' hp hp' => by
      obtain ⟨h1, h2⟩ := hl2 i p p' hp hp'
      refine ⟨?_, h2⟩
      unfold placeT at h1
      simp only [hu] at h1
      cases hfi : fs[p'.1]? with
      | none => simp [hfi] at h1
      | some f => simp [hfi] at h1 ⊢; exact h1)
    refine .value (x' := .agg cs') (w' := w) ?_ (.stay hH (.val (.agg cs cs' (by rw [h3, h2]; simp) h4)))
    have hps : (ps.map fun (p : Nat × Operand) => (p.1, ac.eval p.2)).toList = ps.toList.map fun p => (p.1, ac.eval p.2) := by simp
    have hb : (Instr.build t (ps.map fun (p : Nat × Operand) => (p.1, ac.eval p.2))).run E.P w = .ok (.agg cs') w := by
      unfold Instr.build
      simp only [Sem.run_bind, zeroValue, typeInfo, run_program, Result.andThen_ok, hi, Sem.run_pure, hzz, run_underlying hu, hmap, hps, h1]
    simp only [execOp, ho, Sem.run_bind, hb, Result.andThen_ok, Sem.run_pure]
  | array n e =>
    simp only [hu] at hall
    obtain ⟨ei, hei⟩ := Option.isSome_iff_exists.1 hall
    obtain ⟨cs', h1, h2, h3, h4⟩ := hfill (fun i => some (i * ei.size, ei.size)) (fun i p p' hp hp' => by
      obtain ⟨h1, h2⟩ := hl2 i p p' hp hp'
      refine ⟨?_, h2⟩
      unfold placeT at h1
      simp only [hu, szT, hei] at h1
      exact h1)
    refine .value (x' := .agg cs') (w' := w) ?_ (.stay hH (.val (.agg cs cs' (by rw [h3, h2]; simp) h4)))
    have hps : (ps.map fun (p : Nat × Operand) => (p.1, ac.eval p.2)).toList = ps.toList.map fun p => (p.1, ac.eval p.2) := by simp
    have hb : (Instr.build t (ps.map fun (p : Nat × Operand) => (p.1, ac.eval p.2))).run E.P w = .ok (.agg cs') w := by
      unfold Instr.build
      simp only [Sem.run_bind, zeroValue, typeInfo, run_program, Result.andThen_ok, hi, Sem.run_pure, hzz, run_underlying hu, sizeOf, hei, hps, h1]
    simp only [execOp, ho, Sem.run_bind, hb, Result.andThen_ok, Sem.run_pure]
  | _ => simp [hu] at hall

omit hA hG hH in
theorem chunks_get (es : Nat) : ∀ (n : Nat) (l : List AVal), n * es ≤ l.length → (chunks es n l).length = n ∧ ∀ (i : Nat) r, (chunks es n l)[i]? = some r → r = (l.drop (i * es)).take es ∧ i < n
  | 0, l, _ => ⟨rfl, fun i r h => by simp [chunks] at h⟩
  | n + 1, l, h => by
    rw [Nat.add_mul, Nat.one_mul] at h
    obtain ⟨h1, h2⟩ := chunks_get es n (l.drop es) (by simp; omega)
    have e : chunks es (n + 1) l = l.take es :: chunks es n (l.drop es) := by simp [chunks, takeN_eq, dropN_eq]
    rw [e]
    refine ⟨by simp [h1], fun i r hr => ?_⟩
    cases i with
    | zero => simp at hr; subst hr; simp
    | succ i =>
      obtain ⟨h3, h4⟩ := h2 i r (by simpa using hr)
      refine ⟨?_, by omega⟩
      rw [h3, List.drop_drop, Nat.add_mul, Nat.one_mul, Nat.add_comm es]

omit hA hG hH in
/-- new elements out of cells: a slice of its own -/
theorem HRel.allocRow (h : HRel W ρ H F w) (et es n : Nat) (cs : List AVal) (vs : Array Value) (cap : Nat) (hes : 0 < es) (hl : cs.length = n * es) (hcap : vs.size = cap * es) (hn : n ≤ cap) (hm : cap ≤ maxLen)
    (hr : ∀ (i : Nat) z z', cs[i]? = some z → vs[i]? = some z' → MRel F w z z') :
    Post W ρ H F w (.sl H.length 0 n 0) (newBlk H et es (chunks es n cs)) (.slice (some ⟨w.heap.size, 0, none⟩) n cap) (w.alloc (.cells vs et)) := by
  obtain ⟨hc1, hc2⟩ := chunks_get es n cs (by omega)
  have hle : n * es ≤ cap * es := Nat.mul_le_mul_right _ hn
  obtain ⟨h1, h2⟩ := h.alloc et es (chunks es n cs) vs et (fun i r hr' => by
      obtain ⟨h3, h4⟩ := hc2 i r hr'
      have := Nat.mul_le_mul_right es (show i + 1 ≤ n from h4)
      rw [Nat.add_mul, Nat.one_mul] at this
      rw [h3]; simp; omega) (by rw [hc1, hcap]; exact hle) (fun i r c z hr' hz => by
      obtain ⟨h3, h4⟩ := hc2 i r hr'
      subst h3
      have hcl : c < es := by
        have := (List.getElem?_eq_some_iff.1 hz).1
        simp at this
        omega
      rw [List.getElem?_take, if_pos hcl, List.getElem?_drop] at hz
      have hlt : i * es + c < vs.size := by have := (List.getElem?_eq_some_iff.1 hz).1; omega
      exact ⟨vs[i * es + c], by simp [hlt], hr _ z _ hz (by simp [hlt])⟩) (fun _ => rfl)
  rw [newBlk_eq]
  refine ⟨_, F, h1, h2, .val (.cell (.sl _ _ _ _ _ _ { et, es, elems := chunks es n cs, own := true, dead := false, g := 0 } (by simp) rfl (Nat.le_refl _) hn rfl hm fun _ => ⟨.inr ?_, ?_, by simp [hc1]⟩))⟩
  · simp [ρnew]
  · simp [ρnew, hcap]

omit hA hG hH in
theorem replicate_get (z : List AVal) : ∀ (n k : Nat), 0 < z.length → k < n * z.length → ((List.replicate n z).flatten)[k]? = z[k % z.length]?
  | 0, k, _, h => by simp at h
  | n + 1, k, hz, h => by
    rw [List.replicate_succ, List.flatten_cons]
    rcases Nat.lt_or_ge k z.length with hk | hk
    · rw [List.getElem?_append_left hk, Nat.mod_eq_of_lt hk]
    · rw [List.getElem?_append_right hk]
      rw [Nat.add_mul, Nat.one_mul] at h
      rw [replicate_get z n (k - z.length) hz (by omega)]
      congr 1
      conv => rhs; rw [show k = k - z.length + z.length by omega, Nat.add_mod_right]

theorem sound_bslice {t e : TypeId} {n : Nat} {ps : Array (Nat × Operand)} {z : List AVal} {l : List (Nat × Nat × Arg)} (ho : o.op = .buildSlice t n ps) (hu : E.P.underlying t = some (.slice e)) (hz : zeT E.P e = some z) (hc : cParts E.P t ps.toList = some l)
    (hlim : n * szT E.P e ≤ 16777216) (hzl : z.length = szT E.P e) (hpos : 0 < szT E.P e)
    (he : (evalOp E a H (.bslice e (szT E.P e) n (List.replicate n z).flatten l)).run = some (x, H')) : OpGives E.P o ac w (Post W ρ H F w x H') := by
  simp only [evalOp] at he
  cases hf : fillA (List.replicate n z).flatten (mapL (fun p => (p.1, p.2.1, evalA E a p.2.2)) l) with
  | none => rw [hf] at he; cases he
  | some cs =>
  simp only [hf] at he
  cases hfr : freezeCells H cs with
  | none => rw [hfr] at he; cases he
  | some q =>
  obtain ⟨cs2, H1⟩ := q
  simp only [hfr, len_eq] at he
  have he' := Option.some.inj he
  injection he' with e1 e2; subst e1 e2
  obtain ⟨ti, zv, hi, hzz, rfl, hone⟩ := zero_cells hz
  have hts : szT E.P e = ti.size := by simp [szT, hi]
  rw [hts] at hzl hpos hlim
  have hzs : zv.cells.size = ti.size := by simpa using hzl
  obtain ⟨hl1, hl2⟩ := parts_rel hA hG hc
  let cells0 : Array Value := (Array.range (n * ti.size)).map (zv.cells[· % zv.cells.size]!)
  have hflen : ((List.replicate n (zv.cells.toList.map AVal.v)).flatten).length = n * ti.size := by simp [List.length_flatten, hzs]
  obtain ⟨cs', h1, h2, h3, h4⟩ := fill_ok (ρ := ρ) (H := H) (F := F) (w := w) (fun i => some (i * ti.size, ti.size)) _ (ps.toList.map fun p => (p.1, ac.eval p.2)) _ cells0 cs hl1 (fun i p p' hp hp' => by
      obtain ⟨h1, h2⟩ := hl2 i p p' hp hp'
      refine ⟨?_, h2⟩
      unfold placeT at h1
      simp only [hu, szT, hi] at h1
      exact h1) (by rw [hflen]; simp [cells0]) (fun k u u' hk hk' => by
      have hlt : k < n * ti.size := by have := (List.getElem?_eq_some_iff.1 hk).1; omega
      rw [replicate_get _ n k (by simp; omega) (by simp [hzs]; exact hlt)] at hk
      simp [hzs] at hk
      obtain ⟨b, hb1, rfl⟩ := hk
      simp [cells0, hlt, hzs] at hk'
      rw [getElem!_def, hb1] at hk'
      simp at hk'
      subst hk'
      exact .v _) hf
  have hvs : cs'.size = n * ti.size := by rw [h2]; simp [cells0]
  obtain ⟨F1, a1, hH1, h5, h6, h7⟩ := freezeCells_ok hH (vs := cs'.toList) (by rw [h3, hflen]; simp [hvs]) (fun i y y' hy hy' => h4 i y y' hy (by simpa using hy')) hfr
  have hb : (Instr.buildSlice t n (ps.map fun (p : Nat × Operand) => (p.1, ac.eval p.2))).run E.P w = .ok (.slice (some ⟨w.heap.size, 0, none⟩) n n) (w.alloc (.cells cs' e)) := by
    have hps : (ps.map fun (p : Nat × Operand) => (p.1, ac.eval p.2)).toList = ps.toList.map fun p => (p.1, ac.eval p.2) := by simp
    unfold Instr.buildSlice
    have hlim' : ¬ (n * ti.size > 2 ^ 24) := by omega
    by_cases h0 : n * ti.size = 0
    · have hn0 : n = 0 := by
        rcases Nat.eq_zero_or_pos n with h | h
        · exact h
        · have := Nat.mul_pos h hpos; omega
      subst hn0
      have h1' : Instr.fill (fun i => some (i * ti.size, ti.size)) #[] (ps.toList.map fun p => (p.1, ac.eval p.2)) = some cs' := by
        have : cells0 = #[] := by simp [cells0]
        rw [← this]; exact h1
      have hr0 : ∀ f : Nat → Value, (Array.range (0 * ti.size)).map f = #[] := by simp
      simp only [Sem.run_bind, run_underlying hu, Result.andThen_ok, sizeOf, typeInfo, run_program, hi, Sem.run_pure, if_neg hlim', if_pos h0, hps, hr0, h1', newRow, run_newObj]
      rfl
    · have hlim2 : ¬ (16777216 < n * ti.size) := by omega
      have hn0 : ¬ (n = 0 ∨ ti.size = 0) := by
        intro h; rcases h with h | h <;> simp [h] at h0
      simp only [Sem.run_bind, run_underlying hu, Result.andThen_ok, sizeOf, typeInfo, run_program, hi, Sem.run_pure, if_neg hlim', if_neg h0, zeroValue, hzz, hps]
      have h1' : Instr.fill (fun i => some (i * ti.size, ti.size)) ((Array.range (n * ti.size)).map fun x => zv.cells[x % zv.cells.size]!) (ps.toList.map fun p => (p.1, ac.eval p.2)) = some cs' := h1
      simp only [h1', newRow, run_newObj, Sem.run_bind, Result.andThen_ok, Sem.run_pure]
      rfl
  refine .value (x' := .slice (some ⟨w.heap.size, 0, none⟩) n n) (w' := w.alloc (.cells cs' e)) (by simp only [execOp, ho, Sem.run_bind, hb, Result.andThen_ok, Sem.run_pure]) ?_
  rw [hts]
  obtain ⟨ρ', F', g1, g2, g3⟩ := HRel.allocRow (H := H1) hH1 e ti.size n cs2 cs' n hpos (by rw [h5, h3, hflen]) hvs (Nat.le_refl _) (by
      have : n ≤ n * ti.size := Nat.le_mul_of_pos_right n hpos
      unfold maxLen; omega) (fun i z z' hz1 hz2 => h6 i z z' hz1 (by simpa using hz2))
  exact ⟨ρ', F', a1.trans g1, g2, g3⟩

theorem sound_mksl {t e : TypeId} {y yc : Operand} {z : List AVal} (ho : o.op = .makeSlice t y yc) (hu : E.P.underlying t = some (.slice e)) (hz : zeT E.P e = some z) (hzl : z.length = szT E.P e) (hpos : 0 < szT E.P e)
    (he : (evalOp E a H (.mksl e (szT E.P e) (byT E.P e) z (cArg y) (cArg yc))).run = some (x, H')) : OpGives E.P o ac w (Post W ρ H F w x H') := by
  have hy := evalA_ok hA hG y
  have hyc := evalA_ok hA hG yc
  simp only [evalOp] at he
  cases h1 : intOf? (evalA E a (cArg y)) with
  | none => simp [h1] at he
  | some n =>
  cases h2 : intOf? (evalA E a (cArg yc)) with
  | none => simp [h1, h2] at he
  | some m =>
  simp only [h1, h2, len_eq] at he
  obtain ⟨k1, e1⟩ := intOf_ok h1 hy
  obtain ⟨k2, e2⟩ := intOf_ok h2 hyc
  obtain ⟨hb, he⟩ := DT.run_guard_some he
  simp only [Bool.and_eq_true] at hb
  obtain ⟨⟨⟨hb1, hb2⟩, hb3⟩, hb4⟩ := hb
  obtain ⟨g1, g2, _⟩ := inB_ok hb1
  obtain ⟨g3, g4, _⟩ := inB_ok hb2
  have hb3 := Nat.le_of_ble_eq_true hb3
  have hb4 := Nat.le_of_ble_eq_true hb4
  have he' := Option.some.inj he
  injection he' with e3 e4; subst e3 e4
  obtain ⟨ti, zv, hi, hzz, rfl, hone⟩ := zero_cells hz
  have hts : szT E.P e = ti.size := by simp [szT, hi]
  have hby : byT E.P e = ti.bytes := by simp [byT, hi]
  rw [hts] at hzl hpos ⊢
  rw [hby] at hb4
  have hzs : zv.cells.size = ti.size := by simpa using hzl
  unfold room at g2 g4 hb4
  have hbytes : (ti.bytes : Int) * m ≤ 281474976710656 := by
    obtain ⟨m', rfl⟩ := Int.eq_ofNat_of_zero_le g3
    have : ti.bytes * m' ≤ 140737488355328 := by rw [Nat.mul_comm]; simpa using hb4
    have h5 : ((ti.bytes * m' : Nat) : Int) ≤ 281474976710656 := by omega
    simpa using h5
  have hr := run_make (P := E.P) w t e ti zv hu hi hzz k1 k2 n m g1 (by omega) hbytes (by omega)
  refine .value (x' := .slice (some ⟨w.heap.size, 0, none⟩) n.toNat m.toNat) (w' := w.alloc (.cells (madeCells zv.cells (m.toNat * ti.size)) e)) (by simp only [execOp, ho, e1, e2, Sem.run_bind, hr, Result.andThen_ok, Sem.run_pure]) ?_
  have hch : newBlk H e ti.size (List.replicate n.toNat (zv.cells.toList.map AVal.v)) = newBlk H e ti.size (chunks ti.size n.toNat (List.replicate n.toNat (zv.cells.toList.map AVal.v)).flatten) := by
    congr 1
    have hgen : ∀ (q : Nat) (zz : List AVal), zz.length = ti.size → chunks ti.size q (List.replicate q zz).flatten = List.replicate q zz := fun q zz hq => by
      induction q with
      | zero => rfl
      | succ q ih =>
        simp only [chunks, List.replicate_succ, List.flatten_cons, takeN_eq, dropN_eq]
        rw [List.take_left' hq, List.drop_left' hq, ih]
    exact (hgen _ _ (by simpa using hzs)).symm
  rw [hch]
  have hflen : ((List.replicate n.toNat (zv.cells.toList.map AVal.v)).flatten).length = n.toNat * ti.size := by simp [List.length_flatten, hzs]
  refine HRel.allocRow hH e ti.size n.toNat _ _ m.toNat hpos hflen (by simp [madeCells]) hb3 (by unfold maxLen; omega) fun i u u' hu1 hu2 => ?_
  have hlt : i < n.toNat * ti.size := by have := (List.getElem?_eq_some_iff.1 hu1).1; omega
  have hle : n.toNat * ti.size ≤ m.toNat * ti.size := Nat.mul_le_mul_right _ hb3
  rw [replicate_get _ n.toNat i (by simp; omega) (by simp [hzs]; exact hlt)] at hu1
  simp [hzs] at hu1
  obtain ⟨b, hb1, rfl⟩ := hu1
  have hlt2 : i < m.toNat * ti.size := by omega
  simp [madeCells, hlt2, hzs] at hu2
  rw [getElem!_def, hb1] at hu2
  simp at hu2
  subst hu2
  exact .v _ (hone _ (by simpa using Array.mem_of_getElem? hb1))
end
end
end Go.Ev
