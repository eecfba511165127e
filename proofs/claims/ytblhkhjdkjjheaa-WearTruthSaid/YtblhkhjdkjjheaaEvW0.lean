/- The wear seat's environment, and slices.Insert as one step (own work). -/
import Derived.Test.YtblhkhjdkjjheaaEvWBod
import Derived.Test.YtblhkhjdkjjheaaEvIns
import Derived.Test.YtblhkhjdkjjheaaEvCod
import Derived.Test.YtblhkhjdkjjheaaEvLp
set_option linter.unusedVariables false
set_option linter.unusedSimpArgs false
set_option linter.unnecessarySimpa false
set_option linter.unusedSectionVars false
namespace Go.Ev.W
open Go Go.Ev Go.Proofs
noncomputable def G : Nat → List Value := fun _ => []
noncomputable def En (l : List (Nat × Sum)) : Env := { P := Try.prog, G, fns := fun _ => none, call := look l, own := fun f j => Bool.and (Nat.beq f 36) (Nat.beq j 0), N := 18446744073709551616 }
@[reducible] def u : AVal := .v (.tuple #[])
theorem tdeps {l : List (Nat × Sum)} (h : TblOk Try.prog G l) : ∀ f, FnOk (En l).P (En l).G f ((En l).call f) := look_ok h
/-! ### slices.Insert -/
structure Ag36 where
  n : Nat
  i : Int
  m : Nat
  els : List (List AVal)
  get : Nat → List AVal
noncomputable def ea36 (x : Ag36) : St := ⟨[.sl 0 0 x.n 0, .v (.int .i64 x.i), .tree 4 x.m x.get], [⟨27, 4, x.els, true, false, 0⟩]⟩
noncomputable def aa36 : Alt Ag36 Unit := ⟨[.s (.sl 0 0 (some 0) none), .s (.int .i64), .s (.tree 4)], [⟨27, 4, true, none⟩], fun a H => (⟨slN (slotA a 0), toI (slotA a 1), toN (slotA a 2), elsA H 0, toG (slotA a 2)⟩, ())⟩
theorem ala36 (a : List AVal) (H : List ABlk) : (⟨asSls aa36.sh a, asBks aa36.bl H⟩ : St) = ea36 (aa36.rd (asSls aa36.sh a) (asBks aa36.bl H)).1 := rfl
noncomputable def gIns (x : Ag36) : Bool := Bool.and (Bool.and (inB x.i x.n) (Nat.beq (len x.els) x.n)) (Bool.and (Nat.beq x.m 1) (Nat.ble ((x.n + 1) * 32) room))
noncomputable def kIns (x : Ag36) : DT (AVal × List ABlk) := .guard (gIns x) (.ret (.sl 0 0 (x.n + 1) 1, [⟨27, 4, app (takeN x.els x.i.toNat) (x.get 0 :: dropN x.els x.i.toNat), true, false, 1⟩]))
theorem World.size_drew' (w : World) : w.drew.heap.size = w.heap.size := rfl
theorem World.size_alloc' (w : World) (o : Obj) : (w.alloc o).heap.size = w.heap.size + 1 := Array.size_push ..
theorem World.size_setRow' (w : World) (g : Nat) (c : Array Value) : (w.setRow g c).heap.size = w.heap.size := by simp [World.setRow]
theorem row_at {l : List (List AVal)} (h4 : ∀ (j : Nat) r, l[j]? = some r → r.length = 4) {j c : Nat} (hj : j < l.length) (hc : c < 4) : ∃ x, (l[j]).length = 4 ∧ (l[j])[c]? = some x := by
  have := h4 j _ (List.getElem?_eq_getElem hj)
  exact ⟨_, this, List.getElem?_eq_getElem (by omega)⟩
theorem insOk : FnOk Try.prog G 36 (sumA aa36 kIns) := by
  intro args blks r out he W ρ F w args' hH hlen hargs hG
  unfold sumA at he
  cases hd : decA [aa36] ⟨args, blks⟩ with
  | none => rw [hd] at he; cases he
  | some q =>
  rw [hd] at he
  have e := decA_ok (enc := fun p _ => ea36 p) (AllL.mem (.cons ala36 .nil)) hd
  have he : (kIns q.1).run = some (r, out) := he
  obtain ⟨⟨n, iv, m, els, get⟩, _⟩ := q
  have e : (⟨args, blks⟩ : St) = ⟨[.sl 0 0 n 0, .v (.int .i64 iv), .tree 4 m get], [⟨27, 4, els, true, false, 0⟩]⟩ := e
  injection e with e2 e3
  subst e2 e3
  obtain ⟨hg, he⟩ := DT.run_guard_some he
  injection he with he; injection he with e4 e5
  subst e4 e5
  simp only [gIns, Bool.and_eq_true] at hg
  obtain ⟨⟨g1, g2⟩, g3, g4⟩ := hg
  rw [len_eq] at g2
  have g2 := Nat.eq_of_beq_eq_true g2
  have g3 := Nat.eq_of_beq_eq_true g3
  have g4 := Nat.le_of_ble_eq_true g4
  subst g3
  cases iv with
  | negSucc k => cases g1
  | ofNat i =>
  have hi : i < n := Nat.le_of_ble_eq_true g1
  match args', hlen with
  | [v0, v1, v2], _ =>
  obtain ⟨a0, cap, b0, rfl, hb0, hd0, hg0, hn0, hs0, hm0, hh0⟩ := inv_sl (hargs 0 _ _ rfl rfl)
  have hv1 := inv_v (hargs 1 _ _ rfl rfl)
  subst hv1
  have ht := inv_tree (hargs 2 _ _ rfl rfl)
  cases ht with | tree _ _ _ a2 cap2 csv hs2 hcap2 hes2 hF2 hw2 hr2 =>
  have hs2 := hs2 (by omega)
  obtain ⟨vb, vo, sp⟩ := a2
  have hs2 : sp = none := hs2
  subst hs2
  cases hb0
  obtain ⟨cc, t, fr, B0⟩ := hH.blk 0 _ rfl rfl
  obtain ⟨hfr, hW0, hoff, hsize, hnF, htt⟩ := B0.own rfl
  subst hfr
  have htt := htt (by show (27 : Nat) ≠ 0; omega)
  subst htt
  obtain ⟨hA0, hC0, hE0⟩ := hh0 rfl
  have ha0 : a0 = ⟨(ρ 0).blk, 0, none⟩ := by
    rcases hA0 with ⟨_, h⟩ | h
    · omega
    · rw [h, hoff]; simp
  subst ha0
  have hcc : cc.size = cap * 4 := by rw [← hsize, ← hC0]; simp
  have wv : ∀ c, c < 4 → w.cell? ⟨vb, vo + c, none⟩ = some (csv 0 c) := fun c hc => by
    have := hw2 0 c (by omega) hc
    simpa using this
  have hvb : vb ≠ (ρ 0).blk := fun e => hnF _ (e ▸ hF2 0 0 (by omega) (by omega))
  obtain ⟨tv, kv, hsh, hkv⟩ : ∃ tv kv, w.shape? vb = some (tv, kv) ∧ kv ≠ 0 := by
    have h := wv 0 (by omega)
    simp only [World.cell?] at h
    cases ho : w.heap[vb]? with
    | none => simp [ho] at h
    | some o =>
      cases o with
      | cells cv tv fv =>
        refine ⟨tv, cv.size, by simp [World.shape?, ho], fun h0 => ?_⟩
        have : cv = #[] := Array.eq_empty_of_size_eq_zero h0
        subst this
        simp [ho] at h
      | _ => simp [ho] at h
  have h4 : ∀ (j : Nat) r, els[j]? = some r → r.length = 4 := B0.rows
  obtain ⟨rw0, hrw0⟩ : ∃ r0, r0 = get 0 := ⟨_, rfl⟩
  have hr4 : rw0.length = 4 := by rw [hrw0]; exact hes2 0 (by omega)
  -- the cells
  have cell0 : ∀ j c, j < n → c < 4 → ∃ x x', (els[j]?.bind (·[c]?)) = some x ∧ cc[j * 4 + c]? = some x' ∧ MRel F w x x' := fun j c hj hc => by
    obtain ⟨x, _, hx⟩ := row_at h4 (j := j) (c := c) (by omega) hc
    obtain ⟨x', h5, h6⟩ := B0.cell j _ c x (List.getElem?_eq_getElem (by omega)) hx
    rw [hoff, Nat.zero_add] at h5
    exact ⟨x, x', by rw [List.getElem?_eq_getElem (by omega)]; exact hx, h5, h6⟩
  have cell1 : ∀ c, c < 4 → ∃ x, rw0[c]? = some x ∧ MRel F w x (csv 0 c) := fun c hc => by
    refine ⟨rw0[c], List.getElem?_eq_getElem (by omega), ?_⟩
    subst hrw0
    exact hr2 0 c (by omega) (by omega)
  have one0 : ∀ k v, k < n * 4 → cc[k]? = some v → v.oneCell' = true := fun k v hk hv => by
    obtain ⟨x, x', h5, h6, h7⟩ := cell0 (k / 4) (k % 4) (by omega) (by omega)
    rw [show k / 4 * 4 + k % 4 = k by omega, hv] at h6
    cases h6
    exact h7.one
  let olds := cc.toList.take (i * 4)
  let src := (cc.toList.drop (i * 4)).take ((n - i) * 4)
  let vs : List Value := [csv 0 0, csv 0 1, csv 0 2, csv 0 3]
  have hol : olds.length = i * 4 := by simp only [olds, List.length_take, Array.length_toList]; omega
  have hsl : src.length = (n - i) * 4 := by simp only [src, List.length_take, List.length_drop, Array.length_toList]; omega
  have hvl : vs.length = 4 := rfl
  have oget : ∀ j, j < i * 4 → olds[j]? = cc[j]? := fun j hj => by simp only [olds, List.getElem?_take, if_pos hj, Array.getElem?_toList]
  have sget : ∀ j, j < (n - i) * 4 → src[j]? = cc[i * 4 + j]? := fun j hj => by simp only [src, List.getElem?_take, if_pos hj, List.getElem?_drop, Array.getElem?_toList]
  have vget : ∀ j, j < 4 → vs[j]? = some (csv 0 j) := fun j hj => by
    match j, hj with
    | 0, _ => rfl
    | 1, _ => rfl
    | 2, _ => rfl
    | 3, _ => rfl
  have wc0 : ∀ k, w.cell? ⟨(ρ 0).blk, k, none⟩ = cc[k]? := fun k => cell_of_row w _ k cc 27 (0, 0) B0.obj
  have lt_of : ∀ {l : List Value} {j : Nat} {v : Value}, l[j]? = some v → j < l.length := fun h => (List.getElem?_eq_some_iff.1 h).1
  have hsrc : ∀ j v, src[j]? = some v → w.cell? ⟨(ρ 0).blk, i * 4 + j, none⟩ = some v := fun j v hj => by
    have := lt_of hj
    rw [wc0, ← sget j (by omega)]; exact hj
  have holds : ∀ j v, olds[j]? = some v → w.cell? ⟨(ρ 0).blk, j, none⟩ = some v := fun j v hj => by
    have := lt_of hj
    rw [wc0, ← oget j (by omega)]; exact hj
  have hvs : ∀ j v, vs[j]? = some v → w.cell? ⟨vb, vo + j, none⟩ = some v := fun j v hj => by
    have := lt_of hj
    rw [vget j (by omega)] at hj
    rw [wv j (by omega)]; exact hj
  have h1c : ∀ v ∈ src, v.oneCell' = true := fun v hv => by
    obtain ⟨j, hj⟩ := List.getElem?_of_mem hv
    have := lt_of hj
    rw [sget j (by omega)] at hj
    exact one0 _ v (by omega) hj
  have h1v : ∀ v ∈ vs, v.oneCell' = true := fun v hv => by
    obtain ⟨j, hj⟩ := List.getElem?_of_mem hv
    have := lt_of hj
    rw [vget j (by omega)] at hj
    cases hj
    obtain ⟨x, _, h⟩ := cell1 j (by omega)
    exact h.one
  -- what a row of the result holds
  have hcells : ∀ (R : Array Value), R.toList.take ((n + 1) * 4) = olds ++ (vs ++ src) → ∀ (j : Nat) (row : List AVal) (c : Nat) x, (els.take i ++ (rw0 :: els.drop i))[j]? = some row → row[c]? = some x → ∃ x', R[j * 4 + c]? = some x' ∧ MRel F w x x' := fun R hR j row c x hj hc => by
    have hlen : (els.take i ++ (rw0 :: els.drop i)).length = n + 1 := by simp; omega
    have hjn : j < n + 1 := by rw [← hlen]; exact (List.getElem?_eq_some_iff.1 hj).1
    have key : ∀ k, k < (n + 1) * 4 → R[k]? = (olds ++ (vs ++ src))[k]? := fun k hk => by
      rw [← hR, List.getElem?_take, if_pos hk, Array.getElem?_toList]
    rcases Nat.lt_trichotomy j i with h | h | h
    · rw [List.getElem?_append_left (by simp; omega), List.getElem?_take, if_pos h] at hj
      have hc4 : c < 4 := by rw [← h4 j row hj]; exact (List.getElem?_eq_some_iff.1 hc).1
      obtain ⟨x2, x', h5, h6, h7⟩ := cell0 j c (by omega) hc4
      rw [hj] at h5
      have : x = x2 := Option.some.inj (hc.symm.trans h5)
      subst this
      refine ⟨x', ?_, h7⟩
      rw [key _ (by omega), List.getElem?_append_left (by omega), oget _ (by omega)]
      exact h6
    · subst h
      rw [List.getElem?_append_right (by rw [List.length_take]; omega), show j - (els.take j).length = 0 from (by rw [List.length_take]; omega)] at hj
      have : rw0 = row := by simpa using hj
      subst this
      have hc4 : c < 4 := by rw [← hr4]; exact (List.getElem?_eq_some_iff.1 hc).1
      obtain ⟨x2, h5, h7⟩ := cell1 c hc4
      have : x = x2 := Option.some.inj (hc.symm.trans h5)
      subst this
      refine ⟨_, ?_, h7⟩
      rw [key _ (by omega), List.getElem?_append_right (by omega), hol, show j * 4 + c - j * 4 = c by omega, List.getElem?_append_left (by omega), vget _ hc4]
    · rw [List.getElem?_append_right (by simp; omega), show j - (els.take i).length = (j - i - 1) + 1 from (by rw [List.length_take]; omega), List.getElem?_cons_succ, List.getElem?_drop, show i + (j - i - 1) = j - 1 by omega] at hj
      have hc4 : c < 4 := by rw [← h4 _ row hj]; exact (List.getElem?_eq_some_iff.1 hc).1
      obtain ⟨x2, x', h5, h6, h7⟩ := cell0 (j - 1) c (by omega) hc4
      rw [hj] at h5
      have : x = x2 := Option.some.inj (hc.symm.trans h5)
      subst this
      refine ⟨x', ?_, h7⟩
      rw [key _ (by omega), List.getElem?_append_right (by omega), hol, List.getElem?_append_right (by omega), hvl, sget _ (by omega), show i * 4 + (j * 4 + c - i * 4 - 4) = (j - 1) * 4 + c by omega]
      exact h6
  have hroom : (n + 1) * 32 ≤ 140737488355328 := g4
  have hrows : app (takeN els (Int.ofNat i).toNat) (get 0 :: dropN els (Int.ofNat i).toNat) = els.take i ++ (rw0 :: els.drop i) := by
    rw [app_eq, takeN_eq, dropN_eq, hrw0]
    rfl
  rw [hrows]
  refine ⟨⟨Try.f36, Try.func36, rfl, by decide⟩, ?_⟩
  rcases Nat.lt_or_ge cap (n + 1) with hcap | hcap
  · have k := ins_grow (ρ 0).blk n cap i vb vo cap2 cc 27 w hi hn0 hcap hroom hvb B0.obj hcc olds src vs hol hsl hvl holds hsrc hvs h1c h1v
    refine k.mono fun e w' hk => ?_
    obtain ⟨g, ROW, R1, k1, k2, k3, k4, k5, k6, k7⟩ := hk
    refine ⟨_, k6, ?_⟩
    have hR1s : R1.size = ROW.size := by
      rw [k5]
      simp
      omega
    refine ins_post hH g2 hi hr4 (B := w.heap.size) (cap := g) (R := (R1.toList.take ((i + 1) * 4) ++ src ++ R1.toList.drop ((i + 1) * 4 + src.length)).toArray) k1 k2 (by simp; omega) (.inr rfl) ?_ ?_ ?_ ?_ ?_ ?_ (hcells _ ?_)
    · rw [k7]
      exact setRow_heap _ _ _ _ _ _ (setRow_heap _ _ _ _ _ _ (heap_alloc_new w _))
    · intro k hk hne
      rw [k7, setRow_other _ _ _ _ hne]
      show (World.setRow _ _ _).heap[k]? = _
      rw [setRow_other _ _ _ _ hne]
      exact heap_alloc_old w _ hk
    · rw [k7]; simp only [World.size_setRow', World.size_drew', World.size_alloc']; omega
    · rw [k7]; rfl
    · rw [k7]; rfl
    · rw [k7]; rfl
    · have e6 : R1.toList.take ((i + 1) * 4) = olds ++ vs := by
        rw [k5]
        simp only [k4]
        rw [List.take_append_of_le_length (by simp; omega), List.take_of_length_le (by simp; omega)]
      simp only [e6]
      rw [List.take_append_of_le_length (by simp; omega), List.take_of_length_le (by simp; omega), List.append_assoc]
  · have k := ins_shift (ρ 0).blk n cap i vb vo cap2 cc 27 tv kv w hi hcap (by unfold maxLen at hm0; omega) hvb B0.obj hsh hkv hcc src vs hsl hvl hsrc hvs h1c h1v
    refine k.mono fun e w' hk => ?_
    obtain ⟨k6, R1, k5, k7⟩ := hk
    refine ⟨_, k6, ?_⟩
    have hR1s : R1.size = cc.size := by
      rw [k5]
      simp
      omega
    refine ins_post hH g2 hi hr4 (B := (ρ 0).blk) (cap := cap) (R := (R1.toList.take (i * 4) ++ vs ++ R1.toList.drop (i * 4 + vs.length)).toArray) hcap hm0 (by simp; omega) (.inl rfl) ?_ ?_ ?_ ?_ ?_ ?_ (hcells _ ?_)
    · rw [k7]
      exact setRow_heap _ _ _ _ _ _ (setRow_heap _ _ _ _ _ _ B0.obj)
    · intro k hk hne
      rw [k7, setRow_other _ _ _ _ hne]
      show (World.setRow _ _ _).heap[k]? = _
      rw [setRow_other _ _ _ _ hne]
      rfl
    · rw [k7]; simp only [World.size_setRow', World.size_drew', Nat.le_refl]
    · rw [k7]; rfl
    · rw [k7]; rfl
    · rw [k7]; rfl
    · have e6 : R1.toList.take (i * 4) = olds := by
        rw [k5]
        simp only [List.append_assoc]
        rw [List.take_append_of_le_length (by simp; omega), List.take_take, Nat.min_eq_left (by omega)]
      have e7 : (R1.toList.drop (i * 4 + vs.length)).take ((n - i) * 4) = src := by
        rw [k5, hvl, show i * 4 + 4 = (i + 1) * 4 by omega]
        simp only [List.append_assoc]
        rw [List.drop_append_of_le_length (by simp; omega), List.drop_of_length_le (by simp; omega), List.nil_append, List.take_append_of_le_length (by omega), List.take_of_length_le (by omega)]
      simp only [e6]
      rw [List.append_assoc, List.take_append, List.take_of_length_le (by omega), List.take_append, List.take_of_length_le (by omega)]
      rw [show (n + 1) * 4 - olds.length - vs.length = (n - i) * 4 by omega, e7]
end Go.Ev.W

