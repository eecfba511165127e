/- append, copy (own work). -/
import Derived.Test.YthbcfinnphpcbaaDoorEvMem2
import Derived.Maps.AppendAt
import Derived.Laws.IdiomCopy
namespace Go.Ev
open Go
section
variable {W : Nat → Prop} {ρ : Rho} {H H' : List ABlk} {F : Fz} {w : World} {E : Env} {o : Oper} {a : List AVal} {ac : Act} {x : AVal}

theorem run_append_zero {P : Program} {t e : TypeId} {i : TypeInfo} (ty : TypeId) (ht : P.underlying t = some (.slice e)) (hi : P.info? e = some i) (base xa : Option Addr) (n cap c : Nat) (hn : n ≤ cap) (w : World) :
    (Builtin.append_ #[t, t] ty #[.slice base n cap, .slice xa 0 c]).run P w = .ok (.slice base n cap) w := by
  cases xa <;> cases base <;> simp [Builtin.append_, run_underlying ht, sizeOf, typeInfo, hi, Builtin.lenOf, Builtin.firstCells, hn, storeCells, Go.loadCells, loadCellsFrom]

theorem run_copy_any {P : Program} {dT sT e : TypeId} {i : TypeInfo} (ty : TypeId) (hu : P.underlying dT = some (.slice e)) (hi : P.info? e = some i) (g off dLen dCap : Nat) (x' : Value) (sl : Nat) (cur : Array Value) (t : TypeId) (nv : List Value)
    (hg : w.heap[g]? = some (.cells cur t (0, 0))) (hx : (x' = .slice none 0 0 ∧ sl = 0) ∨ ∃ ad cap, x' = .slice (some ad) sl cap ∧ ∀ j v, nv[j]? = some v → w.cell? (ad.add j) = some v)
    (hl : Nat.min sl dLen * i.size ≤ nv.length) (hfit : off + Nat.min sl dLen * i.size ≤ cur.size) (h1 : ∀ v ∈ nv, v.oneCell' = true) :
    (Builtin.copy_ #[dT, sT] ty #[.slice (some ⟨g, off, none⟩) dLen dCap, x']).run P w = .ok (.int .i64 (Nat.min sl dLen)) (w.setRow g (cur.toList.take off ++ nv.take (Nat.min sl dLen * i.size) ++ cur.toList.drop (off + Nat.min sl dLen * i.size)).toArray) := by
  have hnl : (nv.take (Nat.min sl dLen * i.size)).length = Nat.min sl dLen * i.size := by simp; omega
  have hst := run_storeCells_at (P := P) g off t (nv.take (Nat.min sl dLen * i.size)) 0 cur w hg (by rw [hnl]; simpa using hfit) (fun v hv => h1 v (List.mem_of_mem_take hv))
  simp only [Nat.add_zero, hnl] at hst
  rcases hx with ⟨rfl, rfl⟩ | ⟨ad, cap, rfl, hc⟩
  · have h0 : Nat.min 0 dLen = 0 := by simp
    simp only [h0, Nat.zero_mul, List.take_zero] at hst ⊢
    simp [Builtin.copy_, run_underlying hu, sizeOf, typeInfo, hi, Builtin.lenOf, Builtin.firstCells, hst, goInt]
  · have hlc : (Go.loadCells ad (Nat.min sl dLen * i.size)).run P w = .ok (nv.take (Nat.min sl dLen * i.size)).toArray w := by
      have := run_loadCells_list (P := P) w ad (nv.take (Nat.min sl dLen * i.size)) fun j v hj => by
        rw [List.getElem?_take] at hj
        split at hj
        · exact hc j v hj
        · cases hj
      rwa [hnl] at this
    simp [Builtin.copy_, run_underlying hu, sizeOf, typeInfo, hi, Builtin.lenOf, Builtin.firstCells, hlc, hst, goInt]

theorem run_copy_zero {P : Program} {dT sT e : TypeId} {i : TypeInfo} (ty : TypeId) (hu : P.underlying dT = some (.slice e)) (hi : P.info? e = some i) (ad : Addr) (dLen dCap : Nat) (x' : Value) (sl : Nat)
    (hx : (x' = .slice none 0 0 ∧ sl = 0) ∨ ∃ ad cap, x' = .slice (some ad) sl cap) (hm : Nat.min sl dLen = 0) :
    (Builtin.copy_ #[dT, sT] ty #[.slice (some ad) dLen dCap, x']).run P w = .ok (.int .i64 0) w := by
  rcases hx with ⟨rfl, rfl⟩ | ⟨ad', cap, rfl⟩
  · simp [Builtin.copy_, run_underlying hu, sizeOf, typeInfo, hi, Builtin.lenOf, Builtin.firstCells, goInt, storeCells]
  · simp [Builtin.copy_, run_underlying hu, sizeOf, typeInfo, hi, Builtin.lenOf, Builtin.firstCells, goInt, storeCells, hm, Go.loadCells, loadCellsFrom]

section
variable (hA : ARel ρ H F w a ac.tmps) (hH : HRel W ρ H F w) (hG : GOk E F w)
include hA hH hG

theorem sound_append {t e : TypeId} {y z : Operand} {c : Call} (ho : o.op = .call c) (hcb : c.callee = .builtin .append) (hca : c.args = #[y, z]) (hct : c.argTypes = #[t, t])
    (hu : E.P.underlying t = some (.slice e)) {ei : TypeInfo} (hei : E.P.info? e = some ei) {zv : Value} (hz : ei.zero = some zv) (hzs : zv.cells.size = ei.size) (hes : 0 < ei.size) (hbp : 0 < ei.bytes) (het : e ≠ 0)
    (he : (evalOp E a H (.append e (szT E.P e) (byT E.P e) (cArg y) (cArg z))).run = some (x, H')) : OpGives E.P o ac w (Post W ρ H F w x H') := by
  have hy := evalA_ok hA hG y
  have hzr := evalA_ok hA hG z
  have hes' : szT E.P e = ei.size := by simp [szT, hei]
  have hby : byT E.P e = ei.bytes := by simp [byT, hei]
  rw [hes', hby] at he
  simp only [evalOp, appendA] at he
  cases hel : elemsOf ei.size H (evalA E a (cArg z)) with
  | none => simp [hel] at he
  | some news =>
  simp only [hel, len_eq] at he
  obtain ⟨nv, hN⟩ := elemsOf_ok hH hzr hel
  have hrun : ∀ {r : Value} {w' : World}, (Builtin.append_ #[t, t] o.type #[ac.eval y, ac.eval z]).run E.P w = .ok r w' → (execOp ac.eval o).run E.P w = .ok (.value r) w' := fun {r w'} h => by
    unfold execOp
    simp [ho, hcb, hca, hct, resolve, invoke, builtin, h]
  have hmax : ∀ m, m * ei.bytes ≤ room → m ≤ maxLen := fun m h => by
    have : m ≤ room := Nat.le_trans (Nat.le_mul_of_pos_right m hbp) h
    unfold room at this
    unfold maxLen
    omega
  revert he hy
  generalize evalA E a (cArg y) = p
  intro hy he
  split at he
  · -- nil
    have e0 := inv_v hy
    rcases DT.run_ite_some he with ⟨h0, he⟩ | ⟨h0, he⟩
    · have h0 := Nat.eq_of_beq_eq_true h0
      have he' := Option.some.inj he
      injection he' with e1 e2; subst e1 e2
      have hnil : news = [] := List.eq_nil_of_length_eq_zero h0
      rcases hN.form with ⟨hx, _⟩ | ⟨ad, cap, hx, _, _⟩
      · exact .value (hrun (by rw [e0, hx]; exact run_append_zero _ hu hei none none 0 0 0 (Nat.le_refl _) w)) (.stay hH (.ofv _))
      · exact .value (hrun (by rw [e0, hx, h0]; exact run_append_zero _ hu hei none (some ad) 0 0 cap (Nat.le_refl _) w)) (.stay hH (.ofv _))
    · have h0 : news.length ≠ 0 := Nat.ne_of_beq_eq_false h0
      obtain ⟨hb, he⟩ := DT.run_guard_some he
      have hb : news.length * ei.bytes ≤ room := Nat.le_of_ble_eq_true hb
      have he' := Option.some.inj he
      injection he' with e1 e2; subst e1 e2
      rcases hN.form with ⟨_, hx⟩ | ⟨ad, cap, hx, hsp, hcells⟩
      · simp [hx] at h0
      · obtain ⟨v', w', hr, hown, hgrow, _, hblk⟩ := run_append_own_at (P := E.P) w w.heap.size t o.type e ei zv ei.size ei.bytes hu hei hz rfl rfl hzs hes (.slice none 0 0) 0 [] ⟨by simp, .inl ⟨rfl, rfl⟩⟩
          ad news.length cap nv hN.len hcells hN.one (by rw [Nat.zero_add]; exact hmax _ hb) (by rw [Nat.zero_add]; exact hb) (Nat.le_refl _)
        rcases hown.2 with ⟨_, h1⟩ | ⟨gb, cap', cur, rfl, hbg, hg, hnc, hcm, hcs, htake⟩
        · omega
        have hcur : ∀ (j : Nat) u, nv[j]? = some u → cur[j]? = some u := fun j u hj => by
          have hlt := (List.getElem?_eq_some_iff.1 hj).1
          have h2 : (cur.toList.take ((0 + news.length) * ei.size))[j]? = some u := by rw [htake]; simpa using hj
          rw [List.getElem?_take] at h2
          split at h2
          · simpa using h2
          · cases h2
        obtain ⟨h3, h4⟩ := hH.newAt hgrow.os hgrow.tape hgrow.output hgrow.size (fun k hk => hgrow.block k hk (by simp [Value.ownBlock])) gb hbg e ei.size news cur e hg hN.rows
          (by rw [hcs]; exact Nat.mul_le_mul_right _ (by omega)) (fun i r c u h1 h2 => by obtain ⟨u', h5, h6⟩ := hN.cell i r c u h1 h2; exact ⟨u', hcur _ _ h5, h6⟩) (fun _ => rfl)
        refine .value (hrun (by rw [e0, hx]; exact hr)) ?_
        rw [newBlk_eq]
        refine ⟨_, F, h3, h4, .val (.cell ?_)⟩
        rw [Nat.zero_add]
        refine .sl _ _ _ _ _ _ { et := e, es := ei.size, elems := news, own := true, dead := false, g := 0 } (by simp) rfl (Nat.le_refl _) (by omega) rfl hcm fun _ => ⟨.inr ?_, ?_, by simp⟩
        · simp [ρnew]
        · simp [ρnew, hcs]
  · -- a slice of its own
    rename_i id off n g
    cases hbk : blkAt H id g with
    | none => simp [hbk] at he
    | some b =>
    obtain ⟨hb, hd, hg⟩ := blkAt_some hbk
    simp only [hbk] at he
    cases hc4 : (b.own && Nat.beq off 0 && Nat.beq b.es ei.size && Nat.beq b.et e) with
    | false => simp [hc4] at he
    | true =>
    simp only [hc4] at he
    simp only [Bool.and_eq_true] at hc4
    obtain ⟨⟨⟨hown0, hoff⟩, hbes⟩, hbet⟩ := hc4
    have hoff := Nat.eq_of_beq_eq_true hoff
    have hbes := Nat.eq_of_beq_eq_true hbes
    have hbet := Nat.eq_of_beq_eq_true hbet
    subst hoff
    obtain ⟨ad0, cap0, b', e0, hb', hd', hg', hn, hspot, hcm0, hh⟩ := inv_sl hy
    have : b' = b := Option.some.inj (hb'.symm.trans hb)
    subst this
    obtain ⟨h3, h4, h5⟩ := hh hg
    rcases DT.run_ite_some he with ⟨h0, he⟩ | ⟨h0, he⟩
    · have h0 := Nat.eq_of_beq_eq_true h0
      have he' := Option.some.inj he
      injection he' with e1 e2; subst e1 e2
      rcases hN.form with ⟨hx, _⟩ | ⟨ad, cap, hx, _, _⟩
      · exact .value (x' := ac.eval y) (hrun (by rw [e0, hx]; exact run_append_zero _ hu hei (some ad0) none n cap0 0 hn w)) (.stay hH hy)
      · exact .value (x' := ac.eval y) (hrun (by rw [e0, hx, h0]; exact run_append_zero _ hu hei (some ad0) (some ad) n cap0 cap hn w)) (.stay hH hy)
    · have h0 : news.length ≠ 0 := Nat.ne_of_beq_eq_false h0
      obtain ⟨hbb, he⟩ := DT.run_guard_some he
      simp only [Bool.and_eq_true] at hbb
      obtain ⟨hnl, hbb⟩ := hbb
      have hnl := Nat.eq_of_beq_eq_true hnl
      have hbb : (n + news.length) * ei.bytes ≤ room := Nat.le_of_ble_eq_true hbb
      have he' := Option.some.inj he
      injection he' with e1 e2; subst e1 e2
      rw [setAt_eq, app_eq]
      rcases hN.form with ⟨_, hx⟩ | ⟨ad, cap, hx, hsp, hcells⟩
      · simp [hx] at h0
      obtain ⟨cc, tt, fr, hB⟩ := hH.blk id b' hb hd
      obtain ⟨hfr, hW, hoff0, hsize, hnF, htt⟩ := hB.own hown0
      subst hfr
      have htt' : tt = e := by rw [← hbet]; exact htt (by rw [hbet]; exact het)
      have had : ad0 = ⟨(ρ id).blk, 0, none⟩ := by
        have := h3.resolve_left (by omega)
        rw [this, hoff0]; simp
      have hcap : cap0 * ei.size = cc.size := by rw [← hsize, ← h4, hbes]; simp
      have hxl : (cc.toList.take (n * ei.size)).length = n * ei.size := by
        have : n * ei.size ≤ cap0 * ei.size := Nat.mul_le_mul_right _ hn
        simp; omega
      obtain ⟨v', w', hr, hown, hgrow, _, hblk⟩ := run_append_own_at (P := E.P) w 0 t o.type e ei zv ei.size ei.bytes hu hei hz rfl rfl hzs hes (.slice (some ⟨(ρ id).blk, 0, none⟩) n cap0) n (cc.toList.take (n * ei.size))
        ⟨hxl, .inr ⟨(ρ id).blk, cap0, cc, rfl, Nat.zero_le _, by rw [← htt']; exact hB.obj, hn, hcm0, hcap.symm, rfl⟩⟩
        ad news.length cap nv hN.len hcells hN.one (hmax _ hbb) hbb (Nat.zero_le _)
      rcases hown.2 with ⟨_, h1⟩ | ⟨gb, cap', cur, rfl, _, hgo, hnc, hcm, hcs, htake⟩
      · omega
      have hgb : gb = (ρ id).blk ∨ w.heap.size ≤ gb := by
        rcases hblk with h | h <;> simp [Value.ownBlock] at h <;> omega
      have hcur : ∀ (j : Nat) u, (cc.toList.take (n * ei.size) ++ nv)[j]? = some u → cur[j]? = some u := fun j u hj => by
        rw [← htake, List.getElem?_take] at hj
        split at hj
        · simpa using hj
        · cases hj
      have hoffz : (ρ id).off = 0 := hoff0
      obtain ⟨h6, h7⟩ := hH.moveAt id b' { b' with elems := b'.elems ++ news, g := g + 1 } hb hd hown0 hgrow.os hgrow.tape hgrow.output hgrow.size
        (fun k hk hne => hgrow.block k hk (by simp [Value.ownBlock]; exact hne)) gb hgb cur e hgo hown0 hd (by simp; omega) (fun _ => hbet.symm)
        (fun i r hr => by
          simp only at hr ⊢
          rcases Nat.lt_or_ge i b'.elems.length with hi | hi
          · rw [List.getElem?_append_left hi] at hr; exact hB.rows i r hr
          · rw [List.getElem?_append_right hi] at hr; rw [hbes]; exact hN.rows _ r hr)
        (by simp only [List.length_append]; rw [hbes, hcs, ← hnl]; exact Nat.mul_le_mul_right _ hnc)
        (fun i r k u hr hu => by
          simp only at hr ⊢
          rcases Nat.lt_or_ge i b'.elems.length with hi | hi
          · rw [List.getElem?_append_left hi] at hr
            obtain ⟨u', h8, h9⟩ := hB.cell i r k u hr hu
            rw [hoffz, Nat.zero_add] at h8
            have hk : k < ei.size := by rw [← hbes, ← hB.rows i r hr]; exact (List.getElem?_eq_some_iff.1 hu).1
            have hlt : i * b'.es + k < n * ei.size := by
              have := Nat.mul_le_mul_right ei.size (show i + 1 ≤ n by omega)
              rw [Nat.add_mul, Nat.one_mul] at this
              rw [hbes]; omega
            refine ⟨u', hcur _ _ ?_, h9⟩
            rw [List.getElem?_append_left (by omega), List.getElem?_take, if_pos hlt]
            simpa using h8
          · rw [List.getElem?_append_right hi] at hr
            obtain ⟨u', h8, h9⟩ := hN.cell _ r k u hr hu
            refine ⟨u', hcur _ _ ?_, h9⟩
            have e9 : i * b'.es = n * ei.size + (i - b'.elems.length) * ei.size := by rw [← Nat.add_mul, hbes]; congr 1; omega
            rw [List.getElem?_append_right (by omega), hxl, show i * b'.es + k - n * ei.size = (i - b'.elems.length) * ei.size + k by omega]
            exact h8)
      have hid : id < H.length := (List.getElem?_eq_some_iff.1 hb).1
      refine .value (hrun (by rw [e0, had, hx]; exact hr)) ⟨_, F, h6, h7, .val (.cell (.sl _ _ _ _ _ _ { b' with elems := b'.elems ++ news, g := g + 1 } (by simp [hid]) hd (Nat.le_refl _) hnc rfl hcm fun _ => ⟨.inr ?_, ?_, by simp; omega⟩))⟩
      · simp [ρset]
      · simp only [ρset, if_true, Nat.zero_add, hbes, hcs]
  · cases he

theorem sound_copy {dT sT e : TypeId} {y z : Operand} {c : Call} (ho : o.op = .call c) (hcb : c.callee = .builtin .copy) (hca : c.args = #[y, z]) (hct : c.argTypes = #[dT, sT])
    (hu : E.P.underlying dT = some (.slice e)) {ei : TypeInfo} (hei : E.P.info? e = some ei)
    (he : (evalOp E a H (.copy (szT E.P e) (cArg y) (cArg z))).run = some (x, H')) : OpGives E.P o ac w (Post W ρ H F w x H') := by
  have hy := evalA_ok hA hG y
  have hzr := evalA_ok hA hG z
  have hes' : szT E.P e = ei.size := by simp [szT, hei]
  rw [hes'] at he
  simp only [evalOp] at he
  have he := opt2_run he
  have hrun : ∀ {r : Value} {w' : World}, (Builtin.copy_ #[dT, sT] o.type #[ac.eval y, ac.eval z]).run E.P w = .ok r w' → (execOp ac.eval o).run E.P w = .ok (.value r) w' := fun {r w'} h => by
    unfold execOp
    simp [ho, hcb, hca, hct, resolve, invoke, builtin, h]
  revert he hy
  generalize evalA E a (cArg y) = p
  intro hy he
  unfold copyA at he
  split at he
  · rename_i id off n g
    cases hbk : blkAt H id g with
    | none => simp [hbk] at he
    | some b =>
    obtain ⟨hb, hd, hg⟩ := blkAt_some hbk
    simp only [hbk] at he
    cases hel : elemsOf ei.size H (evalA E a (cArg z)) with
    | none => simp [hel] at he
    | some news =>
    simp only [hel] at he
    cases hc4 : (b.own && Nat.beq b.es ei.size) with
    | false => simp [hc4] at he
    | true =>
    simp only [hc4] at he
    simp only [Bool.and_eq_true] at hc4
    obtain ⟨hown, hbes⟩ := hc4
    have hbes := Nat.eq_of_beq_eq_true hbes
    injection he with he; injection he with e1 e2; subst e1 e2
    rw [setAt_eq, app_eq, app_eq, takeN_eq, takeN_eq, dropN_eq, len_eq]
    obtain ⟨nv, hN⟩ := elemsOf_ok hH hzr hel
    obtain ⟨ad, cap, b', e0, hb', hd', hg', hn, hspot, hcm0, hh⟩ := inv_sl hy
    have : b' = b := Option.some.inj (hb'.symm.trans hb)
    subst this
    obtain ⟨h3, h4, h5⟩ := hh hg
    obtain ⟨cc, tt, fr, hB⟩ := hH.blk id b' hb hd
    obtain ⟨hfr, hW, hoff0, hsize, hnF, htt⟩ := hB.own hown
    subst hfr
    have hmn : Nat.min news.length n ≤ news.length := Nat.min_le_left _ _
    have hmd : Nat.min news.length n ≤ n := Nat.min_le_right _ _
    generalize hm : Nat.min news.length n = m at *
    have hid : id < H.length := (List.getElem?_eq_some_iff.1 hb).1
    have hlenB := hB.len
    have hfit : off * ei.size + m * ei.size ≤ cc.size := by
      have h8 : (off + n) * ei.size ≤ b'.elems.length * b'.es := by rw [hbes]; exact Nat.mul_le_mul_right _ h5
      have h9 : m * ei.size ≤ n * ei.size := Nat.mul_le_mul_right _ hmd
      rw [Nat.add_mul] at h8
      omega
    have hnvl : m * ei.size ≤ nv.length := by rw [hN.len]; exact Nat.mul_le_mul_right _ hmn
    have hxf : (ac.eval z = .slice none 0 0 ∧ news.length = 0) ∨ ∃ ad cap, ac.eval z = .slice (some ad) news.length cap ∧ ∀ j v, nv[j]? = some v → w.cell? (ad.add j) = some v := by
      rcases hN.form with ⟨h1, h2⟩ | ⟨ad, cap, h1, _, h2⟩
      · exact .inl ⟨h1, by simp [h2]⟩
      · exact .inr ⟨ad, cap, h1, h2⟩
    rcases Nat.eq_zero_or_pos m with hm0 | hm0
    · subst hm0
      have hxf' : (ac.eval z = .slice none 0 0 ∧ news.length = 0) ∨ ∃ ad cap, ac.eval z = .slice (some ad) news.length cap := by
        rcases hxf with h | ⟨ad, cap, h, _⟩
        · exact .inl h
        · exact .inr ⟨ad, cap, h⟩
      have hr := run_copy_zero (P := E.P) (w := w) (dT := dT) (sT := sT) o.type hu hei ad n cap (ac.eval z) news.length hxf' hm
      have hset : H.set id { b' with elems := b'.elems.take off ++ (news.take 0 ++ b'.elems.drop (off + 0)) } = H := by
        have : ({ b' with elems := b'.elems.take off ++ (news.take 0 ++ b'.elems.drop (off + 0)) } : ABlk) = b' := by
          simp
        rw [this]
        apply List.ext_getElem?
        intro k
        rcases Nat.lt_or_ge k H.length with hk | hk
        · by_cases e : id = k
          · subst e; rw [List.getElem?_set_self hk, hb]
          · rw [List.getElem?_set_ne e]
        · rw [List.getElem?_eq_none hk, List.getElem?_eq_none (by simpa using hk)]
      rw [hset]
      exact .value (hrun (by rw [e0]; exact hr)) (.stay hH (.ofv _))
    · have had : ad = ⟨(ρ id).blk, off * ei.size, none⟩ := by
        have := h3.resolve_left (by omega)
        rw [this, hoff0, hbes]; simp
      have hr := run_copy_any (P := E.P) (w := w) (dT := dT) (sT := sT) o.type hu hei (ρ id).blk (off * ei.size) n cap (ac.eval z) news.length cc tt nv hB.obj hxf (by rw [hm]; exact hnvl) (by rw [hm]; exact hfit) hN.one
      rw [hm] at hr
      have hnvt : (nv.take (m * ei.size)).length = m * ei.size := by simp; omega
      have hmul : ∀ i k, k < ei.size → i < b'.elems.length → i * ei.size + k < cc.size := fun i k hk hi => by
        have := Nat.mul_le_mul_right ei.size (show i + 1 ≤ b'.elems.length from hi)
        rw [Nat.add_mul, Nat.one_mul] at this
        rw [hbes] at hlenB
        omega
      have hel2 : (b'.elems.take off ++ (news.take m ++ b'.elems.drop (off + m))).length = b'.elems.length := by simp; omega
      have hget : ∀ (i : Nat) r, (b'.elems.take off ++ (news.take m ++ b'.elems.drop (off + m)))[i]? = some r → (off ≤ i ∧ i < off + m ∧ news[i - off]? = some r) ∨ ((i < off ∨ off + m ≤ i) ∧ b'.elems[i]? = some r) := fun i r hr => by
        rcases Nat.lt_or_ge i off with hi | hi
        · rw [List.getElem?_append_left (by simp; omega), List.getElem?_take, if_pos hi] at hr
          exact .inr ⟨.inl hi, hr⟩
        · rw [List.getElem?_append_right (by simp; omega)] at hr
          have e9 : i - (b'.elems.take off).length = i - off := by simp; omega
          rw [e9] at hr
          rcases Nat.lt_or_ge i (off + m) with hi2 | hi2
          · rw [List.getElem?_append_left (by simp; omega), List.getElem?_take, if_pos (by omega)] at hr
            exact .inl ⟨hi, hi2, hr⟩
          · rw [List.getElem?_append_right (by simp; omega), List.getElem?_drop] at hr
            have e10 : off + m + (i - off - (news.take m).length) = i := by simp; omega
            rw [e10] at hr
            exact .inr ⟨.inr hi2, hr⟩
      obtain ⟨h6, h7⟩ := hH.rewrite id b' { b' with elems := b'.elems.take off ++ (news.take m ++ b'.elems.drop (off + m)) } hb hd hown cc tt hB
        (cc.toList.take (off * ei.size) ++ nv.take (m * ei.size) ++ cc.toList.drop (off * ei.size + m * ei.size)).toArray
        (by simp; omega) rfl rfl hown hd (Nat.le_refl _) (fun _ => by simp only; omega) (by simp only; rw [hel2]; exact hlenB)
        (fun i r hr => by
          rcases hget i r hr with ⟨h1, h2, h8⟩ | ⟨_, h8⟩
          · rw [hbes]; exact hN.rows _ r h8
          · exact hB.rows i r h8)
        (fun i r k u hr hu => by
          have hsa := splice_arr (l := cc) (new := nv.take (m * ei.size)) (c := off * ei.size) (k := i * b'.es + k) (by rw [hnvt]; exact hfit)
          rw [hnvt] at hsa
          rw [hsa, hbes]
          rcases hget i r hr with ⟨h1, h2, h8⟩ | ⟨h1, h8⟩
          · have hk : k < ei.size := by rw [← hN.rows _ r h8]; exact (List.getElem?_eq_some_iff.1 hu).1
            obtain ⟨u', h9, h10⟩ := hN.cell _ r k u h8 hu
            have e11 : i * ei.size = off * ei.size + (i - off) * ei.size := by rw [← Nat.add_mul]; congr 1; omega
            have e12 : (i - off) * ei.size + k < m * ei.size := by
              have := Nat.mul_le_mul_right ei.size (show i - off + 1 ≤ m by omega)
              rw [Nat.add_mul, Nat.one_mul] at this
              omega
            rw [if_pos (by omega)]
            refine ⟨u', ?_, h10⟩
            rw [show i * ei.size + k - off * ei.size = (i - off) * ei.size + k by omega, List.getElem?_take, if_pos e12]
            exact h9
          · have hk : k < ei.size := by rw [← hbes, ← hB.rows _ r h8]; exact (List.getElem?_eq_some_iff.1 hu).1
            obtain ⟨u', h9, h10⟩ := hB.cell i r k u h8 hu
            rw [hoff0, Nat.zero_add, hbes] at h9
            have hnot : ¬ (off * ei.size ≤ i * ei.size + k ∧ i * ei.size + k < off * ei.size + m * ei.size) := by
              rcases h1 with h1 | h1
              · have := Nat.mul_le_mul_right ei.size (show i + 1 ≤ off from h1)
                rw [Nat.add_mul, Nat.one_mul] at this
                omega
              · have := Nat.mul_le_mul_right ei.size h1
                rw [Nat.add_mul] at this
                omega
            rw [if_neg hnot]
            exact ⟨u', h9, h10⟩)
      exact .value (hrun (by rw [e0, had]; exact hr)) ⟨ρ, F, h6, h7, .ofv _⟩
  · cases he

end
end
end Go.Ev
