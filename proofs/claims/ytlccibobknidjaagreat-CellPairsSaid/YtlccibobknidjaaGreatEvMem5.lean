/- Own work: a part of the proof. -/
import Derived.Test.YtlccibobknidjaaGreatEvMem2
import Derived.Maps.AppendAt
import Derived.Laws.IdiomCopy
set_option linter.unusedVariables false
set_option linter.unusedSimpArgs false
set_option linter.unnecessarySimpa false
set_option linter.unusedSectionVars false
namespace Go.Ev
open Go
section
variable {W : Nat → Prop} {ρ : Rho} {H H' : List b8} {F : Fz} {w : World} {E : Env} {o : Oper} {a : List b7} {ac : Act} {x : b7}
theorem ca5 {P : Program} {t e : TypeId} {i : TypeInfo} (ty : TypeId) (ht : P.underlying t = some (.slice e)) (hi : P.info? e = some i) (base xa : Option Addr) (n cap c : Nat) (hn : n ≤ cap) (w : World) :
  (Builtin.append_ #[t, t] ty #[.slice base n cap, .slice xa 0 c]).run P w = .ok (.slice base n cap) w := by
 cases xa <;> cases base <;> simp [Builtin.append_, run_underlying ht, sizeOf, typeInfo, hi, Builtin.lenOf, Builtin.firstCells, hn, storeCells, Go.loadCells, loadCellsFrom]
theorem Oc7 {P : Program} {dT sT e : TypeId} {i : TypeInfo} (ty : TypeId) (hu : P.underlying dT = some (.slice e)) (hi : P.info? e = some i) (g off dLen dCap : Nat) (x' : Value) (sl : Nat) (cur : Array Value) (t : TypeId) (nv : List Value)
  (hg : w.heap[g]? = some (.cells cur t (0, 0))) (hx : (x' = .slice none 0 0 ∧ sl = 0) ∨ ∃ ad cap, x' = .slice (some ad) sl cap ∧ ∀ j v, nv[j]? = some v → w.cell? (ad.add j) = some v)
  (hl : Nat.min sl dLen * i.size ≤ nv.length) (hfit : off + Nat.min sl dLen * i.size ≤ cur.size) (h1 : ∀ v ∈ nv, v.oneCell' = true) :
  (Builtin.copy_ #[dT, sT] ty #[.slice (some ⟨g, off, none⟩) dLen dCap, x']).run P w = .ok (.int .i64 (Nat.min sl dLen)) (w.setRow g (cur.toList.take off ++ nv.take (Nat.min sl dLen * i.size) ++ cur.toList.drop (off + Nat.min sl dLen * i.size)).toArray) := by
 have hnl : (nv.take (Nat.min sl dLen * i.size)).length = Nat.min sl dLen * i.size := by simp; omega
 have hst := run_storeCells_at (P := P) g off t (nv.take (Nat.min sl dLen * i.size)) 0 cur w hg (by rw [hnl]; simpa using hfit) (fun v hv => h1 v (List.mem_of_mem_take hv))
 simp only [Nat.add_zero, hnl] at hst
 rcases hx with ⟨rfl, rfl⟩ | ⟨ad, cap, rfl, hc⟩
 ·have h0 : Nat.min 0 dLen = 0 := by simp
  simp only [h0, Nat.zero_mul, List.take_zero] at hst ⊢
  simp [Builtin.copy_, run_underlying hu, sizeOf, typeInfo, hi, Builtin.lenOf, Builtin.firstCells, hst, goInt]
 ·have hlc : (Go.loadCells ad (Nat.min sl dLen * i.size)).run P w = .ok (nv.take (Nat.min sl dLen * i.size)).toArray w := by
   have := run_loadCells_list (P := P) w ad (nv.take (Nat.min sl dLen * i.size)) fun j v hj => by
    rw [List.getElem?_take] at hj
    split at hj
    ·exact hc j v hj
    ·cases hj
   rwa [hnl] at this
  simp [Builtin.copy_, run_underlying hu, sizeOf, typeInfo, hi, Builtin.lenOf, Builtin.firstCells, hlc, hst, goInt]
theorem Bc9 {P : Program} {dT sT e : TypeId} {i : TypeInfo} (ty : TypeId) (hu : P.underlying dT = some (.slice e)) (hi : P.info? e = some i) (ad : Addr) (dLen dCap : Nat) (x' : Value) (sl : Nat)
  (hx : (x' = .slice none 0 0 ∧ sl = 0) ∨ ∃ ad cap, x' = .slice (some ad) sl cap) (hm : Nat.min sl dLen = 0) :
  (Builtin.copy_ #[dT, sT] ty #[.slice (some ad) dLen dCap, x']).run P w = .ok (.int .i64 0) w := by
 rcases hx with ⟨rfl, rfl⟩ | ⟨ad', cap, rfl⟩
 ·simp [Builtin.copy_, run_underlying hu, sizeOf, typeInfo, hi, Builtin.lenOf, Builtin.firstCells, goInt, storeCells]
 ·simp [Builtin.copy_, run_underlying hu, sizeOf, typeInfo, hi, Builtin.lenOf, Builtin.firstCells, goInt, storeCells, hm, Go.loadCells, loadCellsFrom]
section
variable (hA : la1 ρ H F w a ac.tmps) (hH : s5 W ρ H F w) (hG : GOk E F w)
include hA hH hG
theorem Oc8 {t e : TypeId} {y z : Operand} {c : Call} (ho : o.op = .call c) (hcb : c.callee = .builtin .append) (hca : c.args = #[y, z]) (hct : c.argTypes = #[t, t])
  (hu : E.P.underlying t = some (.slice e)) {ei : TypeInfo} (hei : E.P.info? e = some ei) {zv : Value} (hz : ei.zero = some zv) (hzs : zv.cells.size = ei.size) (hes : 0 < ei.size) (hbp : 0 < ei.bytes) (het : e ≠ 0)
  (he : (evalOp E a H (.append e (szT E.P e) (byT E.P e) (g8 y) (g8 z))).run = some (x, H')) : j6 E.P o ac w (L9 W ρ H F w x H') := by
 have hy := l7 hA hG y
 have hzr := l7 hA hG z
 have hes' : szT E.P e = ei.size := by simp [szT, hei]
 have hby : byT E.P e = ei.bytes := by simp [byT, hei]
 rw [hes', hby] at he
 simp only [evalOp, appendA] at he
 cases hel : elemsOf ei.size H (c7 E a (g8 z)) with
 | none => simp [hel] at he
 | some news =>
 simp only [hel, l6] at he
 obtain ⟨nv, hN⟩ := Lb4 hH hzr hel
 have hrun : ∀ {r : Value} {w' : World}, (Builtin.append_ #[t, t] o.type #[ac.eval y, ac.eval z]).run E.P w = .ok r w' → (execOp ac.eval o).run E.P w = .ok (.value r) w' := fun {r w'} h => by
  unfold execOp
  simp [ho, hcb, hca, hct, resolve, invoke, builtin, h]
 have hmax : ∀ m, m * ei.bytes ≤ room → m ≤ maxLen := fun m h => by
  have : m ≤ room := Nat.le_trans (Nat.le_mul_of_pos_right m hbp) h
  unfold room at this
  unfold maxLen
  omega
 revert he hy
 generalize c7 E a (g8 y) = p
 intro hy he
 split at he
 ·-- nil
  have e0 := Z1 hy
  rcases DT.run_ite_some he with ⟨h0, he⟩ | ⟨h0, he⟩
  ·have h0 := Nat.eq_of_beq_eq_true h0
   have he' := Option.some.inj he
   injection he' with e1 e2; subst e1 e2
   have hnil : news = [] := List.eq_nil_of_length_eq_zero h0
   rcases hN.form with ⟨hx, _⟩ | ⟨ad, cap, hx, _, _⟩
   ·exact .value (hrun (by rw [e0, hx]; exact ca5 _ hu hei none none 0 0 0 (Nat.le_refl _) w)) (.stay hH (.ofv _))
   ·exact .value (hrun (by rw [e0, hx, h0]; exact ca5 _ hu hei none (some ad) 0 0 cap (Nat.le_refl _) w)) (.stay hH (.ofv _))
  ·have h0 : news.length ≠ 0 := Nat.ne_of_beq_eq_false h0
   obtain ⟨hb, he⟩ := DT.run_guard_some he
   have hb : news.length * ei.bytes ≤ room := Nat.le_of_ble_eq_true hb
   have he' := Option.some.inj he
   injection he' with e1 e2; subst e1 e2
   rcases hN.form with ⟨_, hx⟩ | ⟨ad, cap, hx, hsp, hcells⟩
   ·simp [hx] at h0
   ·obtain ⟨v', w', hr, hown, hgrow, _, hblk⟩ := run_append_own_at (P := E.P) w w.heap.size t o.type e ei zv ei.size ei.bytes hu hei hz rfl rfl hzs hes (.slice none 0 0) 0 [] ⟨by simp, .inl ⟨rfl, rfl⟩⟩
     ad news.length cap nv hN.len hcells hN.one (by rw [Nat.zero_add]; exact hmax _ hb) (by rw [Nat.zero_add]; exact hb) (Nat.le_refl _)
    rcases hown.2 with ⟨_, h1⟩ | ⟨gb, cap', cur, rfl, hbg, hg, hnc, hcm, hcs, htake⟩
    ·omega
    have hcur : ∀ (j : Nat) u, nv[j]? = some u → cur[j]? = some u := fun j u hj => by
     have hlt := (List.getElem?_eq_some_iff.1 hj).1
     have h2 : (cur.toList.take ((0 + news.length) * ei.size))[j]? = some u := by rw [htake]; simpa using hj
     rw [List.getElem?_take] at h2
     split at h2
     ·simpa using h2
     ·cases h2
    obtain ⟨h3, h4⟩ := hH.newAt hgrow.os hgrow.tape hgrow.output (Ic0 _ _ _ hr) hgrow.size (fun k hk => hgrow.block k hk (by simp [Value.ownBlock])) gb hbg e ei.size news cur e hg hN.rows
     (by rw [hcs]; exact Nat.mul_le_mul_right _ (by omega)) (fun i r c u h1 h2 => by obtain ⟨u', h5, h6⟩ := hN.cell i r c u h1 h2; exact ⟨u', hcur _ _ h5, h6⟩) (fun _ => rfl)
    refine .value (hrun (by rw [e0, hx]; exact hr)) ?_
    rw [Zb1]
    refine ⟨_, F, h3, h4, .val (.cell ?_)⟩
    rw [Nat.zero_add]
    refine .sl _ _ _ _ _ _ { et := e, es := ei.size, elems := news, own := true, dead := false, g := 0 } (by simp) rfl (Nat.le_refl _) (by omega) rfl hcm fun _ => ⟨.inr ?_, ?_, by simp⟩
    ·simp [ρnew]
    ·simp [ρnew, hcs]
 ·-- a slice of its own
  rename_i id off n g
  cases hbk : blkAt H id g with
  | none => simp [hbk] at he
  | some b =>
  obtain ⟨hb, hd, hg⟩ := r9 hbk
  simp only [hbk] at he
  cases hc4 : (b.own && Nat.beq off 0 && Nat.beq b.es ei.size && Nat.beq b.et e) with
  | false => simp [hc4] at he
  | true =>
  simp only [hc4] at he
  simp only [Bool.and_eq_true] at hc4
  obtain ⟨⟨⟨hown0, hoff⟩, hbes⟩, hbet⟩ := hc4
  have hoff := Nat.eq_of_beq_eq_true hoff
  have hbes := Nat.eq_of_beq_eq_true hbes
  have hbet := Nat.eq_of_beq_eq_true hbet
  subst hoff
  obtain ⟨ad0, cap0, b', e0, hb', hd', hg', hn, hspot, hcm0, hh⟩ := Ba7 hy
  have : b' = b := Option.some.inj (hb'.symm.trans hb)
  subst this
  obtain ⟨h3, h4, h5⟩ := hh hg
  rcases DT.run_ite_some he with ⟨h0, he⟩ | ⟨h0, he⟩
  ·have h0 := Nat.eq_of_beq_eq_true h0
   have he' := Option.some.inj he
   injection he' with e1 e2; subst e1 e2
   rcases hN.form with ⟨hx, _⟩ | ⟨ad, cap, hx, _, _⟩
   ·exact .value (x' := ac.eval y) (hrun (by rw [e0, hx]; exact ca5 _ hu hei (some ad0) none n cap0 0 hn w)) (.stay hH hy)
   ·exact .value (x' := ac.eval y) (hrun (by rw [e0, hx, h0]; exact ca5 _ hu hei (some ad0) (some ad) n cap0 cap hn w)) (.stay hH hy)
  ·have h0 : news.length ≠ 0 := Nat.ne_of_beq_eq_false h0
   obtain ⟨hbb, he⟩ := DT.run_guard_some he
   simp only [Bool.and_eq_true] at hbb
   obtain ⟨hnl, hbb⟩ := hbb
   have hnl := Nat.eq_of_beq_eq_true hnl
   have hbb : (n + news.length) * ei.bytes ≤ room := Nat.le_of_ble_eq_true hbb
   have he' := Option.some.inj he
   injection he' with e1 e2; subst e1 e2
   rw [z6, C0]
   rcases hN.form with ⟨_, hx⟩ | ⟨ad, cap, hx, hsp, hcells⟩
   ·simp [hx] at h0
   obtain ⟨cc, tt, fr, hB⟩ := hH.blk id b' hb hd
   obtain ⟨hfr, hW, hoff0, hsize, hnF, htt⟩ := hB.own hown0
   subst hfr
   have htt' : tt = e := by rw [← hbet]; exact htt (by rw [hbet]; exact het)
   have had : ad0 = ⟨(ρ id).blk, 0, none⟩ := by
    have := h3.resolve_left (by omega)
    rw [this, hoff0]; simp
   have hcap : cap0 * ei.size = cc.size := by rw [← hsize, ← h4, hbes]; simp
   have hxl : (cc.toList.take (n * ei.size)).length = n * ei.size := by
    have : n * ei.size ≤ cap0 * ei.size := Nat.mul_le_mul_right _ hn
    simp; omega
   obtain ⟨v', w', hr, hown, hgrow, _, hblk⟩ := run_append_own_at (P := E.P) w 0 t o.type e ei zv ei.size ei.bytes hu hei hz rfl rfl hzs hes (.slice (some ⟨(ρ id).blk, 0, none⟩) n cap0) n (cc.toList.take (n * ei.size))
    ⟨hxl, .inr ⟨(ρ id).blk, cap0, cc, rfl, Nat.zero_le _, by rw [← htt']; exact hB.obj, hn, hcm0, hcap.symm, rfl⟩⟩
    ad news.length cap nv hN.len hcells hN.one (hmax _ hbb) hbb (Nat.zero_le _)
   rcases hown.2 with ⟨_, h1⟩ | ⟨gb, cap', cur, rfl, _, hgo, hnc, hcm, hcs, htake⟩
   ·omega
   have hgb : gb = (ρ id).blk ∨ w.heap.size ≤ gb := by
    rcases hblk with h | h <;> simp [Value.ownBlock] at h <;> omega
   have hcur : ∀ (j : Nat) u, (cc.toList.take (n * ei.size) ++ nv)[j]? = some u → cur[j]? = some u := fun j u hj => by
    rw [← htake, List.getElem?_take] at hj
    split at hj
    ·simpa using hj
    ·cases hj
   have hoffz : (ρ id).off = 0 := hoff0
   obtain ⟨h6, h7⟩ := hH.moveAt id b' { b' with elems := b'.elems ++ news, g := g + 1 } hb hd hown0 hgrow.os hgrow.tape hgrow.output (Ic0 _ _ _ hr) hgrow.size
    (fun k hk hne => hgrow.block k hk (by simp [Value.ownBlock]; exact hne)) gb hgb cur e hgo hown0 hd (by simp; omega) (fun _ => hbet.symm)
    (fun i r hr => by
     simp only at hr ⊢
     rcases Nat.lt_or_ge i b'.elems.length with hi | hi
     ·rw [List.getElem?_append_left hi] at hr; exact hB.rows i r hr
     ·rw [List.getElem?_append_right hi] at hr; rw [hbes]; exact hN.rows _ r hr)
    (by simp only [List.length_append]; rw [hbes, hcs, ← hnl]; exact Nat.mul_le_mul_right _ hnc)
    (fun i r k u hr hu => by
     simp only at hr ⊢
     rcases Nat.lt_or_ge i b'.elems.length with hi | hi
     ·rw [List.getElem?_append_left hi] at hr
      obtain ⟨u', h8, h9⟩ := hB.cell i r k u hr hu
      rw [hoffz, Nat.zero_add] at h8
      have hk : k < ei.size := by rw [← hbes, ← hB.rows i r hr]; exact (List.getElem?_eq_some_iff.1 hu).1
      have hlt : i * b'.es + k < n * ei.size := by
       have := Nat.mul_le_mul_right ei.size (show i + 1 ≤ n by omega)
       rw [Nat.add_mul, Nat.one_mul] at this
       rw [hbes]; omega
      refine ⟨u', hcur _ _ ?_, h9⟩
      rw [List.getElem?_append_left (by omega), List.getElem?_take, if_pos hlt]
      simpa using h8
     ·rw [List.getElem?_append_right hi] at hr
      obtain ⟨u', h8, h9⟩ := hN.cell _ r k u hr hu
      refine ⟨u', hcur _ _ ?_, h9⟩
      have e9 : i * b'.es = n * ei.size + (i - b'.elems.length) * ei.size := by rw [← Nat.add_mul, hbes]; congr 1; omega
      rw [List.getElem?_append_right (by omega), hxl, show i * b'.es + k - n * ei.size = (i - b'.elems.length) * ei.size + k by omega]
      exact h8)
   have hid : id < H.length := (List.getElem?_eq_some_iff.1 hb).1
   refine .value (hrun (by rw [e0, had, hx]; exact hr)) ⟨_, F, h6, h7, .val (.cell (.sl _ _ _ _ _ _ { b' with elems := b'.elems ++ news, g := g + 1 } (by simp [hid]) hd (Nat.le_refl _) hnc rfl hcm fun _ => ⟨.inr ?_, ?_, by simp; omega⟩))⟩
   ·simp [ρset]
   ·simp only [ρset, if_true, Nat.zero_add, hbes, hcs]
 ·cases he
theorem md4 {dT sT e : TypeId} {y z : Operand} {c : Call} (ho : o.op = .call c) (hcb : c.callee = .builtin .copy) (hca : c.args = #[y, z]) (hct : c.argTypes = #[dT, sT])
  (hu : E.P.underlying dT = some (.slice e)) {ei : TypeInfo} (hei : E.P.info? e = some ei)
  (he : (evalOp E a H (.copy (szT E.P e) (g8 y) (g8 z))).run = some (x, H')) : j6 E.P o ac w (L9 W ρ H F w x H') := by
 have hy := l7 hA hG y
 have hzr := l7 hA hG z
 have hes' : szT E.P e = ei.size := by simp [szT, hei]
 rw [hes'] at he
 simp only [evalOp] at he
 have he := mb0 he
 have hrun : ∀ {r : Value} {w' : World}, (Builtin.copy_ #[dT, sT] o.type #[ac.eval y, ac.eval z]).run E.P w = .ok r w' → (execOp ac.eval o).run E.P w = .ok (.value r) w' := fun {r w'} h => by
  unfold execOp
  simp [ho, hcb, hca, hct, resolve, invoke, builtin, h]
 revert he hy
 generalize c7 E a (g8 y) = p
 intro hy he
 unfold copyA at he
 split at he
 ·rename_i id off n g
  cases hbk : blkAt H id g with
  | none => simp [hbk] at he
  | some b =>
  obtain ⟨hb, hd, hg⟩ := r9 hbk
  simp only [hbk] at he
  cases hel : elemsOf ei.size H (c7 E a (g8 z)) with
  | none => simp [hel] at he
  | some news =>
  simp only [hel] at he
  cases hc4 : (b.own && Nat.beq b.es ei.size) with
  | false => simp [hc4] at he
  | true =>
  simp only [hc4] at he
  simp only [Bool.and_eq_true] at hc4
  obtain ⟨hown, hbes⟩ := hc4
  have hbes := Nat.eq_of_beq_eq_true hbes
  injection he with he; injection he with e1 e2; subst e1 e2
  rw [z6, C0, C0, B8, B8, B9, l6]
  obtain ⟨nv, hN⟩ := Lb4 hH hzr hel
  obtain ⟨ad, cap, b', e0, hb', hd', hg', hn, hspot, hcm0, hh⟩ := Ba7 hy
  have : b' = b := Option.some.inj (hb'.symm.trans hb)
  subst this
  obtain ⟨h3, h4, h5⟩ := hh hg
  obtain ⟨cc, tt, fr, hB⟩ := hH.blk id b' hb hd
  obtain ⟨hfr, hW, hoff0, hsize, hnF, htt⟩ := hB.own hown
  subst hfr
  have hmn : Nat.min news.length n ≤ news.length := Nat.min_le_left _ _
  have hmd : Nat.min news.length n ≤ n := Nat.min_le_right _ _
  generalize hm : Nat.min news.length n = m at *
  have hid : id < H.length := (List.getElem?_eq_some_iff.1 hb).1
  have hlenB := hB.len
  have hfit : off * ei.size + m * ei.size ≤ cc.size := by
   have h8 : (off + n) * ei.size ≤ b'.elems.length * b'.es := by rw [hbes]; exact Nat.mul_le_mul_right _ h5
   have h9 : m * ei.size ≤ n * ei.size := Nat.mul_le_mul_right _ hmd
   rw [Nat.add_mul] at h8
   omega
  have hnvl : m * ei.size ≤ nv.length := by rw [hN.len]; exact Nat.mul_le_mul_right _ hmn
  have hxf : (ac.eval z = .slice none 0 0 ∧ news.length = 0) ∨ ∃ ad cap, ac.eval z = .slice (some ad) news.length cap ∧ ∀ j v, nv[j]? = some v → w.cell? (ad.add j) = some v := by
   rcases hN.form with ⟨h1, h2⟩ | ⟨ad, cap, h1, _, h2⟩
   ·exact .inl ⟨h1, by simp [h2]⟩
   ·exact .inr ⟨ad, cap, h1, h2⟩
  rcases Nat.eq_zero_or_pos m with hm0 | hm0
  ·subst hm0
   have hxf' : (ac.eval z = .slice none 0 0 ∧ news.length = 0) ∨ ∃ ad cap, ac.eval z = .slice (some ad) news.length cap := by
    rcases hxf with h | ⟨ad, cap, h, _⟩
    ·exact .inl h
    ·exact .inr ⟨ad, cap, h⟩
   have hr := Bc9 (P := E.P) (w := w) (dT := dT) (sT := sT) o.type hu hei ad n cap (ac.eval z) news.length hxf' hm
   have hset : H.set id { b' with elems := b'.elems.take off ++ (news.take 0 ++ b'.elems.drop (off + 0)) } = H := by
    have : ({ b' with elems := b'.elems.take off ++ (news.take 0 ++ b'.elems.drop (off + 0)) } : b8) = b' := by
     simp
    rw [this]
    apply List.ext_getElem?
    intro k
    rcases Nat.lt_or_ge k H.length with hk | hk
    ·by_cases e : id = k
     ·subst e; rw [List.getElem?_set_self hk, hb]
     ·rw [List.getElem?_set_ne e]
    ·rw [List.getElem?_eq_none hk, List.getElem?_eq_none (by simpa using hk)]
   rw [hset]
   exact .value (hrun (by rw [e0]; exact hr)) (.stay hH (.ofv _))
  ·have had : ad = ⟨(ρ id).blk, off * ei.size, none⟩ := by
    have := h3.resolve_left (by omega)
    rw [this, hoff0, hbes]; simp
   have hr := Oc7 (P := E.P) (w := w) (dT := dT) (sT := sT) o.type hu hei (ρ id).blk (off * ei.size) n cap (ac.eval z) news.length cc tt nv hB.obj hxf (by rw [hm]; exact hnvl) (by rw [hm]; exact hfit) hN.one
   rw [hm] at hr
   have hnvt : (nv.take (m * ei.size)).length = m * ei.size := by simp; omega
   have hmul : ∀ i k, k < ei.size → i < b'.elems.length → i * ei.size + k < cc.size := fun i k hk hi => by
    have := Nat.mul_le_mul_right ei.size (show i + 1 ≤ b'.elems.length from hi)
    rw [Nat.add_mul, Nat.one_mul] at this
    rw [hbes] at hlenB
    omega
   have hel2 : (b'.elems.take off ++ (news.take m ++ b'.elems.drop (off + m))).length = b'.elems.length := by simp; omega
   have hget : ∀ (i : Nat) r, (b'.elems.take off ++ (news.take m ++ b'.elems.drop (off + m)))[i]? = some r → (off ≤ i ∧ i < off + m ∧ news[i - off]? = some r) ∨ ((i < off ∨ off + m ≤ i) ∧ b'.elems[i]? = some r) := fun i r hr => by
    rcases Nat.lt_or_ge i off with hi | hi
    ·rw [List.getElem?_append_left (by simp; omega), List.getElem?_take, if_pos hi] at hr
     exact .inr ⟨.inl hi, hr⟩
    ·rw [List.getElem?_append_right (by simp; omega)] at hr
     have e9 : i - (b'.elems.take off).length = i - off := by simp; omega
     rw [e9] at hr
     rcases Nat.lt_or_ge i (off + m) with hi2 | hi2
     ·rw [List.getElem?_append_left (by simp; omega), List.getElem?_take, if_pos (by omega)] at hr
      exact .inl ⟨hi, hi2, hr⟩
     ·rw [List.getElem?_append_right (by simp; omega), List.getElem?_drop] at hr
      have e10 : off + m + (i - off - (news.take m).length) = i := by simp; omega
      rw [e10] at hr
      exact .inr ⟨.inr hi2, hr⟩
   obtain ⟨h6, h7⟩ := hH.rewrite id b' { b' with elems := b'.elems.take off ++ (news.take m ++ b'.elems.drop (off + m)) } hb hd hown cc tt hB
    (cc.toList.take (off * ei.size) ++ nv.take (m * ei.size) ++ cc.toList.drop (off * ei.size + m * ei.size)).toArray
    (by simp; omega) rfl rfl hown hd (Nat.le_refl _) (fun _ => by simp only; omega) (by simp only; rw [hel2]; exact hlenB)
    (fun i r hr => by
     rcases hget i r hr with ⟨h1, h2, h8⟩ | ⟨_, h8⟩
     ·rw [hbes]; exact hN.rows _ r h8
     ·exact hB.rows i r h8)
    (fun i r k u hr hu => by
     have hsa := pb2 (l := cc) (new := nv.take (m * ei.size)) (c := off * ei.size) (k := i * b'.es + k) (by rw [hnvt]; exact hfit)
     rw [hnvt] at hsa
     rw [hsa, hbes]
     rcases hget i r hr with ⟨h1, h2, h8⟩ | ⟨h1, h8⟩
     ·have hk : k < ei.size := by rw [← hN.rows _ r h8]; exact (List.getElem?_eq_some_iff.1 hu).1
      obtain ⟨u', h9, h10⟩ := hN.cell _ r k u h8 hu
      have e11 : i * ei.size = off * ei.size + (i - off) * ei.size := by rw [← Nat.add_mul]; congr 1; omega
      have e12 : (i - off) * ei.size + k < m * ei.size := by
       have := Nat.mul_le_mul_right ei.size (show i - off + 1 ≤ m by omega)
       rw [Nat.add_mul, Nat.one_mul] at this
       omega
      rw [if_pos (by omega)]
      refine ⟨u', ?_, h10⟩
      rw [show i * ei.size + k - off * ei.size = (i - off) * ei.size + k by omega, List.getElem?_take, if_pos e12]
      exact h9
     ·have hk : k < ei.size := by rw [← hbes, ← hB.rows _ r h8]; exact (List.getElem?_eq_some_iff.1 hu).1
      obtain ⟨u', h9, h10⟩ := hB.cell i r k u h8 hu
      rw [hoff0, Nat.zero_add, hbes] at h9
      have hnot : ¬ (off * ei.size ≤ i * ei.size + k ∧ i * ei.size + k < off * ei.size + m * ei.size) := by
       rcases h1 with h1 | h1
       ·have := Nat.mul_le_mul_right ei.size (show i + 1 ≤ off from h1)
        rw [Nat.add_mul, Nat.one_mul] at this
        omega
       ·have := Nat.mul_le_mul_right ei.size h1
        rw [Nat.add_mul] at this
        omega
      rw [if_neg hnot]
      exact ⟨u', h9, h10⟩)
   exact .value (hrun (by rw [e0, had]; exact hr)) ⟨ρ, F, h6, h7, .ofv _⟩
 ·cases he
end
end
end Go.Ev
namespace Go.Ev
open Go
section
variable {W : Nat → Prop} {ρ : Rho} {H H' : List b8} {F : Fz} {w : World} {E : Env} {o : Oper} {a : List b7} {ac : Act} {x : b7}
theorem Yc9 (off : Nat) : ∀ (l : List Value) (s : Nat) (cells : Array Value) (k : Nat), off + s + l.length ≤ cells.size →
  ((l.zipIdx s).foldl (fun cs (p : Value × Nat) => cs.setIfInBounds (off + p.2) p.1) cells).size = cells.size ∧
  ((l.zipIdx s).foldl (fun cs (p : Value × Nat) => cs.setIfInBounds (off + p.2) p.1) cells)[k]? = if off + s ≤ k ∧ k < off + s + l.length then l[k - (off + s)]? else cells[k]?
 | [], s, cells, k, _ => by
  refine ⟨rfl, ?_⟩
  rw [if_neg (by simp)]
  rfl
 | v :: l, s, cells, k, h => by
  have ih := Yc9 off l (s + 1) (cells.setIfInBounds (off + s) v) k (by simp at h ⊢; omega)
  simp only [List.zipIdx_cons, List.foldl_cons]
  refine ⟨ih.1.trans (by simp), ih.2.trans ?_⟩
  simp only [List.length_cons] at h ⊢
  by_cases h1 : off + (s + 1) ≤ k ∧ k < off + (s + 1) + l.length
  ·rw [if_pos h1, if_pos (by omega), show k - (off + s) = (k - (off + (s + 1))) + 1 by omega]
   rfl
  ·rw [if_neg h1]
   by_cases h2 : k = off + s
   ·subst h2
    have hlt : off + s < cells.size := by omega
    rw [if_pos (by omega)]
    simp [hlt]
   ·rw [if_neg (by omega), Array.getElem?_setIfInBounds_ne (by omega)]
theorem zd9 (cells : Array Value) (vs : Array Value) (off k : Nat) (h : off + vs.size ≤ cells.size) :
  (vs.zipIdx.foldl (fun cs (p : Value × Nat) => cs.setIfInBounds (off + p.2) p.1) cells).size = cells.size ∧
  (vs.zipIdx.foldl (fun cs (p : Value × Nat) => cs.setIfInBounds (off + p.2) p.1) cells)[k]? = if off ≤ k ∧ k < off + vs.size then vs[k - off]? else cells[k]? := by
 have := Yc9 off vs.toList 0 cells k (by simpa using h)
 rw [← Array.foldl_toList]
 simpa using this
theorem Oc9 (place : Nat → Option (Nat × Nat)) : ∀ (parts : List (Nat × Nat × b7)) (parts' : List (Nat × Value)) (cells : List b7) (cells' : Array Value) (cs : List b7),
  parts.length = parts'.length → (∀ (i : Nat) p p', parts[i]? = some p → parts'[i]? = some p' → place p'.1 = some (p.1, p.2.1) ∧ z8 ρ H F w p.2.2 p'.2) →
  cells.length = cells'.size → (∀ (i : Nat) x x', cells[i]? = some x → cells'[i]? = some x' → U2 ρ H F w x x') → wb1 cells parts = some cs →
  ∃ cs', Instr.fill place cells' parts' = some cs' ∧ cs'.size = cells'.size ∧ cs.length = cells.length ∧ ∀ (i : Nat) x x', cs[i]? = some x → cs'[i]? = some x' → U2 ρ H F w x x'
 | [], parts', cells, cells', cs, hl, _, hc, hr, he => by
  have : parts' = [] := List.eq_nil_of_length_eq_zero (by simpa using hl.symm)
  subst this
  simp only [wb1] at he
  injection he with he
  subst he
  exact ⟨cells', rfl, rfl, rfl, hr⟩
 | (off, size, y) :: parts, parts', cells, cells', cs, hl, hp, hc, hr, he => by
  cases parts' with
  | nil => simp at hl
  | cons p' parts' =>
  obtain ⟨i0, y'⟩ := p'
  obtain ⟨hpl, hy⟩ := hp 0 _ _ rfl rfl
  simp only at hpl hy
  simp only [wb1, l6] at he
  cases hb : (Ja6 y && Nat.beq (A0 y).length size && Nat.ble (off + size) cells.length) with
  | false => simp [hb] at he
  | true =>
  simp only [hb] at he
  simp only [Bool.and_eq_true] at hb
  obtain ⟨⟨h1, h2⟩, h3⟩ := hb
  have h2 := Nat.eq_of_beq_eq_true h2
  have h3 : off + size ≤ cells.length := Nat.le_of_ble_eq_true h3
  obtain ⟨h4, h5⟩ := Eb5 hy h1
  have h4' : (A0 y).length = y'.cells.size := by simpa using h4
  have hfit : off + (A0 y).length ≤ cells.length := by omega
  have hstep := fun k => zd9 cells' y'.cells off k (by omega)
  obtain ⟨cs', h6, h7, h8, h9⟩ := Oc9 place parts parts' (I1 cells off (A0 y)) (y'.cells.zipIdx.foldl (fun cs (p : Value × Nat) => cs.setIfInBounds (off + p.2) p.1) cells') cs
   (by simpa using hl) (fun i p p' h h' => hp (i + 1) p p' (by simpa using h) (by simpa using h')) (by rw [Ma1 hfit, (hstep 0).1]; exact hc)
   (fun k u u' hu hu' => by
    rw [(hstep k).2] at hu'
    rcases Lb3 hfit hu with ⟨g1, g2, g3⟩ | ⟨g1, g3⟩
    ·rw [if_pos (by omega)] at hu'
     exact h5 _ u u' g3 (by simpa using hu')
    ·rw [if_neg (by omega)] at hu'
     exact hr k u u' g3 hu') he
  refine ⟨cs', ?_, h7.trans (hstep 0).1, by rw [h8, Ma1 hfit], h9⟩
  unfold Instr.fill
  simp only [hpl]
  rw [if_neg (by simp; omega)]
  exact h6
theorem Ic5 {P : Program} {t : TypeId} : ∀ {ps : List (Nat × Operand)} {l : List (Nat × Nat × Arg)}, Ra7 P t ps = some l →
  l.length = ps.length ∧ ∀ (i : Nat) p q, l[i]? = some p → ps[i]? = some q → Lb1 P t q.1 = some (p.1, p.2.1) ∧ p.2.2 = g8 q.2
 | [], l, h => by
  simp only [Ra7] at h
  injection h with h
  subst h
  exact ⟨rfl, fun i p q h => by simp at h⟩
 | (i0, y) :: ps, l, h => by
  simp only [Ra7] at h
  cases hp : Lb1 P t i0 with
  | none => simp [hp] at h
  | some os =>
  obtain ⟨off, size⟩ := os
  simp only [hp] at h
  cases hc : Ra7 P t ps with
  | none => simp [hc] at h
  | some r =>
  simp only [hc] at h
  injection h with h
  subst h
  obtain ⟨h1, h2⟩ := Ic5 hc
  refine ⟨by simp [h1], fun i p q hp' hq => ?_⟩
  cases i with
  | zero => simp at hp' hq; subst hp' hq; exact ⟨hp, rfl⟩
  | succ i => exact h2 i p q (by simpa using hp') (by simpa using hq)
theorem Ib8 {α β : Type} {P : Program} (g : α → Sem β) (h : α → β) (w : World) : ∀ (l : List α), (∀ y ∈ l, (g y).run P w = .ok (h y) w) → (l.mapM g).run P w = .ok (l.map h) w
 | [], _ => by simp
 | y :: l, hy => by
  have ih := Ib8 g h w l (fun z hz => hy z (by simp [hz]))
  simp [List.mapM_cons, hy y (by simp), ih]
theorem Qb2 {α β : Type} {P : Program} (g : α → Sem β) (h : α → β) (w : World) (l : Array α) (hl : ∀ y ∈ l, (g y).run P w = .ok (h y) w) : (l.mapM g).run P w = .ok (l.map h) w := by
 rw [Array.mapM_eq_mapM_toList]
 have := Ib8 g h w l.toList (fun y hy => hl y (by simpa using hy))
 simp only [Sem.run_map, this, Result.andThen_ok]
 congr 1
 apply Array.ext'
 simp
section
variable (hA : la1 ρ H F w a ac.tmps) (hH : s5 W ρ H F w) (hG : GOk E F w)
include hA hH hG
omit hH in
theorem Ic6 {ps : List (Nat × Operand)} {t : TypeId} {l : List (Nat × Nat × Arg)} (hc : Ra7 E.P t ps = some l) :
  (l0 (fun p => (p.1, p.2.1, c7 E a p.2.2)) l).length = (ps.map fun p => (p.1, ac.eval p.2)).length ∧
  ∀ (i : Nat) p p', (l0 (fun p => (p.1, p.2.1, c7 E a p.2.2)) l)[i]? = some p → (ps.map fun p => (p.1, ac.eval p.2))[i]? = some p' → Lb1 E.P t p'.1 = some (p.1, p.2.1) ∧ z8 ρ H F w p.2.2 p'.2 := by
 obtain ⟨h1, h2⟩ := Ic5 hc
 rw [l8]
 refine ⟨by simp [h1], fun i p p' hp hp' => ?_⟩
 rw [List.getElem?_map] at hp hp'
 cases hl : l[i]? with
 | none => simp [hl] at hp
 | some q =>
 cases hq : ps[i]? with
 | none => simp [hq] at hp'
 | some q' =>
 simp [hl] at hp
 simp [hq] at hp'
 subst hp hp'
 obtain ⟨h3, h4⟩ := h2 i q q' hl hq
 exact ⟨h3, by simp only [h4]; exact l7 hA hG q'.2⟩
omit hA hG hH in
theorem Ja9 {t : TypeId} {z : List b7} (hz : zeT E.P t = some z) : ∃ i zv, E.P.info? t = some i ∧ i.zero = some zv ∧ z = zv.cells.toList.map .v ∧ (∀ u ∈ zv.cells.toList, u.oneCell' = true) := by
 unfold zeT at hz
 cases hi : E.P.info? t with
 | none => simp [hi] at hz
 | some i =>
 cases hzz : i.zero with
 | none => simp [hi, hzz] at hz
 | some zv =>
 simp only [hi, hzz] at hz
 split at hz
 ·rename_i hall
  injection hz with hz
  exact ⟨i, zv, rfl, hzz, hz.symm, fun u hu => by rw [← Pb9]; exact List.all_eq_true.1 hall u hu⟩
 ·cases hz
theorem Zc0 {t : TypeId} {ps : Array (Nat × Operand)} {z : List b7} {l : List (Nat × Nat × Arg)} (ho : o.op = .build t ps) (hz : zeT E.P t = some z) (hc : Ra7 E.P t ps.toList = some l) (hall : Oc2 E.P t = true)
  (he : (evalOp E a H (.build z l)).run = some (x, H')) : j6 E.P o ac w (L9 W ρ H F w x H') := by
 simp only [evalOp] at he
 cases hf : wb1 z (l0 (fun p => (p.1, p.2.1, c7 E a p.2.2)) l) with
 | none => rw [hf] at he; cases he
 | some cs =>
 rw [hf] at he
 have he' := Option.some.inj he
 injection he' with e1 e2; subst e1 e2
 obtain ⟨ti, zv, hi, hzz, rfl, hone⟩ := Ja9 hz
 obtain ⟨hl1, hl2⟩ := Ic6 hA hG hc
 have hfill := fun place hpl => Oc9 (ρ := ρ) (H := H) (F := F) (w := w) place _ (ps.toList.map fun p => (p.1, ac.eval p.2)) (zv.cells.toList.map .v) zv.cells cs hl1 hpl (by simp)
  (fun i u u' h h' => by
   rw [List.getElem?_map] at h
   have : zv.cells.toList[i]? = some u' := by simpa using h'
   rw [this] at h
   simp at h
   subst h
   exact .v _) hf
 unfold Oc2 at hall
 cases hu : E.P.underlying t with
 | none => simp [hu] at hall
 | some d =>
 cases d with
 | struct fs =>
  simp only [hu] at hall
  have hmap : (fs.mapM fun f => (do pure (f.offset, ← sizeOf f.type) : Sem (Nat × Nat))).run E.P w = .ok (fs.map fun f => (f.offset, szT E.P f.type)) w := by
   refine Qb2 _ _ w fs fun f hf => ?_
   have hsome := Array.all_eq_true_iff_forall_mem.1 hall f hf
   obtain ⟨fi, hfi⟩ := Option.isSome_iff_exists.1 hsome
   simp [sizeOf, typeInfo, hfi, szT]
  obtain ⟨cs', h1, h2, h3, h4⟩ := hfill (fun i => (fs.map fun f => (f.offset, szT E.P f.type))[i]?) (fun i p p' hp hp' => by
   obtain ⟨h1, h2⟩ := hl2 i p p' hp hp'
   refine ⟨?_, h2⟩
   unfold Lb1 at h1
   simp only [hu] at h1
   cases hfi : fs[p'.1]? with
   | none => simp [hfi] at h1
   | some f => simp [hfi] at h1 ⊢; exact h1)
  refine .value (x' := .agg cs') (w' := w) ?_ (.stay hH (.val (.agg cs cs' (by rw [h3, h2]; simp) h4)))
  have hps : (ps.map fun (p : Nat × Operand) => (p.1, ac.eval p.2)).toList = ps.toList.map fun p => (p.1, ac.eval p.2) := by simp
  have hb : (Instr.build t (ps.map fun (p : Nat × Operand) => (p.1, ac.eval p.2))).run E.P w = .ok (.agg cs') w := by
   unfold Instr.build
   simp only [Sem.run_bind, zeroValue, typeInfo, run_program, Result.andThen_ok, hi, Sem.run_pure, hzz, run_underlying hu, hmap, hps, h1]
  simp only [execOp, ho, Sem.run_bind, hb, Result.andThen_ok, Sem.run_pure]
 | array n e =>
  simp only [hu] at hall
  obtain ⟨ei, hei⟩ := Option.isSome_iff_exists.1 hall
  obtain ⟨cs', h1, h2, h3, h4⟩ := hfill (fun i => some (i * ei.size, ei.size)) (fun i p p' hp hp' => by
   obtain ⟨h1, h2⟩ := hl2 i p p' hp hp'
   refine ⟨?_, h2⟩
   unfold Lb1 at h1
   simp only [hu, szT, hei] at h1
   exact h1)
  refine .value (x' := .agg cs') (w' := w) ?_ (.stay hH (.val (.agg cs cs' (by rw [h3, h2]; simp) h4)))
  have hps : (ps.map fun (p : Nat × Operand) => (p.1, ac.eval p.2)).toList = ps.toList.map fun p => (p.1, ac.eval p.2) := by simp
  have hb : (Instr.build t (ps.map fun (p : Nat × Operand) => (p.1, ac.eval p.2))).run E.P w = .ok (.agg cs') w := by
   unfold Instr.build
   simp only [Sem.run_bind, zeroValue, typeInfo, run_program, Result.andThen_ok, hi, Sem.run_pure, hzz, run_underlying hu, sizeOf, hei, hps, h1]
  simp only [execOp, ho, Sem.run_bind, hb, Result.andThen_ok, Sem.run_pure]
 | _ => simp [hu] at hall
omit hA hG hH in
theorem pc2 (es : Nat) : ∀ (n : Nat) (l : List b7), n * es ≤ l.length → (pa2 es n l).length = n ∧ ∀ (i : Nat) r, (pa2 es n l)[i]? = some r → r = (l.drop (i * es)).take es ∧ i < n
 | 0, l, _ => ⟨rfl, fun i r h => by simp [pa2] at h⟩
 | n + 1, l, h => by
  rw [Nat.add_mul, Nat.one_mul] at h
  obtain ⟨h1, h2⟩ := pc2 es n (l.drop es) (by simp; omega)
  have e : pa2 es (n + 1) l = l.take es :: pa2 es n (l.drop es) := by simp [pa2, B8, B9]
  rw [e]
  refine ⟨by simp [h1], fun i r hr => ?_⟩
  cases i with
  | zero => simp at hr; subst hr; simp
  | succ i =>
   obtain ⟨h3, h4⟩ := h2 i r (by simpa using hr)
   refine ⟨?_, by omega⟩
   rw [h3, List.drop_drop, Nat.add_mul, Nat.one_mul, Nat.add_comm es]
omit hA hG hH in
theorem s5.allocRow (h : s5 W ρ H F w) (et es n : Nat) (cs : List b7) (vs : Array Value) (cap : Nat) (hes : 0 < es) (hl : cs.length = n * es) (hcap : vs.size = cap * es) (hn : n ≤ cap) (hm : cap ≤ maxLen)
  (hr : ∀ (i : Nat) z z', cs[i]? = some z → vs[i]? = some z' → U0 F w z z') :
  L9 W ρ H F w (.sl H.length 0 n 0) (la0 H et es (pa2 es n cs)) (.slice (some ⟨w.heap.size, 0, none⟩) n cap) (w.alloc (.cells vs et)) := by
 obtain ⟨hc1, hc2⟩ := pc2 es n cs (by omega)
 have hle : n * es ≤ cap * es := Nat.mul_le_mul_right _ hn
 obtain ⟨h1, h2⟩ := h.alloc et es (pa2 es n cs) vs et (fun i r hr' => by
   obtain ⟨h3, h4⟩ := hc2 i r hr'
   have := Nat.mul_le_mul_right es (show i + 1 ≤ n from h4)
   rw [Nat.add_mul, Nat.one_mul] at this
   rw [h3]; simp; omega) (by rw [hc1, hcap]; exact hle) (fun i r c z hr' hz => by
   obtain ⟨h3, h4⟩ := hc2 i r hr'
   subst h3
   have hcl : c < es := by
    have := (List.getElem?_eq_some_iff.1 hz).1
    simp at this
    omega
   rw [List.getElem?_take, if_pos hcl, List.getElem?_drop] at hz
   have hlt : i * es + c < vs.size := by have := (List.getElem?_eq_some_iff.1 hz).1; omega
   exact ⟨vs[i * es + c], by simp [hlt], hr _ z _ hz (by simp [hlt])⟩) (fun _ => rfl)
 rw [Zb1]
 refine ⟨_, F, h1, h2, .val (.cell (.sl _ _ _ _ _ _ { et, es, elems := pa2 es n cs, own := true, dead := false, g := 0 } (by simp) rfl (Nat.le_refl _) hn rfl hm fun _ => ⟨.inr ?_, ?_, by simp [hc1]⟩))⟩
 ·simp [ρnew]
 ·simp [ρnew, hcap]
omit hA hG hH in
theorem ib6 (z : List b7) : ∀ (n k : Nat), 0 < z.length → k < n * z.length → ((List.replicate n z).flatten)[k]? = z[k % z.length]?
 | 0, k, _, h => by simp at h
 | n + 1, k, hz, h => by
  rw [List.replicate_succ, List.flatten_cons]
  rcases Nat.lt_or_ge k z.length with hk | hk
  ·rw [List.getElem?_append_left hk, Nat.mod_eq_of_lt hk]
  ·rw [List.getElem?_append_right hk]
   rw [Nat.add_mul, Nat.one_mul] at h
   rw [ib6 z n (k - z.length) hz (by omega)]
   congr 1
   conv => rhs; rw [show k = k - z.length + z.length by omega, Nat.add_mod_right]
theorem Pc0 {t e : TypeId} {n : Nat} {ps : Array (Nat × Operand)} {z : List b7} {l : List (Nat × Nat × Arg)} (ho : o.op = .buildSlice t n ps) (hu : E.P.underlying t = some (.slice e)) (hz : zeT E.P e = some z) (hc : Ra7 E.P t ps.toList = some l)
  (hlim : n * szT E.P e ≤ 16777216) (hzl : z.length = szT E.P e) (hpos : 0 < szT E.P e)
  (he : (evalOp E a H (.bslice e (szT E.P e) n (List.replicate n z).flatten l)).run = some (x, H')) : j6 E.P o ac w (L9 W ρ H F w x H') := by
 simp only [evalOp] at he
 cases hf : wb1 (List.replicate n z).flatten (l0 (fun p => (p.1, p.2.1, c7 E a p.2.2)) l) with
 | none => rw [hf] at he; cases he
 | some cs =>
 simp only [hf] at he
 cases hfr : freezeCells H cs with
 | none => rw [hfr] at he; cases he
 | some q =>
 obtain ⟨cs2, H1⟩ := q
 simp only [hfr, l6] at he
 have he' := Option.some.inj he
 injection he' with e1 e2; subst e1 e2
 obtain ⟨ti, zv, hi, hzz, rfl, hone⟩ := Ja9 hz
 have hts : szT E.P e = ti.size := by simp [szT, hi]
 rw [hts] at hzl hpos hlim
 have hzs : zv.cells.size = ti.size := by simpa using hzl
 obtain ⟨hl1, hl2⟩ := Ic6 hA hG hc
 let cells0 : Array Value := (Array.range (n * ti.size)).map (zv.cells[· % zv.cells.size]!)
 have hflen : ((List.replicate n (zv.cells.toList.map b7.v)).flatten).length = n * ti.size := by simp [List.length_flatten, hzs]
 obtain ⟨cs', h1, h2, h3, h4⟩ := Oc9 (ρ := ρ) (H := H) (F := F) (w := w) (fun i => some (i * ti.size, ti.size)) _ (ps.toList.map fun p => (p.1, ac.eval p.2)) _ cells0 cs hl1 (fun i p p' hp hp' => by
   obtain ⟨h1, h2⟩ := hl2 i p p' hp hp'
   refine ⟨?_, h2⟩
   unfold Lb1 at h1
   simp only [hu, szT, hi] at h1
   exact h1) (by rw [hflen]; simp [cells0]) (fun k u u' hk hk' => by
   have hlt : k < n * ti.size := by have := (List.getElem?_eq_some_iff.1 hk).1; omega
   rw [ib6 _ n k (by simp; omega) (by simp [hzs]; exact hlt)] at hk
   simp [hzs] at hk
   obtain ⟨b, hb1, rfl⟩ := hk
   simp [cells0, hlt, hzs] at hk'
   rw [getElem!_def, hb1] at hk'
   simp at hk'
   subst hk'
   exact .v _) hf
 have hvs : cs'.size = n * ti.size := by rw [h2]; simp [cells0]
 obtain ⟨F1, a1, hH1, h5, h6, h7⟩ := Ya5 hH (vs := cs'.toList) (by rw [h3, hflen]; simp [hvs]) (fun i y y' hy hy' => h4 i y y' hy (by simpa using hy')) hfr
 have hb : (Instr.buildSlice t n (ps.map fun (p : Nat × Operand) => (p.1, ac.eval p.2))).run E.P w = .ok (.slice (some ⟨w.heap.size, 0, none⟩) n n) (w.alloc (.cells cs' e)) := by
  have hps : (ps.map fun (p : Nat × Operand) => (p.1, ac.eval p.2)).toList = ps.toList.map fun p => (p.1, ac.eval p.2) := by simp
  unfold Instr.buildSlice
  have hlim' : ¬ (n * ti.size > 2 ^ 24) := by omega
  by_cases h0 : n * ti.size = 0
  ·have hn0 : n = 0 := by
    rcases Nat.eq_zero_or_pos n with h | h
    ·exact h
    ·have := Nat.mul_pos h hpos; omega
   subst hn0
   have h1' : Instr.fill (fun i => some (i * ti.size, ti.size)) #[] (ps.toList.map fun p => (p.1, ac.eval p.2)) = some cs' := by
    have : cells0 = #[] := by simp [cells0]
    rw [← this]; exact h1
   have hr0 : ∀ f : Nat → Value, (Array.range (0 * ti.size)).map f = #[] := by simp
   simp only [Sem.run_bind, run_underlying hu, Result.andThen_ok, sizeOf, typeInfo, run_program, hi, Sem.run_pure, if_neg hlim', if_pos h0, hps, hr0, h1', newRow, run_newObj]
   rfl
  ·have hlim2 : ¬ (16777216 < n * ti.size) := by omega
   have hn0 : ¬ (n = 0 ∨ ti.size = 0) := by
    intro h; rcases h with h | h <;> simp [h] at h0
   simp only [Sem.run_bind, run_underlying hu, Result.andThen_ok, sizeOf, typeInfo, run_program, hi, Sem.run_pure, if_neg hlim', if_neg h0, zeroValue, hzz, hps]
   have h1' : Instr.fill (fun i => some (i * ti.size, ti.size)) ((Array.range (n * ti.size)).map fun x => zv.cells[x % zv.cells.size]!) (ps.toList.map fun p => (p.1, ac.eval p.2)) = some cs' := h1
   simp only [h1', newRow, run_newObj, Sem.run_bind, Result.andThen_ok, Sem.run_pure]
   rfl
 refine .value (x' := .slice (some ⟨w.heap.size, 0, none⟩) n n) (w' := w.alloc (.cells cs' e)) (by simp only [execOp, ho, Sem.run_bind, hb, Result.andThen_ok, Sem.run_pure]) ?_
 rw [hts]
 obtain ⟨ρ', F', g1, g2, g3⟩ := s5.allocRow (H := H1) hH1 e ti.size n cs2 cs' n hpos (by rw [h5, h3, hflen]) hvs (Nat.le_refl _) (by
   have : n ≤ n * ti.size := Nat.le_mul_of_pos_right n hpos
   unfold maxLen; omega) (fun i z z' hz1 hz2 => h6 i z z' hz1 (by simpa using hz2))
 exact ⟨ρ', F', a1.trans g1, g2, g3⟩
theorem md5 {t e : TypeId} {y yc : Operand} {z : List b7} (ho : o.op = .makeSlice t y yc) (hu : E.P.underlying t = some (.slice e)) (hz : zeT E.P e = some z) (hzl : z.length = szT E.P e) (hpos : 0 < szT E.P e)
  (he : (evalOp E a H (.mksl e (szT E.P e) (byT E.P e) z (g8 y) (g8 yc))).run = some (x, H')) : j6 E.P o ac w (L9 W ρ H F w x H') := by
 have hy := l7 hA hG y
 have hyc := l7 hA hG yc
 simp only [evalOp] at he
 cases h1 : fa6 (c7 E a (g8 y)) with
 | none => simp [h1] at he
 | some n =>
 cases h2 : fa6 (c7 E a (g8 yc)) with
 | none => simp [h1, h2] at he
 | some m =>
 simp only [h1, h2, l6] at he
 obtain ⟨k1, e1⟩ := mb2 h1 hy
 obtain ⟨k2, e2⟩ := mb2 h2 hyc
 obtain ⟨hb, he⟩ := DT.run_guard_some he
 simp only [Bool.and_eq_true] at hb
 obtain ⟨⟨⟨hb1, hb2⟩, hb3⟩, hb4⟩ := hb
 obtain ⟨g1, g2, _⟩ := xb3 hb1
 obtain ⟨g3, g4, _⟩ := xb3 hb2
 have hb3 := Nat.le_of_ble_eq_true hb3
 have hb4 := Nat.le_of_ble_eq_true hb4
 have he' := Option.some.inj he
 injection he' with e3 e4; subst e3 e4
 obtain ⟨ti, zv, hi, hzz, rfl, hone⟩ := Ja9 hz
 have hts : szT E.P e = ti.size := by simp [szT, hi]
 have hby : byT E.P e = ti.bytes := by simp [byT, hi]
 rw [hts] at hzl hpos ⊢
 rw [hby] at hb4
 have hzs : zv.cells.size = ti.size := by simpa using hzl
 unfold room at g2 g4 hb4
 have hbytes : (ti.bytes : Int) * m ≤ 281474976710656 := by
  obtain ⟨m', rfl⟩ := Int.eq_ofNat_of_zero_le g3
  have : ti.bytes * m' ≤ 140737488355328 := by rw [Nat.mul_comm]; simpa using hb4
  have h5 : ((ti.bytes * m' : Nat) : Int) ≤ 281474976710656 := by omega
  simpa using h5
 have hr := run_make (P := E.P) w t e ti zv hu hi hzz k1 k2 n m g1 (by omega) hbytes (by omega)
 refine .value (x' := .slice (some ⟨w.heap.size, 0, none⟩) n.toNat m.toNat) (w' := w.alloc (.cells (madeCells zv.cells (m.toNat * ti.size)) e)) (by simp only [execOp, ho, e1, e2, Sem.run_bind, hr, Result.andThen_ok, Sem.run_pure]) ?_
 have hch : la0 H e ti.size (List.replicate n.toNat (zv.cells.toList.map b7.v)) = la0 H e ti.size (pa2 ti.size n.toNat (List.replicate n.toNat (zv.cells.toList.map b7.v)).flatten) := by
  congr 1
  have hgen : ∀ (q : Nat) (zz : List b7), zz.length = ti.size → pa2 ti.size q (List.replicate q zz).flatten = List.replicate q zz := fun q zz hq => by
   induction q with
   | zero => rfl
   | succ q ih =>
    simp only [pa2, List.replicate_succ, List.flatten_cons, B8, B9]
    rw [List.take_left' hq, List.drop_left' hq, ih]
  exact (hgen _ _ (by simpa using hzs)).symm
 rw [hch]
 have hflen : ((List.replicate n.toNat (zv.cells.toList.map b7.v)).flatten).length = n.toNat * ti.size := by simp [List.length_flatten, hzs]
 refine s5.allocRow hH e ti.size n.toNat _ _ m.toNat hpos hflen (by simp [madeCells]) hb3 (by unfold maxLen; omega) fun i u u' hu1 hu2 => ?_
 have hlt : i < n.toNat * ti.size := by have := (List.getElem?_eq_some_iff.1 hu1).1; omega
 have hle : n.toNat * ti.size ≤ m.toNat * ti.size := Nat.mul_le_mul_right _ hb3
 rw [ib6 _ n.toNat i (by simp; omega) (by simp [hzs]; exact hlt)] at hu1
 simp [hzs] at hu1
 obtain ⟨b, hb1, rfl⟩ := hu1
 have hlt2 : i < m.toNat * ti.size := by omega
 simp [madeCells, hlt2, hzs] at hu2
 rw [getElem!_def, hb1] at hu2
 simp at hu2
 subst hu2
 exact .v _ (hone _ (by simpa using Array.mem_of_getElem? hb1))
end
end
end Go.Ev
namespace Go.Ev
open Go
section
variable {W : Nat → Prop} {ρ : Rho} {H H' : List b8} {F : Fz} {w : World} {E : Env} {o : Oper} {a : List b7} {ac : Act} {x : b7}
theorem Zc1 : ∀ (ts : List Nat) (vs : List Value) (t : Nat) (g : Nat → Option Value), Ma9 g ts = some vs → t ∈ ts → g t = some (sd9 ts vs t)
 | [], _, _, _, _, h => by simp at h
 | s :: ts, vs, t, g, hm, h => by
  rw [Ic2] at hm
  cases hg : g s with
  | none => simp [hg] at hm
  | some v =>
  cases hr : Ma9 g ts with
  | none => simp [hg, hr] at hm
  | some r =>
  simp [hg, hr] at hm
  subst hm
  simp only [sd9]
  cases hb : Nat.beq s t with
  | true => have := Nat.eq_of_beq_eq_true hb; subst this; exact hg
  | false =>
   have hne := Nat.ne_of_beq_eq_false hb
   rcases List.mem_cons.1 h with h | h
   ·exact absurd h.symm hne
   ·exact Zc1 ts r t g hr h
theorem Eb6 : ∀ (l : List Operand) (ts : List Nat), Ea2 l = some ts → ∀ x ∈ l, (∀ t, x = .tmp t → t ∈ ts) ∧ ∀ g, x ≠ .global g
 | [], _, _, _, hx => by simp at hx
 | y :: l, ts, h, x, hx => by
  cases y with
  | tmp t =>
   simp only [Ea2] at h
   cases hr : Ea2 l with
   | none => simp [hr] at h
   | some r =>
   simp [hr] at h
   subst h
   rcases List.mem_cons.1 hx with rfl | hx
   ·exact ⟨fun t' e => (by injection e with e; simp [e]), fun g e => (by cases e)⟩
   ·obtain ⟨h1, h2⟩ := Eb6 l r hr x hx
    exact ⟨fun t' e => by simp [h1 t' e], h2⟩
  | global g => simp [Ea2] at h
  | const v =>
   rcases List.mem_cons.1 hx with rfl | hx
   ·exact ⟨fun t' e => (by cases e), fun g e => (by cases e)⟩
   ·exact Eb6 l ts h x hx
  | func f =>
   rcases List.mem_cons.1 hx with rfl | hx
   ·exact ⟨fun t' e => (by cases e), fun g e => (by cases e)⟩
   ·exact Eb6 l ts h x hx
section
variable (hA : la1 ρ H F w a ac.tmps) (hH : s5 W ρ H F w) (hG : GOk E F w)
include hA hH hG
theorem Ic7 {ts : List Nat} (hts : Ea2 o.op.operands.toList = some ts) (hs : ∀ cs b, o.op ≠ .select cs b) (he : (opt (Bc8 E a (fc1 o) ts) H).run = some (x, H')) : j6 E.P o ac w (L9 W ρ H F w x H') := by
 obtain ⟨y, h1, h2⟩ := Ma0 he
 injection h2 with e1 e2; subst e1 e2
 unfold Bc8 at h1
 cases hm : Ma9 (fun t => Xc9 (c7 E a (.t t))) ts with
 | none => simp [hm] at h1
 | some vs =>
 simp only [hm, td1] at h1
 have hcongr : execOp ac.eval o = execOp (td0 ts vs) (fc1 o) := by
  have : execOp (td0 ts vs) (fc1 o) = execOp (td0 ts vs) o := rfl
  rw [this]
  refine execOp_congr o hs fun z hz => ?_
  obtain ⟨h3, h4⟩ := Eb6 _ ts hts z (by simpa using hz)
  cases z with
  | tmp t =>
   have := Zc1 ts vs t _ hm (h3 t rfl)
   exact Fd9 (l7 hA hG (.tmp t)) this
  | const v => rfl
  | func f => rfl
  | global g => exact absurd rfl (h4 g)
 split at h1
 ·rename_i v hr
  injection h1 with h1
  subst h1
  exact .value (x' := v) (w' := w) (by rw [hcongr]; exact ld8 hr w) (.stay hH (.ofVal v))
 ·cases h1
omit hH in
theorem Zc2 {z : Option Operand} {n m : Nat} {code : BoundsCode} {d : Nat} (he : ((match z.map (fun y => c7 E a (g8 y)) with
  | none => DT.ret d
  | some x => match fa6 x with
   | some m => .guard (inB m (n + 1)) (.ret m.toNat)
   | none => .fail) : DT Nat).run = some m) :
  (z = none ∧ m = d) ∨ ∃ y, z = some y ∧ m ≤ n ∧ ∀ n', n ≤ n' → (Instr.sliceBound (ac.eval y) n' code).run E.P w = .ok m w := by
 cases z with
 | none => exact .inl ⟨rfl, (Option.some.inj he).symm⟩
 | some y =>
  right
  simp only [Option.map_some] at he
  cases hi : fa6 (c7 E a (g8 y)) with
  | none => simp [hi] at he
  | some k =>
  simp only [hi] at he
  obtain ⟨h1, h2⟩ := DT.run_guard_some he
  have := Option.some.inj h2
  subst this
  obtain ⟨g1, g2, g3⟩ := xb3 h1
  obtain ⟨kk, e⟩ := mb2 hi (l7 hA hG y)
  refine ⟨y, rfl, by omega, fun n' hn => ?_⟩
  have hle : k ≤ (n' : Int) := by omega
  simp [Instr.sliceBound, e, asIntOf, g1, hle]
omit hH in
theorem Lb5 {n l h : Nat} {lo hi : Option Operand} (he : (Ob9 n ((lo.map g8).map (c7 E a)) ((hi.map g8).map (c7 E a))).run = some (l, h)) :
  l ≤ h ∧ h ≤ n ∧ ∀ cap, n ≤ cap → (Instr.sliceBounds true n cap (lo.map ac.eval) (hi.map ac.eval) none).run E.P w = .ok (l, h, cap) w := by
 unfold Ob9 at he
 simp only [Option.map_map, Function.comp_def] at he
 obtain ⟨h', h1, h2⟩ := DT.run_bind_some he
 have hb1 := Zc2 hA hG (z := hi) (n := n) (d := n) (code := .sliceAcap) h1
 have h2' : (l, h).2 = h' ∧ ((lo = none ∧ l = 0) ∨ ∃ y, lo = some y ∧ l ≤ h' ∧ ∀ n', h' ≤ n' → (Instr.sliceBound (ac.eval y) n' .sliceB).run E.P w = .ok l w) := by
  cases lo with
  | none =>
   have := Option.some.inj h2
   injection this with e1 e2
   exact ⟨e2.symm, .inl ⟨rfl, e1.symm⟩⟩
  | some y =>
   simp only [Option.map_some] at h2
   cases hi2 : fa6 (c7 E a (g8 y)) with
   | none => simp [hi2] at h2
   | some k =>
   simp only [hi2] at h2
   obtain ⟨g1, g2⟩ := DT.run_guard_some h2
   have := Option.some.inj g2
   injection this with e1 e2
   have hb2 := Zc2 hA hG (z := some y) (n := h') (d := 0) (m := k.toNat) (code := .sliceB) (by simp only [Option.map_some, hi2]; rw [show (DT.guard (inB k (h' + 1)) (DT.ret k.toNat)).run = some k.toNat by unfold DT.guard; rw [DT.run_ite, g1]; rfl])
   rcases hb2 with ⟨h5, _⟩ | ⟨y', h5, h6, h7⟩
   ·cases h5
   ·exact ⟨e2.symm, .inr ⟨y', h5, by omega, fun n' hn => by rw [h7 n' hn, e1]⟩⟩
 obtain ⟨e, hl⟩ := h2'
 simp only at e
 subst e
 have hhn : h ≤ n := by rcases hb1 with ⟨_, h3⟩ | ⟨_, _, h3, _⟩ <;> omega
 have hlh : l ≤ h := by rcases hl with ⟨_, h3⟩ | ⟨_, _, h3, _⟩ <;> omega
 refine ⟨hlh, hhn, fun cap hcap => ?_⟩
 unfold Instr.sliceBounds
 rcases hb1 with ⟨rfl, rfl⟩ | ⟨y1, rfl, _, k1⟩ <;> rcases hl with ⟨rfl, rfl⟩ | ⟨y2, rfl, _, k2⟩
 ·simp
 ·simp [k2 h (Nat.le_refl _)]
 ·simp [k1 cap hcap]
 ·simp [k1 cap hcap, k2 h (Nat.le_refl _)]
theorem Zc3 {t e : TypeId} {y : Operand} {lo hi : Option Operand} {ei : TypeInfo} (ho : o.op = .slice t y lo hi none) (hu : E.P.underlying t = some (.slice e)) (hei : E.P.info? e = some ei)
  (he : (evalOp E a H (.slice (szT E.P e) (g8 y) (lo.map g8) (hi.map g8))).run = some (x, H')) : j6 E.P o ac w (L9 W ρ H F w x H') := by
 have hy := l7 hA hG y
 have hes : szT E.P e = ei.size := by simp [szT, hei]
 have hrun : ∀ {ad : Option Addr} {n cap l h : Nat}, ac.eval y = .slice ad n cap → (Instr.sliceBounds true n cap (lo.map ac.eval) (hi.map ac.eval) none).run E.P w = .ok (l, h, cap) w →
   (execOp ac.eval o).run E.P w = .ok (.value (.slice (if cap = l then ad else ad.map (·.add (l * ei.size))) (h - l) (cap - l))) w := fun {ad n cap l h} e1 e2 => by
  unfold execOp
  simp [ho, Instr.sliceAt, run_underlying hu, Instr.slice, e1, e2, sizeOf, typeInfo, hei]
 rw [hes] at he
 simp only [evalOp] at he
 revert he hy
 generalize c7 E a (g8 y) = p
 intro he hy
 split at he
 ·rename_i id off n g
  cases hbk : blkAt H id g with
  | none => simp [hbk] at he
  | some b =>
  obtain ⟨hb, hd, hg⟩ := r9 hbk
  cases hbe : Nat.beq b.es ei.size with
  | false => simp [hbk, hbe] at he
  | true =>
  have hbes := Nat.eq_of_beq_eq_true hbe
  simp only [hbk, hbe] at he
  obtain ⟨⟨l, h⟩, h1, h2⟩ := DT.run_bind_some he
  have he' := Option.some.inj h2
  injection he' with e1 e2; subst e1 e2
  obtain ⟨g1, g2, g3⟩ := Lb5 hA hG h1
  obtain ⟨ad, cap, b', e0, hb', hd', hg', hn, hspot, hcm0, hh⟩ := Ba7 hy
  have : b' = b := Option.some.inj (hb'.symm.trans hb)
  subst this
  obtain ⟨h3, h4, h5⟩ := hh hg
  have hr := hrun e0 (g3 cap hn)
  have hform : (if cap = l then some ad else (some ad).map (·.add (l * ei.size))) = some (if cap = l then ad else ad.add (l * ei.size)) := by split <;> rfl
  rw [hform] at hr
  refine .value hr (.stay hH (.val (.cell (.sl _ _ _ _ _ _ b' hb hd hg' (by omega) ?_ (by omega) fun _ => ⟨?_, ?_, by omega⟩))))
  ·split
   ·exact hspot
   ·rw [S9 hspot]
  ·by_cases hc : cap = l
   ·rw [if_pos hc]
    rcases Nat.eq_zero_or_pos l with h0 | h0
    ·subst h0
     rcases h3 with h3 | h3
     ·exact .inl ⟨by omega, by omega⟩
     ·exact .inr (by simpa using h3)
    ·exact .inl ⟨by omega, by omega⟩
   ·rw [if_neg hc]
    right
    have had := h3.resolve_left (by omega)
    rw [S9 hspot, had, hbes, Nat.add_mul]
    simp; omega
  ·rw [← h4]
   congr 1
   omega
 ·rename_i es' n get
  cases hbe : Nat.beq es' ei.size with
  | false => simp [hbe] at he
  | true =>
  have hbes := Nat.eq_of_beq_eq_true hbe
  simp only [hbe] at he
  obtain ⟨⟨l, h⟩, h1, h2⟩ := DT.run_bind_some he
  have he' := Option.some.inj h2
  injection he' with e1 e2; subst e1 e2
  obtain ⟨g1, g2, g3⟩ := Lb5 hA hG h1
  have ht := ra0 hy
  generalize hv : ac.eval y = v at *
  cases ht with
  | tree _ _ _ ad cap cs hs hcap hes' hF hw hr =>
  have hr0 := hrun rfl (g3 cap hcap)
  have hform : (if cap = l then some ad else (some ad).map (·.add (l * ei.size))) = some (if cap = l then ad else ad.add (l * ei.size)) := by split <;> rfl
  rw [hform] at hr0
  refine .value hr0 (.stay hH (.val (.cell (.mem ?_))))
  by_cases hc : cap = l
  ·rw [if_pos hc]
   exact .tree _ _ _ ad _ (fun i c => cs (l + i) c) (fun h => hs (by omega)) (by omega) (fun i hi => absurd hi (by omega)) (fun i c hi => absurd hi (by omega)) (fun i c hi => absurd hi (by omega)) (fun i c hi => absurd hi (by omega))
  ·rw [if_neg hc]
   have e3 : ∀ i c, ad.off + l * ei.size + (i * es' + c) = ad.off + ((l + i) * es' + c) := fun i c => by rw [Nat.add_mul, hbes]; omega
   refine .tree _ _ _ _ _ (fun i c => cs (l + i) c) (fun h => by rw [S9 (hs (by omega))]) (by omega) (fun i hi => hes' _ (by omega)) (fun i c hi hc' => ?_) (fun i c hi hc' => ?_) (fun i c hi hc' => hr (l + i) c (by omega) hc')
   ·rw [S9 (hs (by omega))]; simp only; rw [e3]; exact hF _ _ (by omega) hc'
   ·rw [S9 (hs (by omega))]; simp only; rw [e3]; exact hw _ _ (by omega) hc'
  | nil =>
   have hr := hrun rfl (g3 0 (Nat.le_refl _))
   have : l = 0 := by omega
   have : h = 0 := by omega
   subst l h
   exact .value hr (.stay hH (.val (.cell (.mem (.nil _ _)))))
 ·obtain ⟨⟨l, h⟩, h1, h2⟩ := DT.run_bind_some he
  have he' := Option.some.inj h2
  injection he' with e1 e2; subst e1 e2
  obtain ⟨g1, g2, g3⟩ := Lb5 hA hG h1
  have hr := hrun (Z1 hy) (g3 0 (Nat.le_refl _))
  have : l = 0 := by omega
  have : h = 0 := by omega
  subst l h
  exact .value hr (.stay hH (.ofv _))
 ·cases he
end
end
end Go.Ev
