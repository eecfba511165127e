/- WearLattice, as a plain fact (own work). -/
import Derived.Test.YtblhkhjdkjjheaaEvXG
import Derived.Test.YtblhkhjdkjjheaaEvXL
set_option linter.unusedVariables false
set_option linter.unusedSimpArgs false
set_option linter.unnecessarySimpa false
set_option linter.unusedSectionVars false
namespace Go.Ev.W.X
open Go Go.Ev Go.Ev.W Go.Proofs
set_option maxRecDepth 100000
theorem gM_ok' {a b : List Ent} (h1 : a.length ≤ 1000) (h2 : b.length ≤ 1000) : gM a b = true := by
  unfold gM
  rw [decide_eq_true h1, decide_eq_true h2]; rfl
theorem same_true {l m : List Ent} (h : l.length ≤ 1000000) (e : l = m) : p16 l m = true ∧ g16 l m = true := by
  obtain ⟨h1, h2⟩ := same16 l m (by omega)
  exact ⟨by rw [h1]; exact decide_eq_true e, h2⟩
theorem law6 (x : J3) : p6 x = true ∧ g6 x = true := by
  have ga := g10_of (isJ_of x.a)
  have gb := g10_of (isJ_of x.b)
  have gc := g10_of (isJ_of x.c)
  have ha := made10 ⟨x.a.length, fun k => rJ (gJ x.a k)⟩
  have hb := made10 ⟨x.b.length, fun k => rJ (gJ x.b k)⟩
  have hc := made10 ⟨x.c.length, fun k => rJ (gJ x.c k)⟩
  unfold p6 g6
  simp only [ga, gb, gc, ls_id, ok_id]
  generalize p10 ⟨x.a.length, fun k => rJ (gJ x.a k)⟩ = a at *
  generalize p10 ⟨x.b.length, fun k => rJ (gJ x.b k)⟩ = b at *
  generalize p10 ⟨x.c.length, fun k => rJ (gJ x.c k)⟩ = c at *
  have la := ha.len
  have lb := hb.len
  have lc := hc.len
  have m1 : pM a b = sel (bare (mrg a b)) ([], 21) (mrg a b, 0) := merge_ok ha.led hb.led ha.chk0 hb.chk0 (by omega)
  have m2 : pM b a = sel (bare (mrg a b)) ([], 21) (mrg a b, 0) := by
    have : pM b a = _ := merge_ok hb.led ha.led hb.chk0 ha.chk0 (by omega)
    rw [this, mrg_comm b a]
  have m3 : pM a a = (a, 0) := by
    have : pM a a = _ := merge_ok ha.led ha.led ha.chk0 ha.chk0 (by omega)
    rw [this, mrg_self, ha.bare]
  have m4 : pM [] a = (a, 0) := by
    have : pM [] a = _ := merge_ok made_nil.led ha.led rfl ha.chk0 (by omega)
    rw [this, mrg_nil_l, ha.bare]
  have m5 : pM b c = sel (bare (mrg b c)) ([], 21) (mrg b c, 0) := merge_ok hb.led hc.led hb.chk0 hc.chk0 (by omega)
  have hab := ha.led.mrg hb.led
  have hbc := hb.led.mrg hc.led
  have lab := hab.len
  have lbc := hbc.len
  have habc := hab.mrg hc.led
  have labc := habc.len
  have m6 : bare (mrg a b) = false → pM (mrg a b) c = sel (bare (mrg (mrg a b) c)) ([], 21) (mrg (mrg a b) c, 0) := fun h => merge_ok hab hc.led (hab.chk0 (by omega) h) hc.chk0 (by omega)
  have m7 : bare (mrg b c) = false → pM a (mrg b c) = sel (bare (mrg (mrg a b) c)) ([], 21) (mrg (mrg a b) c, 0) := fun h => by
    have : pM a (mrg b c) = _ := merge_ok ha.led hbc ha.chk0 (hbc.chk0 (by omega) h) (by omega)
    rw [this, mrg_assoc a b c hc.srt]
  have b1 : bare (mrg a b) = true → bare (mrg (mrg a b) c) = true := fun h => bare_mrg hc.srt h
  have b2 : bare (mrg b c) = true → bare (mrg (mrg a b) c) = true := fun h => by
    rw [mrg_assoc a b c hc.srt, mrg_comm]
    exact bare_mrg ha.srt h
  have g1 := gM_ok' (a := a) (b := b) (by omega) (by omega)
  have g2 := gM_ok' (a := b) (b := a) (by omega) (by omega)
  have g3 := gM_ok' (a := a) (b := a) (by omega) (by omega)
  have g4 := gM_ok' (a := []) (b := a) (by simp) (by omega)
  have g5 := gM_ok' (a := b) (b := c) (by omega) (by omega)
  have g6 := gM_ok' (a := mrg a b) (b := c) (by omega) (by omega)
  have g7 := gM_ok' (a := a) (b := mrg b c) (by omega) (by omega)
  have g8 := gM_ok' (a := []) (b := c) (by simp) (by omega)
  have g9 := gM_ok' (a := a) (b := []) (by omega) (by simp)
  have s1 := same_true (l := a) (by omega) rfl
  have s2 := same_true (l := mrg a b) (by omega) rfl
  have s3 := same_true (l := mrg (mrg a b) c) (by omega) rfl
  have s4 := same_true (l := []) (by simp) rfl
  simp only [m1, m2, m3, m4, m5, g1, g2, g3, g4, g5, s1, bne_self_eq_false]
  cases e1 : bare (mrg a b) with
  | false =>
    cases e2 : bare (mrg b c) with
    | false =>
      simp only [m6 e1, m7 e2, g6, g7, s2, bne_self_eq_false, BEq.rfl]
      cases e3 : bare (mrg (mrg a b) c) with
      | false =>
        simp only [s3]
        exact ⟨rfl, rfl⟩
      | true =>
        simp only [s4]
        exact ⟨rfl, rfl⟩
    | true =>
      have e3 := b2 e2
      simp only [m6 e1, g6, g9, s2, s4, bne_self_eq_false, BEq.rfl, e3]
      exact ⟨rfl, rfl⟩
  | true =>
    have e3 := b1 e1
    cases e2 : bare (mrg b c) with
    | false =>
      simp only [m7 e2, g7, g8, s4, bne_self_eq_false, BEq.rfl, e3]
      exact ⟨rfl, rfl⟩
    | true =>
      simp only [g8, g9, s4, bne_self_eq_false, BEq.rfl]
      exact ⟨rfl, rfl⟩
theorem law6S (x : J3) : (S6 [eJ3 x] []).run = some (b true, []) := by
  obtain ⟨x', h1, _⟩ := exactCod_dec eJ3 x
  have h1 : cJ3.dec (eJ3 x) = some x' := h1
  obtain ⟨h2, h3⟩ := law6 x'
  unfold S6 sum1
  simp only [h1]
  show (DT.guard true (DT.guard (g6 x') (.ret (b (p6 x'), [])))).run = _
  rw [h2, h3]
  rfl
end Go.Ev.W.X
