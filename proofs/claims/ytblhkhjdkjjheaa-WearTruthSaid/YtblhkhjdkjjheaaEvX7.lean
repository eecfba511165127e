/- Merge of the reference, as a plain function (own work). -/
import Derived.Test.YtblhkhjdkjjheaaEvX6
import Derived.Test.YtblhkhjdkjjheaaEvX5
set_option linter.unusedVariables false
set_option linter.unusedSimpArgs false
set_option linter.unnecessarySimpa false
set_option linter.unusedSectionVars false
namespace Go.Ev.W.X
open Go Go.Ev Go.Ev.W Go.Proofs
set_option maxRecDepth 100000
/-! ### the plain law: an entry more, and merging -/
noncomputable def comb (x u : Ent) : Ent := ⟨x.t, x.o, if u.l > x.l then u.l else x.l, if u.h < x.h then u.h else x.h⟩
noncomputable def upd (l : List Ent) (u : Ent) : List Ent := sel (hasK l (ix l u) u) (l.set (ix l u) (comb (gE l (ix l u)) u)) (ins l u)
noncomputable def mrg : List Ent → List Ent → List Ent
  | [], b => b
  | x :: a, [] => x :: a
  | x :: a, y :: b => sel (p33 x y) (x :: mrg a (y :: b)) (sel (p33 y x) (y :: mrg (x :: a) b) (comb x y :: mrg a b))
termination_by a b => a.length + b.length
theorem mrg_nil_r : ∀ a, mrg a [] = a
  | [] => by unfold mrg; rfl
  | _ :: _ => by unfold mrg; rfl
theorem mrg_nil_l (b : List Ent) : mrg [] b = b := by unfold mrg; rfl
theorem mrg_cons (x y : Ent) (a b : List Ent) : mrg (x :: a) (y :: b) = sel (p33 x y) (x :: mrg a (y :: b)) (sel (p33 y x) (y :: mrg (x :: a) b) (comb x y :: mrg a b)) := by
  conv => lhs; unfold mrg
theorem tri (x y : Ent) : (p33 x y = true ∧ p33 y x = false ∧ key x y = false) ∨ (p33 x y = false ∧ p33 y x = true ∧ key x y = false) ∨ (p33 x y = false ∧ p33 y x = false ∧ key x y = true) := by
  have e : ∀ {c : Bool}, ¬ (c = true) → c = false := fun h => by simpa using h
  by_cases h1 : x.t < y.t ∨ x.t = y.t ∧ x.o < y.o
  · refine .inl ⟨(lt_iff x y).2 h1, e fun h => ?_, e fun h => ?_⟩
    · rw [lt_iff] at h; omega
    · rw [key_iff] at h; omega
  · by_cases h2 : y.t < x.t ∨ y.t = x.t ∧ y.o < x.o
    · refine .inr (.inl ⟨e fun h => h1 ((lt_iff x y).1 h), (lt_iff y x).2 h2, e fun h => ?_⟩)
      rw [key_iff] at h; omega
    · exact .inr (.inr ⟨e fun h => h1 ((lt_iff x y).1 h), e fun h => h2 ((lt_iff y x).1 h), (key_iff x y).2 (by omega)⟩)
theorem upd_nil (u : Ent) : upd [] u = [u] := by
  have h : hasK [] (ix [] u) u = false := rfl
  unfold upd
  rw [h]
  rfl
theorem upd_cons (x : Ent) (l : List Ent) (u : Ent) : upd (x :: l) u = sel (p33 x u) (x :: upd l u) (sel (key x u) (comb x u :: l) (u :: x :: l)) := by
  cases h : p33 x u with
  | true =>
    have e : ix (x :: l) u = ix l u + 1 := by simp [ix, h]
    unfold upd
    rw [e]
    have hk : hasK (x :: l) (ix l u + 1) u = hasK l (ix l u) u := by unfold hasK; simp
    rw [hk]
    cases hasK l (ix l u) u with
    | true => rfl
    | false =>
      unfold ins
      rw [e]
      rfl
  | false =>
    have e : ix (x :: l) u = 0 := by simp [ix, h]
    unfold upd ins
    rw [e]
    have hk : hasK (x :: l) 0 u = key x u := by unfold hasK; simp
    rw [hk]
    cases key x u <;> rfl
theorem comb_lt {x u z : Ent} : p33 (comb x u) z = p33 x z := rfl
theorem key_lt2 {x u z : Ent} (h : key x u = true) : p33 x z = p33 u z := by
  rw [key_iff] at h
  rw [Bool.eq_iff_iff, lt_iff, lt_iff]; omega
theorem mrg_upd : ∀ (a : List Ent) (y : Ent) (b : List Ent), srtF y b = true → mrg (upd a y) b = mrg a (y :: b)
  | [], y, b, h => by
    rw [upd_nil, mrg_nil_l]
    cases b with
    | nil => rw [mrg_nil_r]
    | cons z b =>
      have h : (p33 y z && srtF z b) = true := h
      rw [Bool.and_eq_true] at h
      rw [mrg_cons, h.1, mrg_nil_l]
  | x :: a, y, b, h => by
    rw [upd_cons, mrg_cons]
    rcases tri x y with ⟨h1, h2, h3⟩ | ⟨h1, h2, h3⟩ | ⟨h1, h2, h3⟩
    · rw [h1]
      show mrg (x :: upd a y) b = x :: mrg a (y :: b)
      rw [← mrg_upd a y b h]
      cases b with
      | nil => rw [mrg_nil_r, mrg_nil_r]
      | cons z b =>
        have h : (p33 y z && srtF z b) = true := h
        rw [Bool.and_eq_true] at h
        rw [mrg_cons, lt_trans h1 h.1]
    · rw [h1, h2, h3]
      show mrg (y :: x :: a) b = y :: mrg (x :: a) b
      cases b with
      | nil => rw [mrg_nil_r, mrg_nil_r]
      | cons z b =>
        have h : (p33 y z && srtF z b) = true := h
        rw [Bool.and_eq_true] at h
        rw [mrg_cons, h.1]
    · rw [h1, h2, h3]
      show mrg (comb x y :: a) b = comb x y :: mrg a b
      cases b with
      | nil => rw [mrg_nil_r, mrg_nil_r]
      | cons z b =>
        have h : (p33 y z && srtF z b) = true := h
        rw [Bool.and_eq_true] at h
        have : p33 (comb x y) z = true := by rw [comb_lt, key_lt2 h3]; exact h.1
        rw [mrg_cons, this]
theorem srtF_srt {y : Ent} {b : List Ent} (h : srtF y b = true) : srt b = true := srt_tail (a := y) h
theorem fold_mrg : ∀ (b a : List Ent), srt b = true → b.foldl upd a = mrg a b
  | [], a, _ => (mrg_nil_r a).symm
  | y :: b, a, h => by
    show b.foldl upd (upd a y) = _
    rw [fold_mrg b (upd a y) (srtF_srt h)]
    exact mrg_upd a y b h
noncomputable def merge (a b : List Ent) : List Ent × Int :=
  sel (chk a != 0) ([], chk a) (sel (chk b != 0) ([], chk b) (sel (decide (100 < (mrg a b).length)) ([], 2) (sel ((mrg a b).any fun u => decide (u.l > u.h)) ([], 21) (mrg a b, 0))))
/-! ### the loops -/
theorem rows_blk (l : List Ent) : lsE l.length (fun k => getRow (mapL rE l) (0 + k)) = l := lsRows_blk (fun _ => rfl) l
theorem ok_blk (l : List Ent) : okEs l.length (fun k => getRow (mapL rE l) (0 + k)) = true := okRows_blk (fun _ => rfl) (Nat.le_refl _)
theorem d2 (e : Ent) : toI (hdA (dropN (rE e) 2)) = e.l := rfl
theorem d3 (e : Ent) : toI (hdA (dropN (rE e) 3)) = e.h := rfl
theorem mrg_len : ∀ (a b : List Ent), (mrg a b).length ≤ a.length + b.length
  | [], b => by rw [mrg_nil_l]; simp
  | x :: a, [] => by rw [mrg_nil_r]; simp
  | x :: a, y :: b => by
    rw [mrg_cons]
    have h1 := mrg_len a (y :: b)
    have h2 := mrg_len (x :: a) b
    have h3 := mrg_len a b
    simp only [List.length_cons] at *
    cases p33 x y with
    | true => show (mrg a (y :: b)).length + 1 ≤ _; omega
    | false =>
      cases p33 y x with
      | true => show (mrg (x :: a) b).length + 1 ≤ _; omega
      | false => show (mrg a b).length + 1 ≤ _; omega
termination_by a b => a.length + b.length
end Go.Ev.W.X
namespace Go.Ev.W.X
open Go Go.Ev Go.Ev.W Go.Proofs
set_option maxRecDepth 100000
theorem pos1 (n : Nat) : decide (((n + 1 : Nat) : Int) > 0) = true := decide_eq_true (by omega)
theorem ne01 (n : Nat) : (((n + 1 : Nat) : Int) == 0) = false := beq_eq_false_iff_ne.2 (by omega)
theorem ent_id (e : Ent) : (⟨toI (hdA (rE e)), toI (hdA (tlA (rE e))), toI (hdA (tlA (tlA (rE e)))), toI (hdA (tlA (tlA (tlA (rE e)))))⟩ : Ent) = e := rfl
/-- the state at the loop's head -/
structure Sq (s : Sg17_0) (a b out : List Ent) : Prop where
  n0 : s.ns0 = a.length
  g0 : ∀ k, k < a.length → s.gs0 k = rE (gE a k)
  n1 : s.ns1 = b.length
  g1 : ∀ k, k < b.length → s.gs1 k = rE (gE b k)
  m : s.ns8 = out.length
  eh : s.eh0 = mapL rE out
  ph : (s.ph = 0 ∧ out = []) ∨ s.ph = 1
theorem Sq.tail {g : Nat → List AVal} {x : Ent} {a : List Ent} (h : ∀ k, k < (x :: a).length → g k = rE (gE (x :: a) k)) : ∀ k, k < a.length → g (1 + k) = rE (gE a k) := fun k hk => by
  rw [h (1 + k) (by simp; omega), Nat.add_comm 1 k]
  rfl
theorem app1 (out : List Ent) (e : Ent) : app (mapL rE out) [rE e] = mapL rE (out ++ [e]) := rows_app out [e]
theorem st_aa {s : Sg17_0} {x : Ent} {a out : List Ent} (h : Sq s (x :: a) [] out) (ho : out.length ≤ 1000000) :
    ∃ s', st17_0 ⟨⟩ s = .next s' ∧ Sq s' a [] (out ++ [x]) := by
  obtain ⟨ph, n0, g0, n1, g1, m, eh⟩ := s
  obtain ⟨h1, h2, h3, h4, h5, h6, h7⟩ := h
  simp only at h1 h2 h3 h4 h5 h6 h7
  subst h1 h3 h5 h6
  have e0 : g0 0 = rE x := h2 0 (by simp)
  have hr : Nat.ble ((out.length + 1) * 32) room = true := room_le (by omega)
  have hl : (x :: a).length = a.length + 1 := rfl
  refine ⟨⟨1, a.length, fun k => g0 (1 + k), 0, g1, (out ++ [x]).length, mapL rE (out ++ [x])⟩, ?_, ⟨rfl, Sq.tail h2, rfl, fun k hk => absurd hk (by simp), rfl, rfl, .inr rfl⟩⟩
  rw [← app1, show (out ++ [x]).length = out.length + 1 by simp]
  rcases h7 with ⟨rfl, rfl⟩ | rfl
  · simp only [st17_0, su17_0_0, hl, pos1, e0]
    rfl
  · simp only [st17_0, su17_0_1, hl, pos1, e0, len_rows, Nat.beq_refl, hr]
    rfl
theorem st_bb {s : Sg17_0} {y : Ent} {b out : List Ent} (h : Sq s [] (y :: b) out) (ho : out.length ≤ 1000000) :
    ∃ s', st17_0 ⟨⟩ s = .next s' ∧ Sq s' [] b (out ++ [y]) := by
  obtain ⟨ph, n0, g0, n1, g1, m, eh⟩ := s
  obtain ⟨h1, h2, h3, h4, h5, h6, h7⟩ := h
  simp only at h1 h2 h3 h4 h5 h6 h7
  subst h1 h3 h5 h6
  have e0 : g1 0 = rE y := h4 0 (by simp)
  have hr : Nat.ble ((out.length + 1) * 32) room = true := room_le (by omega)
  have hl : (y :: b).length = b.length + 1 := rfl
  refine ⟨⟨1, 0, g0, b.length, fun k => g1 (1 + k), (out ++ [y]).length, mapL rE (out ++ [y])⟩, ?_, ⟨rfl, fun k hk => absurd hk (by simp), rfl, Sq.tail h4, rfl, rfl, .inr rfl⟩⟩
  rw [← app1, show (out ++ [y]).length = out.length + 1 by simp]
  rcases h7 with ⟨rfl, rfl⟩ | rfl
  · simp only [st17_0, su17_0_0, hl, pos1, ne01, e0]
    rfl
  · simp only [st17_0, su17_0_1, hl, pos1, ne01, e0, len_rows, Nat.beq_refl, hr]
    rfl
theorem st_lt {s : Sg17_0} {x y : Ent} {a b out : List Ent} (h : Sq s (x :: a) (y :: b) out) (ho : out.length ≤ 1000000) (hc : p33 x y = true) :
    ∃ s', st17_0 ⟨⟩ s = .next s' ∧ Sq s' a (y :: b) (out ++ [x]) := by
  obtain ⟨ph, n0, g0, n1, g1, m, eh⟩ := s
  obtain ⟨h1, h2, h3, h4, h5, h6, h7⟩ := h
  simp only at h1 h2 h3 h4 h5 h6 h7
  subst h1 h3 h5 h6
  have e0 : g0 0 = rE x := h2 0 (by simp)
  have e1 : g1 0 = rE y := h4 0 (by simp)
  have hr : Nat.ble ((out.length + 1) * 32) room = true := room_le (by omega)
  have hl : (x :: a).length = a.length + 1 := rfl
  have hl2 : (y :: b).length = b.length + 1 := rfl
  refine ⟨⟨1, a.length, fun k => g0 (1 + k), b.length + 1, g1, (out ++ [x]).length, mapL rE (out ++ [x])⟩, ?_, ⟨rfl, Sq.tail h2, rfl, h4, rfl, rfl, .inr rfl⟩⟩
  rw [← app1, show (out ++ [x]).length = out.length + 1 by simp]
  rcases h7 with ⟨rfl, rfl⟩ | rfl
  · simp only [st17_0, su17_0_0, hl, hl2, pos1, ne01, e0, e1, ent_id, cmp_lt, hc]
    rfl
  · simp only [st17_0, su17_0_1, hl, hl2, pos1, ne01, e0, e1, ent_id, cmp_lt, hc, len_rows, Nat.beq_refl, hr]
    rfl
theorem st_gt {s : Sg17_0} {x y : Ent} {a b out : List Ent} (h : Sq s (x :: a) (y :: b) out) (ho : out.length ≤ 1000000) (hc : p33 x y = false) (hd : p33 y x = true) :
    ∃ s', st17_0 ⟨⟩ s = .next s' ∧ Sq s' (x :: a) b (out ++ [y]) := by
  obtain ⟨ph, n0, g0, n1, g1, m, eh⟩ := s
  obtain ⟨h1, h2, h3, h4, h5, h6, h7⟩ := h
  simp only at h1 h2 h3 h4 h5 h6 h7
  subst h1 h3 h5 h6
  have e0 : g0 0 = rE x := h2 0 (by simp)
  have e1 : g1 0 = rE y := h4 0 (by simp)
  have hr : Nat.ble ((out.length + 1) * 32) room = true := room_le (by omega)
  have hl : (x :: a).length = a.length + 1 := rfl
  have hl2 : (y :: b).length = b.length + 1 := rfl
  refine ⟨⟨1, a.length + 1, g0, b.length, fun k => g1 (1 + k), (out ++ [y]).length, mapL rE (out ++ [y])⟩, ?_, ⟨rfl, h2, rfl, Sq.tail h4, rfl, rfl, .inr rfl⟩⟩
  rw [← app1, show (out ++ [y]).length = out.length + 1 by simp]
  rcases h7 with ⟨rfl, rfl⟩ | rfl
  · simp only [st17_0, su17_0_0, hl, hl2, pos1, ne01, e0, e1, ent_id, cmp_lt, cmp_gt, hc, hd]
    rfl
  · simp only [st17_0, su17_0_1, hl, hl2, pos1, ne01, e0, e1, ent_id, cmp_lt, cmp_gt, hc, hd, len_rows, Nat.beq_refl, hr]
    rfl
theorem st_eq {s : Sg17_0} {x y : Ent} {a b out : List Ent} (h : Sq s (x :: a) (y :: b) out) (ho : out.length ≤ 1000000) (hc : p33 x y = false) (hd : p33 y x = false) :
    ∃ s', st17_0 ⟨⟩ s = .next s' ∧ Sq s' a b (out ++ [comb x y]) := by
  obtain ⟨ph, n0, g0, n1, g1, m, eh⟩ := s
  obtain ⟨h1, h2, h3, h4, h5, h6, h7⟩ := h
  simp only at h1 h2 h3 h4 h5 h6 h7
  subst h1 h3 h5 h6
  have e0 : g0 0 = rE x := h2 0 (by simp)
  have e1 : g1 0 = rE y := h4 0 (by simp)
  have hr : Nat.ble ((out.length + 1) * 32) room = true := room_le (by omega)
  have hl : (x :: a).length = a.length + 1 := rfl
  have hl2 : (y :: b).length = b.length + 1 := rfl
  refine ⟨⟨1, a.length, fun k => g0 (1 + k), b.length, fun k => g1 (1 + k), (out ++ [comb x y]).length, mapL rE (out ++ [comb x y])⟩, ?_, ⟨rfl, Sq.tail h2, rfl, Sq.tail h4, rfl, rfl, .inr rfl⟩⟩
  rw [← app1, show (out ++ [comb x y]).length = out.length + 1 by simp]
  rcases h7 with ⟨rfl, rfl⟩ | rfl
  · simp only [st17_0, su17_0_0, hl, hl2, pos1, ne01, e0, e1, ent_id, cmp_lt, cmp_gt, hc, hd]
    rfl
  · simp only [st17_0, su17_0_1, hl, hl2, pos1, ne01, e0, e1, ent_id, cmp_lt, cmp_gt, hc, hd, len_rows, Nat.beq_refl, hr]
    rfl
theorem st_end {s : Sg17_0} {out : List Ent} (h : Sq s [] [] out) : st17_0 ⟨⟩ s = .exit (s.ph + 1) := by
  obtain ⟨ph, n0, g0, n1, g1, m, eh⟩ := s
  obtain ⟨h1, h2, h3, h4, h5, h6, h7⟩ := h
  simp only at h1 h2 h3 h4 h5 h6 h7
  subst h1 h3 h5 h6
  rcases h7 with ⟨rfl, rfl⟩ | rfl <;> rfl
theorem loop17 (x y : List Ent) (hx : x.length ≤ 1000) (hy : y.length ≤ 1000) :
    let r := lp (st17_0 ⟨⟩) ⟨0, x.length, fun k => rE (gE x k), y.length, fun k => rE (gE y k), 0, []⟩
    ((r.1 = 1 ∧ mrg x y = []) ∨ r.1 = 2) ∧ r.2.ns8 = (mrg x y).length ∧ r.2.eh0 = mapL rE (mrg x y) := by
  refine lp_inv2 (step := st17_0 ⟨⟩) (I := fun m (s : Sg17_0) => ∃ a b out, a.length + b.length ≤ m ∧ a.length + b.length + out.length ≤ 2000 ∧ Sq s a b out ∧ out ++ mrg a b = mrg x y)
    (Q := fun t (s : Sg17_0) => ((t = 1 ∧ mrg x y = []) ∨ t = 2) ∧ s.ns8 = (mrg x y).length ∧ s.eh0 = mapL rE (mrg x y)) (fun m s hi => ?_) (x.length + y.length) _ (by omega)
    ⟨x, y, [], by omega, by simp; omega, ⟨rfl, fun k hk => rfl, rfl, fun k hk => rfl, rfl, rfl, .inl ⟨rfl, rfl⟩⟩, rfl⟩
  obtain ⟨a, b, out, hme, hlen, hs, hm⟩ := hi
  cases a with
  | nil => cases b with
    | nil =>
      rw [mrg_nil_l, List.append_nil] at hm
      subst hm
      refine .inl ⟨_, st_end hs, ?_, hs.m, hs.eh⟩
      rcases hs.ph with ⟨h1, h2⟩ | h1
      · exact .inl ⟨by rw [h1], h2⟩
      · exact .inr (by rw [h1])
    | cons y' b =>
      obtain ⟨s', h1, h2⟩ := st_bb hs (by omega)
      refine .inr ⟨s', m - 1, by simp at hme; omega, h1, [], b, out ++ [y'], by simp at hme ⊢; omega, by simp at hlen ⊢; omega, h2, ?_⟩
      rw [← hm, mrg_nil_l, mrg_nil_l]; simp
  | cons x' a => cases b with
    | nil =>
      obtain ⟨s', h1, h2⟩ := st_aa hs (by omega)
      refine .inr ⟨s', m - 1, by simp at hme; omega, h1, a, [], out ++ [x'], by simp at hme ⊢; omega, by simp at hlen ⊢; omega, h2, ?_⟩
      rw [← hm, mrg_nil_r, mrg_nil_r]; simp
    | cons y' b =>
      rcases tri x' y' with ⟨c1, c2, c3⟩ | ⟨c1, c2, c3⟩ | ⟨c1, c2, c3⟩
      · obtain ⟨s', h1, h2⟩ := st_lt hs (by omega) c1
        refine .inr ⟨s', m - 1, by simp at hme; omega, h1, a, y' :: b, out ++ [x'], by simp at hme ⊢; omega, by simp at hlen ⊢; omega, h2, ?_⟩
        rw [← hm, mrg_cons, c1, List.append_assoc]; rfl
      · obtain ⟨s', h1, h2⟩ := st_gt hs (by omega) c1 c2
        refine .inr ⟨s', m - 1, by simp at hme; omega, h1, x' :: a, b, out ++ [y'], by simp at hme ⊢; omega, by simp at hlen ⊢; omega, h2, ?_⟩
        rw [← hm, mrg_cons, c1, c2, List.append_assoc]; rfl
      · obtain ⟨s', h1, h2⟩ := st_eq hs (by omega) c1 c2
        refine .inr ⟨s', m - 1, by simp at hme; omega, h1, a, b, out ++ [comb x' y'], by simp at hme ⊢; omega, by simp at hlen ⊢; omega, h2, ?_⟩
        rw [← hm, mrg_cons, c1, c2, List.append_assoc]; rfl
noncomputable def pM (l r : List Ent) : List Ent × Int := merge l r
noncomputable def gM (l r : List Ent) : Bool := decide (l.length ≤ 1000) && decide (r.length ≤ 1000)
noncomputable def SM18 : Sum := sum2 cEL cEL fun l r => .guard (gM l r) (.ret (.tup [eEL (pM l r).1, i (pM l r).2], []))
@[reducible] noncomputable def SM17 : Sum := SM18
theorem okM17 : FnOk Try.prog G 17 SM17 := sum2_conv ok17u fun x y v out h => by
  obtain ⟨h1, rfl, rfl⟩ := guard_some h
  refine ⟨rfl, ?_⟩
  unfold gM at h1
  rw [Bool.and_eq_true] at h1
  have hx := of_decide_eq_true h1.1
  have hy := of_decide_eq_true h1.2
  have hgx : gC x = true := decide_eq_true (by omega)
  have hgy : gC y = true := decide_eq_true (by omega)
  show ∃ r o, (ko17 (p17u x y)).run = some (r, o) ∧ _
  have hl := loop17 x y hx hy
  have hm := mrg_len x y
  have hg : ∀ l : List Ent, l.length ≤ 2000 → g29t l () = true := fun l h => decide_eq_true (by omega)
  unfold p17u pM
  simp only [ls_id, ok_id, hgx, hgy, pC]
  cases c1 : chk x != 0 with
  | true =>
    have ea : merge x y = ([], chk x) := by unfold merge; exact sel_l c1 rfl
    rw [ea]
    exact ⟨_, _, rfl, leNil _⟩
  | false =>
  cases c2 : chk y != 0 with
  | true =>
    have ea : merge x y = ([], chk y) := by unfold merge; exact sel_r c1 (sel_l c2 rfl)
    rw [ea]
    exact ⟨_, _, rfl, leNil _⟩
  | false =>
  simp only at hl
  generalize lp (st17_0 ⟨⟩) ⟨0, x.length, fun k => rE (gE x k), y.length, fun k => rE (gE y k), 0, []⟩ = r at hl ⊢
  obtain ⟨h1, h2, h3⟩ := hl
  rcases h1 with ⟨h1, h4⟩ | h1
  · have ea : merge x y = ([], 0) := by
      unfold merge
      exact sel_r c1 (sel_r c2 (sel_r (by rw [h4]; rfl) (sel_r (by rw [h4]; rfl) (by rw [h4]))))
    rw [ea, h1]
    exact ⟨_, _, rfl, leNil _⟩
  · have e100 : decide (((mrg x y).length : Int) > 100) = decide (100 < (mrg x y).length) := by rw [Bool.eq_iff_iff]; simp; omega
    simp only [h1, h2, h3, rows_blk, ok_blk, e100, hg (mrg x y) (by omega), p29t]
    cases c3 : decide (100 < (mrg x y).length) with
    | true =>
      have ea : merge x y = ([], 2) := by unfold merge; exact sel_r c1 (sel_r c2 (sel_l c3 rfl))
      rw [ea]
      exact ⟨_, _, rfl, leNil _⟩
    | false =>
      cases c4 : (mrg x y).any fun u => decide (u.l > u.h) with
      | true =>
        have ea : merge x y = ([], 21) := by unfold merge; exact sel_r c1 (sel_r c2 (sel_r c3 (sel_l c4 rfl)))
        rw [ea]
        exact ⟨_, _, rfl, leNil _⟩
      | false =>
        have ea : merge x y = (mrg x y, 0) := by unfold merge; exact sel_r c1 (sel_r c2 (sel_r c3 (sel_r c4 rfl)))
        rw [ea]
        exact ⟨_, _, rfl, leOwn _ _⟩
end Go.Ev.W.X

