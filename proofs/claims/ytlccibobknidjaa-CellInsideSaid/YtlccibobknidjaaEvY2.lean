/- Own work: a part of the proof. -/
import Derived.Test.YtlccibobknidjaaEvID9
import Derived.Test.YtlccibobknidjaaEvIE2
import Derived.Test.YtlccibobknidjaaEvFz
import Derived.ChangeStays
import Derived.ChangeSame
import Derived.OpenShut
import Derived.RowKit
import Derived.Test.YtlccibobknidjaaEvSp7
set_option linter.unusedVariables false
set_option linter.unusedSimpArgs false
set_option linter.unnecessarySimpa false
set_option linter.unusedSectionVars false
namespace Go.Ev.Ce
open Go Go.Ev Go.Ev.L Go.Proofs
noncomputable def onc (X : List Pt) (p : Pln) : Nat := X.countP fun x => rm p x == 0
noncomputable def keep (X : List Pt) (p : Pln) : Bool := !decide ((onc X p : Int) < 3)
theorem Wb0 (p : Pln) (X : List Pt) (hX : X.length ≤ 1000000000) : ba3 ⟨p.n.x, p.n.y, p.n.z, p.b, X⟩ = ⟨1, !keep X p, X⟩ := by
 have h := Mb5 (step := ea2 ⟨X, (X.length : Int), X, p.n.x, p.n.y, p.n.z, p.b⟩) (mk := fun j (n : Nat) => (⟨(n : Int), (j : Int)⟩ : J2)) (f := fun n x => if rm p x == 0 then n + 1 else n) (fin := 1) tX X (fun j n => n ≤ j) hX
  (fun j n hj hi => by
   have hW : W ((n : Int) + 1) = ((n + 1 : Nat) : Int) := by rw [ca5 (by omega) (by omega)]; omega
   refine ⟨?_, by show (if rm p (gL tX X j) == 0 then n + 1 else n) ≤ j + 1; split <;> omega⟩
   simp only [ea2, aa6, Int.toNat_natCast, mc1, hW, L7 hj (show X.length ≤ 4611686018427387904 by omega)]
   rw [btD (J1 hj), bt (q7 hj)]
   cases rm p (gL tX X j) == 0 <;> rfl)
  (fun n _ => by simp only [ea2, aa6]; rw [bfD (ka7 (Nat.lt_irrefl _))]) 0 (Nat.zero_le _) 0 (Nat.le_refl _)
 have h := h.1
 have e : ∀ (l : List Pt) (n : Nat), l.foldl (fun n x => if rm p x == 0 then n + 1 else n) n = n + l.countP fun x => rm p x == 0 := by
  intro l
  induction l with
  | nil => intro n; rfl
  | cons x l ih =>
   intro n
   rw [List.foldl_cons, ih, List.countP_cons]
   split <;> omega
 rw [List.drop_zero, e, Nat.zero_add] at h
 unfold ba3 ha8 keep onc
 simp only [D9, F7]
 rw [show (⟨0, 0⟩ : J2) = ⟨((0 : Nat) : Int), ((0 : Nat) : Int)⟩ from rfl, h]
 show ha7.mk 1 (decide _) X = ha7.mk 1 (!(!(decide _))) X
 rw [Bool.not_not]
theorem ld1 (l : List Pln) (X : List Pt) (hl : l.length ≤ 1000000000) (hX : X.length ≤ 1000000000) : N1 ⟨l.length, bL tP l, X⟩ = ⟨1, if l.any (fun p => !keep X p) then ((l.findIdx (fun p => !keep X p) : Nat) : Int) else -1, X⟩ := by
 have h := Xa5 (step := D3 ⟨l.length, (l.length : Int), bL tP l⟩) (mk := fun j => (⟨(j : Int), X⟩ : l5)) (c := fun p => !keep X p) (u := 1) (fin := 2) tP l hl
  (fun j hj => by
   simp only [D3, A6, Int.toNat_natCast, D9, F7, Nb1 hj, Ab3 hj, Wb0 _ _ hX, L7 hj (show l.length ≤ 4611686018427387904 by omega)]
   rw [btD (J1 hj), bt (q7 hj)]
   rfl)
  (by simp only [D3, A6]; rw [bfD (ka7 (Nat.lt_irrefl _))]) 0 (Nat.zero_le _)
 rw [List.drop_zero] at h
 unfold N1 B6
 simp only [D9, F7]
 rw [show (⟨0, X⟩ : l5) = ⟨((0 : Nat) : Int), X⟩ from rfl, h]
 cases ha : l.any fun p => !keep X p with
 | false => rfl
 | true =>
  have hf : l.findIdx (fun p => !keep X p) < l.length := by
   rw [List.any_eq_true] at ha
   obtain ⟨p, hp, hc⟩ := ha
   exact List.findIdx_lt_length_of_exists ⟨p, hp, hc⟩
  simp only [if_true, Nat.zero_add, Int.toNat_natCast, Ab3 hf, Wb0 _ _ hX, D9]
  rfl
theorem Ab8 {α : Type} (c : α → Bool) : ∀ l : List α, (l.take (l.findIdx c)).filter (fun x => !c x) = l.take (l.findIdx c)
 | [] => rfl
 | x :: l => by
  rw [List.findIdx_cons]
  cases h : c x with
  | true => rfl
  | false =>
   simp only [cond_false, List.take_succ_cons, List.filter_cons, h, Bool.not_false, if_true]
   rw [Ab8 c l]
theorem Gc1 {α : Type} (l : List α) (j : Nat) (h : j < l.length) : l.take (j + 1) = l.take j ++ [l[j]] := by rw [List.take_succ_eq_append_getElem h]
theorem nc9 {α : Type} (t : Ty α) {l : List α} {j : Nat} (h : j < l.length) : l.take (j + 1) = l.take j ++ [gL t l j] := by rw [Gc1 l j h, xb3 t h]
theorem Gb4 {α : Type} (t : Ty α) {l r : List α} {j : Nat} (h : l.drop j = r.drop j) : gL t l j = gL t r j := by
 have h1 := Mb9 t l j 0
 have h2 := Mb9 t r j 0
 rw [Nat.add_zero] at h1 h2
 rw [← h1, ← h2, h]
theorem Ab9 {α : Type} {l r : List α} {j : Nat} (h : l.drop j = r.drop j) (k : Nat) : l.drop (j + k) = r.drop (j + k) := by rw [← List.drop_drop, ← List.drop_drop, h]
structure Del (l : List Pln) (f : Pln → Bool) (cur : List Pln) (m j : Nat) : Prop where
 len : cur.length = l.length
 t : cur.take m = (l.take j).filter f
 d : cur.drop j = l.drop j
 le : m ≤ j
 lm : m ≤ l.length
theorem yc4 (l : List Pln) (X : List Pt) (hl : l.length ≤ 1000000000) (hX : X.length ≤ 1000000000) (m j : Nat) (cur : List Pln) (hd : Del l (keep X) cur m j) :
  ∃ t s, lp (y7 ⟨l.length⟩) ⟨(m : Int), (j : Int), bL tP cur, X⟩ = (t, s) ∧ (t = 1 ∧ ∃ m' cur' k, s = ⟨((m' : Nat) : Int), ((k : Nat) : Int), bL tP cur', X⟩ ∧ Del l (keep X) cur' m' k ∧ l.length ≤ k) := by
 refine nc0 (step := y7 ⟨l.length⟩) (mk := fun j (x : Nat × List Pln) => (⟨(x.1 : Int), (j : Int), bL tP x.2, X⟩ : o5)) l.length (fun j x => Del l (keep X) x.2 x.1 j) (fun t s => t = 1 ∧ ∃ m' cur' k, s = ⟨((m' : Nat) : Int), ((k : Nat) : Int), bL tP cur', X⟩ ∧ Del l (keep X) cur' m' k ∧ l.length ≤ k) hl (fun j x hj hx => ?_) (fun j x hj hx => ?_) j (m, cur) hd
 ·obtain ⟨m, cur⟩ := x
  obtain ⟨h1, h2, h3, h4, h5⟩ := hx
  simp only at h1 h2 h3 h4 h5
  have hjc : j < cur.length := by omega
  have hmc : m < cur.length := by omega
  have hg : gL tP cur j = gL tP l j := Gb4 tP h3
  have hWm : W ((m : Int) + 1) = ((m + 1 : Nat) : Int) := by rw [ca5 (by omega) (by omega)]; omega
  have hb : Nat.blt m cur.length = true := by rw [Nat.blt_eq]; exact hmc
  have hrow : s4 (bL tP cur) m = tP.row (gL tP cur m) := ha5 tP hmc
  have sp : ∀ (v : Pln) (x1 x2 x3 x4 : Int), ca1 (tP.row v) 0 [i x1, i x2, i x3, i x4] = tP.row ⟨⟨x1, x2, x3⟩, x4⟩ := fun _ _ _ _ _ => rfl
  have rl : ∀ v : Pln, Nat.ble (0 + 4) (len (tP.row v)) = true := fun _ => rfl
  simp only [y7, A7, Int.toNat_natCast, D9, F7, Nb1 hjc, Ab3 hjc, Wb0 _ _ hX, L7 hj (show l.length ≤ 4611686018427387904 by omega), hWm]
  rw [btD (J1 hj), bt (q7 hj)]
  simp only [Nat.zero_add, hrow, ta4, hb, sp, sc4, q7 (show m < l.length by omega), hg]
  have ht := nc9 tP hj
  have hd1 : cur.drop (j + 1) = l.drop (j + 1) := Ab9 h3 1
  cases hk : keep X (gL tP l j) with
  | true =>
   refine .nx ⟨(m + 1, cur.set m (gL tP l j)), rfl, ⟨by rw [List.length_set]; exact h1, ?_, ?_, by omega, by show m + 1 ≤ l.length; omega⟩⟩
   ·show (cur.set m (gL tP l j)).take (m + 1) = _
    rw [ht, List.filter_append, List.take_succ_eq_append_getElem (by rw [List.length_set]; exact hmc), List.getElem_set_self, List.take_set_of_le (Nat.le_refl _), h2, List.filter_cons, hk, if_pos rfl, List.filter_nil]
   ·show (cur.set m (gL tP l j)).drop (j + 1) = _
    rw [List.drop_set_of_lt (by omega), hd1]
  | false =>
   refine .nx ⟨(m, cur), rfl, ⟨h1, ?_, hd1, by omega, h5⟩⟩
   show cur.take m = _
   rw [ht, List.filter_append, h2, List.filter_cons, hk, if_neg (by simp), List.filter_nil, List.append_nil]
 ·obtain ⟨m, cur⟩ := x
  refine ⟨1, ?_, rfl, m, cur, j, rfl, hx, hj⟩
  simp only [y7, A7]
  rw [bfD (by omega)]
theorem Lc0 (l : List Pln) (n : Nat) : F4 (bL tP l) n = bL tP (l.take n) := by unfold bL; rw [F5, o3, o3, List.map_take]
theorem oc0 (l : List Pln) (n : Nat) : j7 (bL tP l) n = bL tP (l.drop n) := by unfold bL; rw [F6, o3, o3, List.map_drop]
theorem Lc1 (n : Nat) : List.replicate n [i 0, i 0, i 0, i 0] = bL tP (List.replicate n ⟨⟨0, 0, 0⟩, 0⟩) := by unfold bL; rw [o3, List.map_replicate]; rfl
theorem Rc5 (l : List Pln) (X : List Pt) (hl : l.length ≤ 1000000000) (hX : X.length ≤ 1000000000) :
  ∃ m r, N4 ⟨l.length, bL tP l, X⟩ = ⟨1, m, bL tP r, X⟩ ∧ m ≤ r.length ∧ r.take m = l.filter (keep X) ∧ r.length = l.length := by
 unfold N4 B7
 simp only [D9, F7, ld1 l X hl hX]
 cases ha : l.any fun p => !keep X p with
 | false =>
  refine ⟨l.length, l, rfl, Nat.le_refl _, ?_, rfl⟩
  rw [List.take_length]
  symm
  rw [List.filter_eq_self]
  intro p hp
  have := List.any_eq_false.1 ha p hp
  simpa using this
 | true =>
  have hf : l.findIdx (fun p => !keep X p) < l.length := by
   rw [List.any_eq_true] at ha
   obtain ⟨p, hp, hc⟩ := ha
   exact List.findIdx_lt_length_of_exists ⟨p, hp, hc⟩
  have hk : keep X (gL tP l (l.findIdx fun p => !keep X p)) = false := by
   have := List.findIdx_getElem (xs := l) (p := fun p => !keep X p) (w := hf)
   rw [xb3 tP hf]
   simpa using this
  have ht := Ab8 (fun p => !keep X p) l
  simp only [Bool.not_not] at ht
  generalize hF : l.findIdx (fun p => !keep X p) = F at *
  have hW : W ((F : Int) + 1) = ((F + 1 : Nat) : Int) := L7 hf (by omega)
  have hne : ((F : Int) == -1) = false := by rw [beq_eq_false_iff_ne]; omega
  obtain ⟨t, s, e1, rfl, m, cur, k, e2, e3, e4⟩ := yc4 l X hl hX F (F + 1) l ⟨rfl, by rw [nc9 tP hf, List.filter_append, ht, List.filter_cons, hk, if_neg (by simp), List.filter_nil, List.append_nil], rfl, by omega, by omega⟩
  have hm : m ≤ l.length := e3.lm
  have hin : inB (m : Int) (l.length + 1) = true := q7 (by omega)
  have hfin : cur.take m = l.filter (keep X) := by rw [e3.t, List.take_of_length_le e4]
  simp only [if_true, hW, hne, e1, e2, Int.toNat_natCast, hin, Nat.zero_add, Nat.sub_zero]
  refine ⟨m, cur.take m ++ (List.replicate (l.length - m) ⟨⟨0, 0, 0⟩, 0⟩ ++ cur.drop (m + (l.length - m))), ?_, ?_, ?_, ?_⟩
  ·rw [Lc0, Lc1, oc0, Xa4, Xa4]
   rfl
  ·rw [List.length_append, List.length_append, List.length_take, List.length_replicate, e3.len]; omega
  ·rw [List.take_append_of_le_length (by rw [List.length_take, e3.len]; omega), List.take_take, Nat.min_self, hfin]
  ·rw [List.length_append, List.length_append, List.length_take, List.length_replicate, List.length_drop, e3.len]; omega
def eqP (x y : Pln) : Bool := x.n.x == y.n.x && (x.n.y == y.n.y && (x.n.z == y.n.z && (x.b == y.b && true)))
theorem ld2 (x y : Pln) : eqP x y = true ↔ x = y := by
 unfold eqP
 simp only [Bool.and_true, Bool.and_eq_true, beq_iff_eq]
 refine ⟨fun ⟨h1, h2, h3, h4⟩ => ?_, fun h => by subst h; exact ⟨rfl, rfl, rfl, rfl⟩⟩
 obtain ⟨⟨x1, x2, x3⟩, x4⟩ := x
 obtain ⟨⟨y1, y2, y3⟩, y4⟩ := y
 simp only at h1 h2 h3 h4
 subst h1 h2 h3 h4
 rfl
def ddF : Pln → List Pln → List Pln
 | _, [] => []
 | a, x :: l => if eqP x a then ddF x l else x :: ddF x l
def dd : List Pln → List Pln
 | [] => []
 | x :: l => x :: ddF x l
structure Cmp (l : List Pln) (n : Nat) (cur : List Pln) (m j : Nat) (R : List Pln) : Prop where
 len : cur.length = l.length
 t : cur.take m ++ ddF (gL tP l (j - 1)) ((l.take n).drop j) = R
 d : cur.drop (j - 1) = l.drop (j - 1)
 le : m + 1 ≤ j
theorem oc1 (l : List Pln) (n o : Nat) (hn : n ≤ l.length) (hl : l.length ≤ 1000000000) (ho : o < n) (m : Nat) (cur : List Pln) (R : List Pln) (hd : Cmp l n cur m (o + 1) R) :
  ∃ t s, lp (o2 ⟨n, 0 + o, n - o⟩) ⟨(m : Int), ((1 : Nat) : Int), bL tP cur⟩ = (t, s) ∧ (t = 1 ∧ ∃ m' cur' k, s = ⟨((m' : Nat) : Int), k, bL tP cur'⟩ ∧ cur'.length = l.length ∧ cur'.take m' = R ∧ m' ≤ n) := by
 refine nc0 (step := o2 ⟨n, 0 + o, n - o⟩) (mk := fun j (x : Nat × List Pln) => (⟨(x.1 : Int), (j : Int), bL tP x.2⟩ : l9)) (n - o) (fun j x => Cmp l n x.2 x.1 (o + j) R ∧ 1 ≤ j ∧ x.1 ≤ n) (fun t s => t = 1 ∧ ∃ m' cur' k, s = ⟨((m' : Nat) : Int), k, bL tP cur'⟩ ∧ cur'.length = l.length ∧ cur'.take m' = R ∧ m' ≤ n) (by omega) (fun j x hj hx => ?_) (fun j x hj hx => ?_) 1 (m, cur) ⟨hd, Nat.le_refl _, by have := hd.le; show m ≤ n; omega⟩
 ·obtain ⟨m, cur⟩ := x
  obtain ⟨⟨h1, h2, h3, h4⟩, hj1, hmn⟩ := hx
  simp only at h1 h2 h3 h4 hmn
  have hoj : o + j < n := by omega
  have hjc : o + j < cur.length := by omega
  have hjc' : o + (j - 1) < cur.length := by omega
  have hmc : m < cur.length := by omega
  have hg' : gL tP cur (o + (j - 1)) = gL tP l (o + j - 1) := by rw [show o + (j - 1) = o + j - 1 by omega]; exact Gb4 tP h3
  have hd1 : cur.drop (o + j) = l.drop (o + j) := by have := Ab9 h3 1; rw [show o + j - 1 + 1 = o + j by omega] at this; exact this
  have hg : gL tP cur (o + j) = gL tP l (o + j) := Gb4 tP hd1
  have hWm : W ((m : Int) + 1) = ((m + 1 : Nat) : Int) := by rw [ca5 (by omega) (by omega)]; omega
  have hWj : W ((j : Int) - 1) = ((j - 1 : Nat) : Int) := by rw [ca5 (by omega) (by omega)]; omega
  have hb : Nat.blt m cur.length = true := by rw [Nat.blt_eq]; exact hmc
  have hrow : s4 (bL tP cur) m = tP.row (gL tP cur m) := ha5 tP hmc
  have sp : ∀ (v : Pln) (x1 x2 x3 x4 : Int), ca1 (tP.row v) 0 [i x1, i x2, i x3, i x4] = tP.row ⟨⟨x1, x2, x3⟩, x4⟩ := fun _ _ _ _ _ => rfl
  have rl : ∀ v : Pln, Nat.ble 4 (len (tP.row v)) = true := fun _ => rfl
  simp only [o2, F9, Int.toNat_natCast, Nat.zero_add, hWj, Cc9 tP hjc, Cc9 tP hjc', Cc8 tP hjc, Cc8 tP hjc', L7 hj (show n - o ≤ 4611686018427387904 by omega), hWm, hg, hg', hrow, ta4, hb, sp, rl, sc4, q7 (show m < n by omega)]
  rw [btD (J1 hj)]
  simp only [q7 hj, q7 (show j - 1 < n - o by omega), K6, Bool.and_self]
  rw [show ((gL tP l (o + j)).n.x == (gL tP l (o + j - 1)).n.x && ((gL tP l (o + j)).n.y == (gL tP l (o + j - 1)).n.y && ((gL tP l (o + j)).n.z == (gL tP l (o + j - 1)).n.z && ((gL tP l (o + j)).b == (gL tP l (o + j - 1)).b && true)))) = eqP (gL tP l (o + j)) (gL tP l (o + j - 1)) from rfl]
  have hcons : (l.take n).drop (o + j) = gL tP l (o + j) :: (l.take n).drop (o + (j + 1)) := by
   rw [List.drop_eq_getElem_cons (by rw [List.length_take]; omega), List.getElem_take, xb3 tP (by omega)]
   rfl
  rw [hcons] at h2
  have hlast : o + (j + 1) - 1 = o + j := by omega
  unfold ddF at h2
  cases he : eqP (gL tP l (o + j)) (gL tP l (o + j - 1)) with
  | true =>
   rw [he] at h2
   simp only [if_true] at h2
   refine .nx ⟨(m, cur), rfl, ⟨⟨h1, ?_, ?_, by show m + 1 ≤ o + (j + 1); omega⟩, by omega, hmn⟩⟩
   ·rw [hlast]; exact h2
   ·rw [hlast]; exact hd1
  | false =>
   rw [he] at h2
   simp only [Bool.false_eq_true, if_false] at h2
   refine .nx ⟨(m + 1, cur.set m (gL tP l (o + j))), rfl, ⟨⟨by rw [List.length_set]; exact h1, ?_, ?_, by show m + 1 + 1 ≤ o + (j + 1); omega⟩, by omega, by show m + 1 ≤ n; omega⟩⟩
   ·rw [hlast]
    show (cur.set m (gL tP l (o + j))).take (m + 1) ++ _ = R
    rw [List.take_succ_eq_append_getElem (by rw [List.length_set]; exact hmc), List.getElem_set_self, List.take_set_of_le (Nat.le_refl _), List.append_assoc]
    exact h2
   ·rw [hlast]
    show (cur.set m (gL tP l (o + j))).drop (o + j) = _
    rw [List.drop_set_of_lt (by omega), hd1]
 ·obtain ⟨m, cur⟩ := x
  obtain ⟨⟨h1, h2, h3, h4⟩, hj1, hmn⟩ := hx
  simp only at h1 h2 h3 h4 hmn
  refine ⟨1, ?_, rfl, m, cur, _, rfl, h1, ?_, hmn⟩
  ·simp only [o2, F9]
   rw [bfD (by omega)]
  ·rw [List.drop_eq_nil_of_le (by rw [List.length_take]; omega)] at h2
   unfold ddF at h2
   rw [List.append_nil] at h2
   exact h2
theorem Gc2 (l : List Pln) (n : Nat) (hn : n ≤ l.length) (hl : l.length ≤ 1000000000) :
  ∃ m r, U5 ⟨n, bL tP l⟩ = ⟨1, m, bL tP r⟩ ∧ m ≤ r.length ∧ r.take m = dd (l.take n) := by
 unfold U5 G4
 simp only
 by_cases h2 : (n : Int) < 2
 ·rw [btD h2]
  refine ⟨n, l, rfl, hn, ?_⟩
  have : n = 0 ∨ n = 1 := by omega
  rcases this with rfl | rfl
  ·rfl
  ·cases l with
   | nil => rfl
   | cons x l => rfl
 ·rw [bfD h2]
  have h1n : 1 ≤ n := by omega
  have hI : ∀ j, j < n → 1 ≤ j → l.take j ++ ddF (gL tP l (j - 1)) ((l.take n).drop j) = dd (l.take n) →
    (eqP (gL tP l j) (gL tP l (j - 1)) = true → Cmp l n l j (j + 1) (dd (l.take n))) ∧ (eqP (gL tP l j) (gL tP l (j - 1)) = false → l.take (j + 1) ++ ddF (gL tP l (j + 1 - 1)) ((l.take n).drop (j + 1)) = dd (l.take n)) := by
   intro j hj hj1 hR
   have hcons : (l.take n).drop j = gL tP l j :: (l.take n).drop (j + 1) := by
    rw [List.drop_eq_getElem_cons (by rw [List.length_take]; omega), List.getElem_take, xb3 tP (by omega)]
   rw [hcons] at hR
   unfold ddF at hR
   constructor
   ·intro he
    rw [he] at hR
    simp only [if_true] at hR
    exact ⟨rfl, hR, rfl, Nat.le_refl _⟩
   ·intro he
    rw [he] at hR
    simp only [Bool.false_eq_true, if_false] at hR
    rw [nc9 tP (show j < l.length by omega), List.append_assoc]
    exact hR
  have inner : ∀ k, k < n → 1 ≤ k → Cmp l n l k (k + 1) (dd (l.take n)) → ∃ m' cur' k', lp (o2 ⟨n, 0 + k, n - k⟩) ⟨(k : Int), 1, bL tP l⟩ = (1, ⟨((m' : Nat) : Int), k', bL tP cur'⟩) ∧ cur'.length = l.length ∧ cur'.take m' = dd (l.take n) ∧ m' ≤ n := by
   intro k hk hk1 hc
   obtain ⟨t, s, e1, rfl, m', cur', k', rfl, e2, e3, e4⟩ := oc1 l n k hn hl hk k l _ hc
   exact ⟨m', cur', k', e1, e2, e3, e4⟩
  have key := nc0 (step := G7 ⟨n, bL tP l⟩) (mk := fun j (_ : Unit) => (⟨(j : Int)⟩ : o6)) n (fun j _ => 1 ≤ j ∧ j ≤ n ∧ l.take j ++ ddF (gL tP l (j - 1)) ((l.take n).drop j) = dd (l.take n))
   (fun t s => (t = 1 ∧ ∃ k : Nat, s = ⟨(k : Int)⟩ ∧ k < n ∧ 1 ≤ k ∧ Cmp l n l k (k + 1) (dd (l.take n))) ∨ (t = 2 ∧ l.take n = dd (l.take n))) (by omega) (fun j x hj hx => ?_) (fun j x hj hx => ?_) 1 () ⟨Nat.le_refl _, h1n, by
    cases l with
    | nil => simp only [List.length_nil] at hn; omega
    | cons x l =>
     cases n with
     | zero => omega
     | succ n => rfl⟩
  ·obtain ⟨t, s, e1, e2⟩ := key
   rw [show (⟨1⟩ : o6) = ⟨((1 : Nat) : Int)⟩ from rfl, e1]
   rcases e2 with ⟨rfl, k, rfl, hk, hk1, hc⟩ | ⟨rfl, he⟩
   ·obtain ⟨m', cur', k', e2, e3, e4, e5⟩ := inner k hk hk1 hc
    simp only [Int.toNat_natCast, e2]
    simp only [Nat.zero_add, Nat.sub_zero]
    refine ⟨m', cur'.take m' ++ (List.replicate (n - m') ⟨⟨0, 0, 0⟩, 0⟩ ++ cur'.drop (m' + (n - m'))), ?_, ?_, ?_⟩
    ·rw [Lc0, Lc1, oc0, Xa4, Xa4]
     rfl
    ·rw [List.length_append, List.length_take, e3]; omega
    ·rw [List.take_append_of_le_length (by rw [List.length_take, e3]; omega), List.take_take, Nat.min_self, e4]
   ·exact ⟨n, l, rfl, hn, he⟩
  ·obtain ⟨hj1, hjn, hR⟩ := hx
   obtain ⟨i1, i2⟩ := hI j hj hj1 hR
   have hWj : W ((j : Int) - 1) = ((j - 1 : Nat) : Int) := by rw [ca5 (by omega) (by omega)]; omega
   have hjl : j < l.length := by omega
   have hjl' : j - 1 < l.length := by omega
   simp only [G7, G0, Int.toNat_natCast, hWj, Nb1 hjl, Nb1 hjl', Ab3 hjl, Ab3 hjl', L7 hj (show n ≤ 4611686018427387904 by omega)]
   rw [btD (J1 hj), bt (q7 hj), bt (q7 (show j - 1 < n by omega)), bt (q7 (show j < n + 1 by omega))]
   simp only [K6]
   rw [show ((gL tP l j).n.x == (gL tP l (j - 1)).n.x && ((gL tP l j).n.y == (gL tP l (j - 1)).n.y && ((gL tP l j).n.z == (gL tP l (j - 1)).n.z && ((gL tP l j).b == (gL tP l (j - 1)).b && true)))) = eqP (gL tP l j) (gL tP l (j - 1)) from rfl]
   cases he : eqP (gL tP l j) (gL tP l (j - 1)) with
   | false => exact .nx ⟨(), rfl, by omega, by omega, i2 he⟩
   | true =>
    obtain ⟨m', cur', k', e2, e3, e4, e5⟩ := inner j hj hj1 (i1 he)
    rw [e2]
    simp only [q7 (show m' < n + 1 by omega)]
    exact .ex (.inl ⟨rfl, j, rfl, hj, hj1, i1 he⟩)
  ·obtain ⟨hj1, hjn, hR⟩ := hx
   refine ⟨2, ?_, .inr ⟨rfl, ?_⟩⟩
   ·simp only [G7, G0]
    rw [bfD (by omega)]
   ·have : j = n := by omega
    subst this
    rw [List.drop_eq_nil_of_le (by rw [List.length_take]; omega)] at hR
    unfold ddF at hR
    rw [List.append_nil] at hR
    exact hR
theorem bd4 (l : List Pln) (n : Nat) (hn : n ≤ l.length) : slR tP (bL tP l) 0 n = l.take n := Rb3 tP (by rw [List.length_take]; omega) fun k hk => by
 rw [Nat.zero_add, ha5 tP (by omega)]
 congr 1
 simp [gL, List.getD_eq_getElem?_getD, List.getElem?_take, hk]
theorem bd5 (l : List Pln) (n : Nat) (hn : n ≤ l.length) : okS tP (bL tP l) 0 n = true := rb9 tP (f := fun k => gL tP l k) fun k hk => by rw [Nat.zero_add, ha5 tP (by omega)]
noncomputable def lean (c : List Pln) : List Pln := if ful c then dd (bb6 (c.filter (keep (pts c)))) else []
theorem Lc2 (p : Pln) (c : List Pln) (hc : c.length ≤ 1000000) : Rd (one (r1L tP)) (Ca1 (p, c)) (fun r => r = lean (p :: c)) := by
 have hl : (p :: c).length ≤ 1000000000 := by simp only [List.length_cons]; omega
 have hX := mc9 (p :: c)
 unfold Ca1 lean
 simp only [D9, fa0, F7, xd7, xd8, jb5 hl, jb6 hl, jb3 hl, jb4 hl]
 cases hf : ful (p :: c) with
 | false => exact ⟨_, [], rfl, rfl, rfl⟩
 | true =>
  have ec : o9 (fun k => tP.row (gL tP (p :: c) k)) (List.range (c.length + 1)) = bL tP (p :: c) := sc3 tP (p :: c)
  have hcl : aa8 (p, c) = ⟨1, (p :: c).length, bL tP (p :: c)⟩ := by
   unfold aa8 J9
   simp only [ec, ta4]
   have z : Nat.beq (p :: c).length 0 = false := rfl
   have r : Nat.ble ((0 + (p :: c).length) * 32) room = true := xb2 (by simp only [List.length_cons]; omega)
   rw [z, r, Nat.zero_add]
   rfl
  obtain ⟨m, r, e1, e2, e3, e4⟩ := Rc5 (p :: c) (pts (p :: c)) hl (by omega)
  have hm : m ≤ (p :: c).length := by
   have h1 := congrArg List.length e3
   have h2 := List.length_filter_le (keep (pts (p :: c))) (p :: c)
   rw [List.length_take] at h1
   omega
  have hs : (bb6 (r.take m)).length = m := by rw [gc3, List.length_take]; omega
  have hrows : app (bL tP (bb6 (r.take m))) (j7 (bL tP r) m) = bL tP (bb6 (r.take m) ++ r.drop m) := by rw [oc0, Xa4]
  have hok : okL tP (c.length + 1) (fun k => tP.row (gL tP (p :: c) k)) = true := rb9 tP (f := fun k => gL tP (p :: c) k) fun _ _ => rfl
  simp only [hcl, e1, bd4 r m e2, bd5 r m e2, hrows, hok]
  obtain ⟨m2, r2, k1, k2, k3⟩ := Gc2 (bb6 (r.take m) ++ r.drop m) m (by rw [List.length_append, hs]; omega) (by rw [List.length_append, hs, List.length_drop, e4]; omega)
  rw [k1, ta4]
  have q1 : Nat.ble m room = true := by rw [Nat.ble_eq]; unfold room; simp only [List.length_cons] at hm; omega
  have q2 : Nat.ble m r.length = true := by rw [Nat.ble_eq]; exact e2
  rw [q1, q2]
  have hfin : r2.take m2 = dd (bb6 ((p :: c).filter (keep (pts (p :: c))))) := by
   rw [k3, List.take_append_of_le_length (by rw [hs]; omega), List.take_of_length_le (by rw [hs]; omega), e3]
  exact ud2 k2 rfl hfin
theorem ud3 (p : Pln) (c : List Pln) (hc : c.length ≤ 1000000) : kb3 (p, c) = lean (p :: c) := (Lc2 p c hc).p
theorem ud4 (p : Pln) (c : List Pln) (hc : c.length ≤ 1000000) : kb4 (p, c) = true := (Lc2 p c hc).g
end Go.Ev.Ce
namespace Go.Ev.Ce
open Go Go.Ev Go.Ev.L Go.Proofs Go.Sort
theorem Gc3 (l : List Pln) : List.Perm (bb6 l) l := List.mergeSort_perm l _
theorem Rc6 (x y z : Pln) (h1 : (!ltOf La6 y x) = true) (h2 : (!ltOf La6 z y) = true) : (!ltOf La6 z x) = true := by
 simp only [Bool.not_eq_true', Ia1, decide_eq_false_iff_not] at *
 unfold LtP at *
 omega
theorem Rc7 (x y : Pln) : ((!ltOf La6 y x) || !ltOf La6 x y) = true := by
 simp only [Bool.or_eq_true, Bool.not_eq_true', Ia1, decide_eq_false_iff_not]
 unfold LtP
 omega
theorem oc2 (l : List Pln) : (bb6 l).Pairwise fun x y => (!ltOf La6 y x) = true := List.pairwise_mergeSort Rc6 Rc7 l
theorem oc3 {l r : List Pln} (hp : List.Perm r l) (hs : r.Pairwise fun x y => (!ltOf La6 y x) = true) : bb6 l = r :=
 List.Perm.eq_of_pairwise (fun x y _ _ h1 h2 => Ad7 x y (by simpa using h2) (by simpa using h1)) (oc2 l) hs ((Gc3 l).trans hp.symm)
instance : DecidableEq Pln := fun x y => decidable_of_iff _ (ld2 x y)
def U6 : List Pln := [⟨⟨1, 0, 0⟩, 1⟩, ⟨⟨-1, 0, 0⟩, 0⟩, ⟨⟨0, 1, 0⟩, 1⟩, ⟨⟨0, -1, 0⟩, 0⟩, ⟨⟨0, 0, 1⟩, 1⟩, ⟨⟨0, 0, -1⟩, 0⟩]
def U8 : List Pln := [⟨⟨-1, 0, 0⟩, 0⟩, ⟨⟨0, 1, 0⟩, 1⟩, ⟨⟨0, -1, 0⟩, 0⟩, ⟨⟨0, 0, 1⟩, 1⟩, ⟨⟨0, 0, -1⟩, 0⟩, ⟨⟨1, 0, 0⟩, 1⟩, ⟨⟨1, 1, 1⟩, 3⟩, ⟨⟨1, 0, 0⟩, 7⟩]
def C4 : List Pln := [⟨⟨-1, 0, 0⟩, 0⟩, ⟨⟨0, -1, 0⟩, 0⟩, ⟨⟨0, 0, -1⟩, 0⟩, ⟨⟨2, 3, 4⟩, 1⟩]
def U7 : List Pln := [⟨⟨1, 0, 0⟩, 1⟩, ⟨⟨-1, 0, 0⟩, 0⟩, ⟨⟨0, 1, 0⟩, 1⟩, ⟨⟨0, -1, 0⟩, 0⟩, ⟨⟨0, 0, 1⟩, 1⟩, ⟨⟨0, 0, -1⟩, 0⟩, ⟨⟨-1, 0, 0⟩, -1⟩]
def LU : List Pln := [⟨⟨-1, 0, 0⟩, 0⟩, ⟨⟨0, -1, 0⟩, 0⟩, ⟨⟨0, 0, -1⟩, 0⟩, ⟨⟨0, 0, 1⟩, 1⟩, ⟨⟨0, 1, 0⟩, 1⟩, ⟨⟨1, 0, 0⟩, 1⟩]
def PU : List Pt := [⟨1, 1, 1, 1⟩, ⟨1, 1, 0, 1⟩, ⟨1, 0, 1, 1⟩, ⟨1, 0, 0, 1⟩, ⟨0, 1, 1, 1⟩, ⟨0, 1, 0, 1⟩, ⟨0, 0, 1, 1⟩, ⟨0, 0, 0, 1⟩]
def PC : List Pt := [⟨0, 0, 0, 1⟩, ⟨0, 0, 1, 4⟩, ⟨0, 1, 0, 3⟩, ⟨1, 0, 0, 2⟩]
theorem ud5 : pts U6 = PU := by kernel_rfl
theorem ud6 : pts C4 = PC := by kernel_rfl
theorem ud7 : ful [] = true := by kernel_rfl
theorem ud8 : ful U7 = false := by kernel_rfl
theorem ud9 : has U6 ⟨1, 0, 0⟩ = true := by kernel_rfl
theorem vd0 : has U6 ⟨2, 0, 0⟩ = false := by kernel_rfl
theorem Bd1 : bnd C4 = (⟨0, 0, 0⟩, ⟨1, 1, 1⟩, true) := by kernel_rfl
theorem Bd2 : apart U6 [⟨⟨-1, 0, 0⟩, -1⟩] = true := by kernel_rfl
theorem Bd3 : apart U6 [⟨⟨-1, -1, 0⟩, -1⟩] = false := by kernel_rfl
theorem Bd4 : ad9 U6 [⟨⟨1, 1, 1⟩, 3⟩] = true := by kernel_rfl
theorem Bd5 : ad9 U6 [⟨⟨1, 1, 1⟩, 2⟩] = false := by kernel_rfl
theorem Bd6 : chk [⟨⟨0, 0, 0⟩, 0⟩] = 12 := by kernel_rfl
theorem Bd7 : (⟨⟨1, 0, 0⟩, 1⟩ :: U8).filter (keep (pts (⟨⟨1, 0, 0⟩, 1⟩ :: U8))) = [⟨⟨1, 0, 0⟩, 1⟩, ⟨⟨-1, 0, 0⟩, 0⟩, ⟨⟨0, 1, 0⟩, 1⟩, ⟨⟨0, -1, 0⟩, 0⟩, ⟨⟨0, 0, 1⟩, 1⟩, ⟨⟨0, 0, -1⟩, 0⟩, ⟨⟨1, 0, 0⟩, 1⟩] := by kernel_rfl
theorem vd1 : ful (⟨⟨1, 0, 0⟩, 1⟩ :: U8) = true := by kernel_rfl
theorem vd2 : lean (⟨⟨1, 0, 0⟩, 1⟩ :: U8) = LU := by
 unfold lean
 rw [vd1, if_pos rfl, Bd7, oc3 (r := [⟨⟨-1, 0, 0⟩, 0⟩, ⟨⟨0, -1, 0⟩, 0⟩, ⟨⟨0, 0, -1⟩, 0⟩, ⟨⟨0, 0, 1⟩, 1⟩, ⟨⟨0, 1, 0⟩, 1⟩, ⟨⟨1, 0, 0⟩, 1⟩, ⟨⟨1, 0, 0⟩, 1⟩])]
 ·rfl
 ·exact List.isPerm_iff.1 (by kernel_rfl)
 ·exact of_decide_eq_true (by kernel_rfl)
theorem ld3 : ab1 = ⟨1, 0, 1, 0, 1, 0⟩ := by kernel_rfl
theorem gc5 : la2 = some (b true, []) := by
 have le : ∀ {c : List Pln}, c.length ≤ 100 → c.length ≤ 1000000000 := fun h => by omega
 have le' : ∀ {c : List Pln}, c.length ≤ 100 → c.length ≤ 100000000 := fun h => by omega
 have u : U6.length ≤ 100 := by decide
 have u7 : U7.length ≤ 100 := by decide
 have u8 : U8.length ≤ 1000000 := by decide
 have c4 : C4.length ≤ 100 := by decide
 have n0 : ([] : List Pln).length ≤ 100 := by decide
 have o1 : ∀ p : Pln, [p].length ≤ 100 := fun _ => (by decide : 1 ≤ 100)
 unfold la2
 rw [ld3]
 simp only [D9, fa0]
 rw [show ([⟨⟨1, 0, 0⟩, 1⟩, ⟨⟨-1, 0, 0⟩, 0⟩, ⟨⟨0, 1, 0⟩, 1⟩, ⟨⟨0, -1, 0⟩, 0⟩, ⟨⟨0, 0, 1⟩, 1⟩, ⟨⟨0, 0, -1⟩, 0⟩, ⟨⟨-1, 0, 0⟩, -1⟩] : List Pln) = U7 from rfl,
  show ([⟨⟨-1, 0, 0⟩, 0⟩, ⟨⟨0, 1, 0⟩, 1⟩, ⟨⟨0, -1, 0⟩, 0⟩, ⟨⟨0, 0, 1⟩, 1⟩, ⟨⟨0, 0, -1⟩, 0⟩, ⟨⟨1, 0, 0⟩, 1⟩, ⟨⟨1, 1, 1⟩, 3⟩, ⟨⟨1, 0, 0⟩, 7⟩] : List Pln) = U8 from rfl,
  show ([⟨⟨1, 0, 0⟩, 1⟩, ⟨⟨-1, 0, 0⟩, 0⟩, ⟨⟨0, 1, 0⟩, 1⟩, ⟨⟨0, -1, 0⟩, 0⟩, ⟨⟨0, 0, 1⟩, 1⟩, ⟨⟨0, 0, -1⟩, 0⟩] : List Pln) = U6 from rfl,
  show ([⟨⟨-1, 0, 0⟩, 0⟩, ⟨⟨0, -1, 0⟩, 0⟩, ⟨⟨0, 0, -1⟩, 0⟩, ⟨⟨2, 3, 4⟩, 1⟩] : List Pln) = C4 from rfl,
  show ([⟨⟨-1, 0, 0⟩, 0⟩, ⟨⟨0, -1, 0⟩, 0⟩, ⟨⟨0, 0, -1⟩, 0⟩, ⟨⟨0, 0, 1⟩, 1⟩, ⟨⟨0, 1, 0⟩, 1⟩, ⟨⟨1, 0, 0⟩, 1⟩] : List Pln) = LU from rfl]
 simp only [jb3 (le u), jb4 (le u), jb3 (le c4), jb4 (le c4), ud5, ud6, ud3 _ U8 u8, ud4 _ U8 u8, vd2, jb5 (le n0), jb6 (le n0), ud7, jb5 (le u7), jb6 (le u7), ud8,
  Kc6 (le u), Kc7 (le u), ud9, vd0, kd4 (le c4), kd5 (le c4), Bd1, ab2 (le' u) (le' (o1 _)), ab3 (le' u) (le' (o1 _)), Bd2, Bd3, bd0 (le u) (le (o1 _)), bd1 (le u) (le (o1 _)), Bd4, Bd5,
  zb4 _ (le (o1 _)), zb5 _ (le (o1 _)), Bd6]
 rw [show ([⟨1, 1, 1, 1⟩, ⟨1, 1, 0, 1⟩, ⟨1, 0, 1, 1⟩, ⟨1, 0, 0, 1⟩, ⟨0, 1, 1, 1⟩, ⟨0, 1, 0, 1⟩, ⟨0, 0, 1, 1⟩, ⟨0, 0, 0, 1⟩] : List Pt) = PU from rfl,
  show ([⟨0, 0, 0, 1⟩, ⟨0, 0, 1, 4⟩, ⟨0, 1, 0, 3⟩, ⟨1, 0, 0, 2⟩] : List Pt) = PC from rfl]
 simp only [Ab1 PU (by decide), Ab2 PU (by decide), Ab1 PC (by decide), Ab2 PC (by decide), ud0 LU (by decide), ud1 LU (by decide)]
 rfl
theorem bd6 : va5 = true := by unfold va5; rw [gc5]; rfl
theorem bd7 : va6 = true := by unfold va6; rw [gc5]; rfl
end Go.Ev.Ce
namespace Go.Ev.Ce
open Go Go.Ev Go.Ev.L Go.Proofs
def atP (x : List Pln) (y : Pln) : Nat := x.findIdx fun p => !decide (La6 p y < 0)
noncomputable def ins (x : List Pln) (y : Pln) : List Pln := if (atP x y < x.length ∧ eqP (gL tP x (atP x y)) y = true) then x else Hd5 x y (atP x y)
def ld4 : List Pln → Pln → List Pln
 | [], y => [y]
 | a :: l, y => if La6 a y < 0 then a :: ld4 l y else if eqP a y then a :: l else y :: a :: l
end Go.Ev.Ce
namespace Go.Ev.Ce
def rmZ (p : Pln) (x : Pt) : Int := p.b * x.pw - (p.n.x * x.px + p.n.y * x.py + p.n.z * x.pz)
structure Inr (r : List Pln) (x : Pt) : Prop where
 w : 0 < x.pw
 h : ∀ p ∈ r, 0 ≤ rmZ p x
def Gb5 (p : Pln) : Pln := ⟨⟨-p.n.x, -p.n.y, -p.n.z⟩, -p.b⟩
theorem yc5 (p : Pln) (x : Pt) : rmZ (Gb5 p) x = -rmZ p x := by unfold rmZ Gb5; grind
structure Cn (r : List Pln) (x : Pt) : Prop extends Inr r x where
 c : ∃ p q s, p ∈ r ∧ q ∈ r ∧ s ∈ r ∧ mw p q s ≠ 0 ∧ rmZ p x = 0 ∧ rmZ q x = 0 ∧ rmZ s x = 0
def Bdd (r : List Pln) : Prop := ∀ d : V3, d ≠ ⟨0, 0, 0⟩ → ∃ p ∈ r, 0 < dot p.n d
def go (x : Pt) (q : Pln) (d : V3) : Pt := ⟨x.px * dot q.n d + rmZ q x * d.x, x.py * dot q.n d + rmZ q x * d.y, x.pz * dot q.n d + rmZ q x * d.z, x.pw * dot q.n d⟩
theorem Lc3 (p q : Pln) (x : Pt) (d : V3) : rmZ p (go x q d) = dot q.n d * rmZ p x - rmZ q x * dot p.n d := by simp only [rmZ, go, dot]; grind
theorem za7 {a b c : Int} (hc : 0 < c) (h : a * c ≤ b * c) : a ≤ b := Int.le_of_mul_le_mul_right h hc
theorem first (x : Pt) (d : V3) : ∀ r : List Pln, (∀ p ∈ r, 0 ≤ rmZ p x) → (∃ p ∈ r, 0 < dot p.n d) → ∃ q ∈ r, 0 < dot q.n d ∧ ∀ p ∈ r, 0 < dot p.n d → rmZ q x * dot p.n d ≤ rmZ p x * dot q.n d
 | [], _, h => by obtain ⟨p, hp, _⟩ := h; cases hp
 | a :: r, hx, h => by
  by_cases hr : ∃ p ∈ r, 0 < dot p.n d
  ·obtain ⟨q, hq, h1, h2⟩ := first x d r (fun p hp => hx p (List.mem_cons_of_mem _ hp)) hr
   by_cases ha : 0 < dot a.n d
   ·by_cases hc : rmZ q x * dot a.n d ≤ rmZ a x * dot q.n d
    ·refine ⟨q, List.mem_cons_of_mem _ hq, h1, fun p hp h3 => ?_⟩
     rcases List.mem_cons.1 hp with rfl | hp
     ·exact hc
     ·exact h2 p hp h3
    ·refine ⟨a, List.mem_cons_self, ha, fun p hp h3 => ?_⟩
     rcases List.mem_cons.1 hp with rfl | hp
     ·exact Int.le_refl _
     ·have h4 := h2 p hp h3
      have h5 : rmZ a x * dot q.n d < rmZ q x * dot a.n d := by omega
      have h6 := Int.mul_le_mul_of_nonneg_right h4 (Int.le_of_lt ha)
      have h7 := Int.mul_lt_mul_of_pos_right h5 h3
      have e1 : rmZ q x * dot p.n d * dot a.n d = rmZ q x * dot a.n d * dot p.n d := by grind
      have e2 : rmZ a x * dot q.n d * dot p.n d = rmZ a x * dot p.n d * dot q.n d := by grind
      have e3 : rmZ p x * dot q.n d * dot a.n d = rmZ p x * dot a.n d * dot q.n d := by grind
      refine za7 h1 ?_
      omega
   ·refine ⟨q, List.mem_cons_of_mem _ hq, h1, fun p hp h3 => ?_⟩
    rcases List.mem_cons.1 hp with rfl | hp
    ·exact absurd h3 ha
    ·exact h2 p hp h3
  ·have ha : 0 < dot a.n d := by
    obtain ⟨p, hp, h3⟩ := h
    rcases List.mem_cons.1 hp with rfl | hp
    ·exact h3
    ·exact absurd ⟨p, hp, h3⟩ hr
   refine ⟨a, List.mem_cons_self, ha, fun p hp h3 => ?_⟩
   rcases List.mem_cons.1 hp with rfl | hp
   ·exact Int.le_refl _
   ·exact absurd ⟨p, hp, h3⟩ hr
theorem step {r : List Pln} {x : Pt} (hx : Inr r x) (d : V3) (h : ∃ p ∈ r, 0 < dot p.n d) : ∃ q ∈ r, 0 < dot q.n d ∧ Inr r (go x q d) := by
 obtain ⟨q, hq, h1, h2⟩ := first x d r hx.h h
 refine ⟨q, hq, h1, ⟨Int.mul_pos hx.w h1, fun p hp => ?_⟩⟩
 rw [Lc3]
 have h3 := hx.h p hp
 have h4 := hx.h q hq
 by_cases h5 : 0 < dot p.n d
 ·have := h2 p hp h5
  have e : rmZ p x * dot q.n d = dot q.n d * rmZ p x := Int.mul_comm _ _
  omega
 ·have h6 := Int.mul_nonneg (Int.le_of_lt h1) h3
  have h7 : rmZ q x * dot p.n d ≤ 0 := Int.mul_nonpos_of_nonneg_of_nonpos h4 (by omega)
  omega
theorem bd8 {h q : Pln} {x : Pt} {d : V3} (h1 : 0 ≤ rmZ q x) (h2 : 0 ≤ dot h.n d) : rmZ h (go x q d) * x.pw ≤ rmZ h x * (go x q d).pw ∨ x.pw ≤ 0 := by
 rcases Int.lt_or_le 0 x.pw with hw | hw
 ·left
  rw [Lc3]
  have := Int.mul_nonneg h1 h2
  have h3 := Int.mul_nonneg this (Int.le_of_lt hw)
  have e : rmZ h x * (go x q d).pw = dot q.n d * rmZ h x * x.pw := by unfold go; grind
  have e2 : (dot q.n d * rmZ h x - rmZ q x * dot h.n d) * x.pw = dot q.n d * rmZ h x * x.pw - rmZ q x * dot h.n d * x.pw := by grind
  omega
 ·exact .inr hw
def neg (d : V3) : V3 := ⟨-d.x, -d.y, -d.z⟩
theorem Lc4 (a d : V3) : dot a (neg d) = -dot a d := by unfold dot neg; grind
theorem vd3 {d : V3} (h : d ≠ ⟨0, 0, 0⟩) : neg d ≠ ⟨0, 0, 0⟩ := fun h' => h (by
 cases d; unfold neg at h'; simp only [V3.mk.injEq] at h' ⊢; omega)
theorem turn (h : Pln) {d : V3} (hd : d ≠ ⟨0, 0, 0⟩) : ∃ e, e ≠ (⟨0, 0, 0⟩ : V3) ∧ 0 ≤ dot h.n e ∧ ∀ a, dot a d = 0 → dot a e = 0 := by
 by_cases h1 : 0 ≤ dot h.n d
 ·exact ⟨d, hd, h1, fun _ h => h⟩
 ·exact ⟨neg d, vd3 hd, by rw [Lc4]; omega, fun a h => by rw [Lc4, h]; rfl⟩
theorem Hd6 {n : V3} (hn : n ≠ ⟨0, 0, 0⟩) : ∃ d, d ≠ (⟨0, 0, 0⟩ : V3) ∧ dot n d = 0 := by
 by_cases h : n.x = 0 ∧ n.y = 0
 ·exact ⟨⟨1, 0, 0⟩, by simp, by unfold dot; simp [h.1]⟩
 ·refine ⟨⟨n.y, -n.x, 0⟩, fun h' => h ?_, by unfold dot; grind⟩
  simp only [V3.mk.injEq] at h'
  omega
theorem V3.ext' {a b : V3} (h1 : a.x = b.x) (h2 : a.y = b.y) (h3 : a.z = b.z) : a = b := by cases a; cases b; simp_all
theorem bd9 {m n d : V3} (hm : m ≠ ⟨0, 0, 0⟩) (h1 : dot m d = 0) (h2 : dot n d ≠ 0) : o4 m n ≠ ⟨0, 0, 0⟩ := fun h => by
 unfold o4 at h
 simp only [V3.mk.injEq] at h
 obtain ⟨c1, c2, c3⟩ := h
 unfold dot at h1 h2
 have e1 : m.x * (n.x * d.x + n.y * d.y + n.z * d.z) = 0 := by grind
 have e2 : m.y * (n.x * d.x + n.y * d.y + n.z * d.z) = 0 := by grind
 have e3 : m.z * (n.x * d.x + n.y * d.y + n.z * d.z) = 0 := by grind
 have k : ∀ {a : Int}, a * (n.x * d.x + n.y * d.y + n.z * d.z) = 0 → a = 0 := fun h => (Int.mul_eq_zero.1 h).resolve_right h2
 exact hm (V3.ext' (k e1) (k e2) (k e3))
theorem yc6 (a b : V3) : dot a (o4 a b) = 0 := by unfold dot o4; grind
theorem yc7 (a b : V3) : dot b (o4 a b) = 0 := by unfold dot o4; grind
theorem cd0 {p q : Pln} {x : Pt} {d : V3} (h : rmZ p x = 0) (h' : dot p.n d = 0) : rmZ p (go x q d) = 0 := by rw [Lc3, h, h']; simp
theorem cd1 (q : Pln) (x : Pt) (d : V3) : rmZ q (go x q d) = 0 := by rw [Lc3]; grind
theorem Bd8 {q : Pln} {d : V3} (h : 0 < dot q.n d) : q.n ≠ ⟨0, 0, 0⟩ := fun h' => by rw [h'] at h; unfold dot at h; simp at h
theorem od9 {a b c u v w : Int} (hu : 0 < u) (hv : 0 < v) (hw : 0 < w) (h1 : a * v ≤ b * u) (h2 : b * w ≤ c * v) : a * w ≤ c * u := by
 have h3 := Int.mul_le_mul_of_nonneg_right h1 (Int.le_of_lt hw)
 have h4 := Int.mul_le_mul_of_nonneg_right h2 (Int.le_of_lt hu)
 have e1 : a * v * w = a * w * v := by grind
 have e2 : b * u * w = b * w * u := by grind
 have e3 : c * v * u = c * u * v := by grind
 exact za7 hv (by omega)
theorem vd4 {r : List Pln} (hb : Bdd r) (h : Pln) {x : Pt} (hx : Inr r x) : ∃ v, Cn r v ∧ rmZ h v * x.pw ≤ rmZ h x * v.pw := by
 obtain ⟨d0, n0, p0, _⟩ := turn h (d := ⟨1, 0, 0⟩) (by simp)
 obtain ⟨q1, m1, k1, i1⟩ := step hx d0 (hb d0 n0)
 have l1 := (bd8 (h := h) (x := x) (hx.h q1 m1) p0).resolve_right (by have := hx.w; omega)
 obtain ⟨e1, ne1, he1⟩ := Hd6 (Bd8 k1)
 obtain ⟨d1, n1, p1, z1⟩ := turn h ne1
 obtain ⟨q2, m2, k2, i2⟩ := step i1 d1 (hb d1 n1)
 have l2 := (bd8 (h := h) (x := go x q1 d0) (i1.h q2 m2) p1).resolve_right (by have := i1.w; omega)
 have hc := bd9 (Bd8 k1) (z1 _ he1) (n := q2.n) (by omega)
 obtain ⟨d2, n2, p2, z2⟩ := turn h hc
 obtain ⟨q3, m3, k3, i3⟩ := step i2 d2 (hb d2 n2)
 have l3 := (bd8 (h := h) (x := go (go x q1 d0) q2 d1) (i2.h q3 m3) p2).resolve_right (by have := i2.w; omega)
 have a1 : rmZ q1 (go (go x q1 d0) q2 d1) = 0 := cd0 (cd1 _ _ _) (z1 _ he1)
 refine ⟨_, ⟨i3, q3, q1, q2, m3, m1, m2, fun h0 => ?_, cd1 _ _ _, cd0 a1 (z2 _ (yc6 _ _)), cd0 (cd1 _ _ _) (z2 _ (yc7 _ _))⟩, ?_⟩
 ·have : dot q3.n d2 = 0 := z2 _ h0
  omega
 ·exact od9 i3.w i2.w hx.w l3 (od9 i2.w i1.w hx.w l2 l1)
theorem Lb5 {r : List Pln} (hb : Bdd r) {h : Pln} (hv : ∀ v, Cn r v → 0 ≤ rmZ h v) {x : Pt} (hx : Inr r x) : 0 ≤ rmZ h x := by
 obtain ⟨v, h1, h2⟩ := vd4 hb h hx
 have h3 := Int.mul_nonneg (hv v h1) (Int.le_of_lt hx.w)
 exact za7 h1.w (by rw [Int.zero_mul]; omega)
def mid (x y : Pt) : Pt := ⟨x.px * y.pw + y.px * x.pw, x.py * y.pw + y.py * x.pw, x.pz * y.pw + y.pz * x.pw, 2 * (x.pw * y.pw)⟩
theorem cd2 (p : Pln) (x y : Pt) : rmZ p (mid x y) = rmZ p x * y.pw + rmZ p y * x.pw := by unfold rmZ mid; grind
theorem Inr.mid {r : List Pln} {x y : Pt} (hx : Inr r x) (hy : Inr r y) : Inr r (mid x y) := ⟨by unfold Ce.mid; exact Int.mul_pos (by decide) (Int.mul_pos hx.w hy.w), fun p hp => by
 rw [cd2]
 exact Int.add_nonneg (Int.mul_nonneg (hx.h p hp) (Int.le_of_lt hy.w)) (Int.mul_nonneg (hy.h p hp) (Int.le_of_lt hx.w))⟩
def ld5 (r : List Pln) : Prop := ∃ x : Pt, 0 < x.pw ∧ ∀ p ∈ r, 0 < rmZ p x
theorem Lc5 {r : List Pln} : ∀ (l : List Pln), (∀ p ∈ l, p ∈ r) → (∃ x, Inr r x) → (∀ p ∈ l, ∃ v, Inr r v ∧ 0 < rmZ p v) → ∃ x, Inr r x ∧ ∀ p ∈ l, 0 < rmZ p x
 | [], _, h, _ => by obtain ⟨x, h⟩ := h; exact ⟨x, h, fun p hp => by cases hp⟩
 | a :: l, hl, h, hv => by
  obtain ⟨x, h1, h2⟩ := Lc5 l (fun p hp => hl p (List.mem_cons_of_mem _ hp)) h (fun p hp => hv p (List.mem_cons_of_mem _ hp))
  obtain ⟨y, h3, h4⟩ := hv a List.mem_cons_self
  refine ⟨mid x y, h1.mid h3, fun p hp => ?_⟩
  rw [cd2]
  rcases List.mem_cons.1 hp with rfl | hp
  ·have := Int.mul_nonneg (h1.h p (hl p List.mem_cons_self)) (Int.le_of_lt h3.w)
   have := Int.mul_pos h4 h1.w
   omega
  ·have := Int.mul_pos (h2 p hp) h3.w
   have := Int.mul_nonneg (h3.h p (hl p (List.mem_cons_of_mem _ hp))) (Int.le_of_lt h1.w)
   omega
theorem cd3 {r : List Pln} (hb : Bdd r) (h0 : r ≠ []) : ld5 r ↔ ∀ p ∈ r, ∃ v, Cn r v ∧ 0 < rmZ p v := by
 constructor
 ·intro ⟨x, hw, hx⟩ p hp
  by_cases h : ∃ v, Cn r v ∧ 0 < rmZ p v
  ·exact h
  ·have hx' : Inr r x := ⟨hw, fun q hq => Int.le_of_lt (hx q hq)⟩
   have := Lb5 hb (h := Gb5 p) (fun v hv => by
    rw [yc5]
    have : ¬ 0 < rmZ p v := fun h' => h ⟨v, hv, h'⟩
    omega) hx'
   rw [yc5] at this
   have := hx p hp
   omega
 ·intro h
  obtain ⟨p, hp⟩ := List.exists_mem_of_ne_nil r h0
  obtain ⟨v, hv, _⟩ := h p hp
  obtain ⟨x, h1, h2⟩ := Lc5 r (fun _ h => h) ⟨v, hv.toInr⟩ fun p hp => by
   obtain ⟨v, hv, h⟩ := h p hp
   exact ⟨v, hv.toInr, h⟩
  exact ⟨x, h1.w, h2⟩
structure Eqv (x v : Pt) : Prop where
 e1 : x.px * v.pw = v.px * x.pw
 e2 : x.py * v.pw = v.py * x.pw
 e3 : x.pz * v.pw = v.pz * x.pw
theorem Eqv.rm {x v : Pt} (h : Eqv x v) (p : Pln) : rmZ p x * v.pw = rmZ p v * x.pw := by
 obtain ⟨e1, e2, e3⟩ := h
 unfold rmZ
 grind
theorem Eqv.inr {r : List Pln} {x v : Pt} (h : Eqv x v) (hw : 0 < x.pw) (hv : Inr r v) : Inr r x := ⟨hw, fun p hp => by
 have := h.rm p
 have h2 := Int.mul_nonneg (hv.h p hp) (Int.le_of_lt hw)
 exact za7 hv.w (by rw [Int.zero_mul]; omega)⟩
end Go.Ev.Ce
namespace Go.Ev.Ce
open Go Go.Ev Go.Ev.L Go.Proofs
theorem Rc8 {p : Pln} {x : Pt} (hp : Bd p) (hx : Okx x) : rm p x = rmZ p x := by
 unfold rm rmZ
 obtain ⟨w1, w2, ⟨a1, a2⟩, ⟨a3, a4⟩, a5, a6⟩ := hx
 have h0 := mb hp.b1 hp.b2 (show -600000000000 ≤ x.pw by omega) w2
 have h1 := mb hp.x1 hp.x2 a1 a2
 have h2 := mb hp.y1 hp.y2 a3 a4
 have h3 := mb hp.z1 hp.z2 a5 a6
 exact ca5 (by omega) (by omega)
theorem Lc6 {r : List Pln} (hb : Bds r) {x : Pt} (hx : Okx x) : inn r x = true ↔ Inr r x := by
 unfold inn
 rw [List.all_eq_true]
 constructor
 ·intro h
  refine ⟨hx.w1, fun p hp => ?_⟩
  have := h p hp
  rw [Rc8 (hb p hp) hx] at this
  simpa using this
 ·intro h p hp
  rw [Rc8 (hb p hp) hx]
  simpa using h.h p hp
theorem pd0 {p q s : Pln} (h : (mpt p q s).2 = true) : mw p q s ≠ 0 ∧ ∃ k : Int, k ≠ 0 ∧ k * (mpt p q s).1.px = (mv p q s).x ∧ k * (mpt p q s).1.py = (mv p q s).y ∧ k * (mpt p q s).1.pz = (mv p q s).z ∧ k * (mpt p q s).1.pw = mw p q s := by
 unfold mpt at h ⊢
 by_cases h0 : mw p q s = 0
 ·rw [if_pos h0] at h; cases h
 refine ⟨h0, ?_⟩
 have hg := mc2 (v := mv p q s) h0
 have dv : ∀ {x : Int}, (gc (mv p q s) (mw p q s)) ∣ x → gc (mv p q s) (mw p q s) * Int.tdiv x (gc (mv p q s) (mw p q s)) = x := fun h => Int.mul_tdiv_cancel' h
 have d1 : gc (mv p q s) (mw p q s) ∣ (mv p q s).x := by
  rw [← Int.dvd_natAbs]; exact Int.natCast_dvd_natCast.2 (Nat.dvd_trans (Nat.gcd_dvd_left _ _) (Nat.gcd_dvd_left _ _))
 have d2 : gc (mv p q s) (mw p q s) ∣ (mv p q s).y := by
  rw [← Int.dvd_natAbs]; exact Int.natCast_dvd_natCast.2 (Nat.dvd_trans (Nat.gcd_dvd_left _ _) (Nat.gcd_dvd_right _ _))
 have d3 : gc (mv p q s) (mw p q s) ∣ (mv p q s).z := by
  rw [← Int.dvd_natAbs]; exact Int.natCast_dvd_natCast.2 (Nat.dvd_trans (Nat.gcd_dvd_right _ _) (Nat.gcd_dvd_left _ _))
 have d4 : gc (mv p q s) (mw p q s) ∣ mw p q s := by
  rw [← Int.dvd_natAbs]; exact Int.natCast_dvd_natCast.2 (Nat.dvd_trans (Nat.gcd_dvd_right _ _) (Nat.gcd_dvd_right _ _))
 rw [if_neg h0]
 by_cases h1 : mw p q s < 0
 ·rw [if_pos h1]
  have e : ∀ {x : Int}, (gc (mv p q s) (mw p q s)) ∣ x → -(gc (mv p q s) (mw p q s)) * Int.tdiv (-x) (gc (mv p q s) (mw p q s)) = x := fun {x} h => by
   rw [Int.neg_mul, dv ((Int.dvd_neg).2 h), Int.neg_neg]
  exact ⟨-(gc (mv p q s) (mw p q s)), by omega, e d1, e d2, e d3, e d4⟩
 ·rw [if_neg h1]
  exact ⟨gc (mv p q s) (mw p q s), by omega, dv d1, dv d2, dv d3, dv d4⟩
theorem cd4 {p q s : Pln} (h : (mpt p q s).2 = true) : rmZ p (mpt p q s).1 = 0 ∧ rmZ q (mpt p q s).1 = 0 ∧ rmZ s (mpt p q s).1 = 0 := by
 obtain ⟨_, k, hk, e1, e2, e3, e4⟩ := pd0 h
 generalize (mpt p q s).1 = x at *
 have f : ∀ a : Pln, a.b * mw p q s - (a.n.x * (mv p q s).x + a.n.y * (mv p q s).y + a.n.z * (mv p q s).z) = 0 → rmZ a x = 0 := fun a ha => by
  rw [← e1, ← e2, ← e3, ← e4] at ha
  have : k * rmZ a x = 0 := by rw [← ha]; unfold rmZ; grind
  exact (Int.mul_eq_zero.1 this).resolve_left hk
 refine ⟨f p ?_, f q ?_, f s ?_⟩ <;> (simp only [mw, mv, dot, o4]; grind)
theorem ld6 {p q s : Pln} (h : mw p q s ≠ 0) : (mpt p q s).2 = true := by
 unfold mpt
 rw [if_neg h]
 split <;> rfl
theorem cd5 {p q s : Pln} {x : Pt} (h1 : rmZ p x = 0) (h2 : rmZ q x = 0) (h3 : rmZ s x = 0) : mw p q s * x.px = (mv p q s).x * x.pw ∧ mw p q s * x.py = (mv p q s).y * x.pw ∧ mw p q s * x.pz = (mv p q s).z * x.pw := by
 have i1 : (mv p q s).x * x.pw - mw p q s * x.px = (o4 q.n s.n).x * rmZ p x + (o4 s.n p.n).x * rmZ q x + (o4 p.n q.n).x * rmZ s x := by simp only [mw, mv, dot, o4, rmZ]; grind
 have i2 : (mv p q s).y * x.pw - mw p q s * x.py = (o4 q.n s.n).y * rmZ p x + (o4 s.n p.n).y * rmZ q x + (o4 p.n q.n).y * rmZ s x := by simp only [mw, mv, dot, o4, rmZ]; grind
 have i3 : (mv p q s).z * x.pw - mw p q s * x.pz = (o4 q.n s.n).z * rmZ p x + (o4 s.n p.n).z * rmZ q x + (o4 p.n q.n).z * rmZ s x := by simp only [mw, mv, dot, o4, rmZ]; grind
 rw [h1, h2, h3] at i1 i2 i3
 simp only [Int.mul_zero, Int.add_zero] at i1 i2 i3
 omega
theorem vd5 {p q s : Pln} {x v : Pt} (h : mw p q s ≠ 0) (h1 : rmZ p x = 0) (h2 : rmZ q x = 0) (h3 : rmZ s x = 0) (k1 : rmZ p v = 0) (k2 : rmZ q v = 0) (k3 : rmZ s v = 0) : Eqv x v := by
 obtain ⟨a1, a2, a3⟩ := cd5 h1 h2 h3
 obtain ⟨c1, c2, c3⟩ := cd5 k1 k2 k3
 have f : ∀ {a c m : Int}, mw p q s * a = m * x.pw → mw p q s * c = m * v.pw → a * v.pw = c * x.pw := fun {a c m} ha hc => by
  have : mw p q s * (a * v.pw - c * x.pw) = 0 := by grind
  have := (Int.mul_eq_zero.1 this).resolve_left h
  omega
 exact ⟨f a1 c1, f a2 c2, f a3 c3⟩
theorem Rc9 {r : List Pln} {p q : Pln} {out : List Pt} {s : Pln} {x : Pt} (h : x ∈ out) : x ∈ wa4 r p q out s := by
 unfold wa4
 split
 ·exact List.mem_append_left _ h
 ·exact h
theorem Wb1 {r : List Pln} {p q : Pln} {x : Pt} : ∀ {l : List Pln} {out : List Pt}, x ∈ out → x ∈ cb4 r p q l out
 | [], _, h => h
 | s :: l, out, h => Wb1 (l := l) (out := wa4 r p q out s) (Rc9 h)
theorem Bb0 {r : List Pln} {p : Pln} {x : Pt} : ∀ {l : List Pln} {out : List Pt}, x ∈ out → x ∈ Sa1 r p l out
 | [], _, h => h
 | _ :: l, _, h => Bb0 (l := l) (Wb1 h)
theorem yc8 {r : List Pln} {x : Pt} : ∀ {l : List Pln} {out : List Pt}, x ∈ out → x ∈ Kb6 r l out
 | [], _, h => h
 | _ :: l, _, h => yc8 (l := l) (Bb0 h)
theorem Sc0 {r : List Pln} {p q : Pln} {out : List Pt} {s : Pln} (h1 : (mpt p q s).2 = true) (h2 : inn r (mpt p q s).1 = true) : (mpt p q s).1 ∈ wa4 r p q out s := by
 unfold wa4
 rw [h1, h2]
 cases h : Ub3 out (mpt p q s).1 with
 | true => simpa using (Yc5 _ _).1 h
 | false => simp
theorem Wb2 {r : List Pln} {p q s : Pln} (h1 : (mpt p q s).2 = true) (h2 : inn r (mpt p q s).1 = true) : ∀ {l : List Pln} {out : List Pt}, s ∈ l → (mpt p q s).1 ∈ cb4 r p q l out
 | [], _, h => by cases h
 | t :: l, out, h => by
  show _ ∈ cb4 r p q l (wa4 r p q out t)
  rcases List.mem_cons.1 h with rfl | h
  ·exact Wb1 (Sc0 h1 h2)
  ·exact Wb2 h1 h2 h
structure Hit (r : List Pln) (Q : Pt → Prop) (p q s : Pln) : Prop where
 h1 : (mpt p q s).2 = true
 h2 : inn r (mpt p q s).1 = true
 h3 : Q (mpt p q s).1
theorem yc9 {r : List Pln} {Q : Pt → Prop} {p q s : Pln} (hq : Hit r Q p q s) (hs : Hit r Q p s q) (hne : q ≠ s) : ∀ {l : List Pln} {out : List Pt}, q ∈ l → s ∈ l → ∃ x ∈ Sa1 r p l out, Q x
 | [], _, h, _ => by cases h
 | t :: l, out, hql, hsl => by
  show ∃ x ∈ Sa1 r p l (cb4 r p t l out), Q x
  rcases List.mem_cons.1 hql with rfl | h1
  ·have h2 := (List.mem_cons.1 hsl).resolve_left fun h => hne h.symm
   exact ⟨_, Bb0 (Wb2 hq.h1 hq.h2 h2), hq.h3⟩
  ·rcases List.mem_cons.1 hsl with rfl | h2
   ·exact ⟨_, Bb0 (Wb2 hs.h1 hs.h2 h1), hs.h3⟩
   ·exact yc9 hq hs hne (l := l) h1 h2
theorem zc0 {r : List Pln} {Q : Pt → Prop} {p q s : Pln} (H : ∀ a c d, (a = p ∨ a = q ∨ a = s) → (c = p ∨ c = q ∨ c = s) → (d = p ∨ d = q ∨ d = s) → a ≠ c → c ≠ d → a ≠ d → Hit r Q a c d) (h1 : p ≠ q) (h2 : q ≠ s) (h3 : p ≠ s) :
  ∀ {l : List Pln} {out : List Pt}, p ∈ l → q ∈ l → s ∈ l → ∃ x ∈ Kb6 r l out, Q x
 | [], _, h, _, _ => by cases h
 | t :: l, out, hp, hq, hs => by
  have fin : ∀ {a c d : Pln} {out : List Pt}, (a = p ∨ a = q ∨ a = s) → (c = p ∨ c = q ∨ c = s) → (d = p ∨ d = q ∨ d = s) → a ≠ c → c ≠ d → a ≠ d → c ∈ l → d ∈ l → ∃ x ∈ Kb6 r l (Sa1 r a l out), Q x := fun ha hc hd n1 n2 n3 m1 m2 => by
   obtain ⟨x, hx, hQ⟩ := yc9 (H _ _ _ ha hc hd n1 n2 n3) (H _ _ _ ha hd hc n3 n2.symm n1) n2 (out := _) m1 m2
   exact ⟨x, yc8 hx, hQ⟩
  show ∃ x ∈ Kb6 r l (Sa1 r t l out), Q x
  rcases List.mem_cons.1 hp with rfl | hp'
  ·exact fin (.inl rfl) (.inr (.inl rfl)) (.inr (.inr rfl)) h1 h2 h3 ((List.mem_cons.1 hq).resolve_left (Ne.symm h1)) ((List.mem_cons.1 hs).resolve_left (Ne.symm h3))
  ·rcases List.mem_cons.1 hq with rfl | hq'
   ·exact fin (.inr (.inl rfl)) (.inl rfl) (.inr (.inr rfl)) (Ne.symm h1) h3 h2 hp' ((List.mem_cons.1 hs).resolve_left (Ne.symm h2))
   ·rcases List.mem_cons.1 hs with rfl | hs'
    ·exact fin (.inr (.inr rfl)) (.inl rfl) (.inr (.inl rfl)) (Ne.symm h3) h1 (Ne.symm h2) hp' hq'
    ·exact zc0 H h1 h2 h3 hp' hq' hs'
theorem Bd9 {p q s : Pln} (h : mw p q s ≠ 0) : p ≠ q ∧ q ≠ s ∧ p ≠ s := by
 refine ⟨fun e => h ?_, fun e => h ?_, fun e => h ?_⟩ <;> (subst e; simp only [mw, dot, o4]; grind)
theorem vd6 {r : List Pln} (hb : Bds r) : ∀ x ∈ cor r, Cn r x := Kc1 fun p hp q hq s hs h hi => by
 obtain ⟨w1, w2, w3, w4, w5⟩ := Fc0 (hb p hp) (hb q hq) (hb s hs) h
 obtain ⟨e1, e2, e3⟩ := cd4 h
 exact ⟨(Lc6 hb ⟨w1, w5, w2, w3, w4⟩).1 hi, p, q, s, hp, hq, hs, (pd0 h).1, e1, e2, e3⟩
theorem vd7 {r : List Pln} (hb : Bds r) {v : Pt} (hv : Cn r v) : ∃ x ∈ cor r, Eqv x v := by
 obtain ⟨p, q, s, hp, hq, hs, hw, e1, e2, e3⟩ := hv.c
 obtain ⟨n1, n2, n3⟩ := Bd9 hw
 refine zc0 (fun a c d ha hc hd m1 m2 m3 => ?_) n1 n2 n3 hp hq hs
 have hm : ∀ {a}, (a = p ∨ a = q ∨ a = s) → a ∈ r ∧ rmZ a v = 0 := fun h => by
  rcases h with rfl | rfl | rfl
  ·exact ⟨hp, e1⟩
  ·exact ⟨hq, e2⟩
  ·exact ⟨hs, e3⟩
 have hw' : mw a c d ≠ 0 := by
  have k : mw a c d = mw p q s ∨ mw a c d = -mw p q s := by
   rcases ha with rfl | rfl | rfl <;> rcases hc with rfl | rfl | rfl <;> rcases hd with rfl | rfl | rfl <;> first | exact absurd rfl m1 | exact absurd rfl m2 | exact absurd rfl m3 | exact .inl rfl | (left; simp only [mw, dot, o4]; grind; done) | (right; simp only [mw, dot, o4]; grind; done)
  rcases k with k | k <;> omega
 have h := ld6 hw'
 obtain ⟨w1, w2, w3, w4, w5⟩ := Fc0 (hb a (hm ha).1) (hb c (hm hc).1) (hb d (hm hd).1) h
 obtain ⟨f1, f2, f3⟩ := cd4 h
 have he := vd5 hw' f1 f2 f3 (hm ha).2 (hm hc).2 (hm hd).2
 exact ⟨h, (Lc6 hb ⟨w1, w5, w2, w3, w4⟩).2 (he.inr w1 hv.toInr), he⟩
theorem Gc4 (c : List Pln) : Bdd (c ++ ws) := fun d hd => by
 have k : ∀ {n : V3} {m : Int}, (⟨n, m⟩ : Pln) ∈ ws → 0 < dot n d → ∃ p ∈ c ++ ws, 0 < dot p.n d := fun h h' => ⟨_, List.mem_append_right _ h, h'⟩
 by_cases h1 : 0 < d.x
 ·exact k (n := ⟨1, 0, 0⟩) (m := 24) (by simp [ws]) (by unfold dot; simp; omega)
 by_cases h2 : d.x < 0
 ·exact k (n := ⟨-1, 0, 0⟩) (m := 24) (by simp [ws]) (by unfold dot; simp; omega)
 by_cases h3 : 0 < d.y
 ·exact k (n := ⟨0, 1, 0⟩) (m := 24) (by simp [ws]) (by unfold dot; simp; omega)
 by_cases h4 : d.y < 0
 ·exact k (n := ⟨0, -1, 0⟩) (m := 24) (by simp [ws]) (by unfold dot; simp; omega)
 by_cases h5 : 0 < d.z
 ·exact k (n := ⟨0, 0, 1⟩) (m := 24) (by simp [ws]) (by unfold dot; simp; omega)
 by_cases h6 : d.z < 0
 ·exact k (n := ⟨0, 0, -1⟩) (m := 24) (by simp [ws]) (by unfold dot; simp; omega)
 exact absurd (V3.ext' (by show d.x = 0; omega) (by show d.y = 0; omega) (by show d.z = 0; omega)) hd
theorem Lc7 {r : List Pln} (hb : Bds r) {p : Pln} (hp : Bd p) : pos (cor r) p = true ↔ ∃ v, Cn r v ∧ 0 < rmZ p v := by
 unfold pos
 rw [List.any_eq_true]
 constructor
 ·rintro ⟨x, hx, h⟩
  rw [Rc8 hp (Nb0 hb x hx)] at h
  exact ⟨x, vd6 hb x hx, by simpa using h⟩
 ·rintro ⟨v, hv, h⟩
  obtain ⟨x, hx, he⟩ := vd7 hb hv
  refine ⟨x, hx, ?_⟩
  rw [Rc8 hp (Nb0 hb x hx)]
  have h1 := he.rm p
  have h2 := Int.mul_pos h (Nb0 hb x hx).w1
  have : 0 < rmZ p x := Int.lt_of_mul_lt_mul_right (by rw [Int.zero_mul]; omega : 0 * v.pw < rmZ p x * v.pw) (Int.le_of_lt hv.w)
  simpa using this
theorem Gb6 {r : List Pln} (hb : Bds r) (hd : Bdd r) (h0 : r ≠ []) : ball r = true ↔ ld5 r := by
 rw [cd3 hd h0]
 unfold ball
 rw [List.all_eq_true]
 exact ⟨fun h p hp => (Lc7 hb (hb p hp)).1 (h p hp), fun h p hp => (Lc7 hb (hb p hp)).2 (h p hp)⟩
end Go.Ev.Ce
namespace Go.Ev.Ce
def dv (z v : Pt) : V3 := ⟨v.px * z.pw - z.px * v.pw, v.py * z.pw - z.py * v.pw, v.pz * z.pw - z.pz * v.pw⟩
end Go.Ev.Ce
namespace Go.Ev.Ce
open Go Go.Ev Go.Ev.L Go.Proofs
def phP (out : List Pln) : Nat := match out with
 | [] => 0
 | _ :: _ => 1
end Go.Ev.Ce
namespace Go.Ev.Ce
open Go Go.Ev Go.Ev.L Go.Proofs
def Va4 (p : Pln) (v : V3) : Int := if okp p && inV v then (if dot p.n v - p.b < 0 then -1 else if dot p.n v - p.b > 0 then 1 else 0) else 0
theorem cd6 {p : Pln} {v : V3} (hp : Bd p) (hv : inV v = true) : Sm 331776 (dot p.n v) := by
 obtain ⟨⟨a1, a2⟩, ⟨a3, a4⟩, a5, a6⟩ := (nb5 v).1 hv
 have r1 := mb hp.x1 hp.x2 a1 a2; have r2 := mb hp.y1 hp.y2 a3 a4; have r3 := mb hp.z1 hp.z2 a5 a6
 unfold Sm dot
 omega
def Sc1 (v : V3) : Pt := ⟨v.x, v.y, v.z, 1⟩
theorem ld7 (p : Pln) (v : V3) : rmZ p (Sc1 v) = p.b - dot p.n v := by simp only [rmZ, Sc1, dot]; omega
theorem zc1 {p : Pln} {v : V3} (hp : okp p = true) (hv : inV v = true) : Va4 p v > 0 ↔ dot p.n v > p.b := by
 unfold Va4
 rw [hp, hv]
 simp only [Bool.and_self, if_true]
 split
 ·omega
 ·split <;> omega
theorem gc6 {p : Pln} {v : V3} (hp : okp p = true) (hv : inV v = true) : Va4 p v = 0 ↔ dot p.n v = p.b := by
 unfold Va4
 rw [hp, hv]
 simp only [Bool.and_self, if_true]
 split
 ·omega
 ·split <;> omega
theorem vd8 (v : V3) : g3 v ∣ v.x ∧ g3 v ∣ v.y ∧ g3 v ∣ v.z := by
 unfold g3
 refine ⟨?_, ?_, ?_⟩ <;> rw [← Int.dvd_natAbs] <;> apply Int.natCast_dvd_natCast.2
 ·exact Nat.dvd_trans (Nat.gcd_dvd_left _ _) (Nat.gcd_dvd_left _ _)
 ·exact Nat.dvd_trans (Nat.gcd_dvd_left _ _) (Nat.gcd_dvd_right _ _)
 ·exact Nat.gcd_dvd_right _ _
theorem vd9 (v : V3) (h : g3 v ≠ 0) : g3 ⟨Int.tdiv v.x (g3 v), Int.tdiv v.y (g3 v), Int.tdiv v.z (g3 v)⟩ = 1 := by
 generalize hg : g3 v = g at *
 have h0 : 0 ≤ g := hg ▸ Fb6 v
 obtain ⟨n, rfl⟩ : ∃ n : Nat, g = n := ⟨g.toNat, by omega⟩
 have hn : 0 < n := by omega
 have hgn : Nat.gcd (Nat.gcd v.x.natAbs v.y.natAbs) v.z.natAbs = n := by unfold g3 at hg; omega
 have d1 : n ∣ Nat.gcd v.x.natAbs v.y.natAbs := hgn ▸ Nat.gcd_dvd_left _ _
 have d3 : n ∣ v.z.natAbs := hgn ▸ Nat.gcd_dvd_right _ _
 have d4 : n ∣ v.x.natAbs := Nat.dvd_trans d1 (Nat.gcd_dvd_left _ _)
 have d5 : n ∣ v.y.natAbs := Nat.dvd_trans d1 (Nat.gcd_dvd_right _ _)
 unfold g3
 simp only [Int.natAbs_tdiv, Int.natAbs_natCast]
 show ((Nat.gcd (Nat.gcd (v.x.natAbs / n) (v.y.natAbs / n)) (v.z.natAbs / n) : Nat) : Int) = 1
 rw [Nat.gcd_div d4 d5, Nat.gcd_div d1 d3, hgn, Nat.div_self hn]
 rfl
structure Thr (a b c : V3) (p : Pln) : Prop where
 ok : okp p = true
 k : ∃ g : Int, 0 < g ∧ g * p.n.x = (o4 (sub b a) (sub c a)).x ∧ g * p.n.y = (o4 (sub b a) (sub c a)).y ∧ g * p.n.z = (o4 (sub b a) (sub c a)).z
 o : p.b = dot p.n a
theorem ld8 {a b c : V3} (h : (tb4 a b c).2 = true) : (inV a = true ∧ inV b = true ∧ inV c = true) ∧ Thr a b c (tb4 a b c).1 := by
 unfold tb4 at h ⊢
 cases ha : inV a with
 | false => rw [ha] at h; cases h
 | true =>
  cases hb : inV b with
  | false => rw [ha, hb] at h; cases h
  | true =>
   cases hc : inV c with
   | false => rw [ha, hb, hc] at h; cases h
   | true =>
    rw [ha, hb, hc] at h
    simp only [Bool.and_self, if_true] at h ⊢
    obtain ⟨_, k1, k2, k3⟩ := qb2 ha hb hc
    generalize hn : o4 (sub b a) (sub c a) = n at *
    by_cases h0 : g3 n = 0
    ·rw [if_pos h0] at h; cases h
    ·rw [if_neg h0]
     have hp := Fb6 n
     obtain ⟨d1, d2, d3⟩ := vd8 n
     have q1 := L1 (g := g3 n) k1 (by omega)
     have q2 := L1 (g := g3 n) k2 (by omega)
     have q3 := L1 (g := g3 n) k3 (by omega)
     refine ⟨⟨trivial, trivial, trivial⟩, ⟨?_, ⟨g3 n, by omega, by rw [hn]; exact Int.mul_tdiv_cancel' d1, by rw [hn]; exact Int.mul_tdiv_cancel' d2, by rw [hn]; exact Int.mul_tdiv_cancel' d3⟩, rfl⟩⟩
     obtain ⟨⟨a1, a2⟩, ⟨a3, a4⟩, a5, a6⟩ := (nb5 a).1 ha
     have r1 := mb q1.1 q1.2 a1 a2; have r2 := mb q2.1 q2.2 a3 a4; have r3 := mb q3.1 q3.2 a5 a6
     unfold okp
     rw [vd9 n h0]
     simp only [List.all_cons, List.all_nil, Bool.and_true, Bool.and_eq_true, za3, beq_self_eq_true, true_and, and_true]
     refine ⟨⟨q1, q2, q3⟩, ?_⟩
     unfold Sm dot
     simp only
     omega
theorem cd7 {p : Pln} (h : okp p = true) : okp (Gb5 p) = true := by
 unfold okp Gb5 g3 at *
 simp only [List.all_cons, List.all_nil, Bool.and_true, Bool.and_eq_true, za3, Int.natAbs_neg] at h ⊢
 obtain ⟨⟨h1, h2, h3⟩, h4, h5⟩ := h
 exact ⟨⟨h1.neg, h2.neg, h3.neg⟩, h4, h5.neg⟩
def hold (p : Pln) (l : List V3) : Bool := !l.any fun v => decide (Va4 p v > 0)
end Go.Ev.Ce
namespace Go.Ev.Ce
open Go Go.Ev Go.Ev.L Go.Proofs
noncomputable def Cd0 (l : List V3) (a c : Nat) (out : List Pln) (k : Nat) : List Pln :=
  if (tb4 (gL tV l a) (gL tV l c) (gL tV l k)).2 then
    (if hold (Gb5 (tb4 (gL tV l a) (gL tV l c) (gL tV l k)).1) l then ld4 (if hold (tb4 (gL tV l a) (gL tV l c) (gL tV l k)).1 l then ld4 out (tb4 (gL tV l a) (gL tV l c) (gL tV l k)).1 else out) (Gb5 (tb4 (gL tV l a) (gL tV l c) (gL tV l k)).1)
     else (if hold (tb4 (gL tV l a) (gL tV l c) (gL tV l k)).1 l then ld4 out (tb4 (gL tV l a) (gL tV l c) (gL tV l k)).1 else out))
  else out
noncomputable def F2 (l : List V3) (a : Nat) (out : List Pln) (c : Nat) : List Pln := (List.range c).foldl (Cd0 l a c) out
noncomputable def F1 (l : List V3) (out : List Pln) (a : Nat) : List Pln := (List.range a).foldl (F2 l a) out
noncomputable def F0 (l : List V3) : List Pln := (List.range l.length).foldl (F1 l) []
end Go.Ev.Ce
namespace Go.Ev.Ce
open Go Go.Ev Go.Ev.L Go.Proofs
def ipt (v : V3) : Pt := ⟨v.x, v.y, v.z, 1⟩
theorem wd0 {v : V3} (h : inV v = true) : Okx (ipt v) := by
 obtain ⟨h1, h2, h3⟩ := (nb5 v).1 h
 exact ⟨Int.one_pos, by show (1 : Int) ≤ _; omega, h1.mono (by omega), h2.mono (by omega), h3.mono (by omega)⟩
theorem ld9 {c : List Pln} {x : Pt} (hb : ∀ p ∈ c, Bd p) (hx : Okx x) : inn c x = true ↔ ∀ p ∈ c, 0 ≤ rmZ p x := by
 unfold inn
 rw [List.all_eq_true]
 refine ⟨fun h p hp => ?_, fun h p hp => ?_⟩
 ·have := h p hp
  rw [Rc8 (hb p hp) hx] at this
  simpa using this
 ·rw [Rc8 (hb p hp) hx]
  simpa using h p hp
end Go.Ev.Ce
namespace Go.Ev.Ce
open Go Go.Ev Go.Ev.L Go.Proofs
structure Hd8 (l : List V3) : Prop where
 h : ∃ a c k v, a ∈ l ∧ c ∈ l ∧ k ∈ l ∧ v ∈ l ∧ dot (o4 (sub c a) (sub k a)) (sub v a) ≠ 0
structure Fct (l : List V3) (p : Pln) : Prop where
 ok : okp p = true
 hd : hold p l = true
end Go.Ev.Ce
namespace Go.Ev.Ce
open Go Go.Ev Go.Ev.L Go.Proofs
theorem cd8 (l : List Int) : Rd (one r1P) (ra4 l) (fun p => okp p = true) := by
 unfold ra4
 simp only [D9, F7]
 obtain ⟨v1, j1, e1, a1, b1, c1, d1⟩ := Za7 8 l 0 (by omega) (by omega) (by omega) (by omega)
 rw [e1]
 simp only
 obtain ⟨v2, j2, e2, a2, b2, c2, d2⟩ := Za7 17 l j1 (by omega) (by omega) (by omega) (by omega)
 rw [e2]
 simp only
 obtain ⟨x1, x2, x3, j3, e3, _, _, _, c3, d3⟩ := Fb5 8 l j2 (by omega) (by omega) (by omega) (by omega)
 rw [e3]
 simp only
 obtain ⟨y1, y2, y3, j4, e4, _, _, _, c4, d4⟩ := Fb5 8 l j3 (by omega) (by omega) (by omega) (by omega)
 rw [e4]
 simp only
 obtain ⟨z1, z2, z3, j5, e5, _, _, _, c5, d5⟩ := Fb5 8 l j4 (by omega) (by omega) (by omega) (by omega)
 rw [e5]
 simp only [gc0, gc1, ad2 _ (show (0 : Int) < 3 by omega) (by omega), F7]
 simp only [Nat.beq_refl, Bool.and_true, K6]
 have w2 : W (v2 - 8) = v2 - 8 := ca5 (by omega) (by omega)
 have w1 : W (1 - W (2 * Int.tmod v1 2)) = 1 ∨ W (1 - W (2 * Int.tmod v1 2)) = -1 := by
  have h := Int.tmod_nonneg 2 a1
  have h2 := Int.tmod_lt_of_pos v1 (show (0 : Int) < 2 by omega)
  rw [ca5 (n := 2 * Int.tmod v1 2) (by omega) (by omega), ca5 (by omega) (by omega)]
  omega
 rw [w2]
 generalize W (1 - W (2 * Int.tmod v1 2)) = s at *
 have ax : ∀ {a c d : Int}, (a = s ∧ c = 0 ∧ d = 0) ∨ (a = 0 ∧ c = s ∧ d = 0) ∨ (a = 0 ∧ c = 0 ∧ d = s) → okp ⟨⟨a, c, d⟩, v2 - 8⟩ = true := fun h => by
  unfold okp
  simp only [List.all_cons, List.all_nil, Bool.and_true, Bool.and_eq_true, za3, beq_iff_eq, Sm]
  rcases h with ⟨rfl, rfl, rfl⟩ | ⟨rfl, rfl, rfl⟩ | ⟨rfl, rfl, rfl⟩ <;> rcases w1 with rfl | rfl <;> exact ⟨by omega, by decide, by omega⟩
 have r1 : Rd (one r1P) (some ((.agg [(i 0), (i s), (i 0), (i (v2 - 8))]), [])) (fun p => okp p = true) := ⟨_, ⟨⟨0, s, 0⟩, v2 - 8⟩, rfl, rfl, ax (.inr (.inl ⟨rfl, rfl, rfl⟩))⟩
 have r2 : Rd (one r1P) (some ((.agg [(i 0), (i 0), (i s), (i (v2 - 8))]), [])) (fun p => okp p = true) := ⟨_, ⟨⟨0, 0, s⟩, v2 - 8⟩, rfl, rfl, ax (.inr (.inr ⟨rfl, rfl, rfl⟩))⟩
 have r3 : Rd (one r1P) (some ((.agg [(i s), (i 0), (i 0), (i (v2 - 8))]), [])) (fun p => okp p = true) := ⟨_, ⟨⟨s, 0, 0⟩, v2 - 8⟩, rfl, rfl, ax (.inl ⟨rfl, rfl, rfl⟩)⟩
 refine Rd.sl (fun _ => Rd.sl (fun h => ?_) fun _ => ?_) (fun _ => ?_)
 ·exact ⟨_, (tb4 ⟨x1, x2, x3⟩ ⟨y1, y2, y3⟩ ⟨z1, z2, z3⟩).1, rfl, rfl, (ld8 h).2.ok⟩
 ·exact Rd.sl (fun _ => r1) fun _ => Rd.sl (fun _ => r2) fun _ => r3
 ·exact Rd.sl (fun _ => r1) fun _ => Rd.sl (fun _ => r2) fun _ => r3
theorem Lc8 (l : List Int) : okp (X3 l) = true := (cd8 l).p
theorem gc7 : g3 ⟨1, 0, 0⟩ = 1 ∧ g3 ⟨-1, 0, 0⟩ = 1 ∧ g3 ⟨0, 1, 0⟩ = 1 ∧ g3 ⟨0, -1, 0⟩ = 1 ∧ g3 ⟨0, 0, 1⟩ = 1 ∧ g3 ⟨0, 0, -1⟩ = 1 := by decide
structure zc2 (c : List Pln) : Prop where
 l : c.length ≤ 47
 v : ∀ p ∈ c, okp p = true
 f : ld5 (c ++ ws)
theorem zc2.chk {c : List Pln} (h : zc2 c) : (chk c == 0) = true := by
 rw [beq_iff_eq, jb1]
 exact ⟨by have := h.l; omega, h.v⟩
theorem zc2.bds {c : List Pln} (h : zc2 c) : Bds (c ++ ws) := (Pa6 h.chk).1
theorem zc2.ful {c : List Pln} (h : zc2 c) : ful c = true := by
 unfold Ce.ful
 rw [h.chk, (Gb6 h.bds (Gc4 c) (by simp [ws])).2 h.f]
 rfl
theorem zc2.pts {c : List Pln} (h : zc2 c) : pts c = cor (c ++ ws) := by unfold Ce.pts; rw [if_pos h.chk]
end Go.Ev.Ce
namespace Go.Ev
open Go Go.ChangeShapes Go.RowKit
structure Wb3 (w w' : World) : Prop where
 os : w'.os = w.os
 output : w'.output = w.output
 size : w.heap.size ≤ w'.heap.size
 block : ∀ k, k < w.heap.size → w'.heap[k]? = w.heap[k]?
theorem Wb3.kept {w w' : World} (h : Wb3 w w') (may : MemPlace → Prop) : w.keptBut w' may := by
 refine ⟨h.os, h.output, fun i hi => ?_⟩
 rw [h.block i hi]
 cases w.heap[i]? with
 | none => rfl
 | some o => cases o <;> first | exact ⟨rfl, rfl, rfl, fun _ _ => rfl⟩ | exact .inr ⟨rfl, rfl⟩ | rfl
theorem Wb3.frozen {w w' : World} (h : Wb3 w w') (b off : Nat) (hb : b < w.heap.size) : w'.frozen? ⟨b, off, none⟩ = w.frozen? ⟨b, off, none⟩ := by
 simp only [World.frozen?, h.block b hb]
theorem Wb3.cell {w w' : World} (h : Wb3 w w') (b off : Nat) (hb : b < w.heap.size) : w'.cell? ⟨b, off, none⟩ = w.cell? ⟨b, off, none⟩ := by
 simp only [World.cell?, h.block b hb]
theorem Wb3.same {w w' : World} (h : Wb3 w w') (p : MemPlace) (hp : p.block < w.heap.size) : w.sameAt w' p := by
 cases p with
 | cell b off => exact h.cell b off hp
 | map b => exact h.block b hp
theorem Va5 {α β : Type} {f : α → Option β} : ∀ {l : List α} {r : List β}, l.mapM f = some r → r.length = l.length ∧ ∀ (j : Nat) y, r[j]? = some y → ∃ x, l[j]? = some x ∧ f x = some y
 | [], r, h => by
  have : r = [] := by simpa using h.symm
  subst this; simp
 | x :: l, r, h => by
  rw [List.mapM_cons] at h
  obtain ⟨y, h1, h2⟩ := Option.bind_eq_some_iff.1 h
  obtain ⟨r', h3, h4⟩ := Option.bind_eq_some_iff.1 h2
  have : r = y :: r' := by simpa using h4.symm
  subst this
  obtain ⟨g1, g2⟩ := Va5 h3
  refine ⟨by simp [g1], fun j z hz => ?_⟩
  cases j with
  | zero => simp at hz; subst hz; exact ⟨x, rfl, h1⟩
  | succ j => simpa using g2 j z (by simpa using hz)
section
variable {D : Type} {enc : TypeId × Value → D} {P : Program}
theorem qb5 {T : TypeId → Prop} (K : Kids P T) (hsz : ∀ {t e : TypeId}, T t → P.underlying t = some (.slice e) → 0 < P.cellsOf e) {w w' : World} {sp : Nat → Bool} (hs : Wb3 w w') :
  ∀ {ts : List TypeId} {vs : List Value} {ds : List (DataW D)} {ps : List MemPlace}, (∀ t ∈ ts, T t) → DataW.TrodAll enc P w 0 (fun _ => true) true ts vs ds ps → (∀ p ∈ ps, p.block < w.heap.size) → (∀ p ∈ ps, sp p.block = true) → DataW.TrodAll enc P w' 0 sp true ts vs ds ps
 | [], [], [], _, _, h, _, _ => h
 | t :: ts, v :: vs, d :: ds, ps, ht, h, hlt, hsp => by
  obtain ⟨p, q, ⟨fuel, h1⟩, h2, rfl⟩ := h
  refine ⟨p, q, ⟨fuel, ?_⟩, qb5 K hsz hs (fun t h => ht t (by simp [h])) h2 (fun x hx => hlt x (by simp [hx])) (fun x hx => hsp x (by simp [hx])), rfl⟩
  exact DataW.trod_stays K hsz (fun h => by cases h) (ht t (by simp)) h1 (fun x hx => hs.same x (hlt x (by simp at hx ⊢; exact .inl hx))) (fun x hx => hsp x (by simp at hx ⊢; exact .inl hx))
 | [], _ :: _, _, _, _, h, _, _ => h.elim
 | [], [], _ :: _, _, _, h, _, _ => h.elim
 | _ :: _, [], _, _, _, h, _, _ => h.elim
 | _ :: _, _ :: _, [], _, _, h, _, _ => h.elim
theorem cd9 {T : TypeId → Prop} (K : Kids P T) (hsz : ∀ {t e : TypeId}, T t → P.underlying t = some (.slice e) → 0 < P.cellsOf e) {f : Func} {s : ChangeSpec} {apart fresh handsOn again : Bool} {W W' : World} {args : Array Value} {ds gs : List (DataW D)} {before : List MemPlace} {tb : TypeId}
  (hT : ∀ t ∈ f.params.toList, T t) (hW : DataW.Whole enc P f.params.toList s.vars apart W args.toList ds gs before) (hv : s.vars = []) (hr : f.resultTypes = #[tb]) (hb : P.underlying tb = some .bool)
  (h1 : (s.fn D ds).results = [.lit (.bool true)]) (h2 : (s.fn D ds).args = ds) (h3 : (s.fn D ds).vars = []) (hs : Wb3 W W') :
  s.post enc P f apart fresh handsOn again W args (.bool true) W' := by
 have hlt := hW.lt
 obtain ⟨pa, pv, hA, hV, hps, hz, hn⟩ := id hW
 rw [hv] at hV
 have hpv : gs = [] ∧ pv = [] := by
  cases gs with
  | nil => exact ⟨rfl, hV⟩
  | cons => exact hV.elim
 obtain ⟨rfl, rfl⟩ := hpv
 rw [← List.append_nil ds] at h1 h3
 have h2 : (s.fn D (ds ++ [])).args = ds := by rw [List.append_nil]; exact h2
 have hpa : before = pa := by rw [hps]; simp
 subst hpa
 have hagain : ∀ sp : Nat → Bool, (∀ p ∈ before, sp p.block = true) → DataW.TrodAll enc P W' 0 sp true f.params.toList args.toList ds before := fun sp h => qb5 K hsz hs hT hA hlt h
 have hres : ∀ (b : Nat) (sp : Nat → Bool) (hd : Bool), DataW.TrodAll enc P W' b sp hd f.resultTypes.toList ((Value.bool true).resultList f.resultTypes.size) [.lit (.bool true)] [] := fun b sp hd => by
  rw [hr]
  exact ⟨[], [], ⟨1, by simp [DataW.trod, hb, Value.cells, Value.resultList]⟩, rfl, rfl⟩
 have hvars : ∀ sp : Nat → Bool, DataW.TrodVars enc P W' sp s.vars ([] : List (DataW D)) [] := fun sp => by rw [hv]; exact rfl
 have hok : ∀ (j : Nat) (t : TypeId) (r : Value), f.resultTypes[j]? = some t → ((Value.bool true).resultList f.resultTypes.size)[j]? = some r → Value.okWide P W' .any 0 t r := by
  rw [hr]
  intro j t r h4 h5
  cases j with
  | zero =>
   simp at h4
   subst h4
   have : r = .bool true := by simpa [Value.resultList] using h5.symm
   subst this
   exact okWide_bool_mk hb _
  | succ j => simp at h4
 have hag : DataW.TrodAll enc P W' 0 (fun _ => true) true (f.resultTypes.toList ++ f.params.toList) ((Value.bool true).resultList f.resultTypes.size ++ args.toList) (.lit (.bool true) :: ds) before := by
  have := hagain (fun _ => true) (fun _ _ => rfl)
  rw [hr]
  exact ⟨[], before, ⟨1, by simp [DataW.trod, hb, Value.cells, Value.resultList]⟩, this, rfl⟩
 refine ⟨ds, [], before, [], before, [], hW, ?_, ?_, ?_, hs.kept _, fun _ => ?_⟩
 ·rw [h1]; exact hres _ _ _
 ·rw [h2]; exact hagain _ fun p hp => by simpa using hlt p hp
 ·rw [h3]; exact hvars _
 ·refine ⟨hok, .lit (.bool true) :: ds, [], before, ⟨before, [], hag, hvars _, by simp, ?_, ?_⟩, ?_⟩
  ·intro b off hp
   rw [hs.frozen b off (hlt _ hp)]
   exact hz b off (by simpa using hp)
  ·intro ha; simpa using hn ha
  ·intro p hp _; exact hp
variable {w : World} {base : Nat} {spare : Nat → Bool} {held : Bool}
def Gb7 (w : World) : Fz := fun b o => (w.cell? ⟨b, o, none⟩).isSome
theorem wd1 {fuel : Nat} {t : TypeId} {k : IntKind} {cs : List Value} {x : DataW D × List MemPlace} (ht : P.underlying t = some (.int k)) (h : DataW.trod enc P w base spare held fuel t cs = some x) :
  ∃ n, cs = [.int k n] ∧ (Lit.int k n).wf = true ∧ x.1 = .lit (.int k n) := by
 cases fuel with
 | zero => cases h
 | succ fuel =>
  match cs, h with
  | [], h => simp [DataW.trod, ht] at h
  | [v], h =>
   cases v with
   | int k' n =>
    simp only [DataW.trod, ht] at h
    split at h
    ·rename_i hk
     obtain ⟨rfl, hw⟩ := hk
     injection h with h; subst h
     exact ⟨n, rfl, hw, rfl⟩
    ·cases h
   | _ => simp [DataW.trod, ht] at h
  | a :: b :: r, h => simp [DataW.trod, ht] at h
theorem md0 {fuel : Nat} {t : TypeId} {cs : List Value} {x : DataW D × List MemPlace} (ht : P.underlying t = some .bool) (h : DataW.trod enc P w base spare held fuel t cs = some x) :
  ∃ n, cs = [.bool n] ∧ x.1 = .lit (.bool n) := by
 cases fuel with
 | zero => cases h
 | succ fuel =>
  match cs, h with
  | [], h => simp [DataW.trod, ht] at h
  | [v], h =>
   cases v with
   | bool n =>
    simp only [DataW.trod, ht] at h
    injection h with h; subst h
    exact ⟨n, rfl, rfl⟩
   | _ => simp [DataW.trod, ht] at h
  | a :: b :: r, h => simp [DataW.trod, ht] at h
theorem dd0 {fuel : Nat} {t e : TypeId} {n : Nat} {cs : List Value} {x : DataW D × List MemPlace} (ht : P.underlying t = some (.array n e)) (h : DataW.trod enc P w base spare held fuel t cs = some x) :
  cs.length = P.cellsOf t ∧ ∃ (fuel' : Nat) (xs : List (DataW D × List MemPlace)), xs.length = n ∧ x.1 = .agg (xs.map (·.1)) ∧ ∀ (j : Nat) y, xs[j]? = some y → DataW.trod enc P w base spare held fuel' e ((cs.drop (j * P.cellsOf e)).take (P.cellsOf e)) = some y := by
 cases fuel with
 | zero => cases h
 | succ fuel =>
  unfold DataW.trod at h
  rw [ht] at h
  simp only at h
  split at h
  ·rename_i hl
   obtain ⟨xs, h1, h2⟩ := Option.map_eq_some_iff.1 h
   have hx := Va5 h1
   exact ⟨hl, fuel, xs, by simpa using hx.1, by rw [← h2], fun j y hy => by
    obtain ⟨a, ha, hb⟩ := hx.2 j y hy
    have : j < n := by
     have := (List.getElem?_eq_some_iff.1 hy).1
     rw [hx.1] at this; simpa using this
    rw [List.getElem?_range this] at ha
    injection ha with ha
    subst ha
    exact hb⟩
  ·cases h
theorem Sc2 {fuel : Nat} {t : TypeId} {fs : Array Field} {cs : List Value} {x : DataW D × List MemPlace} (ht : P.underlying t = some (.struct fs)) (h : DataW.trod enc P w base spare held fuel t cs = some x) :
  cs.length = P.cellsOf t ∧ ∃ (fuel' : Nat) (xs : List (DataW D × List MemPlace)), xs.length = fs.size ∧ x.1 = .agg (xs.map (·.1)) ∧ ∀ (j : Nat) f, fs[j]? = some f → ∃ y, xs[j]? = some y ∧ DataW.trod enc P w base spare held fuel' f.type ((cs.drop f.offset).take (P.cellsOf f.type)) = some y := by
 cases fuel with
 | zero => cases h
 | succ fuel =>
  unfold DataW.trod at h
  rw [ht] at h
  simp only at h
  split at h
  ·rename_i hl
   obtain ⟨xs, h1, h2⟩ := Option.map_eq_some_iff.1 h
   have hx := Va5 h1
   refine ⟨hl, fuel, xs, by simpa using hx.1, by rw [← h2], fun j f hf => ?_⟩
   have hj : j < xs.length := by
    rw [hx.1]; simpa using (Array.getElem?_eq_some_iff.1 hf).1
   obtain ⟨a, ha, hb⟩ := hx.2 j _ (List.getElem?_eq_getElem hj)
   have : a = f := by
    have : fs.toList[j]? = some f := by simpa using hf
    exact Option.some.inj (ha.symm.trans this)
   subst this
   exact ⟨_, List.getElem?_eq_getElem hj, hb⟩
  ·cases h
theorem zc3 {fuel : Nat} {t e : TypeId} {cs : List Value} {x : DataW D × List MemPlace} (ht : P.underlying t = some (.slice e)) (h : DataW.trod enc P w base spare held fuel t cs = some x) :
  cs = [.slice none 0 0] ∨ ∃ (a : Addr) (n cap fuel' : Nat), cs = [.slice (some a) n cap] ∧ n ≤ cap ∧ cap ≤ maxLen ∧ ∀ j, j < n → ∃ row y, w.cells? base (a.add (j * P.cellsOf e)) (P.cellsOf e) = some row ∧ DataW.trod enc P w base spare held fuel' e row = some y := by
 cases fuel with
 | zero => cases h
 | succ fuel =>
  match cs, h with
  | [], h => simp [DataW.trod, ht] at h
  | [v], h =>
   cases v with
   | slice a len cap =>
    cases a with
    | none =>
     simp only [DataW.trod, ht] at h
     split at h <;> first | (rename_i e1; cases e1; done) | skip
     all_goals first | exact .inl rfl | (simp_all; done) | skip
    | some a =>
     refine .inr ?_
     simp only [DataW.trod, ht] at h
     split at h
     ·rename_i hc
      obtain ⟨elems, h1, h2⟩ := Option.bind_eq_some_iff.1 h
      have hx := Va5 h1
      refine ⟨a, len, cap, fuel, rfl, hc.2.1, hc.2.2, fun j hj => ?_⟩
      have hj' : j < elems.length := by rw [hx.1]; simpa using hj
      obtain ⟨i, hi, hb⟩ := hx.2 j _ (List.getElem?_eq_getElem hj')
      rw [List.getElem?_range hj] at hi
      injection hi with hi
      subst hi
      obtain ⟨row, r1, r2⟩ := Option.bind_eq_some_iff.1 hb
      exact ⟨row, _, r1, r2⟩
     ·cases h
   | _ => simp [DataW.trod, ht] at h
  | a :: b :: r, h => simp [DataW.trod, ht] at h
theorem Lc9 : ∀ (d : Nat) (t : TypeId) (l : List (Nat × CK)), O6 P d t = some l → ∀ (fuel : Nat) (cs : List Value) (x : DataW D × List MemPlace), DataW.trod enc P w base spare held fuel t cs = some x → ∀ p ∈ l, ma2 cs.toArray p
 | 0, _, _, h, _, _, _, _ => by cases h
 | d + 1, t, l, h, fuel, cs, x, hx => by
  have hpart : ∀ {off n : Nat} {e : TypeId} {l' : List (Nat × CK)} {fuel' : Nat} {y : DataW D × List MemPlace}, db9 off n (O6 P d e) = some l' → DataW.trod enc P w base spare held fuel' e ((cs.drop off).take n) = some y → ∀ p ∈ l', ma2 cs.toArray p := fun {off n e l' fuel' y} h1 h2 p hp => by
   obtain ⟨l2, g1, g2, rfl⟩ := ra7 h1
   obtain ⟨q, hq, rfl⟩ := List.mem_map.1 hp
   have := Lc9 d e l2 g1 fuel' _ y h2 q hq
   have hlt := g2 q hq
   unfold ma2 at this ⊢
   simp only [List.getElem?_toArray, List.getElem?_take, hlt, if_true, List.getElem?_drop] at this ⊢
   exact this
  have hcat : ∀ {α : Type} (f : α → Option (List (Nat × CK))) (xs : List α) (l : List (Nat × CK)), ba0 (xs.map f) = some l → ∀ p ∈ l, ∃ a ∈ xs, ∃ l', f a = some l' ∧ p ∈ l' := fun {α} f xs => by
   induction xs with
   | nil => intro l h; simp only [List.map_nil, ba0] at h; injection h with h; subst h; simp
   | cons a xs ih =>
    intro l h p hp
    simp only [List.map_cons, ba0] at h
    cases h1 : f a with
    | none => simp [h1] at h
    | some l1 =>
    cases h2 : ba0 (xs.map f) with
    | none => simp [h1, h2] at h
    | some l2 =>
    simp only [h1, h2] at h
    injection h with h; subst h
    rcases List.mem_append.1 hp with hp | hp
    ·exact ⟨a, by simp, l1, h1, hp⟩
    ·obtain ⟨b, hb, r⟩ := ih l2 h2 p hp
     exact ⟨b, by simp [hb], r⟩
  unfold O6 at h
  cases hu : P.underlying t with
  | none => simp [hu] at h
  | some u =>
  cases u with
  | int k =>
   simp only [hu] at h; injection h with h; subst h
   obtain ⟨n, rfl, _, _⟩ := wd1 hu hx
   intro p hp; simp at hp; subst hp; exact ⟨n, rfl⟩
  | bool =>
   simp only [hu] at h; injection h with h; subst h
   obtain ⟨n, rfl, _⟩ := md0 hu hx
   intro p hp; simp at hp; subst hp; exact ⟨n, rfl⟩
  | struct fs =>
   simp only [hu] at h
   split at h
   ·cases h
   obtain ⟨_, fuel', xs, _, _, hxs⟩ := Sc2 hu hx
   intro p hp
   obtain ⟨f, hf, l', h1, h2⟩ := hcat _ _ _ h p hp
   split at h1
   ·cases h1
   obtain ⟨j, hj⟩ := List.getElem?_of_mem hf
   obtain ⟨y, _, hy⟩ := hxs j f (by simpa using hj)
   have hc : P.cellsOf f.type = szT P f.type := by
    unfold Program.cellsOf szT
    cases P.info? f.type <;> rfl
   rw [hc] at hy
   exact hpart h1 hy p h2
  | array n e =>
   simp only [hu] at h
   split at h
   case isFalse => cases h
   obtain ⟨_, fuel', xs, hn, _, hxs⟩ := dd0 hu hx
   intro p hp
   obtain ⟨j, hj, l', h1, h2⟩ := hcat _ _ _ h p hp
   have hj' : j < xs.length := by rw [hn]; simpa using hj
   have hy := hxs j _ (List.getElem?_eq_getElem hj')
   have hc : P.cellsOf e = szT P e := by
    unfold Program.cellsOf szT
    cases P.info? e <;> rfl
   rw [hc] at hy
   exact hpart h1 hy p h2
  | _ => simp [hu] at h
def La7 (k : IntKind) (es : Nat) (g : Nat → Int) : List a7 := (List.range es).map fun c => .v (.int k (g c))
def ia3 (k : IntKind) (es : Nat) : List (Nat × CK) := (List.range es).map fun c => (c, .int k)
theorem Mc0 {d : Nat} {t : TypeId} {k : IntKind} {es : Nat} (hf : O6 P d t = some (ia3 k es)) {fuel : Nat} {cs : List Value} {x : DataW D × List MemPlace} (hx : DataW.trod enc P w base spare held fuel t cs = some x) (hl : cs.length = es) :
  ∃ g : Nat → Int, ∀ c, c < es → cs[c]? = some (.int k (g c)) := by
 have h := Lc9 d t _ hf fuel cs x hx
 have h' : ∀ c, ∃ n : Int, c < es → cs[c]? = some (.int k n) := fun c => by
  by_cases hc : c < es
  ·have := h (c, .int k) (List.mem_map.2 ⟨c, by simpa using hc, rfl⟩)
   obtain ⟨n, hn⟩ := this
   exact ⟨n, fun _ => by simpa using hn⟩
  ·exact ⟨0, fun h => absurd h hc⟩
 exact ⟨fun c => Classical.choose (h' c), fun c hc => Classical.choose_spec (h' c) hc⟩
theorem dd1 {F : Fz} {w : World} (k : IntKind) (n : Int) : O1 F w (.v (.int k n)) (.int k n) := .v _ rfl
theorem Wb4 {k : IntKind} {es : Nat} {g : Nat → Int} {c : Nat} {x : a7} (h : (La7 k es g)[c]? = some x) : c < es ∧ x = .v (.int k (g c)) := by
 unfold La7 at h
 obtain ⟨h1, h2⟩ := sa9 h
 exact ⟨h1, h2.symm⟩
theorem ac7 {t e : TypeId} {k : IntKind} {es d : Nat} (ht : P.underlying t = some (.slice e)) (hf : O6 P d e = some (ia3 k es)) (hes : P.cellsOf e = es) (h0 : 0 < es) {fuel : Nat} {cs : List Value} {x : DataW D × List MemPlace} (hx : DataW.trod enc P w 0 spare held fuel t cs = some x) :
  ∃ (v : Value) (n : Nat) (g : Nat → Nat → Int), cs = [v] ∧ n ≤ maxLen ∧ O1 (Gb7 w) w (.tree es n fun j => La7 k es (g j)) v := by
 rcases zc3 ht hx with rfl | ⟨a, n, cap, fuel', rfl, hn, hc, hel⟩
 ·exact ⟨_, 0, fun _ _ => 0, rfl, Nat.zero_le _, .nil _ _⟩
 ·rw [hes] at hel
  have hcell : ∀ j, j < n → ∃ g : Nat → Int, ∀ c, c < es → w.cell? ((a.add (j * es)).add c) = some (.int k (g c)) := fun j hj => by
   obtain ⟨row, y, h1, h2⟩ := hel j hj
   unfold World.cells? at h1
   split at h1
   ·obtain ⟨l1, l2⟩ := Va5 h1
    have hl : row.length = es := by simpa using l1
    obtain ⟨g, hg⟩ := Mc0 hf h2 hl
    refine ⟨g, fun c hc => ?_⟩
    obtain ⟨i, hi, hi2⟩ := l2 c _ (hg c hc)
    rw [List.getElem?_range hc] at hi
    injection hi with hi
    subst hi
    exact hi2
   ·cases h1
  have hg : ∀ j, ∃ g : Nat → Int, j < n → ∀ c, c < es → w.cell? ((a.add (j * es)).add c) = some (.int k (g c)) := fun j => by
   by_cases hj : j < n
   ·obtain ⟨g, hg⟩ := hcell j hj
    exact ⟨g, fun _ => hg⟩
   ·exact ⟨fun _ => 0, fun h => absurd h hj⟩
  obtain ⟨g, hg⟩ := Classical.axiomOfChoice hg
  have hspot : 0 < n → a.spot = none := fun hn => by
   have := hg 0 hn 0 h0
   simpa [Addr.add] using World.cell?_spot this
  have hw : ∀ j c, j < n → c < es → w.cell? ⟨a.block, a.off + (j * es + c), none⟩ = some (.int k (g j c)) := fun j c hj hc => by
   have := hg j hj c hc
   rw [K5 (hspot (by omega)), K5 rfl] at this
   simpa [Nat.add_assoc] using this
  refine ⟨_, n, g, rfl, Nat.le_trans hn hc, .tree es n _ a cap (fun j c => .int k (g j c)) hspot hn (fun i hi => by simp [La7]) (fun i c hi hc => ?_) hw fun i c hi hc => ?_⟩
  ·unfold Gb7
   rw [hw i c hi hc]
   rfl
  ·have := (Wb4 (List.getElem?_eq_getElem hc)).2
   rw [this]
   exact dd1 _ _
theorem Sc3 (w : World) : s5 (fun k => w.heap.size ≤ k) (fun _ => ⟨0, 0, 0⟩) [] (Gb7 w) w :=
 ⟨fun id b h => by simp at h, fun id id' b b' h => by simp at h, fun _ _ h => h, fun _ h => h⟩
theorem Sc4 {G : Nat → List Value} {f : FuncId} {S : Sum} (hS : i6 P G f S) {aargs : List a7} {args : List Value} (hrun : ∃ out, (S aargs []).run = some (b true, out)) (hl : aargs.length = args.length)
  (ha : ∀ (i : Nat) x x', aargs[i]? = some x → args[i]? = some x' → S1 (fun _ => ⟨0, 0, 0⟩) [] (Gb7 w) w x x') (hG : ∀ g (c : Nat) x, (G g)[c]? = some x → x.oneCell' = true ∧ w.cell? ⟨g, c, none⟩ = some x) :
  Calls P f args.toArray w fun e w' => e = .returned (.bool true) ∧ Wb3 w w' := by
 obtain ⟨out, hrun⟩ := hrun
 obtain ⟨_, hc⟩ := hS aargs [] (b true) out hrun (fun k => w.heap.size ≤ k) (fun _ => ⟨0, 0, 0⟩) (Gb7 w) w args (Sc3 w) hl (fun i x x' h1 h2 => .val (ha i x x' h1 h2)) (fun g c x hx => by
  obtain ⟨h1, h2⟩ := hG g c x hx
  exact ⟨h1, by unfold Gb7; rw [h2]; rfl, h2⟩)
 refine hc.mono fun e w' ⟨r', he, ρ', F', hA, hH, hW⟩ => ?_
 have := S3 hW
 subst this
 exact ⟨he, hA.ext.os, hA.ext.output, hA.ext.size, fun k hk => hA.ext.block k hk (by omega)⟩
theorem md1 {ρ : Rho} {H : List a8} {F : Fz} {t : TypeId} {k : IntKind} {es d : Nat} {v : Value} {dd : DataW D} {pp : List MemPlace} {bs : Nat} {r : Reach} (hag : agT P t = true) (hf : O6 P d t = some (ia3 k es)) (hes : P.cellsOf t = es)
  (hok : Value.okWide P w r bs t v) (h : DataW.Trod enc P w base spare held t v dd pp) : ∃ g : Nat → Int, S1 ρ H F w (.agg (La7 k es g)) v := by
 have hv : ∃ cs : Array Value, v = .agg cs ∧ cs.size = P.cellsOf t := by
  unfold agT at hag
  unfold Value.okWide at hok
  split at hag
  ·rename_i fs hu; rw [hu] at hok; obtain ⟨cs, h1, h2, _⟩ := hok; exact ⟨cs, h1, h2⟩
  ·rename_i n e hu; rw [hu] at hok; obtain ⟨cs, h1, h2, _⟩ := hok; exact ⟨cs, h1, h2⟩
  ·cases hag
 obtain ⟨cs, rfl, hsz⟩ := hv
 obtain ⟨fuel, hx⟩ := h
 have hx : DataW.trod enc P w base spare held fuel t cs.toList = some (dd, pp) := hx
 obtain ⟨g, hg⟩ := Mc0 hf hx (by simpa [hes] using hsz)
 refine ⟨g, .agg _ _ (by simp [La7, hsz, hes]) fun c x x' h1 h2 => ?_⟩
 obtain ⟨hc, rfl⟩ := Wb4 h1
 have := hg c hc
 have h3 : some x' = some (.int k (g c)) := by rw [← h2]; simpa using this
 injection h3 with h3
 subst h3
 exact .v _
end
end Go.Ev
namespace Go.Ev.L
open Go Go.Ev
def Rdg {α : Type} (c : Cod α) (x : a7) (a : α) : Prop := c.dec x = some a ∧ c.grd x = true
section
variable {α β γ δ ε : Type} {c : Cod α} {d : Cod β} {e : Cod γ} {f : Cod δ} {c5 : Cod ε} {x y z w v : a7} {a : α} {b' : β} {g : γ} {j : δ} {m : ε} {r : a7 × List a8}
theorem Hd7 {k : α → β → DT (a7 × List a8)} (h1 : Rdg c x a) (h2 : Rdg d y b') (h : (k a b').run = some r) : (oa3 c d k [x, y] []).run = some r := by
 unfold oa3
 simp only [h1.1, h1.2, h2.1, h2.2]
 exact h
end
theorem wd2 {g p : Bool} (hg : g = true) (hp : p = true) : (DT.guard g (.ret ((one r1B).enc p, ([] : List a8)))).run = some (b true, ([] : List a8)) := by subst hg; subst hp; rfl
end Go.Ev.L
namespace Go.Ev.Ce
open Go Go.Ev Go.Ev.L Go.Proofs
structure B3 where
 b0 : Int
 b1 : Int
 b2 : Int
def okB : List a7 → Bool
 | [.v (.int .u8 _), .v (.int .u8 _), .v (.int .u8 _)] => true
 | _ => false
def rdB : List a7 → B3
 | [.v (.int .u8 x), .v (.int .u8 y), .v (.int .u8 z)] => ⟨x, y, z⟩
 | _ => ⟨0, 0, 0⟩
noncomputable def tW : Ty B3 where
 es := 3
 row x := [.v (.int .u8 x.b0), .v (.int .u8 x.b1), .v (.int .u8 x.b2)]
 rd := rdB
 ok := okB
 cks := List.replicate 3 (.int .u8)
 d := ⟨0, 0, 0⟩
 h0 _ := rfl
 h1 _ := rfl
 h2 _ := rfl
 h3 r h := by
  unfold okB at h
  split at h
  ·exact .refl _
  ·cases h
 h4 _ := rfl
 h5 _ := rfl
end Go.Ev.Ce
section
namespace Go.Ev.Ce
open Go Go.Ev Go.Ev.L Go.Proofs
set_option maxRecDepth 100000
noncomputable def oc4 : List (Nat × Sum) := []
theorem ac8 : m8 prog G oc4 := trivial
noncomputable def la3 (x : V3) (y : V3) : V3 := (⟨(W (x.x - y.x)), (W (x.y - y.y)), (W (x.z - y.z))⟩ : V3)
noncomputable def kb6 : Sum := oa3 (ia2 tV) (ia2 tV) (fun x y => .ret ((one r1V).enc (la3 x y), []))
theorem Bb1 : i6 prog G 18 kb6 := ta2 (bd b18 ac8) fun x y => C6 (by kernel_rfl)
noncomputable def ac9 : List (Nat × Sum) := [(18, kb6)]
theorem Wb5 : m8 prog G ac9 := ⟨Bb1, trivial⟩
noncomputable def va7 (x : Pln) : Pln := let t1 := (la3 (⟨0, 0, 0⟩ : V3) x.n); (⟨t1, (W (0 - x.b))⟩ : Pln)
noncomputable def Bb2 : Sum := ra1 (ia2 tP) (fun x => .ret ((one r1P).enc (va7 x), []))
theorem bc0 : i6 prog G 17 Bb2 := xb0 (bd b17 Wb5) fun x => C6 (by kernel_rfl)
noncomputable def bc1 : List (Nat × Sum) := [(45, Ra3), (40, tb5), (47, Pa4), (46, Sa5)]
theorem Wb6 : m8 prog G bc1 := ⟨ib3, Ib3, Ya2, kb0, trivial⟩
noncomputable def va8 (x : Pln) (y : V3) : Option (a7 × List a8) := let t1 := (oa8 x); let t2 := (La1 y); let t3 := (Z9 x.n y); let t4 := (V6 t3 x.b); (sl (oa9 x) (sl (!t1) (some ((i 0), [])) (sl (La2 y) (sl (!t2) (some ((i 0), [])) (sl (V7 t3 x.b) (some ((i t4), [])) none)) none)) none)
noncomputable def va9 (x : Pln) (y : V3) : Int := ea8 (one r1I) (va8 x y)
noncomputable def wa0 (x : Pln) (y : V3) : Bool := okO (one r1I) (va8 x y)
noncomputable def Bb3 : Sum := oa3 (ia2 tP) (ia2 tV) (fun x y => .guard (wa0 x y) (.ret ((one r1I).enc (va9 x y), [])))
theorem bc2 : i6 prog G 16 Bb3 := Db2 (bd b16 Wb6) (one r1I) (o := va8) fun x y => C6 (by kernel_rfl)
noncomputable def Fa4 : List (Nat × Sum) := [(5, kb5), (15, Vb1), (16, Bb3), (17, Bb2), (18, kb6), (6, ib1), (7, tb7), (19, Ga2), (20, sa1), (14, tb6), (12, Za9)]
theorem kb7 : m8 prog G Fa4 := ⟨Lb4, xc0, bc2, bc0, Bb1, yb2, Ib5, Ra4, ua8, Ib4, qb3, trivial⟩
structure A9 where
 L8 : List (List Int)
 bs5 : Bool
 n5 : Int
 f0 : Int
 n7 : Int
structure n9 where
 ph : Nat
 is8 : Int
 ns7 : Nat
 eh1 : List (List a7)
noncomputable def ab5 (p : A9) (s : n9) : St := ⟨((eL (tLs tI) p.L8) :: (ra 4 ((b p.bs5) :: ((.ptr 0 0 0 0) :: ((.v (.slice none 0 0)) :: ((i s.is8) :: (ra 87 []))))))), [⟨0, 3, [[(i p.n5), (i p.f0), (i p.n7)]], true, false, 0⟩]⟩
noncomputable def ab6 (p : A9) (s : n9) : St := ⟨((eL (tLs tI) p.L8) :: (ra 4 ((b p.bs5) :: ((.ptr 0 0 0 0) :: ((.sl 1 0 s.ns7 0) :: ((i s.is8) :: (ra 87 []))))))), [⟨0, 3, [[(i p.n5), (i p.f0), (i p.n7)]], true, false, 0⟩, ⟨42, 4, s.eh1, true, false, 0⟩]⟩
noncomputable def cb7 (p : A9) (s : n9) : St := (sel (Nat.beq s.ph 1) (ab6 p s) (ab5 p s))
noncomputable def C3 {α : Type} (k : n9 → α) (e : Nat → α) (z : α) (p : A9) (s : n9) : α := let t1 := (X3 (rt tI (gL (tLs tI) p.L8 s.is8.toNat))); let t2 := (va9 t1 (⟨p.n5, p.f0, p.n7⟩ : V3)); let t3 := (va7 t1); (sl (decide (s.is8 < (↑(List.length p.L8) : Int))) (sl (decide (s.is8 < 6)) (sl (inB s.is8 (List.length p.L8)) (sl (okE tI (gL (tLs tI) p.L8 s.is8.toNat)) (sl (Za3 (rt tI (gL (tLs tI) p.L8 s.is8.toNat))) (sl (wa0 t1 (⟨p.n5, p.f0, p.n7⟩ : V3)) (sl (t2 == 1) (k ⟨1, (W (s.is8 + 1)), 1, [[(i t3.n.x), (i t3.n.y), (i t3.n.z), (i t3.b)]]⟩) (sl (t2 == 0) (k ⟨1, (W (s.is8 + 1)), 1, [[(i t1.n.x), (i t1.n.y), (i t1.n.z), (i (W (t1.b + 1)))]]⟩) (k ⟨1, (W (s.is8 + 1)), 1, [[(i t1.n.x), (i t1.n.y), (i t1.n.z), (i t1.b)]]⟩))) z) z) z) z) (e 1)) (e 2))
noncomputable def C5 {α : Type} (k : n9 → α) (e : Nat → α) (z : α) (p : A9) (s : n9) : α := let t1 := (X3 (rt tI (gL (tLs tI) p.L8 s.is8.toNat))); let t2 := (va9 t1 (⟨p.n5, p.f0, p.n7⟩ : V3)); let t3 := (va7 t1); (sl (decide (s.is8 < (↑(List.length p.L8) : Int))) (sl (decide (s.is8 < 6)) (sl (inB s.is8 (List.length p.L8)) (sl (okE tI (gL (tLs tI) p.L8 s.is8.toNat)) (sl (Za3 (rt tI (gL (tLs tI) p.L8 s.is8.toNat))) (sl (wa0 t1 (⟨p.n5, p.f0, p.n7⟩ : V3)) (sl (t2 == 1) (sl (Nat.beq s.ns7 (len s.eh1) && Nat.ble ((s.ns7 + 1) * 32) room) (k ⟨1, (W (s.is8 + 1)), (s.ns7 + 1), (app s.eh1 [[(i t3.n.x), (i t3.n.y), (i t3.n.z), (i t3.b)]])⟩) z) (sl (t2 == 0) (sl (Nat.beq s.ns7 (len s.eh1) && Nat.ble ((s.ns7 + 1) * 32) room) (k ⟨1, (W (s.is8 + 1)), (s.ns7 + 1), (app s.eh1 [[(i t1.n.x), (i t1.n.y), (i t1.n.z), (i (W (t1.b + 1)))]])⟩) z) (sl (Nat.beq s.ns7 (len s.eh1) && Nat.ble ((s.ns7 + 1) * 32) room) (k ⟨1, (W (s.is8 + 1)), (s.ns7 + 1), (app s.eh1 [[(i t1.n.x), (i t1.n.y), (i t1.n.z), (i t1.b)]])⟩) z))) z) z) z) z) (e 3)) (e 4))
noncomputable def q9 (p : A9) (s : n9) : Stp n9 := (sel (Nat.beq s.ph 1) (C5 .next .exit .fail p s) (C3 .next .exit .fail p s))
noncomputable def la4 : Lo A9 n9 := ⟨En Fa4, 0, pf4, [1, 1, 1, 1, 0, 1, 4, 4], [0, 5, 6, 7, 8], .p, [⟨((.s (.c 1 (nL (tLs tI)))) :: (ru2 4 ((.s (.o .bool)) :: ((.s (.o (.ptr 0 0 0 0))) :: ((.s (.o .nil)) :: ((.s (.o (.int .i64))) :: (ru2 87 []))))))), [⟨0, 3, true, (some [[(.o (.int .i64)), (.o (.int .i64)), (.o (.int .i64))]])⟩], fun a H => (⟨(rL (tLs tI) (slT a 0)), (toB (slT a 5)), (toI (slT (rwT (elT H 0) 0) 0)), (toI (slT (rwT (elT H 0) 0) 1)), (toI (slT (rwT (elT H 0) 0) 2))⟩, ⟨0, (toI (slT a 8)), 0, []⟩)⟩, ⟨((.s (.c 1 (nL (tLs tI)))) :: (ru2 4 ((.s (.o .bool)) :: ((.s (.o (.ptr 0 0 0 0))) :: ((.s (.o (.sl 1 0 (some 0) none))) :: ((.s (.o (.int .i64))) :: (ru2 87 []))))))), [⟨0, 3, true, (some [[(.o (.int .i64)), (.o (.int .i64)), (.o (.int .i64))]])⟩, ⟨42, 4, true, none⟩], fun a H => (⟨(rL (tLs tI) (slT a 0)), (toB (slT a 5)), (toI (slT (rwT (elT H 0) 0) 0)), (toI (slT (rwT (elT H 0) 0) 1)), (toI (slT (rwT (elT H 0) 0) 2))⟩, ⟨1, (toI (slT a 8)), (slN (slT a 7)), (elT H 1)⟩)⟩], q9, [(some 0, fun p s => ⟨((eL (tLs tI) p.L8) :: (ra 4 ((b p.bs5) :: ((.ptr 0 0 0 0) :: ((.v (.slice none 0 0)) :: ((i s.is8) :: (ra 20 ((i s.is8) :: ((eL (tLs tI) p.L8) :: ((i (↑(List.length p.L8) : Int)) :: ((b (decide (s.is8 < (↑(List.length p.L8) : Int)))) :: ((b true) :: ((i s.is8) :: ((b (decide (s.is8 < 6))) :: ((b (decide (s.is8 < 6))) :: (ra 59 [])))))))))))))))), [⟨0, 3, [[(i p.n5), (i p.f0), (i p.n7)]], true, false, 0⟩]⟩), (some 0, fun p s => ⟨((eL (tLs tI) p.L8) :: (ra 4 ((b p.bs5) :: ((.ptr 0 0 0 0) :: ((.v (.slice none 0 0)) :: ((i s.is8) :: (ra 20 ((i s.is8) :: ((eL (tLs tI) p.L8) :: ((i (↑(List.length p.L8) : Int)) :: ((b (decide (s.is8 < (↑(List.length p.L8) : Int)))) :: ((b false) :: (u :: (u :: ((b false) :: (ra 59 [])))))))))))))))), [⟨0, 3, [[(i p.n5), (i p.f0), (i p.n7)]], true, false, 0⟩]⟩), (some 0, fun p s => ⟨((eL (tLs tI) p.L8) :: (ra 4 ((b p.bs5) :: ((.ptr 0 0 0 0) :: ((.sl 1 0 s.ns7 0) :: ((i s.is8) :: (ra 20 ((i s.is8) :: ((eL (tLs tI) p.L8) :: ((i (↑(List.length p.L8) : Int)) :: ((b (decide (s.is8 < (↑(List.length p.L8) : Int)))) :: ((b true) :: ((i s.is8) :: ((b (decide (s.is8 < 6))) :: ((b (decide (s.is8 < 6))) :: (ra 59 [])))))))))))))))), [⟨0, 3, [[(i p.n5), (i p.f0), (i p.n7)]], true, false, 0⟩, ⟨42, 4, s.eh1, true, false, 0⟩]⟩), (some 0, fun p s => ⟨((eL (tLs tI) p.L8) :: (ra 4 ((b p.bs5) :: ((.ptr 0 0 0 0) :: ((.sl 1 0 s.ns7 0) :: ((i s.is8) :: (ra 20 ((i s.is8) :: ((eL (tLs tI) p.L8) :: ((i (↑(List.length p.L8) : Int)) :: ((b (decide (s.is8 < (↑(List.length p.L8) : Int)))) :: ((b false) :: (u :: (u :: ((b false) :: (ra 59 [])))))))))))))))), [⟨0, 3, [[(i p.n5), (i p.f0), (i p.n7)]], true, false, 0⟩, ⟨42, 4, s.eh1, true, false, 0⟩]⟩)], cb7⟩
theorem cb8 : la4.Ok := Lo.ok [] (by kernel_rfl) .nil rfl (.cons (fun a H => by kernel_rfl) (.cons (fun a H => by kernel_rfl) .nil)) fun p s => (.sel (Nat.beq s.ph 1) (.of @C5 (fun F _ _ _ _ _ => by unfold C5; (repeat' apply z8 (f := F)) <;> rfl) (by kernel_rfl)) (.of @C3 (fun F _ _ _ _ _ => by unfold C3; (repeat' apply z8 (f := F)) <;> rfl) (by kernel_rfl)))
noncomputable def X8 (x : List (List Int)) (y : B3) : Option (a7 × List a8) := let t1 := va5; let t6 := (fa1 []); let t7 := (V5 []); let a1 := (W ((W (Int.tmod y.b0 47)) - 23)); let a2 := (W ((W (Int.tmod y.b1 47)) - 23)); let a3 := (W ((W (Int.tmod y.b2 47)) - 23)); let t2 := (lp (q9 (⟨(rt (tLs tI) x), t1, a1, a2, a3⟩ : A9)) (⟨0, 0, 0, []⟩ : n9)); let t3 := (la3 (⟨a1, a2, a3⟩ : V3) (⟨1, 1, 1⟩ : V3)); let t4 := (L4 (⟨a1, a2, a3⟩ : V3) (⟨1, 1, 1⟩ : V3)); let t5 := (fa6 t3 t4); let t8 := (ra6 [] (⟨a1, a2, a3⟩ : V3)); let t9 := (U9 [] [(⟨(⟨1, 0, 0⟩ : V3), t5.d7⟩ : Pln), (⟨(⟨(-1), 0, 0⟩ : V3), t5.r4⟩ : Pln), (⟨(⟨0, 1, 0⟩ : V3), t5.r5⟩ : Pln), (⟨(⟨0, (-1), 0⟩ : V3), t5.r6⟩ : Pln), (⟨(⟨0, 0, 1⟩ : V3), t5.r7⟩ : Pln), (⟨(⟨0, 0, (-1)⟩ : V3), t5.r8⟩ : Pln)]); let t10 := (U9 [(⟨(⟨1, 0, 0⟩ : V3), t5.d7⟩ : Pln), (⟨(⟨(-1), 0, 0⟩ : V3), t5.r4⟩ : Pln), (⟨(⟨0, 1, 0⟩ : V3), t5.r5⟩ : Pln), (⟨(⟨0, (-1), 0⟩ : V3), t5.r6⟩ : Pln), (⟨(⟨0, 0, 1⟩ : V3), t5.r7⟩ : Pln), (⟨(⟨0, 0, (-1)⟩ : V3), t5.r8⟩ : Pln)] []); let a0 := (slR tP t2.2.eh1 0 t2.2.ns7); let t11 := (fa1 a0); let t12 := (V5 a0); let t13 := (ra6 a0 (⟨a1, a2, a3⟩ : V3)); let t14 := (U9 a0 [(⟨(⟨1, 0, 0⟩ : V3), t5.d7⟩ : Pln), (⟨(⟨(-1), 0, 0⟩ : V3), t5.r4⟩ : Pln), (⟨(⟨0, 1, 0⟩ : V3), t5.r5⟩ : Pln), (⟨(⟨0, (-1), 0⟩ : V3), t5.r6⟩ : Pln), (⟨(⟨0, 0, 1⟩ : V3), t5.r7⟩ : Pln), (⟨(⟨0, 0, (-1)⟩ : V3), t5.r8⟩ : Pln)]); let t15 := (U9 [(⟨(⟨1, 0, 0⟩ : V3), t5.d7⟩ : Pln), (⟨(⟨(-1), 0, 0⟩ : V3), t5.r4⟩ : Pln), (⟨(⟨0, 1, 0⟩ : V3), t5.r5⟩ : Pln), (⟨(⟨0, (-1), 0⟩ : V3), t5.r6⟩ : Pln), (⟨(⟨0, 0, 1⟩ : V3), t5.r7⟩ : Pln), (⟨(⟨0, 0, (-1)⟩ : V3), t5.r8⟩ : Pln)] a0); let a4 := (okS tP t2.2.eh1 0 t2.2.ns7); (sl va6 (sl ((cnE (tLs tI) x) && true) (sl (Nat.beq t2.1 1) (sl t1 (sl (T1 []) (sl (t6 == 0) (sl (L5 []) (sl t7 (sl (fa5 [] (⟨a1, a2, a3⟩ : V3)) (sl t8 (sl (G5 [] [(⟨(⟨1, 0, 0⟩ : V3), t5.d7⟩ : Pln), (⟨(⟨(-1), 0, 0⟩ : V3), t5.r4⟩ : Pln), (⟨(⟨0, 1, 0⟩ : V3), t5.r5⟩ : Pln), (⟨(⟨0, (-1), 0⟩ : V3), t5.r6⟩ : Pln), (⟨(⟨0, 0, 1⟩ : V3), t5.r7⟩ : Pln), (⟨(⟨0, 0, (-1)⟩ : V3), t5.r8⟩ : Pln)]) (sl (!t9) (sl (G5 [(⟨(⟨1, 0, 0⟩ : V3), t5.d7⟩ : Pln), (⟨(⟨(-1), 0, 0⟩ : V3), t5.r4⟩ : Pln), (⟨(⟨0, 1, 0⟩ : V3), t5.r5⟩ : Pln), (⟨(⟨0, (-1), 0⟩ : V3), t5.r6⟩ : Pln), (⟨(⟨0, 0, 1⟩ : V3), t5.r7⟩ : Pln), (⟨(⟨0, 0, (-1)⟩ : V3), t5.r8⟩ : Pln)] []) (some ((b (!t10)), [])) none) (some ((b false), []))) none) (some ((b false), []))) none) (some ((b false), []))) none) (some ((b false), []))) none) (some ((b false), []))) (sl (Nat.beq t2.1 2) (sl t1 (sl (T1 []) (sl (t6 == 0) (sl (L5 []) (sl t7 (sl (fa5 [] (⟨a1, a2, a3⟩ : V3)) (sl t8 (sl (G5 [] [(⟨(⟨1, 0, 0⟩ : V3), t5.d7⟩ : Pln), (⟨(⟨(-1), 0, 0⟩ : V3), t5.r4⟩ : Pln), (⟨(⟨0, 1, 0⟩ : V3), t5.r5⟩ : Pln), (⟨(⟨0, (-1), 0⟩ : V3), t5.r6⟩ : Pln), (⟨(⟨0, 0, 1⟩ : V3), t5.r7⟩ : Pln), (⟨(⟨0, 0, (-1)⟩ : V3), t5.r8⟩ : Pln)]) (sl (!t9) (sl (G5 [(⟨(⟨1, 0, 0⟩ : V3), t5.d7⟩ : Pln), (⟨(⟨(-1), 0, 0⟩ : V3), t5.r4⟩ : Pln), (⟨(⟨0, 1, 0⟩ : V3), t5.r5⟩ : Pln), (⟨(⟨0, (-1), 0⟩ : V3), t5.r6⟩ : Pln), (⟨(⟨0, 0, 1⟩ : V3), t5.r7⟩ : Pln), (⟨(⟨0, 0, (-1)⟩ : V3), t5.r8⟩ : Pln)] []) (some ((b (!t10)), [])) none) (some ((b false), []))) none) (some ((b false), []))) none) (some ((b false), []))) none) (some ((b false), []))) none) (some ((b false), []))) (sl (Nat.beq t2.1 3) (sl t1 (sl a4 (sl (T1 a0) (sl (t11 == 0) (sl a4 (sl (L5 a0) (sl t12 (sl a4 (sl (fa5 a0 (⟨a1, a2, a3⟩ : V3)) (sl t13 (sl a4 (sl (G5 a0 [(⟨(⟨1, 0, 0⟩ : V3), t5.d7⟩ : Pln), (⟨(⟨(-1), 0, 0⟩ : V3), t5.r4⟩ : Pln), (⟨(⟨0, 1, 0⟩ : V3), t5.r5⟩ : Pln), (⟨(⟨0, (-1), 0⟩ : V3), t5.r6⟩ : Pln), (⟨(⟨0, 0, 1⟩ : V3), t5.r7⟩ : Pln), (⟨(⟨0, 0, (-1)⟩ : V3), t5.r8⟩ : Pln)]) (sl (!t14) (sl a4 (sl (G5 [(⟨(⟨1, 0, 0⟩ : V3), t5.d7⟩ : Pln), (⟨(⟨(-1), 0, 0⟩ : V3), t5.r4⟩ : Pln), (⟨(⟨0, 1, 0⟩ : V3), t5.r5⟩ : Pln), (⟨(⟨0, (-1), 0⟩ : V3), t5.r6⟩ : Pln), (⟨(⟨0, 0, 1⟩ : V3), t5.r7⟩ : Pln), (⟨(⟨0, 0, (-1)⟩ : V3), t5.r8⟩ : Pln)] a0) (some ((b (!t15)), [])) none) none) (some ((b false), []))) none) none) (some ((b false), []))) none) none) (some ((b false), []))) none) none) (some ((b false), []))) none) none) (some ((b false), []))) (sl (Nat.beq t2.1 4) (sl t1 (sl a4 (sl (T1 a0) (sl (t11 == 0) (sl a4 (sl (L5 a0) (sl t12 (sl a4 (sl (fa5 a0 (⟨a1, a2, a3⟩ : V3)) (sl t13 (sl a4 (sl (G5 a0 [(⟨(⟨1, 0, 0⟩ : V3), t5.d7⟩ : Pln), (⟨(⟨(-1), 0, 0⟩ : V3), t5.r4⟩ : Pln), (⟨(⟨0, 1, 0⟩ : V3), t5.r5⟩ : Pln), (⟨(⟨0, (-1), 0⟩ : V3), t5.r6⟩ : Pln), (⟨(⟨0, 0, 1⟩ : V3), t5.r7⟩ : Pln), (⟨(⟨0, 0, (-1)⟩ : V3), t5.r8⟩ : Pln)]) (sl (!t14) (sl a4 (sl (G5 [(⟨(⟨1, 0, 0⟩ : V3), t5.d7⟩ : Pln), (⟨(⟨(-1), 0, 0⟩ : V3), t5.r4⟩ : Pln), (⟨(⟨0, 1, 0⟩ : V3), t5.r5⟩ : Pln), (⟨(⟨0, (-1), 0⟩ : V3), t5.r6⟩ : Pln), (⟨(⟨0, 0, 1⟩ : V3), t5.r7⟩ : Pln), (⟨(⟨0, 0, (-1)⟩ : V3), t5.r8⟩ : Pln)] a0) (some ((b (!t15)), [])) none) none) (some ((b false), []))) none) none) (some ((b false), []))) none) none) (some ((b false), []))) none) none) (some ((b false), []))) none) none) (some ((b false), []))) none)))) none) none)
noncomputable def fa7 (x : List (List Int)) (y : B3) : Bool := ea8 (one r1B) (X8 x y)
noncomputable def fa8 (x : List (List Int)) (y : B3) : Bool := okO (one r1B) (X8 x y)
noncomputable def tb9 : Sum := oa3 (Aa2 (tLs tI)) (ia2 tW) (fun x y => .guard (fa8 x y) (.ret ((one r1B).enc (fa7 x y), [])))
theorem ob6 : i6 prog G 4 tb9 := Db2 (bd b4 kb7) (one r1B) (o := X8) fun x y => cb0 (.s .p (.s .p (.s .p (.s .p (.s (.s .p (.b (.u la4.ls))) .p))))) [la4.pr] (by kernel_rfl) (.cons cb8 .nil) (by kernel_rfl)
end Go.Ev.Ce
end
namespace Go.Ev.Ce
open Go Go.Ev Go.Ev.L Go.Proofs
theorem md2 {p : Pln} (h : Bd p) : va7 p = Gb5 p := by
 unfold va7 la3 Gb5
 simp only
 have := h.x1; have := h.x2; have := h.y1; have := h.y2; have := h.z1; have := h.z2; have := h.b1; have := h.b2
 rw [ca5 (by omega) (by omega), ca5 (by omega) (by omega), ca5 (by omega) (by omega), ca5 (by omega) (by omega)]
 simp only [Int.zero_sub]
theorem zc4 (p : Pln) (v : V3) : va8 p v = some (i (Va4 p v), []) := by
 unfold va8 Va4
 simp only [Jc6, Jc7, (nc5 v).1, (nc5 v).2, Kc8, Kc9, K6]
 cases hp : okp p with
 | false => rfl
 | true =>
  cases hv : inV v with
  | false => rfl
  | true =>
   have hb := tb0 hp
   have hd := cd6 hb hv
   have e : Z9 p.n v = dot p.n v := by
    unfold Z9
    simp only [gb3, Rb6]
    exact Ua6 (hd.mono (by omega))
   rw [e]
   simp only [Bool.not_true, Uc5, Bool.and_self, if_true, tb8]
   by_cases h1 : dot p.n v < p.b
   ·rw [if_pos h1, if_pos (by omega)]
   ·rw [if_neg h1]
    by_cases h2 : dot p.n v > p.b
    ·rw [if_pos h2, if_neg (by omega), if_pos (by omega)]
    ·rw [if_neg h2, if_neg (by omega), if_neg (by omega)]
theorem Mc1 (p : Pln) (v : V3) : va9 p v = Va4 p v := by unfold va9; rw [zc4]; rfl
theorem Mc2 (p : Pln) (v : V3) : wa0 p v = true := by unfold wa0; rw [zc4]; rfl
def Neg (v : V3) (q : Pln) : Prop := okp q = true ∧ dot q.n v < q.b
structure ub0 (v : V3) : Prop where
 x : Sm 23 v.x
 y : Sm 23 v.y
 z : Sm 23 v.z
theorem ub0.inV {v : V3} (h : ub0 v) : inV v = true := (nb5 v).2 ⟨h.x.mono (by omega), h.y.mono (by omega), h.z.mono (by omega)⟩
theorem dd2 {v : V3} {p : Pln} (hv : ub0 v) (hp : okp p = true) (hs : Va4 p v = 1) : Neg v (Gb5 p) := by
 refine ⟨cd7 hp, ?_⟩
 have := (zc1 hp hv.inV).1 (by omega)
 unfold Gb5 dot at *
 simp only at *
 rw [Int.neg_mul, Int.neg_mul, Int.neg_mul]
 omega
theorem dd3 {v : V3} {p : Pln} (hv : ub0 v) (hp : okp p = true) (hs : Va4 p v = 0) : W (p.b + 1) = p.b + 1 ∧ Neg v ⟨p.n, p.b + 1⟩ := by
 have h := (gc6 hp hv.inV).1 hs
 have hb := tb0 hp
 have hd := cd6 hb hv.inV
 have h1 := hd.1; have h2 := hd.2
 refine ⟨ca5 (by omega) (by omega), ?_, by show dot p.n v < p.b + 1; omega⟩
 unfold okp at hp ⊢
 simp only [List.all_cons, List.all_nil, Bool.and_true, Bool.and_eq_true, za3] at hp ⊢
 refine ⟨hp.1, hp.2.1, ?_⟩
 constructor <;> omega
theorem dd4 {v : V3} {p : Pln} (hv : ub0 v) (hp : okp p = true) (h1 : Va4 p v ≠ 1) (h0 : Va4 p v ≠ 0) : Neg v p := by
 refine ⟨hp, ?_⟩
 have h2 : Va4 p v = 1 ∨ Va4 p v = 0 ∨ Va4 p v = -1 := by
  unfold Va4
  split
  ·split
   ·exact .inr (.inr rfl)
   ·split
    ·exact .inl rfl
    ·exact .inr (.inl rfl)
  ·exact .inr (.inl rfl)
 have hz := gc6 hp hv.inV
 have hp' := zc1 hp hv.inV
 have n1 : ¬ dot p.n v > p.b := fun h => by have := hp'.2 h; omega
 have n2 : ¬ dot p.n v = p.b := fun h => h0 (hz.2 h)
 omega
@[reducible] noncomputable def mkI (j : Nat) (c : List Pln) : n9 := ⟨phP c, (j : Int), c.length, bL tP c⟩
structure Cel (v : V3) (c : List Pln) : Prop where
 l : c.length ≤ 6
 n : ∀ q ∈ c, Neg v q
theorem Cel.add {v : V3} {c : List Pln} {q : Pln} (h : Cel v c) (hl : c.length < 6) (hq : Neg v q) : Cel v (c ++ [q]) := by
 refine ⟨by rw [List.length_append, List.length_singleton]; omega, fun x hx => ?_⟩
 rcases List.mem_append.1 hx with hx | hx
 ·exact h.n x hx
 ·rw [List.mem_singleton.1 hx]; exact hq
theorem md3 (j : Nat) (c : List Pln) (q : Pln) : mkI j (c ++ [q]) = ⟨1, (j : Int), c.length + 1, bL tP (c ++ [q])⟩ := by
 unfold mkI
 rw [List.length_append, List.length_singleton]
 cases c <;> rfl
theorem Cd1 (x : List (List Int)) (b0 : Bool) (v : V3) (j : Nat) (c : List Pln) (hj : j < x.length) (h6 : j < 6) (hl : c.length = j) :
  q9 ⟨x, b0, v.x, v.y, v.z⟩ (mkI j c) = sl (Va4 (X3 (gL (tLs tI) x j)) v == 1) (.next (mkI (j + 1) (c ++ [Gb5 (X3 (gL (tLs tI) x j))])))
   (sl (Va4 (X3 (gL (tLs tI) x j)) v == 0) (.next (mkI (j + 1) (c ++ [⟨(X3 (gL (tLs tI) x j)).n, W ((X3 (gL (tLs tI) x j)).b + 1)⟩]))) (.next (mkI (j + 1) (c ++ [X3 (gL (tLs tI) x j)])))) := by
 have hp := Lc8 (gL (tLs tI) x j)
 have hg := kd7 (gL (tLs tI) x j)
 have hW := L7 h6 (by omega)
 have hi : inB (j : Int) x.length = true := q7 hj
 have h6' : (j : Int) < 6 := by omega
 have hfl := md2 (tb0 hp)
 unfold q9
 cases c with
 | nil =>
  show C3 Stp.next Stp.exit Stp.fail _ (mkI j []) = _
  simp only [C3, mkI, Int.toNat_natCast, D9, fa0, hg, Mc1, Mc2, hW, hfl]
  rw [btD (J1 hj), btD h6', bt hi, K6, K6, K6]
  rfl
 | cons q0 c0 =>
  have hr : (Nat.beq (q0 :: c0).length (len (bL tP (q0 :: c0))) && Nat.ble (((q0 :: c0).length + 1) * 32) room) = true := by
   rw [ta4, Nat.beq_refl, xb2 (by rw [hl]; omega)]; rfl
  show C5 Stp.next Stp.exit Stp.fail _ (mkI j (q0 :: c0)) = _
  simp only [C5, md3]
  simp only [mkI, Int.toNat_natCast, D9, fa0, hg, Mc1, Mc2, hW, hfl, hr, ad7]
  rw [btD (J1 hj), btD h6', bt hi, K6, K6, K6, K6, K6, K6]
theorem wd3 (x : List (List Int)) (b0 : Bool) (v : V3) (hv : ub0 v) (j : Nat) (c : List Pln) (hj : j < x.length) (h6 : j < 6) (hl : c.length = j) :
  ∃ q, Neg v q ∧ q9 ⟨x, b0, v.x, v.y, v.z⟩ (mkI j c) = .next (mkI (j + 1) (c ++ [q])) := by
 rw [Cd1 x b0 v j c hj h6 hl]
 have hp := Lc8 (gL (tLs tI) x j)
 generalize X3 (gL (tLs tI) x j) = p at *
 by_cases h1 : Va4 p v = 1
 ·exact ⟨Gb5 p, dd2 hv hp h1, bt (by rw [h1]; rfl) _ _⟩
 ·rw [bf (by simpa using h1)]
  by_cases h0 : Va4 p v = 0
  ·obtain ⟨k1, k2⟩ := dd3 hv hp h0
   refine ⟨_, k2, ?_⟩
   rw [bt (by rw [h0]; rfl), k1]
  ·exact ⟨p, dd4 hv hp h1 h0, bf (by simpa using h0) _ _⟩
theorem Cd2 (x : List (List Int)) (b0 : Bool) (v : V3) (j : Nat) (c : List Pln) (h : ¬ (j < x.length ∧ j < 6)) :
  ∃ t, q9 ⟨x, b0, v.x, v.y, v.z⟩ (mkI j c) = .exit t ∧ ((c = [] ∧ (t = 1 ∨ t = 2)) ∨ (t = 3 ∨ t = 4)) := by
 unfold q9
 cases c with
 | nil =>
  show ∃ t, C3 Stp.next Stp.exit Stp.fail _ (mkI j []) = _ ∧ _
  simp only [C3, mkI]
  by_cases h1 : j < x.length
  ·rw [btD (J1 h1), bfD (by omega)]
   exact ⟨1, rfl, .inl ⟨trivial, .inl rfl⟩⟩
  ·rw [bfD (ka7 h1)]
   exact ⟨2, rfl, .inl ⟨trivial, .inr rfl⟩⟩
 | cons q0 c0 =>
  show ∃ t, C5 Stp.next Stp.exit Stp.fail _ (mkI j (q0 :: c0)) = _ ∧ _
  simp only [C5, mkI]
  by_cases h1 : j < x.length
  ·rw [btD (J1 h1), bfD (by omega)]
   exact ⟨3, rfl, .inr (.inl rfl)⟩
  ·rw [bfD (ka7 h1)]
   exact ⟨4, rfl, .inr (.inr rfl)⟩
theorem wd4 (x : List (List Int)) (b0 : Bool) (v : V3) (hv : ub0 v) :
  ∃ c t j, Cel v c ∧ lp (q9 ⟨x, b0, v.x, v.y, v.z⟩) ⟨0, 0, 0, []⟩ = (t, mkI j c) ∧ ((c = [] ∧ (t = 1 ∨ t = 2)) ∨ (t = 3 ∨ t = 4)) := by
 have key := gb4 (step := q9 ⟨x, b0, v.x, v.y, v.z⟩) (I := fun m s => ∃ j c, m + j = 6 ∧ c.length = j ∧ Cel v c ∧ s = mkI j c)
  (Q := fun t s => ∃ c j, Cel v c ∧ s = mkI j c ∧ ((c = [] ∧ (t = 1 ∨ t = 2)) ∨ (t = 3 ∨ t = 4))) (fun m s ⟨j, c, hm, hl, hc, hs⟩ => by
   subst hs
   by_cases h : j < x.length ∧ j < 6
   ·obtain ⟨q, hq, e⟩ := wd3 x b0 v hv j c h.1 h.2 hl
    exact .inr ⟨_, m - 1, by omega, e, j + 1, c ++ [q], by omega, by rw [List.length_append, List.length_singleton, hl], hc.add (by omega) hq, rfl⟩
   ·obtain ⟨t, e, ht⟩ := Cd2 x b0 v j c h
    exact .inl ⟨t, e, c, j, hc, rfl, ht⟩) 6 (mkI 0 []) (by omega) ⟨0, [], rfl, rfl, ⟨by simp, fun q hq => by simp at hq⟩, rfl⟩
 obtain ⟨c, j, hc, hs, ht⟩ := key
 exact ⟨c, _, j, hc, Prod.ext rfl hs, ht⟩
def Ins (v : V3) (l : List Pln) : Prop := ∀ q ∈ l, 0 < rmZ q (Sc1 v)
theorem Ins.app {v : V3} {l r : List Pln} (h : Ins v l) (h' : Ins v r) : Ins v (l ++ r) := fun q hq => (List.mem_append.1 hq).elim (h q) (h' q)
theorem Ins.ball {v : V3} {l : List Pln} (h : Ins v l) : ld5 l := ⟨Sc1 v, Int.one_pos, h⟩
theorem dd5 {v : V3} (hv : ub0 v) : Ins v ws := by
 obtain ⟨⟨a1, a2⟩, ⟨a3, a4⟩, a5, a6⟩ := hv
 intro p hp
 simp only [ws, List.mem_cons, List.not_mem_nil, or_false] at hp
 rcases hp with rfl | rfl | rfl | rfl | rfl | rfl <;> simp only [rmZ, Sc1] <;> omega
theorem Cel.ins {v : V3} {c : List Pln} (h : Cel v c) : Ins v c := fun q hq => by
 rw [ld7]
 have := (h.n q hq).2
 omega
theorem Cel.chk {v : V3} {c : List Pln} (h : Cel v c) : (chk c == 0) = true := by
 rw [beq_iff_eq, jb1]
 exact ⟨by have := h.l; omega, fun q hq => (h.n q hq).1⟩
noncomputable def Gc5 (v : V3) : List Pln := kd0 (la3 v ⟨1, 1, 1⟩) (L4 v ⟨1, 1, 1⟩)
theorem oc5 {v : V3} (hv : ub0 v) : Gc5 v = [⟨⟨1, 0, 0⟩, v.x + 1⟩, ⟨⟨-1, 0, 0⟩, 1 - v.x⟩, ⟨⟨0, 1, 0⟩, v.y + 1⟩, ⟨⟨0, -1, 0⟩, 1 - v.y⟩, ⟨⟨0, 0, 1⟩, v.z + 1⟩, ⟨⟨0, 0, -1⟩, 1 - v.z⟩] := by
 obtain ⟨⟨a1, a2⟩, ⟨a3, a4⟩, a5, a6⟩ := hv
 have w1 : ∀ {x : Int}, -23 ≤ x → x ≤ 23 → W (x + 1) = x + 1 := fun h h' => ca5 (by omega) (by omega)
 have w2 : ∀ {x : Int}, -23 ≤ x → x ≤ 23 → W (0 - W (x - 1)) = 1 - x := fun {x} h h' => by rw [ca5 (n := x - 1) (by omega) (by omega), ca5 (by omega) (by omega)]; omega
 unfold Gc5 kd0 la3 L4
 simp only [w1 a1 a2, w1 a3 a4, w1 a5 a6, w2 a1 a2, w2 a3 a4, w2 a5 a6]
theorem dd6 {v : V3} (hv : ub0 v) : Ins v (Gc5 v) := by
 rw [oc5 hv]
 intro p hp
 simp only [List.mem_cons, List.not_mem_nil, or_false] at hp
 rcases hp with rfl | rfl | rfl | rfl | rfl | rfl <;> simp only [rmZ, Sc1] <;> omega
theorem dd7 {v : V3} (hv : ub0 v) : (chk (Gc5 v) == 0) = true := by
 rw [beq_iff_eq, jb1, oc5 hv]
 refine ⟨by simp, fun p hp => ?_⟩
 obtain ⟨⟨a1, a2⟩, ⟨a3, a4⟩, a5, a6⟩ := hv
 simp only [List.mem_cons, List.not_mem_nil, or_false] at hp
 unfold okp
 simp only [List.all_cons, List.all_nil, Bool.and_true, Bool.and_eq_true, za3, beq_iff_eq, Sm]
 rcases hp with rfl | rfl | rfl | rfl | rfl | rfl <;> exact ⟨by simp, by first | exact gc7.1 | exact gc7.2.1 | exact gc7.2.2.1 | exact gc7.2.2.2.1 | exact gc7.2.2.2.2.1 | exact gc7.2.2.2.2.2, by simp only; omega⟩
theorem md4 {v : V3} {c : List Pln} (hv : ub0 v) (hk : (chk c == 0) = true) (h : Ins v c) : ful c = true := by
 unfold ful
 rw [hk, (Gb6 (Pa6 hk).1 (Gc4 _) (by simp [ws])).2 (h.app (dd5 hv)).ball]
 rfl
theorem md5 {v : V3} {c : List Pln} (hv : ub0 v) (hk : (chk c == 0) = true) (h : Ins v c) : has c v = true := by
 unfold has
 rw [hk, hv.inV, Bool.true_and, Bool.true_and]
 exact (ld9 (fun p hp => (Pa6 hk).1 p (List.mem_append_left _ hp)) (wd0 hv.inV)).2 fun p hp => Int.le_of_lt (h p hp)
theorem gc8 {v : V3} {a c : List Pln} (hv : ub0 v) (ha : (chk a == 0) = true) (hc : (chk c == 0) = true) (h : Ins v a) (h' : Ins v c) : apart a c = false := by
 unfold apart
 rw [ha, hc, (Gb6 (yc1 ha hc).1 (Gc4 _) (by simp [ws])).2 ((h.app h').app (dd5 hv)).ball]
 rfl
theorem Gc6 {y : Int} (h : 0 ≤ y) : -23 ≤ W (W (Int.tmod y 47) - 23) ∧ W (W (Int.tmod y 47) - 23) ≤ 23 := by
 have h1 := Int.tmod_nonneg 47 h
 have h2 := Int.tmod_lt_of_pos y (show (0 : Int) < 47 by omega)
 rw [ca5 (n := Int.tmod y 47) (by omega) (by omega), ca5 (by omega) (by omega)]
 omega
theorem gc9 (x : List (List Int)) (y : B3) (h : 0 ≤ y.b0 ∧ 0 ≤ y.b1 ∧ 0 ≤ y.b2) : X8 x y = some (b true, []) := by
 have hv : ub0 ⟨W (W (Int.tmod y.b0 47) - 23), W (W (Int.tmod y.b1 47) - 23), W (W (Int.tmod y.b2 47) - 23)⟩ := ⟨Gc6 h.1, Gc6 h.2.1, Gc6 h.2.2⟩
 unfold X8
 simp only [D9, fa0, F7, bd6, bd7]
 generalize W (W (Int.tmod y.b0 47) - 23) = a1 at *
 generalize W (W (Int.tmod y.b1 47) - 23) = a2 at *
 generalize W (W (Int.tmod y.b2 47) - 23) = a3 at *
 obtain ⟨c, t, j, hc, hl, ht⟩ := wd4 x true ⟨a1, a2, a3⟩ hv
 simp only at hl
 rw [hl]
 have hbox : ∀ lo hi : V3, [(⟨⟨1, 0, 0⟩, (fa6 lo hi).d7⟩ : Pln), ⟨⟨-1, 0, 0⟩, (fa6 lo hi).r4⟩, ⟨⟨0, 1, 0⟩, (fa6 lo hi).r5⟩, ⟨⟨0, -1, 0⟩, (fa6 lo hi).r6⟩, ⟨⟨0, 0, 1⟩, (fa6 lo hi).r7⟩, ⟨⟨0, 0, -1⟩, (fa6 lo hi).r8⟩] = kd0 lo hi := fun _ _ => rfl
 simp only [hbox]
 have hcu : kd0 (la3 ⟨a1, a2, a3⟩ ⟨1, 1, 1⟩) (L4 ⟨a1, a2, a3⟩ ⟨1, 1, 1⟩) = Gc5 ⟨a1, a2, a3⟩ := rfl
 simp only [hcu]
 have l6 : (Gc5 ⟨a1, a2, a3⟩).length = 6 := by rw [oc5 hv]; rfl
 have kI := dd6 hv
 have kC := dd7 hv
 generalize Gc5 ⟨a1, a2, a3⟩ = K at *
 have hl6 := hc.l
 have lc : c.length ≤ 1000000000 := by omega
 have lc' : c.length ≤ 100000000 := by omega
 have lk : K.length ≤ 100000000 := by omega
 have e1 : chk c = 0 := by simpa using hc.chk
 have e2 := md4 hv hc.chk hc.ins
 have e3 := md5 hv hc.chk hc.ins
 have e4 := gc8 hv hc.chk kC hc.ins kI
 have e5 := gc8 hv kC hc.chk kI hc.ins
 have es : slR tP (mkI j c).eh1 0 (mkI j c).ns7 = c := Dc0 tP c
 have eo : okS tP (mkI j c).eh1 0 (mkI j c).ns7 = true := Dc1 tP c
 simp only [es, eo, zb4 c lc, zb5 c lc, jb5 lc, jb6 lc, Kc6 lc, Kc7 lc, ab2 lc' lk, ab3 lc' lk, ab2 lk lc', ab3 lk lc', e1, e2, e3, e4, e5]
 rcases ht with ⟨rfl, rfl | rfl⟩ | rfl | rfl
 ·simp only [zb4 _ lc, zb5 _ lc, jb5 lc, jb6 lc, Kc6 lc, Kc7 lc, ab2 lc' lk, ab3 lc' lk, ab2 lk lc', ab3 lk lc', e1, e2, e3, e4, e5]
  rfl
 ·simp only [zb4 _ lc, zb5 _ lc, jb5 lc, jb6 lc, Kc6 lc, Kc7 lc, ab2 lc' lk, ab3 lc' lk, ab2 lk lc', ab3 lk lc', e1, e2, e3, e4, e5]
  rfl
 ·rfl
 ·rfl
theorem dd8 (x : List (List Int)) (y : B3) (h : 0 ≤ y.b0 ∧ 0 ≤ y.b1 ∧ 0 ≤ y.b2) : fa7 x y = true := by unfold fa7; rw [gc9 x y h]; rfl
theorem dd9 (x : List (List Int)) (y : B3) (h : 0 ≤ y.b0 ∧ 0 ≤ y.b1 ∧ 0 ≤ y.b2) : fa8 x y = true := by unfold fa8; rw [gc9 x y h]; rfl
end Go.Ev.Ce
namespace Go.Ev
open Go Go.ChangeShapes Go.RowKit
section
variable {D : Type} {enc : TypeId × Value → D} {P : Program} {w : World} {spare : Nat → Bool} {held : Bool}
theorem wd5 {t e u : TypeId} {k : IntKind} {d : Nat} (ht : P.underlying t = some (.slice e)) (he : P.underlying e = some (.slice u)) (hf : O6 P d u = some (ia3 k 1)) (hes : P.cellsOf u = 1) (hce : P.cellsOf e = 1) {fuel : Nat} {cs : List Value} {x : DataW D × List MemPlace} (hx : DataW.trod enc P w 0 spare held fuel t cs = some x) :
  ∃ (v : Value) (n : Nat) (m : Nat → Nat) (g : Nat → Nat → Int), cs = [v] ∧ O1 (Gb7 w) w (.tree 1 n fun j => [.tree 1 (m j) fun q => [.v (.int k (g j q))]]) v := by
 rcases zc3 ht hx with rfl | ⟨a, n, cap, fuel', rfl, hn, hc, hel⟩
 ·exact ⟨_, 0, fun _ => 0, fun _ _ => 0, rfl, .nil _ _⟩
 ·rw [hce] at hel
  have hcell : ∀ j, j < n → ∃ (m : Nat) (g : Nat → Int) (v : Value), w.cell? (a.add (j * 1)) = some v ∧ O1 (Gb7 w) w (.tree 1 m fun q => [.v (.int k (g q))]) v := fun j hj => by
   obtain ⟨row, y, h1, h2⟩ := hel j hj
   obtain ⟨v', m, g, e1, _, e3⟩ := ac7 he hf hes (by omega) h2
   subst e1
   refine ⟨m, fun q => g q 0, v', ?_, ?_⟩
   ·unfold World.cells? at h1
    split at h1
    ·obtain ⟨l1, l2⟩ := Va5 h1
     obtain ⟨i, hi, hi2⟩ := l2 0 v' rfl
     have : i = 0 := by
      have := List.getElem?_eq_some_iff.1 hi
      obtain ⟨h3, h4⟩ := this
      simpa using h4.symm
     subst this
     have e : (a.add (j * 1)).add 0 = a.add (j * 1) := by
      unfold Addr.add
      cases (a.spot) <;> simp
     rw [← e]
     exact hi2
    ·cases h1
   ·exact e3.get fun q _ => rfl
  have hg : ∀ j, ∃ p : Nat × (Nat → Int), j < n → ∃ v : Value, w.cell? (a.add (j * 1)) = some v ∧ O1 (Gb7 w) w (.tree 1 p.1 fun q => [.v (.int k (p.2 q))]) v := fun j => by
   by_cases hj : j < n
   ·obtain ⟨m, g, v, h1, h2⟩ := hcell j hj
    exact ⟨(m, g), fun _ => ⟨v, h1, h2⟩⟩
   ·exact ⟨(0, fun _ => 0), fun h => absurd h hj⟩
  obtain ⟨p, hp⟩ := Classical.axiomOfChoice hg
  have hv : ∀ j, ∃ v : Value, j < n → w.cell? (a.add (j * 1)) = some v ∧ O1 (Gb7 w) w (.tree 1 (p j).1 fun q => [.v (.int k ((p j).2 q))]) v := fun j => by
   by_cases hj : j < n
   ·obtain ⟨v, h⟩ := hp j hj
    exact ⟨v, fun _ => h⟩
   ·exact ⟨.bool true, fun h => absurd h hj⟩
  obtain ⟨v, hv⟩ := Classical.axiomOfChoice hv
  have hspot : 0 < n → a.spot = none := fun hn => by
   have := (hv 0 hn).1
   simpa [Addr.add] using World.cell?_spot this
  have hw : ∀ j c, j < n → c < 1 → w.cell? ⟨a.block, a.off + (j * 1 + c), none⟩ = some (v j) := fun j c hj hc => by
   have := (hv j hj).1
   rw [K5 (hspot (by omega))] at this
   have : c = 0 := by omega
   subst this
   simpa using (hv j hj).1 |> fun h => by rw [K5 (hspot (by omega))] at h; simpa using h
  refine ⟨_, n, fun j => (p j).1, fun j q => (p j).2 q, rfl, .tree 1 n _ a cap (fun j _ => v j) hspot hn (fun i hi => rfl) (fun i c hi hc => ?_) hw fun i c hi hc => ?_⟩
  ·unfold Gb7
   rw [hw i c hi hc]
   rfl
  ·have : c = 0 := by simpa using hc
   subst this
   exact (hv i hi).2
theorem md6 {ρ : Rho} {H : List a8} {t e u : TypeId} {k : IntKind} {d : Nat} {v : Value} {dd : DataW D} {pp : List MemPlace} {bs : Nat} {r : Reach} (ht : P.underlying t = some (.slice e)) (he : P.underlying e = some (.slice u)) (hf : O6 P d u = some (ia3 k 1)) (hes : P.cellsOf u = 1) (hce : P.cellsOf e = 1)
  (hok : Value.okWide P w r bs t v) (h : DataW.Trod enc P w 0 spare held t v dd pp) : ∃ (n : Nat) (m : Nat → Nat) (g : Nat → Nat → Int), S1 ρ H (Gb7 w) w (.tree 1 n fun j => [.tree 1 (m j) fun q => [.v (.int k (g j q))]]) v := by
 obtain ⟨fuel, hx⟩ := h
 obtain ⟨v', n, m, g, h1, h3⟩ := wd5 ht he hf hes hce hx
 have hv : v.cells = #[v] := by
  unfold Value.okWide at hok
  rw [ht] at hok
  cases v with
  | agg cs => exfalso; simp [Cell.okWide, Cell.ok, ht] at hok
  | _ => rfl
 rw [hv] at h1
 have : v = v' := by simpa using h1
 subst this
 exact ⟨n, m, g, .cell (.mem h3)⟩
end
end Go.Ev
namespace Go.Ev.Ce
open Go Go.Ev Go.Ev.L Go.ChangeShapes Go.RowKit
theorem md7 (n : Nat) (m : Nat → Nat) (g : Nat → Nat → Int) : ∃ l, Rdg (Aa2 (tLs tI)) (.tree 1 n fun j => [.tree 1 (m j) fun q => [.v (.int .i64 (g j q))]]) l := by
 refine ⟨lsL (tLs tI) n fun j => [.tree 1 (m j) fun q => [.v (.int .i64 (g j q))]], rfl, ?_⟩
 show okL (tLs tI) n _ = true
 unfold okL
 rw [List.all_eq_true]
 intro j _
 show Bool.and (Nat.beq 1 1) (okL tI (m j) fun q => [.v (.int .i64 (g j q))]) = true
 have h : okL tI (m j) (fun q => [.v (.int .i64 (g j q))]) = true := rb9 tI (f := fun q => g j q) fun _ _ => rfl
 rw [h]
 rfl
theorem Sc5 (g : Nat → Int) (h : ∀ c, c < 3 → 0 ≤ g c ∧ g c ≤ 255) : ∃ a, Rdg (ia2 tW) (.agg (La7 .u8 3 g)) a ∧ 0 ≤ a.b0 ∧ 0 ≤ a.b1 ∧ 0 ≤ a.b2 :=
 ⟨⟨g 0, g 1, g 2⟩, ⟨rfl, rfl⟩, (h 0 (by omega)).1, (h 1 (by omega)).1, (h 2 (by omega)).1⟩
theorem md8 {D : Type} {enc : TypeId × Value → D} {P : Program} {w : World} {base : Nat} {spare : Nat → Bool} {held : Bool} {ρ : Rho} {H : List a8} {F : Fz} {t e : TypeId} {d : Nat} {v : Value} {dd : DataW D} {pp : List MemPlace} {bs : Nat} {r : Reach}
  (ht : P.underlying t = some (.array 3 e)) (he : P.underlying e = some (.int .u8)) (hts : P.cellTypes P.depth t = some [e, e, e]) (hf : O6 P d t = some (ia3 .u8 3)) (hes : P.cellsOf t = 3)
  (hok : Value.okWide P w r bs t v) (h : DataW.Trod enc P w base spare held t v dd pp) : ∃ g : Nat → Int, (∀ c, c < 3 → 0 ≤ g c ∧ g c ≤ 255) ∧ S1 ρ H F w (.agg (La7 .u8 3 g)) v := by
 obtain ⟨g, hv⟩ := md1 (ρ := ρ) (H := H) (F := F) (by simp [agT, ht]) hf hes hok h
 refine ⟨g, fun c hc => ?_, hv⟩
 obtain ⟨vs, e0, hl, hr⟩ := ma1 (.val hv)
 subst e0
 have hlen : vs.size = 3 := by rw [← hl]; simp [La7]
 have hc' : c < vs.size := by omega
 have hg : (La7 .u8 3 g)[c]? = some (.v (.int .u8 (g c))) := by
  unfold La7
  rw [List.getElem?_map, List.getElem?_range hc]
  rfl
 have hx := S3 (.val (.cell (hr c _ _ hg (Array.getElem?_eq_getElem hc'))))
 unfold Value.okWide at hok
 rw [ht] at hok
 obtain ⟨cs, e1, hsz, ts, h1, h2, h3⟩ := hok
 injection e1 with e1
 subst e1
 rw [hts] at h1
 injection h1 with h1
 subst h1
 obtain ⟨u, hu, hcell⟩ := h3 c _ (Array.getElem?_eq_getElem hc')
 rw [hx] at hcell
 have hue : u = e := by
  have : c = 0 ∨ c = 1 ∨ c = 2 := by omega
  rcases this with rfl | rfl | rfl <;> simpa using hu.symm
 subst hue
 simp only [Cell.okWide, Cell.ok, he] at hcell
 have := hcell.2
 simp only [IntKind.has, IntKind.min, IntKind.max, IntKind.bits, IntKind.signed] at this
 simp at this
 omega
end Go.Ev.Ce
