/- Own work: a part of the proof. -/
import Derived.Test.YtlccibobknidjaaEvIE2
import Derived.Shelf.SlSortCmp.WholeK
import Derived.Test.YtlccibobknidjaaEvSp7
import Derived.KernelRfl
set_option linter.unusedVariables false
set_option linter.unusedSimpArgs false
set_option linter.unnecessarySimpa false
set_option linter.unusedSectionVars false
namespace Go.Ev.Ce
open Go Go.Ev Go.Ev.L Go.Proofs
theorem btD {p : Prop} {inst : Decidable p} (h : p) {α : Type} (t e : α) : sl (@decide p inst) t e = t := bt (decide_eq_true h) t e
theorem bfD {p : Prop} {inst : Decidable p} (h : ¬ p) {α : Type} (t e : α) : sl (@decide p inst) t e = e := bf (decide_eq_false h) t e
theorem J1 {j n : Nat} (h : j < n) : (j : Int) < (n : Int) := Int.ofNat_lt.2 h
theorem ka7 {j n : Nat} (h : ¬ j < n) : ¬ (j : Int) < (n : Int) := fun h' => h (Int.ofNat_lt.1 h')
theorem Ua7 {σ τ α : Type} {step : σ → Stp σ} {mk : Nat → τ → σ} {f : α → List α → τ → τ} {g : List α → τ → τ} {fin : τ → Nat} (l : List α) (I : Nat → τ → Prop) (hl : l.length ≤ 1000000000)
  (g0 : ∀ a, g [] a = a) (g1 : ∀ x r a, g (x :: r) a = g r (f x r a))
  (h : ∀ j a (hj : j < l.length), I j a → step (mk j a) = .next (mk (j + 1) (f l[j] (l.drop (j + 1)) a)) ∧ I (j + 1) (f l[j] (l.drop (j + 1)) a))
  (hf : ∀ j a, l.length ≤ j → I j a → step (mk j a) = .exit (fin a)) (j0 : Nat) (a : τ) (hi : I j0 a) :
  lp step (mk j0 a) = (fin (g (l.drop j0) a), mk (max j0 l.length) (g (l.drop j0) a)) ∧ I (max j0 l.length) (g (l.drop j0) a) := by
 have key := gb4 (step := step) (I := fun m s => ∃ j b, m = l.length - j ∧ max j l.length = max j0 l.length ∧ s = mk j b ∧ I j b ∧ g (l.drop j) b = g (l.drop j0) a)
  (Q := fun u s => u = fin (g (l.drop j0) a) ∧ s = mk (max j0 l.length) (g (l.drop j0) a) ∧ I (max j0 l.length) (g (l.drop j0) a)) (fun m s ⟨j, b, hm, hj, hs, hb, he⟩ => by
   subst hs
   by_cases hlt : j < l.length
   ·obtain ⟨h1, h2⟩ := h j b hlt hb
    refine .inr ⟨_, l.length - (j + 1), by omega, h1, j + 1, _, rfl, by omega, rfl, h2, ?_⟩
    rw [← he, List.drop_eq_getElem_cons hlt, g1]
   ·have hd : l.drop j = [] := List.drop_eq_nil_of_le (by omega)
    rw [hd, g0] at he
    have hj' : j = max j0 l.length := by omega
    subst he
    rw [← hj']
    exact .inl ⟨_, hf j _ (by omega) hb, rfl, rfl, hb⟩) (l.length - j0) (mk j0 a) (by omega) ⟨j0, a, rfl, rfl, rfl, hi, rfl⟩
 exact ⟨Prod.ext key.1 key.2.1, key.2.2⟩
noncomputable def wa4 (r : List Pln) (p q : Pln) (out : List Pt) (s : Pln) : List Pt :=
 if (mpt p q s).2 && (!Ub3 out (mpt p q s).1 && inn r (mpt p q s).1) then out ++ [(mpt p q s).1] else out
noncomputable def cb4 (r : List Pln) (p q : Pln) (l : List Pln) (out : List Pt) : List Pt := l.foldl (wa4 r p q) out
noncomputable def Sa1 (r : List Pln) (p : Pln) : List Pln → List Pt → List Pt
 | [], out => out
 | q :: l, out => Sa1 r p l (cb4 r p q l out)
noncomputable def Kb6 (r : List Pln) : List Pln → List Pt → List Pt
 | [], out => out
 | p :: l, out => Kb6 r l (Sa1 r p l out)
noncomputable def cor (r : List Pln) : List Pt := Kb6 r r []
def Bds (r : List Pln) : Prop := ∀ p ∈ r, Bd p
theorem fc3 (r : List Pln) (p q : Pln) (out : List Pt) (s : Pln) : (wa4 r p q out s).length ≤ out.length + 1 := by
 unfold wa4
 split
 ·simp
 ·omega
theorem Ub5 (r : List Pln) (p q : Pln) : ∀ (l : List Pln) (out : List Pt), (cb4 r p q l out).length ≤ out.length + l.length
 | [], out => Nat.le_refl _
 | s :: l, out => by
  have h1 := fc3 r p q out s
  have h2 := Ub5 r p q l (wa4 r p q out s)
  show (cb4 r p q l (wa4 r p q out s)).length ≤ _
  simp only [List.length_cons]
  omega
theorem Ub6 (r : List Pln) (p : Pln) : ∀ (l : List Pln) (out : List Pt), l.length ≤ 200 → (Sa1 r p l out).length ≤ out.length + 200 * l.length
 | [], out, _ => by simp [Sa1]
 | q :: l, out, h => by
  simp only [List.length_cons] at h ⊢
  have h1 := Ub5 r p q l out
  have h2 := Ub6 r p l (cb4 r p q l out) (by omega)
  show (Sa1 r p l (cb4 r p q l out)).length ≤ _
  omega
theorem wc1 (r : List Pln) : ∀ (l : List Pln) (out : List Pt), l.length ≤ 200 → (Kb6 r l out).length ≤ out.length + 40000 * l.length
 | [], out, _ => by simp [Kb6]
 | p :: l, out, h => by
  simp only [List.length_cons] at h ⊢
  have h1 := Ub6 r p l out (by omega)
  have h2 := wc1 r l (Sa1 r p l out) (by omega)
  show (Kb6 r l (Sa1 r p l out)).length ≤ _
  omega
theorem Jc8 (r : List Pln) (_ : Bds r) (hr : r.length ≤ 200) : (cor r).length ≤ 8000000 := by
 have := wc1 r r [] hr
 rw [List.length_nil] at this
 show (Kb6 r r []).length ≤ _
 omega
noncomputable def ph (out : List Pt) : Nat := match out with
 | [] => 0
 | _ :: _ => 1
theorem Yc7 (x : Pt) : Ub3 [] x = false := rfl
theorem Mb9 {α : Type} (t : Ty α) (l : List α) (n k : Nat) : gL t (l.drop n) k = gL t l (n + k) := by simp [gL, List.getD_eq_getElem?_getD, List.getElem?_drop]
theorem Yc8 {n : Nat} {l : List Pt} (hn : n = l.length) (h : l.length ≤ 1000000000) : (Nat.beq n (len (bL tX l)) && Nat.ble ((n + 1) * 32) room) = true := by
 subst hn
 rw [ta4, Nat.beq_refl, Bool.true_and]
 exact xb2 (by omega)
theorem jd3 (l : List Pt) (x : Pt) : app (bL tX l) [[i x.px, i x.py, i x.pz, i x.pw]] = bL tX (l ++ [x]) := Xa4 tX l [x]
noncomputable def slX (l : List Pt) : a7 × List a8 := match l with
 | [] => (.v (.slice none 0 0), [])
 | _ :: _ => (.sl 0 0 l.length 0, [⟨53, 4, bL tX l, true, false, 0⟩])
theorem Yc9 (l : List Pt) : (one (r1L tX)).rd (slX l) = some l := by
 cases l with
 | nil => rfl
 | cons x l =>
  show Bool.rec (motive := fun _ => Option (List Pt)) none (some (slR tX (bL tX (x :: l)) 0 (x :: l).length)) (Bool.and true (okS tX (bL tX (x :: l)) 0 (x :: l).length)) = _
  rw [Dc0, Dc1]
  rfl
theorem Ua8 {ρ : Type} (R : RR ρ) {x : a7 × List a8} {r : ρ} (h : R.rd x = some r) : ea8 R (some x) = r := by
 show Option.rec (motive := fun _ => ρ) R.d (fun x => x) (R.rd x) = r
 rw [h]
theorem jb2 {ρ : Type} (R : RR ρ) {x : a7 × List a8} {r : ρ} (h : R.rd x = some r) : okO R (some x) = true := by
 show Option.rec (motive := fun _ => Bool) false (fun _ => true) (R.rd x) = true
 rw [h]
noncomputable def Zb6 (x : Pt) : List a7 := [i x.px, i x.py, i x.pz, i x.pw, b true]
noncomputable def bb4 (l : List Pt) : List (List a7) := l.map Zb6
@[reducible] noncomputable def flK : List (Nat × CK) := [(0, (.int .i64)), (1, (.int .i64)), (2, (.int .i64)), (3, (.int .i64))]
theorem wc2 (x q : Pt) : nb7 flK [i x.px, i x.py, i x.pz, i x.pw] (Zb6 q) = eqX x q := by
 show Bool.and (decide (x.px = q.px)) (Bool.and (decide (x.py = q.py)) (Bool.and (decide (x.pz = q.pz)) (Bool.and (decide (x.pw = q.pw)) true))) = _
 unfold eqX
 have h : ∀ a c : Int, decide (a = c) = (c == a) := fun a c => by rw [Bool.eq_iff_iff, decide_eq_true_eq, beq_iff_eq]; exact eq_comm
 rw [h, h, h, h]
theorem Ub7 (x : Pt) : ∀ l, ub8 4 flK [i x.px, i x.py, i x.pz, i x.pw] (bb4 l) = Ub3 l x
 | [] => rfl
 | q :: l => by
  have ih := Ub7 x l
  unfold ub8 at ih ⊢
  show Option.rec (motive := fun _ => Bool) false (fun r => toB (hdA (j7 r 4))) (Bool.rec (motive := fun _ => Option (List a7)) (Gb8 flK [i x.px, i x.py, i x.pz, i x.pw] (bb4 l)) (some (Zb6 q)) (nb7 flK [i x.px, i x.py, i x.pz, i x.pw] (Zb6 q))) = Ub3 (q :: l) x
  rw [wc2]
  unfold Ub3 at ih ⊢
  rw [List.any_cons]
  cases eqX x q with
  | true => rfl
  | false => exact ih
theorem fc4 (x : Pt) : ∀ l, Ub3 l x = false → Pa9 flK [i x.px, i x.py, i x.pz, i x.pw] (Zb6 x) (bb4 l) = bb4 (l ++ [x])
 | [], _ => rfl
 | q :: l, h => by
  unfold Ub3 at h
  rw [List.any_cons, Bool.or_eq_false_iff] at h
  show Bool.rec (motive := fun _ => List (List a7)) (Zb6 q :: Pa9 flK [i x.px, i x.py, i x.pz, i x.pw] (Zb6 x) (bb4 l)) (Zb6 x :: bb4 l) (nb7 flK [i x.px, i x.py, i x.pz, i x.pw] (Zb6 q)) = _
  rw [wc2, h.1, fc4 x l h.2]
  rfl
@[reducible] noncomputable def ob2 (k : Nat) (out : List Pt) : e7 := ⟨ph out, (k : Int), out.length, bL tX out, bb4 out⟩
structure C2 (P : d9) (r : List Pln) (p q : Pln) (lo : Nat) : Prop where
 ns : P.Gc7 = (r.drop lo).length
 gs : P.Fa2 = fun k => tP.row (gL tP r (lo + k))
 is : P.oc6 = ((r.drop lo).length : Int)
 p1 : (⟨⟨P.P4, P.P5, P.P6⟩, P.P7⟩ : Pln) = p
 q1 : (⟨⟨P.Y3, P.Y4, P.Y5⟩, P.Ha5⟩ : Pln) = q
 r1 : P.ea6 = r
theorem mc5 (s : Pln) : (⟨⟨toI (hdA (tP.row s)), toI (hdA (tlA (tP.row s))), toI (hdA (tlA (tlA (tP.row s))))⟩, toI (hdA (tlA (tlA (tlA (tP.row s)))))⟩ : Pln) = s := rfl
theorem mc6 (s : Pln) : ((Nat.ble 4 (len (tP.row s))) && (Oa3 [(CK.int .i64), (CK.int .i64), (CK.int .i64), (CK.int .i64)] (tP.row s))) = true := rfl
theorem jd4 {P : d9} {r : List Pln} {p q : Pln} {lo : Nat} (h : C2 P r p q lo) (hb : Bds r) (hr : r.length ≤ 200) (hp : Bd p) (hq : Bd q) (k : Nat) (out : List Pt) (ho : out.length ≤ 1000000000) (hk : k < (r.drop lo).length) :
  p6 P (ob2 k out) = .next (ob2 (k + 1) (wa4 r p q out (r.drop lo)[k])) := by
 have hwi : ∀ x, O9 r x = inn r x := fun x => Ub1 r x (by omega)
 have hwg : ∀ x, P0 r x = true := fun x => Ub2 r x (by omega)
 have hs : gL tP r (lo + k) = (r.drop lo)[k] := by rw [← Mb9, xb3 tP hk]
 have hbs : Bd (r.drop lo)[k] := hb _ (List.mem_of_mem_drop (List.getElem_mem hk))
 have hd : (r.drop lo).length ≤ 200 := by rw [List.length_drop]; omega
 have hme := td2 hp hq hbs
 have hmg := td3 hp hq hbs
 obtain ⟨x1, x2, x3, x4, x5, x6, x7, x8, x9, x10, x11, x12, x13, x14, x15, x16, x17, x18, x19, x20, x21⟩ := P
 obtain ⟨ns, gs, is, p1, q1, r1⟩ := h
 simp only at ns gs is p1 q1 r1
 have r1 := r1.symm
 subst ns gs is r1
 unfold p6
 cases out with
 | nil =>
  show s7 Stp.next Stp.exit Stp.fail _ (ob2 k []) = _
  simp only [s7, ob2, Int.toNat_natCast, D9, fa0, p1, q1, hs, mc5, mc6, hme, hmg, hwi, hwg, L7 hk (by omega)]
  rw [btD (J1 hk), bt (q7 hk), K6, K6]
  unfold wa4
  rw [Yc7]
  cases (mpt p q (r.drop lo)[k]).2 with
  | false => rfl
  | true =>
   cases inn r (mpt p q (r.drop lo)[k]).1 with
   | false => rfl
   | true => rfl
 | cons o os =>
  show s8 Stp.next Stp.exit Stp.fail _ (ob2 k (o :: os)) = _
  simp only [s8, ob2, Int.toNat_natCast, D9, fa0, p1, q1, hs, mc5, mc6, hme, hmg, hwi, hwg, L7 hk (by omega), Ub7]
  rw [btD (J1 hk), bt (q7 hk), K6, K6, Yc8 rfl ho, jd3]
  unfold wa4
  cases (mpt p q (r.drop lo)[k]).2 with
  | false => rfl
  | true =>
   cases hx : Ub3 (o :: os) (mpt p q (r.drop lo)[k]).1 with
   | true => rfl
   | false =>
    cases inn r (mpt p q (r.drop lo)[k]).1 with
    | false => rfl
    | true =>
     show Stp.next (⟨1, ((k + 1 : Nat) : Int), (o :: os).length + 1, bL tX (o :: os ++ [(mpt p q (r.drop lo)[k]).1]), Pa9 flK [i (mpt p q (r.drop lo)[k]).1.px, i (mpt p q (r.drop lo)[k]).1.py, i (mpt p q (r.drop lo)[k]).1.pz, i (mpt p q (r.drop lo)[k]).1.pw] (Zb6 (mpt p q (r.drop lo)[k]).1) (bb4 (o :: os))⟩ : e7) = _
     rw [fc4 _ _ hx]
     simp [ph]
theorem td7 {P : d9} {r : List Pln} {p q : Pln} {lo : Nat} (h : C2 P r p q lo) (k : Nat) (out : List Pt) (hk : (r.drop lo).length ≤ k) : p6 P (ob2 k out) = .exit (ph out + 1) := by
 obtain ⟨x1, x2, x3, x4, x5, x6, x7, x8, x9, x10, x11, x12, x13, x14, x15, x16, x17, x18, x19, x20, x21⟩ := P
 obtain ⟨ns, gs, is, p1, q1, r1⟩ := h
 simp only at ns gs is p1 q1 r1
 have r1 := r1.symm
 subst ns gs is r1
 unfold p6
 have this : ¬ ((k : Int) < ((r.drop lo).length : Int)) := by omega
 cases out with
 | nil =>
  show s7 Stp.next Stp.exit Stp.fail _ (ob2 k []) = _
  simp only [s7, ob2]
  rw [bfD this]
  rfl
 | cons o os =>
  show s8 Stp.next Stp.exit Stp.fail _ (ob2 k (o :: os)) = _
  simp only [s8, ob2]
  rw [bfD this]
  rfl
theorem jd5 {P : d9} {r : List Pln} {p q : Pln} {lo : Nat} (h : C2 P r p q lo) (hb : Bds r) (hr : r.length ≤ 200) (hp : Bd p) (hq : Bd q) (out : List Pt) (ho : out.length ≤ 100000000) :
  ∃ m, lp (p6 P) (ob2 0 out) = (ph (cb4 r p q (r.drop lo) out) + 1, ob2 m (cb4 r p q (r.drop lo) out)) := by
 have hd : (r.drop lo).length ≤ 200 := by rw [List.length_drop]; omega
 exact ⟨_, (Ua7 (mk := ob2) (f := fun s _ out => wa4 r p q out s) (g := fun l out => cb4 r p q l out) (fin := fun out => ph out + 1) (r.drop lo) (fun j o => o.length ≤ out.length + j) (by omega)
  (fun _ => rfl) (fun _ _ _ => rfl) (fun j o hj hi => ⟨jd4 h hb hr hp hq j o (by omega) hj, by have := fc3 r p q o (r.drop lo)[j]; show (wa4 r p q o (r.drop lo)[j]).length ≤ out.length + (j + 1); omega⟩)
  (fun j o hj _ => td7 h j o hj) 0 out (by omega)).1⟩
@[reducible] noncomputable def ob3 (r : List Pln) (j : Nat) (out : List Pt) : g7 := ⟨ph out, r, (j : Int), r, r, out.length, bL tX out, bb4 out⟩
structure C1 (P : e8) (r : List Pln) (p : Pln) (a : Nat) : Prop where
 i3 : P.is3 = (a : Int)
 ns : P.Bb4 = (r.drop (a + 1)).length
 gs : P.Ha4 = fun k => tP.row (gL tP r (a + 1 + k))
 is : P.X9 = ((r.drop (a + 1)).length : Int)
 p1 : (⟨⟨P.P4, P.P5, P.P6⟩, P.P7⟩ : Pln) = p
theorem jd6 {P : e8} {r : List Pln} {p : Pln} {a : Nat} (h : C1 P r p a) (hb : Bds r) (hr : r.length ≤ 200) (hp : Bd p) (j : Nat) (out : List Pt) (ho : out.length ≤ 100000000) (hj : j < (r.drop (a + 1)).length) :
  p7 P (ob3 r j out) = .next (ob3 r (j + 1) (cb4 r p (r.drop (a + 1))[j] ((r.drop (a + 1)).drop (j + 1)) out)) := by
 have hs : gL tP r (a + 1 + j) = (r.drop (a + 1))[j] := by rw [← Mb9, xb3 tP hj]
 have hbs : Bd (r.drop (a + 1))[j] := hb _ (List.mem_of_mem_drop (List.getElem_mem hj))
 have hd := hj
 rw [List.length_drop] at hd
 have hW : W (W ((a : Int) + (j : Int)) + 2) = ((a + 1 + (j + 1) : Nat) : Int) := by rw [gb3, ca5 (by omega) (by omega)]; omega
 have hdl : (r.drop (a + 1)).length ≤ 4611686018427387904 := by rw [List.length_drop]; omega
 have hlo : inB ((a + 1 + (j + 1) : Nat) : Int) (r.length + 1) = true := q7 (by omega)
 rw [List.drop_drop]
 generalize hq : (r.drop (a + 1))[j] = q at *
 obtain ⟨x1, x2, x3, x4, x5, x6, x7, x8, x9, x10⟩ := P
 obtain ⟨i3, ns, gs, is, p1⟩ := h
 simp only at i3 ns gs is p1
 subst i3 ns gs is
 unfold p7
 have key : ∀ (P2 : d9), C2 P2 r p q (a + 1 + (j + 1)) → _ := fun P2 h2 => jd5 h2 hb hr hp hbs out ho
 cases out with
 | nil =>
  show s9 Stp.next Stp.exit Stp.fail _ (ob3 r j []) = _
  simp only [s9, ob3, D9, F7, L7 hj hdl, hW, Int.toNat_natCast, hs, mc6, hlo]
  rw [show (⟨0, 0, 0, [], []⟩ : e7) = ob2 0 [] from rfl]
  generalize hP : d9.mk _ _ _ _ _ _ _ _ _ _ _ _ _ _ _ _ _ _ _ _ _ = P2
  obtain ⟨m, hm⟩ := key P2 (by
   subst hP
   exact ⟨by simp, rfl, by simp, p1, mc5 q, rfl⟩)
  rw [hm, btD (J1 hj), bt (q7 hj)]
  cases cb4 r p q (r.drop (a + 1 + (j + 1))) [] <;> rfl
 | cons o os =>
  show u9 Stp.next Stp.exit Stp.fail _ (ob3 r j (o :: os)) = _
  simp only [u9, ob3, D9, F7, L7 hj hdl, hW, Int.toNat_natCast, hs, mc6, hlo]
  rw [show (⟨1, 0, (o :: os).length, bL tX (o :: os), bb4 (o :: os)⟩ : e7) = ob2 0 (o :: os) from rfl]
  generalize hP : d9.mk _ _ _ _ _ _ _ _ _ _ _ _ _ _ _ _ _ _ _ _ _ = P2
  obtain ⟨m, hm⟩ := key P2 (by
   subst hP
   exact ⟨by simp, rfl, by simp, p1, mc5 q, rfl⟩)
  rw [hm, btD (J1 hj), bt (q7 hj)]
  cases cb4 r p q (r.drop (a + 1 + (j + 1))) (o :: os) <;> rfl
theorem td8 {P : e8} {r : List Pln} {p : Pln} {a : Nat} (h : C1 P r p a) (j : Nat) (out : List Pt) (hj : (r.drop (a + 1)).length ≤ j) : p7 P (ob3 r j out) = .exit (ph out + 1) := by
 obtain ⟨x1, x2, x3, x4, x5, x6, x7, x8, x9, x10⟩ := P
 obtain ⟨i3, ns, gs, is, p1⟩ := h
 simp only at i3 ns gs is p1
 subst i3 ns gs is
 unfold p7
 have this : ¬ ((j : Int) < ((r.drop (a + 1)).length : Int)) := by omega
 cases out with
 | nil =>
  show s9 Stp.next Stp.exit Stp.fail _ (ob3 r j []) = _
  simp only [s9, ob3]
  rw [bfD this]
  rfl
 | cons o os =>
  show u9 Stp.next Stp.exit Stp.fail _ (ob3 r j (o :: os)) = _
  simp only [u9, ob3]
  rw [bfD this]
  rfl
theorem jd7 {P : e8} {r : List Pln} {p : Pln} {a : Nat} (h : C1 P r p a) (hb : Bds r) (hr : r.length ≤ 200) (hp : Bd p) (out : List Pt) (ho : out.length ≤ 10000000) :
  ∃ m, lp (p7 P) (ob3 r 0 out) = (ph (Sa1 r p (r.drop (a + 1)) out) + 1, ob3 r m (Sa1 r p (r.drop (a + 1)) out)) := by
 have hd : (r.drop (a + 1)).length ≤ 200 := by rw [List.length_drop]; omega
 exact ⟨_, (Ua7 (mk := ob3 r) (f := fun q l out => cb4 r p q l out) (g := fun l out => Sa1 r p l out) (fin := fun out => ph out + 1) (r.drop (a + 1)) (fun k o => o.length ≤ out.length + 200 * k) (by omega)
  (fun _ => rfl) (fun _ _ _ => rfl) (fun k o hj hi => ⟨jd6 h hb hr hp k o (by omega) hj, by
   have := Ub5 r p (r.drop (a + 1))[k] ((r.drop (a + 1)).drop (k + 1)) o
   rw [List.length_drop] at this
   show (cb4 r p (r.drop (a + 1))[k] ((r.drop (a + 1)).drop (k + 1)) o).length ≤ out.length + 200 * (k + 1)
   omega⟩)
  (fun k o hj _ => td8 h k o hj) 0 out (by omega)).1⟩
@[reducible] noncomputable def tb1 (r : List Pln) (j : Nat) (out : List Pt) : i7 := ⟨ph out, r, (j : Int), r, r, out.length, bL tX out, bb4 out⟩
theorem jd8 {P : o0} (r : List Pln) (h : P.wa1 = (r.length : Int)) (hb : Bds r) (hr : r.length ≤ 200) (a : Nat) (ha : a < r.length) (out : List Pt) (ho : out.length ≤ 40000 * a) :
  p8 P (tb1 r a out) = .next (tb1 r (a + 1) (Sa1 r r[a] (r.drop (a + 1)) out)) := by
 have hbs : Bd r[a] := hb _ (List.getElem_mem ha)
 have hlo : inB ((a + 1 : Nat) : Int) (r.length + 1) = true := q7 (by omega)
 have key : ∀ (P2 : e8), C1 P2 r r[a] a → _ := fun P2 h2 => jd7 h2 hb hr hbs out (by omega)
 obtain ⟨x1⟩ := P
 simp only at h
 subst h
 unfold p8
 cases out with
 | nil =>
  show v7 Stp.next Stp.exit Stp.fail _ (tb1 r a []) = _
  simp only [v7, tb1, D9, F7, L7 ha (by omega), Int.toNat_natCast, hlo, xb3 tP ha]
  rw [show (⟨0, r, 0, r, r, 0, [], []⟩ : g7) = ob3 r 0 [] from rfl]
  generalize hP : e8.mk _ _ _ _ _ _ _ _ _ _ = P2
  obtain ⟨m, hm⟩ := key P2 (by
   subst hP
   exact ⟨rfl, by simp, rfl, by simp, rfl⟩)
  rw [hm, btD (J1 ha), bt (q7 ha)]
  cases Sa1 r r[a] (r.drop (a + 1)) [] <;> rfl
 | cons o os =>
  show v8 Stp.next Stp.exit Stp.fail _ (tb1 r a (o :: os)) = _
  simp only [v8, tb1, D9, F7, L7 ha (by omega), Int.toNat_natCast, hlo, xb3 tP ha]
  rw [show (⟨1, r, 0, r, r, (o :: os).length, bL tX (o :: os), bb4 (o :: os)⟩ : g7) = ob3 r 0 (o :: os) from rfl]
  generalize hP : e8.mk _ _ _ _ _ _ _ _ _ _ = P2
  obtain ⟨m, hm⟩ := key P2 (by
   subst hP
   exact ⟨rfl, by simp, rfl, by simp, rfl⟩)
  rw [hm, btD (J1 ha), bt (q7 ha)]
  cases Sa1 r r[a] (r.drop (a + 1)) (o :: os) <;> rfl
theorem td9 {P : o0} (r : List Pln) (h : P.wa1 = (r.length : Int)) (j : Nat) (out : List Pt) (hj : r.length ≤ j) : p8 P (tb1 r j out) = .exit (ph out + 1) := by
 obtain ⟨x1⟩ := P
 simp only at h
 subst h
 unfold p8
 have this : ¬ ((j : Int) < (r.length : Int)) := by omega
 cases out with
 | nil =>
  show v7 Stp.next Stp.exit Stp.fail _ (tb1 r j []) = _
  simp only [v7, tb1]
  rw [bfD this]
  rfl
 | cons o os =>
  show v8 Stp.next Stp.exit Stp.fail _ (tb1 r j (o :: os)) = _
  simp only [v8, tb1]
  rw [bfD this]
  rfl
theorem jd9 (r : List Pln) (hb : Bds r) (hr : r.length ≤ 200) : ∃ m, lp (p8 ⟨(r.length : Int)⟩) (tb1 r 0 []) = (ph (cor r) + 1, tb1 r m (cor r)) :=
 ⟨_, (Ua7 (step := p8 ⟨(r.length : Int)⟩) (mk := tb1 r) (f := fun q l out => Sa1 r q l out) (g := fun l out => Kb6 r l out) (fin := fun out => ph out + 1) r (fun k o => o.length ≤ 40000 * k) (by omega)
  (fun _ => rfl) (fun _ _ _ => rfl) (fun k o hj hi => ⟨jd8 r rfl hb hr k hj o hi, by
   have h1 := Ub6 r r[k] (r.drop (k + 1)) o (by rw [List.length_drop]; omega)
   rw [List.length_drop] at h1
   show (Sa1 r r[k] (r.drop (k + 1)) o).length ≤ 40000 * (k + 1)
   omega⟩)
  (fun k o hj _ => td9 r rfl k o hj) 0 [] (by simp)).1⟩
theorem Ub8 (r : List Pln) (hb : Bds r) (hr : r.length ≤ 200) : N8 r = some (slX (cor r)) := by
 obtain ⟨m, hm⟩ := jd9 r hb hr
 unfold N8
 simp only [D9, F7]
 rw [show (⟨0, r, 0, r, r, 0, [], []⟩ : i7) = tb1 r 0 [] from rfl, hm]
 cases cor r <;> rfl
theorem fc5 (r : List Pln) (hb : Bds r) (hr : r.length ≤ 200) : N9 r = cor r := by unfold N9; rw [Ub8 r hb hr]; exact Ua8 _ (Yc9 _)
theorem fc6 (r : List Pln) (hb : Bds r) (hr : r.length ≤ 200) : O0 r = true := by unfold O0; rw [Ub8 r hb hr]; exact jb2 _ (Yc9 _)
end Go.Ev.Ce
namespace Go.Ev.Ce
open Go Go.Ev Go.Ev.L Go.Proofs
noncomputable def slP (l : List Pln) : a7 × List a8 := (.sl 0 0 l.length 0, [⟨42, 4, bL tP l, true, false, 0⟩])
theorem Zc0 (l : List Pln) : (one (r1L tP)).rd (slP l) = some l := by
 show Bool.rec (motive := fun _ => Option (List Pln)) none (some (slR tP (bL tP l) 0 l.length)) (Bool.and true (okS tP (bL tP l) 0 l.length)) = _
 rw [Dc0, Dc1]
 rfl
theorem zd9 {α : Type} (t : Ty α) (l : List α) : (one (r1L t)).rd (eL t l, []) = some l := by
 show Bool.rec (motive := fun _ => Option (List α)) none (some (rt t l)) (Bool.and (Nat.beq t.es t.es) (okE t l)) = _
 rw [D9, fa0, Nat.beq_refl]
 rfl
noncomputable def ws : List Pln := [⟨⟨1, 0, 0⟩, 24⟩, ⟨⟨-1, 0, 0⟩, 24⟩, ⟨⟨0, 1, 0⟩, 24⟩, ⟨⟨0, -1, 0⟩, 24⟩, ⟨⟨0, 0, 1⟩, 24⟩, ⟨⟨0, 0, -1⟩, 24⟩]
theorem od5 : Bds ws := by
 intro p hp
 have : okp p = true := by
  have h : ws.all okp = true := by decide
  exact List.all_eq_true.1 h p hp
 exact tb0 this
noncomputable def kd0 (lo hi : V3) : List Pln := [⟨⟨1, 0, 0⟩, hi.x⟩, ⟨⟨-1, 0, 0⟩, W (0 - lo.x)⟩, ⟨⟨0, 1, 0⟩, hi.y⟩, ⟨⟨0, -1, 0⟩, W (0 - lo.y)⟩, ⟨⟨0, 0, 1⟩, hi.z⟩, ⟨⟨0, 0, -1⟩, W (0 - lo.z)⟩]
theorem Zc1 {l : List (List Pln)} {j : Nat} (h : j < l.length) : gL (tLs tP) l j = l[j] := xb3 (tLs tP) h
theorem Zc2 (ls : List (List Pln)) (hn : ls.length ≤ 1000000000) (hl : ls.flatten.length ≤ 1000000000) : ∃ m, lp (D5 ⟨ls, ls, (ls.length : Int)⟩) ⟨0, 0⟩ = (1, ⟨(ls.flatten.length : Int), m⟩) := by
 have h := Ua7 (step := D5 ⟨ls, ls, (ls.length : Int)⟩) (mk := fun j (n : Nat) => (⟨(n : Int), (j : Int)⟩ : o7)) (f := fun l _ n => n + l.length) (g := fun l n => n + l.flatten.length) (fin := fun _ => 1) ls
  (fun j n => n + (ls.drop j).flatten.length = ls.flatten.length) hn (fun _ => rfl) (fun x r a => by simp only [List.flatten_cons, List.length_append]; omega)
  (fun j n hj hi => by
   rw [List.drop_eq_getElem_cons hj, List.flatten_cons, List.length_append] at hi
   have hW : W ((n : Int) + (ls[j].length : Int)) = ((n + ls[j].length : Nat) : Int) := by rw [ca5 (by omega) (by omega)]; omega
   refine ⟨?_, by show n + ls[j].length + (ls.drop (j + 1)).flatten.length = _; omega⟩
   simp only [D5, G6, Int.toNat_natCast, Zc1 hj, hW, L7 hj (by omega)]
   rw [btD (J1 hj), bt (q7 hj), bfD (by omega)])
  (fun j n hj _ => by
   simp only [D5, G6]
   rw [bfD (by omega)]) 0 0 (by simp)
 have h := h.1
 rw [List.drop_zero, Nat.zero_add] at h
 exact ⟨_, h⟩
theorem Zc3 {ls : List (List Pln)} (h : ls.flatten = []) {j : Nat} (hj : j < ls.length) : ls[j] = [] := by
 rw [List.flatten_eq_nil_iff] at h
 exact h _ (List.getElem_mem hj)
theorem kd1 (ls : List (List Pln)) (hn : ls.length ≤ 1000000000) (hl : ls.flatten = []) : ∃ s, lp (z0 ⟨ls, (ls.length : Int)⟩) ⟨0, 0, 0, []⟩ = (1, s) := by
 have h := Ua7 (step := z0 ⟨ls, (ls.length : Int)⟩) (mk := fun j (_ : Unit) => (⟨0, (j : Int), 0, []⟩ : i4)) (f := fun _ _ n => n) (g := fun _ n => n) (fin := fun _ => 1) ls
  (fun _ _ => True) hn (fun _ => rfl) (fun x r a => rfl)
  (fun j n hj hi => by
   refine ⟨?_, trivial⟩
   show v9 Stp.next Stp.exit Stp.fail _ _ = _
   simp only [v9, Int.toNat_natCast, Zc1 hj, Zc3 hl hj, L7 hj (by omega)]
   rw [btD (J1 hj), bt (q7 hj)]
   rfl)
  (fun j n hj _ => by
   show v9 Stp.next Stp.exit Stp.fail _ _ = _
   simp only [v9]
   rw [bfD (by omega)]) 0 () trivial
 exact ⟨_, h.1⟩
noncomputable def Sa2 (t : Nat) (d : List Pln) : List (List a7) := app (bL tP d) (List.replicate (t - d.length) lc9)
theorem Zc4 (t : Nat) (d : List Pln) (h : d.length ≤ t) : len (Sa2 t d) = t := by
 unfold Sa2
 rw [B9, j6, List.length_append, ← j6, ta4, List.length_replicate]
 omega
theorem Zc5 (t : Nat) (d l : List Pln) (h : d.length + l.length ≤ t) : app (F4 (Sa2 t d) d.length) (app (bL tP l) (j7 (Sa2 t d) (d.length + len (bL tP l)))) = Sa2 t (d ++ l) := by
 have hd : (bL tP d).length = d.length := by rw [← j6, ta4]
 unfold Sa2
 rw [ta4, ← Xa4]
 simp only [B9, F5, F6]
 rw [List.take_left' hd, List.append_assoc]
 congr 2
 rw [List.drop_append, List.drop_eq_nil_of_le (by omega), List.nil_append, hd, List.drop_replicate, List.length_append]
 congr 1
 omega
theorem Zc6 (ls : List (List Pln)) (hn : ls.length ≤ 1000000000) : ∃ m, lp (z0 ⟨ls, (ls.length : Int)⟩) ⟨1, 0, 0, List.replicate ls.flatten.length lc9⟩ = (2, ⟨1, m, ls.flatten.length, bL tP ls.flatten⟩) := by
 have h := Ua7 (step := z0 ⟨ls, (ls.length : Int)⟩) (mk := fun j (d : List Pln) => (⟨1, (j : Int), d.length, Sa2 ls.flatten.length d⟩ : i4)) (f := fun l _ d => d ++ l) (g := fun l d => d ++ l.flatten) (fin := fun _ => 2) ls
  (fun j d => d.length + (ls.drop j).flatten.length = ls.flatten.length) hn (fun _ => by simp) (fun x r a => by simp)
  (fun j d hj hi => by
   rw [List.drop_eq_getElem_cons hj, List.flatten_cons, List.length_append] at hi
   refine ⟨?_, by show (d ++ ls[j]).length + (ls.drop (j + 1)).flatten.length = _; rw [List.length_append]; omega⟩
   show w6 Stp.next Stp.exit Stp.fail _ _ = _
   simp only [w6, Int.toNat_natCast, Zc1 hj, L7 hj (by omega), sc3]
   rw [Zc5 _ _ _ (by omega), Zc4 _ _ (by omega), ta4, btD (J1 hj), bt (q7 hj), bt (by rw [Nat.ble_eq]; omega), List.length_append])
  (fun j d hj _ => by
   show w6 Stp.next Stp.exit Stp.fail _ _ = _
   simp only [w6]
   rw [bfD (by omega)]) 0 [] (by simp)
 have h := h.1
 rw [List.drop_zero, List.nil_append] at h
 have e : Sa2 ls.flatten.length ls.flatten = bL tP ls.flatten := by unfold Sa2; rw [Nat.sub_self, B9]; simp
 rw [e] at h
 exact ⟨_, h⟩
theorem od6 (ls : List (List Pln)) (hn : ls.length ≤ 1000000000) (hl : ls.flatten.length ≤ 1000000000) : Ua3 ls = some (slP (ls.flatten ++ ws)) := by
 have hc : Y2 ls = if ls.flatten = [] then ⟨1, 0, []⟩ else ⟨2, ls.flatten.length, bL tP ls.flatten⟩ := by
  unfold Y2 H6
  simp only [D9, F7]
  obtain ⟨m, hm⟩ := Zc2 ls hn hl
  rw [hm]
  by_cases h0 : ls.flatten = []
  ·obtain ⟨s, hs⟩ := kd1 ls hn h0
   rw [if_pos h0, hs]
   rw [show (⟨(ls.flatten.length : Int), m⟩ : o7) = ⟨0, m⟩ by rw [h0]; rfl]
   rfl
  ·obtain ⟨m', hm'⟩ := Zc6 ls hn
   rw [if_neg h0]
   simp only [Int.toNat_natCast]
   rw [hm']
   have h1 : 0 < ls.flatten.length := List.length_pos_iff.2 h0
   have e1 : ((ls.flatten.length : Int) == 0) = false := by rw [beq_eq_false_iff_ne]; omega
   have e2 : Bool.and (decide ((0 : Int) < (ls.flatten.length : Int))) (Nat.ble (ls.flatten.length * 32) room) = true := by
    rw [xb2 (by omega), decide_eq_true (by omega)]
    rfl
   rw [e1, e2]
   rfl
 unfold Ua3
 simp only [D9, fa0, hc]
 by_cases h0 : ls.flatten = []
 ·rw [if_pos h0, h0]; rfl
 ·rw [if_neg h0]
  generalize ls.flatten = c at *
  have e : ∀ (d : List Pln) (p : Pln), app (bL tP d) [[i p.n.x, i p.n.y, i p.n.z, i p.b]] = bL tP (d ++ [p]) := fun d p => Xa4 tP d [p]
  have c1 := e c ⟨⟨1, 0, 0⟩, 24⟩
  have c2 := e (c ++ [⟨⟨1, 0, 0⟩, 24⟩]) ⟨⟨-1, 0, 0⟩, 24⟩
  have c3 := e (c ++ [⟨⟨1, 0, 0⟩, 24⟩] ++ [⟨⟨-1, 0, 0⟩, 24⟩]) ⟨⟨0, 1, 0⟩, 24⟩
  have c4 := e (c ++ [⟨⟨1, 0, 0⟩, 24⟩] ++ [⟨⟨-1, 0, 0⟩, 24⟩] ++ [⟨⟨0, 1, 0⟩, 24⟩]) ⟨⟨0, -1, 0⟩, 24⟩
  have c5 := e (c ++ [⟨⟨1, 0, 0⟩, 24⟩] ++ [⟨⟨-1, 0, 0⟩, 24⟩] ++ [⟨⟨0, 1, 0⟩, 24⟩] ++ [⟨⟨0, -1, 0⟩, 24⟩]) ⟨⟨0, 0, 1⟩, 24⟩
  have c6 := e (c ++ [⟨⟨1, 0, 0⟩, 24⟩] ++ [⟨⟨-1, 0, 0⟩, 24⟩] ++ [⟨⟨0, 1, 0⟩, 24⟩] ++ [⟨⟨0, -1, 0⟩, 24⟩] ++ [⟨⟨0, 0, 1⟩, 24⟩]) ⟨⟨0, 0, -1⟩, 24⟩
  simp only at c1 c2 c3 c4 c5 c6
  simp only [c1, c2, c3, c4, c5, c6, ta4, List.length_append, List.length_singleton]
  have g : ∀ n : Nat, n ≤ 1000000010 → (Nat.beq n n && Nat.ble ((n + 1) * 32) room) = true := fun n h => by rw [Nat.beq_refl, xb2 (by omega)]; rfl
  rw [g _ (by omega), g _ (by omega), g _ (by omega), g _ (by omega), g _ (by omega), g _ (by omega)]
  show some (a7.sl 0 0 (c.length + 1 + 1 + 1 + 1 + 1 + 1) 0, [(⟨42, 4, bL tP _, true, false, 0⟩ : a8)]) = _
  unfold slP
  rw [List.length_append]
  simp only [List.append_assoc]
  rfl
theorem Ad0 (ls : List (List Pln)) (hn : ls.length ≤ 1000000000) (hl : ls.flatten.length ≤ 1000000000) : ya0 ls = ls.flatten ++ ws := by unfold ya0; rw [od6 ls hn hl]; exact Ua8 _ (Zc0 _)
theorem Ad1 (ls : List (List Pln)) (hn : ls.length ≤ 1000000000) (hl : ls.flatten.length ≤ 1000000000) : ya1 ls = true := by unfold ya1; rw [od6 ls hn hl]; exact jb2 _ (Zc0 _)
theorem od7 (c : List Pln) (hc : c.length ≤ 1000000000) : ya0 [c] = c ++ ws := by
 have : [c].flatten = c := by simp
 rw [Ad0 [c] (by simp) (by rw [this]; exact hc), this]
theorem od8 (c : List Pln) (hc : c.length ≤ 1000000000) : ya1 [c] = true := by
 have : [c].flatten = c := by simp
 exact Ad1 [c] (by simp) (by rw [this]; exact hc)
theorem fc7 (ls : List (List Pln)) (hn : ls.length ≤ 1000000000) (hl : ∀ c ∈ ls, c.length ≤ 1000000000) : ua5 ls = some (b (ls.all fun c => chk c == 0), []) := by
 have hv : ∀ c ∈ ls, ua3 c = !(chk c == 0) ∧ ua4 c = true := fun c hc => by
  have : ka3 c = some (b (!(chk c == 0)), []) := by
   unfold ka3
   simp only [D9, fa0, zb4 c (hl c hc), zb5 c (hl c hc)]
   rfl
  unfold ua3 ua4
  rw [this]
  exact ⟨rfl, rfl⟩
 have h := Xa5 (step := D0 ⟨ls, (ls.length : Int)⟩) (mk := fun j => (⟨(j : Int)⟩ : l0)) (c := fun c => !(chk c == 0)) (u := 1) (fin := 2) (tLs tP) ls hn
  (fun j hj => by
   have hm := hv _ (kc3 (tLs tP) hj)
   simp only [D0, A4, Int.toNat_natCast, D9, fa0, hm.1, hm.2, L7 hj (by omega)]
   rw [btD (J1 hj), bt (q7 hj), K6, K6])
  (by simp only [D0, A4]; rw [bfD (ka7 (Nat.lt_irrefl _))]) 0 (Nat.zero_le _)
 rw [List.drop_zero] at h
 have e : (ls.any fun c => !(chk c == 0)) = !ls.all fun c => chk c == 0 := by rw [List.not_all_eq_any_not]
 unfold ua5 R6 y5 Y7 B4
 simp only [D9, F7]
 rw [show (⟨0⟩ : l0) = ⟨((0 : Nat) : Int)⟩ from rfl, h, e]
 cases ls.all fun c => chk c == 0 with
 | true => rfl
 | false =>
  simp only [Bool.not_false, if_true, Nat.zero_add]
  show sl true (sl (Nat.beq 1 1) (some (b (!(decide (((ls.findIdx fun c => !(chk c == 0) : Nat) : Int) ≥ 0))), [])) _) _ = _
  rw [show decide (((ls.findIdx fun c => !(chk c == 0) : Nat) : Int) ≥ 0) = true from decide_eq_true (by omega)]
  rfl
theorem wc3 (ls : List (List Pln)) (hn : ls.length ≤ 1000000000) (hl : ∀ c ∈ ls, c.length ≤ 1000000000) : T3 ls = ls.all fun c => chk c == 0 := by unfold T3; rw [fc7 ls hn hl]; rfl
theorem wc4 (ls : List (List Pln)) (hn : ls.length ≤ 1000000000) (hl : ∀ c ∈ ls, c.length ≤ 1000000000) : T4 ls = true := by unfold T4; rw [fc7 ls hn hl]; rfl
theorem zb6 (c : List Pln) (hc : c.length ≤ 1000000000) : T3 [c] = (chk c == 0) := by
 rw [wc3 [c] (by simp) (by simpa using hc)]
 simp
theorem zb7 (c : List Pln) (hc : c.length ≤ 1000000000) : T4 [c] = true := wc4 [c] (by simp) (by simpa using hc)
noncomputable def pos (X : List Pt) (p : Pln) : Bool := X.any fun x => decide (rm p x > 0)
noncomputable def ball (r : List Pln) : Bool := r.all (pos (cor r))
theorem Zc7 (p : Pln) (X : List Pt) (hX : X.length ≤ 1000000000) : aa5 ⟨p.n.x, p.n.y, p.n.z, p.b, X⟩ = ⟨1, !pos X p⟩ := by
 have hw : ∀ x : Pt, fa4 ⟨x.px, x.py, x.pz, x.pw, p.n.x, p.n.y, p.n.z, p.b⟩ = ⟨decide (rm p x > 0)⟩ := fun x => by
  show K9.mk (decide (ea9 p x > 0)) = _
  rw [mc1]
 have h := Xa5 (step := E5 ⟨X, (X.length : Int), p.n.x, p.n.y, p.n.z, p.b⟩) (mk := fun j => (⟨(j : Int)⟩ : m9)) (c := fun x => decide (rm p x > 0)) (u := 1) (fin := 2) tX X hX
  (fun j hj => by
   simp only [E5, D1, Int.toNat_natCast, hw, L7 hj (by omega)]
   rw [btD (J1 hj), bt (q7 hj)])
  (by simp only [E5, D1]; rw [bfD (ka7 (Nat.lt_irrefl _))]) 0 (Nat.zero_le _)
 rw [List.drop_zero] at h
 unfold aa5 J8 T6 z5 ba2 D6 pos
 simp only [D9, F7]
 rw [show (⟨0⟩ : m9) = ⟨((0 : Nat) : Int)⟩ from rfl, h]
 cases X.any fun x => decide (rm p x > 0) with
 | false => rfl
 | true =>
  simp only [if_true, Nat.zero_add]
  show Q1.mk 1 (!(decide (((X.findIdx fun x => decide (rm p x > 0) : Nat) : Int) ≥ 0))) = _
  rw [show decide (((X.findIdx fun x => decide (rm p x > 0) : Nat) : Int) ≥ 0) = true from decide_eq_true (by omega)]
theorem Jc9 (r : List Pln) (hb : Bds r) (hr : r.length ≤ 200) : X0 r = some (b (ball r), []) := by
 have hX : (cor r).length ≤ 1000000000 := Nat.le_trans (Jc8 r hb hr) (by omega)
 have h := Xa5 (step := D2 ⟨r, (r.length : Int)⟩) (mk := fun j => (⟨(j : Int), cor r⟩ : l4)) (c := fun p => !pos (cor r) p) (u := 1) (fin := 2) tP r (by omega)
  (fun j hj => by
   simp only [D2, A5, Int.toNat_natCast, D9, F7, Zc7 _ _ hX, L7 hj (by omega)]
   rw [btD (J1 hj), bt (q7 hj)]
   rfl)
  (by simp only [D2, A5]; rw [bfD (ka7 (Nat.lt_irrefl _))]) 0 (Nat.zero_le _)
 rw [List.drop_zero] at h
 have e : (r.any fun p => !pos (cor r) p) = !r.all (pos (cor r)) := by rw [List.not_all_eq_any_not]
 unfold X0 R8 y6 Y9 B5 ball
 simp only [D9, F7, fa0, fc5 r hb hr, fc6 r hb hr]
 rw [show (⟨0, cor r⟩ : l4) = ⟨((0 : Nat) : Int), cor r⟩ from rfl, h, e]
 cases r.all (pos (cor r)) with
 | true => rfl
 | false =>
  simp only [Bool.not_false, if_true, Nat.zero_add]
  show some (b (!(decide (((r.findIdx fun p => !pos (cor r) p : Nat) : Int) ≥ 0))), []) = _
  rw [show decide (((r.findIdx fun p => !pos (cor r) p : Nat) : Int) ≥ 0) = true from decide_eq_true (by omega)]
  rfl
theorem Zc8 (r : List Pln) (hb : Bds r) (hr : r.length ≤ 200) : X1 r = ball r := by unfold X1; rw [Jc9 r hb hr]; rfl
theorem Zc9 (r : List Pln) (hb : Bds r) (hr : r.length ≤ 200) : X2 r = true := by unfold X2; rw [Jc9 r hb hr]; rfl
theorem Pa6 {c : List Pln} (h : (chk c == 0) = true) : Bds (c ++ ws) ∧ (c ++ ws).length ≤ 200 := by
 rw [beq_iff_eq, jb1] at h
 refine ⟨fun p hp => ?_, by rw [List.length_append, show ws.length = 6 from rfl]; omega⟩
 rcases List.mem_append.1 hp with hp | hp
 ·exact tb0 (h.2 p hp)
 ·exact od5 p hp
noncomputable def pts (c : List Pln) : List Pt := if chk c == 0 then cor (c ++ ws) else []
noncomputable def ful (c : List Pln) : Bool := (chk c == 0) && ball (c ++ ws)
theorem wc5 {c : List Pln} (hc : c.length ≤ 1000000000) : ∃ x, pa2 c = some x ∧ (one (r1L tX)).rd x = some (pts c) := by
 unfold pa2 pts
 simp only [D9, fa0, zb6 c hc, zb7 c hc, od7 c hc, od8 c hc]
 cases h : chk c == 0 with
 | false => exact ⟨_, rfl, rfl⟩
 | true =>
  obtain ⟨h1, h2⟩ := Pa6 h
  rw [fc5 _ h1 h2, fc6 _ h1 h2]
  exact ⟨_, rfl, zd9 tX _⟩
theorem jb3 {c : List Pln} (hc : c.length ≤ 1000000000) : V2 c = pts c := by
 obtain ⟨x, h1, h2⟩ := wc5 hc
 unfold V2; rw [h1]; exact Ua8 _ h2
theorem jb4 {c : List Pln} (hc : c.length ≤ 1000000000) : V4 c = true := by
 obtain ⟨x, h1, h2⟩ := wc5 hc
 unfold V4; rw [h1]; exact jb2 _ h2
theorem Kc0 {c : List Pln} (hc : c.length ≤ 1000000000) : Ba7 c = some (b (ful c), []) := by
 unfold Ba7 ful
 simp only [D9, fa0, zb6 c hc, zb7 c hc, od7 c hc, od8 c hc]
 cases h : chk c == 0 with
 | false => rfl
 | true =>
  obtain ⟨h1, h2⟩ := Pa6 h
  rw [Zc8 _ h1 h2, Zc9 _ h1 h2]
  rfl
theorem jb5 {c : List Pln} (hc : c.length ≤ 1000000000) : V5 c = ful c := by unfold V5; rw [Kc0 hc]; rfl
theorem jb6 {c : List Pln} (hc : c.length ≤ 1000000000) : L5 c = true := by unfold L5; rw [Kc0 hc]; rfl
end Go.Ev.Ce
section
namespace Go.Ev.Ce
open Go Go.Ev Go.Ev.L Go.Proofs
set_option maxRecDepth 100000
structure qa4 where
 is1 : Int
 D7 : List Int
 f0 : Int
noncomputable def Fb4 : List (Nat × Sum) := [(44, Eb4)]
theorem zb8 : m8 prog G Fb4 := ⟨Sb9, trivial⟩
structure qa5 where
 alt : Nat
 is0 : Int
 f0 : Int
noncomputable def Z4 {α : Type} (kk : qa5 → α) (x : qa4) : α := let t1 := (Ta8 (gL tI x.D7 (W ((W (x.f0 + 1)) - 1)).toNat) x.is1); (sl (decide (x.f0 ≥ (↑(List.length x.D7) : Int))) (kk ⟨1, 0, x.f0⟩) (sl (inB (W ((W (x.f0 + 1)) - 1)) (List.length x.D7)) (sl (Ha8 (gL tI x.D7 (W ((W (x.f0 + 1)) - 1)).toNat) x.is1) (kk ⟨1, t1, (W (x.f0 + 1))⟩) (kk ⟨0, 0, 0⟩)) (kk ⟨0, 0, 0⟩)))
noncomputable def L6 (x : qa4) : qa5 := Z4 (fun r => r) x
noncomputable def ya4 (x : qa4) (r : qa5) : DT (a7 × List a8) := (.ite (Nat.beq r.alt 1) (.ret ((i r.is0), [⟨0, 2, [[(eL tI x.D7), (i r.f0)]], true, false, 0⟩])) .fail)
theorem Kb7 {α β : Type} (F : α → β) (kk : qa5 → α) (x : qa4) : F (Z4 kk x) = Z4 (fun r => F (kk r)) x := by unfold Z4; (repeat' apply z8 (f := F)) <;> rfl
noncomputable def Ea2 : Sum := Ja1 ⟨[(.s (.o (.ptr 0 0 0 0))), (.s (.o (.int .i64)))], [⟨0, 2, true, (some [[(.c 1 (nL tI)), (.o (.int .i64))]])⟩], fun a H => (⟨(toI (slT a 1)), (rL tI (slT (rwT (elT H 0) 0) 0)), (toI (slT (rwT (elT H 0) 0) 1))⟩, ())⟩ (fun x => ya4 x (L6 x))
theorem Ua9 : i6 prog G 41 Ea2 := L9 (enc := fun x => ⟨[(.ptr 0 0 0 0), (i x.is1)], [⟨0, 2, [[(eL tI x.D7), (i x.f0)]], true, false, 0⟩]⟩) (fun a H => by kernel_rfl) (bd b41 zb8) fun x => C6 (Eq.trans (b := Z4 (fun r => (ya4 x r).run) x) (by kernel_rfl) (Kb7 (fun r => (ya4 x r).run) (fun r => r) x).symm)
structure nb1 where
 is1 : Int
 D7 : List Int
 f0 : Int
noncomputable def Fc3 : List (Nat × Sum) := [(41, Ea2)]
theorem wc6 : m8 prog G Fc3 := ⟨Ua9, trivial⟩
structure nb2 where
 alt : Nat
 la5 : Int
 la6 : Int
 la7 : Int
 D7 : List Int
 f0 : Int
noncomputable def Ha9 {α : Type} (kk : nb2 → α) (x : nb1) : α := let t1 := (L6 ⟨(W ((W (2 * x.is1)) + 1)), (rt tI x.D7), x.f0⟩); let t2 := (L6 ⟨(W ((W (2 * x.is1)) + 1)), (rt tI (rt tI x.D7)), t1.f0⟩); let t3 := (L6 ⟨(W ((W (2 * x.is1)) + 1)), (rt tI (rt tI (rt tI x.D7))), t2.f0⟩); (sl ((cnE tI x.D7) && true) (sl (Nat.beq t1.alt 1) (sl ((cnE tI (rt tI x.D7)) && true) (sl (Nat.beq t2.alt 1) (sl ((cnE tI (rt tI (rt tI x.D7))) && true) (sl (Nat.beq t3.alt 1) (kk ⟨1, (W (t1.is0 - x.is1)), (W (t2.is0 - x.is1)), (W (t3.is0 - x.is1)), (rt tI (rt tI (rt tI x.D7))), t3.f0⟩) (kk ⟨0, 0, 0, 0, [], 0⟩)) (kk ⟨0, 0, 0, 0, [], 0⟩)) (kk ⟨0, 0, 0, 0, [], 0⟩)) (kk ⟨0, 0, 0, 0, [], 0⟩)) (kk ⟨0, 0, 0, 0, [], 0⟩)) (kk ⟨0, 0, 0, 0, [], 0⟩))
noncomputable def Ia0 (x : nb1) : nb2 := Ha9 (fun r => r) x
noncomputable def tb2 (x : nb1) (r : nb2) : DT (a7 × List a8) := (.ite (Nat.beq r.alt 1) (.ret ((.agg [(i r.la5), (i r.la6), (i r.la7)]), [⟨0, 2, [[(eL tI r.D7), (i r.f0)]], true, false, 0⟩])) .fail)
theorem Rc2 {α β : Type} (F : α → β) (kk : nb2 → α) (x : nb1) : F (Ha9 kk x) = Ha9 (fun r => F (kk r)) x := by unfold Ha9; (repeat' apply z8 (f := F)) <;> rfl
noncomputable def fc8 : Sum := Ja1 ⟨[(.s (.o (.ptr 0 0 0 0))), (.s (.o (.int .i64)))], [⟨0, 2, true, (some [[(.c 1 (nL tI)), (.o (.int .i64))]])⟩], fun a H => (⟨(toI (slT a 1)), (rL tI (slT (rwT (elT H 0) 0) 0)), (toI (slT (rwT (elT H 0) 0) 1))⟩, ())⟩ (fun x => tb2 x (Ia0 x))
theorem Fc4 : i6 prog G 43 fc8 := L9 (enc := fun x => ⟨[(.ptr 0 0 0 0), (i x.is1)], [⟨0, 2, [[(eL tI x.D7), (i x.f0)]], true, false, 0⟩]⟩) (fun a H => by kernel_rfl) (bd b43 wc6) fun x => C6 (Eq.trans (b := Ha9 (fun r => (tb2 x r).run) x) (by kernel_rfl) (Rc2 (fun r => (tb2 x r).run) (fun r => r) x).symm)
noncomputable def Fc5 : List (Nat × Sum) := []
theorem wc7 : m8 prog G Fc5 := trivial
noncomputable def ya5 (x : V3) (y : V3) : V3 := (⟨(W (x.x - y.x)), (W (x.y - y.y)), (W (x.z - y.z))⟩ : V3)
noncomputable def fc9 : Sum := oa3 (ia2 tV) (ia2 tV) (fun x y => .ret ((one r1V).enc (ya5 x y), []))
theorem Fc6 : i6 prog G 67 fc9 := ta2 (bd b67 wc7) fun x y => C6 (by kernel_rfl)
noncomputable def Rc3 : List (Nat × Sum) := [(86, xa3)]
theorem Fc7 : m8 prog G Rc3 := ⟨Pa3, trivial⟩
noncomputable def jb7 (x : V3) : Option (a7 × List a8) := (sl (decide (x.x < (-24))) (some ((b false), [])) (sl (decide (x.x > 24)) (some ((b false), [])) (sl (decide (x.y < (-24))) (some ((b false), [])) (sl (decide (x.y > 24)) (some ((b false), [])) (sl (decide (x.z < (-24))) (some ((b false), [])) (sl (decide (x.z > 24)) (some ((b false), [])) (some ((b true), []))))))))
noncomputable def Va0 (x : V3) : Bool := ea8 (one r1B) (jb7 x)
noncomputable def Va1 (x : V3) : Bool := okO (one r1B) (jb7 x)
noncomputable def wc8 : Sum := ra1 (ia2 tV) (fun x => .guard (Va1 x) (.ret ((one r1B).enc (Va0 x), [])))
theorem Rc4 : i6 prog G 64 wc8 := Ta3 (bd b64 Fc7) (one r1B) (o := jb7) fun x => C6 (by kernel_rfl)
noncomputable def Ub9 : List (Nat × Sum) := [(64, wc8), (67, fc9), (66, Hb9), (65, Sb8), (68, fc1)]
theorem Kb8 : m8 prog G Ub9 := ⟨Rc4, Fc6, lc1, vc4, Ec7, trivial⟩
noncomputable def pa4 (x : V3) (y : V3) (z : V3) : Option (a7 × List a8) := let t1 := (Va0 x); let t2 := (Va0 y); let t3 := (Va0 z); let t4 := (ya5 y x); let t5 := (ya5 z x); let t6 := (Aa3 t4 t5); let t7 := (xa4 t6); let t8 := (mb9 t7.1 x); (sl (Va1 x) (sl (!t1) (some ((.tup [(.agg [(i 0), (i 0), (i 0), (i 0)]), (b false)]), [])) (sl (Va1 y) (sl (!t2) (some ((.tup [(.agg [(i 0), (i 0), (i 0), (i 0)]), (b false)]), [])) (sl (Va1 z) (sl (!t3) (some ((.tup [(.agg [(i 0), (i 0), (i 0), (i 0)]), (b false)]), [])) (sl (Ya1 t6) (sl (t7.2 == 0) (some ((.tup [(.agg [(i 0), (i 0), (i 0), (i 0)]), (b false)]), [])) (some ((.tup [(.agg [(i t7.1.x), (i t7.1.y), (i t7.1.z), (i t8)]), (b true)]), []))) none)) none)) none)) none)
noncomputable def za4 (x : V3) (y : V3) (z : V3) : Pln × Bool := ea8 (two r1P r1B) (pa4 x y z)
noncomputable def za5 (x : V3) (y : V3) (z : V3) : Bool := okO (two r1P r1B) (pa4 x y z)
noncomputable def qb0 : Sum := rc9 (ia2 tV) (ia2 tV) (ia2 tV) (fun x y z => .guard (za5 x y z) (.ret ((two r1P r1B).enc (za4 x y z), [])))
theorem Vb0 : i6 prog G 42 qb0 := Cd5 (bd b42 Kb8) (two r1P r1B) (o := pa4) fun x y z => C6 (by kernel_rfl)
noncomputable def wc9 : List (Nat × Sum) := [(41, Ea2), (43, fc8), (42, qb0), (44, Eb4)]
theorem mc7 : m8 prog G wc9 := ⟨Ua9, Fc4, Vb0, Sb9, trivial⟩
noncomputable def ra4 (x : List Int) : Option (a7 × List a8) := let t1 := (L6 ⟨8, (rt tI x), 0⟩); let t2 := (L6 ⟨17, (rt tI (rt tI x)), t1.f0⟩); let t3 := (Ia0 ⟨8, (rt tI (rt tI (rt tI x))), t2.f0⟩); let t4 := (Ia0 ⟨8, (rt tI t3.D7), t3.f0⟩); let t5 := (Ia0 ⟨8, (rt tI t4.D7), t4.f0⟩); let t6 := (za4 (⟨t3.la5, t3.la6, t3.la7⟩ : V3) (⟨t4.la5, t4.la6, t4.la7⟩ : V3) (⟨t5.la5, t5.la6, t5.la7⟩ : V3)); let t7 := (Ta8 (W (t2.is0 - 8)) 3); (sl ((cnE tI x) && true) (sl (Nat.beq t1.alt 1) (sl ((cnE tI (rt tI x)) && true) (sl (Nat.beq t2.alt 1) (sl ((cnE tI (rt tI (rt tI x))) && true) (sl (Nat.beq t3.alt 1) (sl ((cnE tI t3.D7) && true) (sl (Nat.beq t4.alt 1) (sl ((cnE tI t4.D7) && true) (sl (Nat.beq t5.alt 1) (sl (za5 (⟨t3.la5, t3.la6, t3.la7⟩ : V3) (⟨t4.la5, t4.la6, t4.la7⟩ : V3) (⟨t5.la5, t5.la6, t5.la7⟩ : V3)) (sl (decide (t1.is0 > 1)) (sl t6.2 (some ((.agg [(i t6.1.n.x), (i t6.1.n.y), (i t6.1.n.z), (i t6.1.b)]), [])) (sl (Ha8 (W (t2.is0 - 8)) 3) (sl (t7 == 1) (some ((.agg [(i 0), (i (W (1 - (W (2 * (Int.tmod t1.is0 2)))))), (i 0), (i (W (t2.is0 - 8)))]), [])) (sl (t7 == 2) (some ((.agg [(i 0), (i 0), (i (W (1 - (W (2 * (Int.tmod t1.is0 2)))))), (i (W (t2.is0 - 8)))]), [])) (some ((.agg [(i (W (1 - (W (2 * (Int.tmod t1.is0 2)))))), (i 0), (i 0), (i (W (t2.is0 - 8)))]), [])))) none)) (sl (Ha8 (W (t2.is0 - 8)) 3) (sl (t7 == 1) (some ((.agg [(i 0), (i (W (1 - (W (2 * (Int.tmod t1.is0 2)))))), (i 0), (i (W (t2.is0 - 8)))]), [])) (sl (t7 == 2) (some ((.agg [(i 0), (i 0), (i (W (1 - (W (2 * (Int.tmod t1.is0 2)))))), (i (W (t2.is0 - 8)))]), [])) (some ((.agg [(i (W (1 - (W (2 * (Int.tmod t1.is0 2)))))), (i 0), (i 0), (i (W (t2.is0 - 8)))]), [])))) none)) none) none) none) none) none) none) none) none) none) none) none)
noncomputable def X3 (x : List Int) : Pln := ea8 (one r1P) (ra4 x)
noncomputable def Za3 (x : List Int) : Bool := okO (one r1P) (ra4 x)
noncomputable def Vb1 : Sum := ra1 (Aa2 tI) (fun x => .guard (Za3 x) (.ret ((one r1P).enc (X3 x), [])))
theorem xc0 : i6 prog G 15 Vb1 := Ta3 (bd b15 mc7) (one r1P) (o := ra4) fun x => C6 (by kernel_rfl)
end Go.Ev.Ce
end
section
namespace Go.Ev.Ce
open Go Go.Ev Go.Ev.L Go.Proofs
set_option maxRecDepth 100000
noncomputable def Pa7 : List (Nat × Sum) := []
theorem tb3 : m8 prog G Pa7 := trivial
structure X4 where
 G8 : List Pt
 Wb8 : List Pt
structure C0 where
 is5 : Int
noncomputable def ob4 (p : X4) (s : C0) : St := ⟨((eL tX p.G8) :: ((eL tX p.Wb8) :: (ra 3 ((i s.is5) :: (ra 20 []))))), []⟩
noncomputable def Q5 {α : Type} (k : C0 → α) (e : Nat → α) (z : α) (p : X4) (s : C0) : α := (sl (decide (s.is5 < (↑(List.length p.G8) : Int))) (sl (inB s.is5 (List.length p.G8)) (sl (inB s.is5 (List.length p.Wb8)) (sl (!(((gL tX p.G8 s.is5.toNat).px == (gL tX p.Wb8 s.is5.toNat).px) && (((gL tX p.G8 s.is5.toNat).py == (gL tX p.Wb8 s.is5.toNat).py) && (((gL tX p.G8 s.is5.toNat).pz == (gL tX p.Wb8 s.is5.toNat).pz) && (((gL tX p.G8 s.is5.toNat).pw == (gL tX p.Wb8 s.is5.toNat).pw) && true))))) (e 1) (k ⟨(W (s.is5 + 1))⟩)) z) z) (e 2))
noncomputable def S6 (p : X4) (s : C0) : Stp C0 := Q5 .next .exit .fail p s
noncomputable def ra5 : Lo X4 C0 := ⟨En Pa7, 0, yd6, [1, 1, 0, 1, 4, 4], [0, 1, 5], .p, [⟨((.s (.c 4 (nL tX))) :: ((.s (.c 4 (nL tX))) :: (ru2 3 ((.s (.o (.int .i64))) :: (ru2 20 []))))), [], fun a H => (⟨(rL tX (slT a 0)), (rL tX (slT a 1))⟩, ⟨(toI (slT a 5))⟩)⟩], S6, [(none, fun p s => ⟨[(b false)], []⟩), (some 0, fun p s => ⟨((eL tX p.G8) :: ((eL tX p.Wb8) :: (ra 3 ((i s.is5) :: (ra 5 ((i s.is5) :: ((eL tX p.G8) :: ((i (↑(List.length p.G8) : Int)) :: ((b (decide (s.is5 < (↑(List.length p.G8) : Int)))) :: (ra 11 [])))))))))), []⟩)], ob4⟩
theorem ob5 : ra5.Ok := Lo.ok [] (by kernel_rfl) .nil rfl (.cons (fun a H => by kernel_rfl) .nil) fun p s => (.of @Q5 (fun F _ _ _ _ _ => by unfold Q5; (repeat' apply z8 (f := F)) <;> rfl) (by kernel_rfl))
noncomputable def da9 (x : List Pt) (y : List Pt) : Option (a7 × List a8) := let t1 := (lp (S6 (⟨(rt tX x), (rt tX y)⟩ : X4)) (⟨0⟩ : C0)); (sl ((↑(List.length x) : Int) != (↑(List.length y) : Int)) (some ((b false), [])) (sl ((cnE tX x) && ((cnE tX y) && true)) (sl (Nat.beq t1.1 1) (some ((b false), [])) (sl (Nat.beq t1.1 2) (some ((b true), [])) none)) none))
noncomputable def ea0 (x : List Pt) (y : List Pt) : Bool := ea8 (one r1B) (da9 x y)
noncomputable def ea1 (x : List Pt) (y : List Pt) : Bool := okO (one r1B) (da9 x y)
noncomputable def Va2 : Sum := oa3 (Aa2 tX) (Aa2 tX) (fun x y => .guard (ea1 x y) (.ret ((one r1B).enc (ea0 x y), [])))
theorem zb9 : i6 prog G 22 Va2 := Db2 (bd b22 tb3) (one r1B) (o := da9) fun x y => cb0 (.s .p (.s .p (.s (.s .p (.b (.u ra5.ls))) .p))) [ra5.pr] (by kernel_rfl) (.cons ob5 .nil) (by kernel_rfl)
noncomputable def Ib2 : List (Nat × Sum) := []
theorem mc8 : m8 prog G Ib2 := trivial
structure va1 where
 w7 : List Pln
 Wb9 : List Pln
structure U0 where
 is5 : Int
noncomputable def Zb7 (p : va1) (s : U0) : St := ⟨((eL tP p.w7) :: ((eL tP p.Wb9) :: (ra 3 ((i s.is5) :: (ra 20 []))))), []⟩
noncomputable def ka8 {α : Type} (k : U0 → α) (e : Nat → α) (z : α) (p : va1) (s : U0) : α := (sl (decide (s.is5 < (↑(List.length p.w7) : Int))) (sl (inB s.is5 (List.length p.w7)) (sl (inB s.is5 (List.length p.Wb9)) (sl (!(((gL tP p.w7 s.is5.toNat).n.x == (gL tP p.Wb9 s.is5.toNat).n.x) && (((gL tP p.w7 s.is5.toNat).n.y == (gL tP p.Wb9 s.is5.toNat).n.y) && (((gL tP p.w7 s.is5.toNat).n.z == (gL tP p.Wb9 s.is5.toNat).n.z) && (((gL tP p.w7 s.is5.toNat).b == (gL tP p.Wb9 s.is5.toNat).b) && true))))) (e 1) (k ⟨(W (s.is5 + 1))⟩)) z) z) (e 2))
noncomputable def pa5 (p : va1) (s : U0) : Stp U0 := ka8 .next .exit .fail p s
noncomputable def Za4 : Lo va1 U0 := ⟨En Ib2, 0, yd7, [1, 1, 0, 1, 4, 4], [0, 1, 5], .p, [⟨((.s (.c 4 (nL tP))) :: ((.s (.c 4 (nL tP))) :: (ru2 3 ((.s (.o (.int .i64))) :: (ru2 20 []))))), [], fun a H => (⟨(rL tP (slT a 0)), (rL tP (slT a 1))⟩, ⟨(toI (slT a 5))⟩)⟩], pa5, [(none, fun p s => ⟨[(b false)], []⟩), (some 0, fun p s => ⟨((eL tP p.w7) :: ((eL tP p.Wb9) :: (ra 3 ((i s.is5) :: (ra 5 ((i s.is5) :: ((eL tP p.w7) :: ((i (↑(List.length p.w7) : Int)) :: ((b (decide (s.is5 < (↑(List.length p.w7) : Int)))) :: (ra 11 [])))))))))), []⟩)], Zb7⟩
theorem Zb8 : Za4.Ok := Lo.ok [] (by kernel_rfl) .nil rfl (.cons (fun a H => by kernel_rfl) .nil) fun p s => (.of @ka8 (fun F _ _ _ _ _ => by unfold ka8; (repeat' apply z8 (f := F)) <;> rfl) (by kernel_rfl))
noncomputable def Ka6 (x : List Pln) (y : List Pln) : Option (a7 × List a8) := let t1 := (lp (pa5 (⟨(rt tP x), (rt tP y)⟩ : va1)) (⟨0⟩ : U0)); (sl ((↑(List.length x) : Int) != (↑(List.length y) : Int)) (some ((b false), [])) (sl ((cnE tP x) && ((cnE tP y) && true)) (sl (Nat.beq t1.1 1) (some ((b false), [])) (sl (Nat.beq t1.1 2) (some ((b true), [])) none)) none))
noncomputable def Za5 (x : List Pln) (y : List Pln) : Bool := ea8 (one r1B) (Ka6 x y)
noncomputable def Za6 (x : List Pln) (y : List Pln) : Bool := okO (one r1B) (Ka6 x y)
noncomputable def Vb2 : Sum := oa3 (Aa2 tP) (Aa2 tP) (fun x y => .guard (Za6 x y) (.ret ((one r1B).enc (Za5 x y), [])))
theorem xc1 : i6 prog G 23 Vb2 := Db2 (bd b23 mc8) (one r1B) (o := Ka6) fun x y => cb0 (.s .p (.s .p (.s (.s .p (.b (.u Za4.ls))) .p))) [Za4.pr] (by kernel_rfl) (.cons Zb8 .nil) (by kernel_rfl)
end Go.Ev.Ce
end
namespace Go.Ev.Ce
open Go Go.Ev Go.Ev.L Go.Proofs
theorem xc2 {Q : Pt → Prop} (r : List Pln) (p q : Pln) : ∀ (l : List Pln) (out : List Pt), (∀ s ∈ l, (mpt p q s).2 = true → inn r (mpt p q s).1 = true → Q (mpt p q s).1) → (∀ x ∈ out, Q x) → ∀ x ∈ cb4 r p q l out, Q x
 | [], out, _, h => h
 | s :: l, out, hs, h => xc2 r p q l (wa4 r p q out s) (fun t ht => hs t (List.mem_cons_of_mem _ ht)) fun x hx => by
  unfold wa4 at hx
  split at hx
  ·rename_i hc
   rw [Bool.and_eq_true, Bool.and_eq_true] at hc
   rcases List.mem_append.1 hx with hx | hx
   ·exact h x hx
   ·rw [List.mem_singleton] at hx
    subst hx
    exact hs s List.mem_cons_self hc.1 hc.2.2
  ·exact h x hx
theorem xc3 {Q : Pt → Prop} (r : List Pln) (p : Pln) : ∀ (l : List Pln) (out : List Pt), (∀ q ∈ l, ∀ s ∈ l, (mpt p q s).2 = true → inn r (mpt p q s).1 = true → Q (mpt p q s).1) → (∀ x ∈ out, Q x) → ∀ x ∈ Sa1 r p l out, Q x
 | [], out, _, h => h
 | q :: l, out, hs, h => xc3 r p l _ (fun a ha t ht => hs a (List.mem_cons_of_mem _ ha) t (List.mem_cons_of_mem _ ht)) (xc2 r p q l out (fun t ht => hs q List.mem_cons_self t (List.mem_cons_of_mem _ ht)) h)
theorem xc4 {Q : Pt → Prop} (r : List Pln) : ∀ (l : List Pln) (out : List Pt), (∀ p ∈ l, ∀ q ∈ l, ∀ s ∈ l, (mpt p q s).2 = true → inn r (mpt p q s).1 = true → Q (mpt p q s).1) → (∀ x ∈ out, Q x) → ∀ x ∈ Kb6 r l out, Q x
 | [], out, _, h => h
 | p :: l, out, hs, h => xc4 r l _ (fun a ha c hc t ht => hs a (List.mem_cons_of_mem _ ha) c (List.mem_cons_of_mem _ hc) t (List.mem_cons_of_mem _ ht)) (xc3 r p l out (fun c hc t ht => hs p List.mem_cons_self c (List.mem_cons_of_mem _ hc) t (List.mem_cons_of_mem _ ht)) h)
theorem Kc1 {Q : Pt → Prop} {r : List Pln} (hs : ∀ p ∈ r, ∀ q ∈ r, ∀ s ∈ r, (mpt p q s).2 = true → inn r (mpt p q s).1 = true → Q (mpt p q s).1) : ∀ x ∈ cor r, Q x :=
 xc4 r r [] hs fun x hx => by cases hx
structure Okx (x : Pt) : Prop where
 w1 : 0 < x.pw
 w2 : x.pw ≤ 600000000000
 c1 : Sm 300000000000000 x.px
 c2 : Sm 300000000000000 x.py
 c3 : Sm 300000000000000 x.pz
theorem Nb0 {r : List Pln} (hb : Bds r) : ∀ x ∈ cor r, Okx x := Kc1 fun p hp q hq s hs h _ => by
 obtain ⟨h1, h2, h3, h4, h5⟩ := Fc0 (hb p hp) (hb q hq) (hb s hs) h
 exact ⟨h1, h5, h2, h3, h4⟩
theorem kd2 {c : List Pln} : ∀ x ∈ pts c, Okx x := by
 unfold pts
 cases h : chk c == 0 with
 | false => intro x hx; cases hx
 | true => exact Nb0 (Pa6 h).1
theorem mc9 (c : List Pln) : (pts c).length ≤ 8000000 := by
 unfold pts
 cases h : chk c == 0 with
 | false => exact Nat.zero_le _
 | true => exact Jc8 _ (Pa6 h).1 (Pa6 h).2
theorem xc5 {x y : Int} (hy : 0 < y) : Int.tmod x y + y * Int.tdiv x y = x ∧ -y < Int.tmod x y ∧ Int.tmod x y < y := by
 refine ⟨Int.tmod_add_mul_tdiv x y, ?_, Int.tmod_lt_of_pos x hy⟩
 have := Int.lt_tmod_of_pos x hy
 omega
theorem Kc2 {x y q r : Int} (hy : 0 < y) (h : r + y * q = x) (h1 : 0 ≤ r) (h2 : r < y) : x / y = q := ((Int.ediv_emod_unique hy).2 ⟨h, h1, h2⟩).1
theorem kd3 {x y : Int} (hx : Sm 300000000000000 x) (hy : 0 < y) : Sm 300000000000000 (Int.tdiv x y) := L1 hx hy
theorem xc6 {x y : Int} (hx : Sm 300000000000000 x) (hy : 0 < y) : ua9 x y = some (i (x / y), []) := by
 have hz : (y == 0) = false := by rw [beq_eq_false_iff_ne]; omega
 obtain ⟨h1, h2, h3⟩ := xc5 (x := x) hy
 have hb := kd3 hx hy
 unfold ua9
 rw [bf hz, bf hz, Ua6 (hb.mono (by omega))]
 by_cases h : Int.tmod x y < 0
 ·rw [btD h, Kc2 hy (q := Int.tdiv x y - 1) (r := Int.tmod x y + y) (by rw [Int.mul_sub]; omega) (by omega) (by omega), ca5 (by have := hb.1; omega) (by have := hb.2; omega)]
 ·rw [bfD h, Kc2 hy h1 (by omega) h3]
theorem nb3 {x y : Int} (hx : Sm 300000000000000 x) (hy : 0 < y) : T8 x y = x / y := by unfold T8; rw [xc6 hx hy]; rfl
theorem nb4 {x y : Int} (hx : Sm 300000000000000 x) (hy : 0 < y) : T9 x y = true := by unfold T9; rw [xc6 hx hy]; rfl
theorem ad1 (x : Int) {y : Int} (hy : 0 < y) (hy2 : y ≤ 4000000000000000000) : Ta7 x y = some (i (x % y), []) := by
 have hz : (y == 0) = false := by rw [beq_eq_false_iff_ne]; omega
 obtain ⟨h1, h2, h3⟩ := xc5 (x := x) hy
 unfold Ta7
 rw [bfD (by omega), bf hz, bf hz, ca5 (by omega) (by omega), Int.tmod_eq_emod_of_nonneg (by omega)]
 congr 3
 rw [Int.add_emod_right]
 conv => rhs; rw [← h1]
 rw [Int.add_mul_emod_self_left]
theorem Ad2 (x : Int) {y : Int} (hy : 0 < y) (hy2 : y ≤ 4000000000000000000) : Ta8 x y = x % y := by unfold Ta8; rw [ad1 x hy hy2]; rfl
theorem ad2 (x : Int) {y : Int} (hy : 0 < y) (hy2 : y ≤ 4000000000000000000) : Ha8 x y = true := by unfold Ha8; rw [ad1 x hy hy2]; rfl
noncomputable def Ab0 (s : V3 × V3) (x : Pt) : V3 × V3 :=
 (⟨if x.px / x.pw < s.1.x then x.px / x.pw else s.1.x, if x.py / x.pw < s.1.y then x.py / x.pw else s.1.y, if x.pz / x.pw < s.1.z then x.pz / x.pw else s.1.z⟩,
  ⟨if W (0 - -x.px / x.pw) > s.2.x then W (0 - -x.px / x.pw) else s.2.x, if W (0 - -x.py / x.pw) > s.2.y then W (0 - -x.py / x.pw) else s.2.y, if W (0 - -x.pz / x.pw) > s.2.z then W (0 - -x.pz / x.pw) else s.2.z⟩)
noncomputable def bnd (c : List Pln) : V3 × V3 × Bool :=
 if ful c then (((pts c).foldl Ab0 (⟨24, 24, 24⟩, ⟨-24, -24, -24⟩)).1, ((pts c).foldl Ab0 (⟨24, 24, 24⟩, ⟨-24, -24, -24⟩)).2, true) else (⟨0, 0, 0⟩, ⟨0, 0, 0⟩, false)
theorem ad3 {x : Int} (h : Sm 300000000000000 x) : W (0 - x) = -x := by obtain ⟨h1, h2⟩ := h; rw [ca5 (by omega) (by omega)]; omega
theorem Sm.neg {n x : Int} (h : Sm n x) : Sm n (-x) := ⟨by have := h.2; omega, by have := h.1; omega⟩
noncomputable def Ad3 (r : V3 × V3 × Bool) : a7 := .tup [.agg (tV.row r.1), .agg (tV.row r.2.1), b r.2.2]
theorem Fc8 (X : List Pt) (hX : X.length ≤ 8000000) (hok : ∀ x ∈ X, Okx x) (s : V3 × V3) : ∃ m, lp (Z3 ⟨X, (X.length : Int)⟩) ⟨0, s.1.x, s.1.y, s.1.z, s.2.x, s.2.y, s.2.z⟩ = (1, ⟨m, (X.foldl Ab0 s).1.x, (X.foldl Ab0 s).1.y, (X.foldl Ab0 s).1.z, (X.foldl Ab0 s).2.x, (X.foldl Ab0 s).2.y, (X.foldl Ab0 s).2.z⟩) := by
 have h := Mb5 (step := Z3 ⟨X, (X.length : Int)⟩) (mk := fun j (s : V3 × V3) => (⟨(j : Int), s.1.x, s.1.y, s.1.z, s.2.x, s.2.y, s.2.z⟩ : Q4)) (f := Ab0) (fin := 1) tX X (fun _ _ => True) (by omega)
  (fun j s hj _ => ⟨by
   have hx := hok _ (kc3 tX hj)
   simp only [Z3, da8, Int.toNat_natCast, ad3 hx.c1, ad3 hx.c2, ad3 hx.c3, nb3 hx.c1 hx.w1, nb3 hx.c2 hx.w1, nb3 hx.c3 hx.w1, nb4 hx.c1 hx.w1, nb4 hx.c2 hx.w1, nb4 hx.c3 hx.w1,
    nb3 hx.c1.neg hx.w1, nb3 hx.c2.neg hx.w1, nb3 hx.c3.neg hx.w1, nb4 hx.c1.neg hx.w1, nb4 hx.c2.neg hx.w1, nb4 hx.c3.neg hx.w1, L7 hj (by omega)]
   rw [btD (J1 hj), bt (q7 hj)]
   rfl, trivial⟩)
  (fun s _ => by simp only [Z3, da8]; rw [bfD (ka7 (Nat.lt_irrefl _))]) 0 (Nat.zero_le _) s trivial
 have h := h.1
 rw [List.drop_zero] at h
 exact ⟨_, h⟩
theorem xc7 {c : List Pln} (hc : c.length ≤ 1000000000) : va0 c = some (Ad3 (bnd c), []) := by
 have ht : K8 ⟨24, 24, 24⟩ (-1) = ⟨-24, -24, -24⟩ := by
  unfold K8
  rw [show W (24 * -1) = -24 from by rw [Vc2]; rfl]
 obtain ⟨m, hm⟩ := Fc8 (pts c) (mc9 c) kd2 (⟨24, 24, 24⟩, ⟨-24, -24, -24⟩)
 unfold va0 bnd
 simp only [D9, fa0, F7, jb5 hc, jb6 hc, jb3 hc, jb4 hc, ht, hm]
 cases ful c <;> rfl
theorem Kc3 (r : V3 × V3 × Bool) : (sc7 r1V r1V r1B).rd (Ad3 r, []) = some r := rfl
theorem kd4 {c : List Pln} (hc : c.length ≤ 1000000000) : Ga8 c = bnd c := by unfold Ga8; rw [xc7 hc]; exact Ua8 _ (Kc3 _)
theorem kd5 {c : List Pln} (hc : c.length ≤ 1000000000) : Ga9 c = true := by unfold Ga9; rw [xc7 hc]; exact jb2 _ (Kc3 _)
theorem ad4 (x : Pt) : (x.px == x.px && (x.py == x.py && (x.pz == x.pz && (x.pw == x.pw && true)))) = true := (mc3 x x).2 rfl
theorem ad5 (x : Pln) : (x.n.x == x.n.x && (x.n.y == x.n.y && (x.n.z == x.n.z && (x.b == x.b && true)))) = true := by simp
theorem qb1 (l : List Pt) (hl : l.length ≤ 1000000000) : da9 l l = some (b true, []) := by
 have h := Dc5 (step := S6 ⟨l, l⟩) (mk := fun j => (⟨(j : Int)⟩ : C0)) (c := fun _ => false) (u := 1) (fin := 2) tX l hl
  (fun j hj => by
   simp only [S6, Q5, Int.toNat_natCast, L7 hj (by omega), ad4]
   rw [btD (J1 hj), bt (q7 hj), bt (q7 hj)]
   rfl)
  (by simp only [S6, Q5]; rw [bfD (ka7 (Nat.lt_irrefl _))]) 0 (Nat.zero_le _)
 rw [List.drop_zero, show (l.any fun _ => false) = false by simp] at h
 unfold da9
 simp only [D9, F7]
 rw [show (⟨0⟩ : C0) = ⟨((0 : Nat) : Int)⟩ from rfl, h, bf (by simp)]
 rfl
theorem Ab1 (l : List Pt) (hl : l.length ≤ 1000000000) : ea0 l l = true := by unfold ea0; rw [qb1 l hl]; rfl
theorem Ab2 (l : List Pt) (hl : l.length ≤ 1000000000) : ea1 l l = true := by unfold ea1; rw [qb1 l hl]; rfl
theorem Kc4 (l : List Pln) (hl : l.length ≤ 1000000000) : Ka6 l l = some (b true, []) := by
 have h := Dc5 (step := pa5 ⟨l, l⟩) (mk := fun j => (⟨(j : Int)⟩ : U0)) (c := fun _ => false) (u := 1) (fin := 2) tP l hl
  (fun j hj => by
   simp only [pa5, ka8, Int.toNat_natCast, L7 hj (by omega), ad5]
   rw [btD (J1 hj), bt (q7 hj), bt (q7 hj)]
   rfl)
  (by simp only [pa5, ka8]; rw [bfD (ka7 (Nat.lt_irrefl _))]) 0 (Nat.zero_le _)
 rw [List.drop_zero, show (l.any fun _ => false) = false by simp] at h
 unfold Ka6
 simp only [D9, F7]
 rw [show (⟨0⟩ : U0) = ⟨((0 : Nat) : Int)⟩ from rfl, h, bf (by simp)]
 rfl
theorem ud0 (l : List Pln) (hl : l.length ≤ 1000000000) : Za5 l l = true := by unfold Za5; rw [Kc4 l hl]; rfl
theorem ud1 (l : List Pln) (hl : l.length ≤ 1000000000) : Za6 l l = true := by unfold Za6; rw [Kc4 l hl]; rfl
end Go.Ev.Ce
namespace Go.Ev.Ce
open Go Go.Ev Go.Ev.L Go.Proofs
def Nx {σ : Type} (x : Stp σ) (E : Nat → Prop) (N : σ → Prop) : Prop := (∃ t, x = .exit t ∧ E t) ∨ ∃ s, x = .next s ∧ N s
theorem Nx.sl {σ : Type} {c : Bool} {t e : Stp σ} {E : Nat → Prop} {N : σ → Prop} (h1 : c = true → Nx t E N) (h2 : c = false → Nx e E N) : Nx (sl c t e) E N := by cases c; exact h2 rfl; exact h1 rfl
theorem Nx.ex {σ : Type} {t : Nat} {E : Nat → Prop} {N : σ → Prop} (h : E t) : Nx (.exit t) E N := .inl ⟨t, rfl, h⟩
theorem Nx.nx {σ : Type} {s : σ} {E : Nat → Prop} {N : σ → Prop} (h : N s) : Nx (.next s) E N := .inr ⟨s, rfl, h⟩
theorem nc0 {σ τ : Type} {step : σ → Stp σ} {mk : Nat → τ → σ} (n : Nat) (I : Nat → τ → Prop) (E : Nat → σ → Prop) (hn : n ≤ 1000000000)
  (h : ∀ j a, j < n → I j a → Nx (step (mk j a)) (fun t => E t (mk j a)) (fun s => ∃ a', s = mk (j + 1) a' ∧ I (j + 1) a'))
  (hf : ∀ j a, n ≤ j → I j a → ∃ t, step (mk j a) = .exit t ∧ E t (mk j a)) (j0 : Nat) (a : τ) (hi : I j0 a) : ∃ t s, lp step (mk j0 a) = (t, s) ∧ E t s := by
 have key := gb4 (step := step) (I := fun m s => ∃ j a, m = n - j ∧ s = mk j a ∧ I j a) (Q := E) (fun m s ⟨j, a, hm, hs, ha⟩ => by
  subst hs
  by_cases hlt : j < n
  ·rcases h j a hlt ha with h1 | ⟨s', h1, a', h2, h3⟩
   ·exact .inl h1
   ·subst h2
    exact .inr ⟨_, n - (j + 1), by omega, h1, j + 1, a', rfl, rfl, h3⟩
  ·exact .inl (hf j a (by omega) ha)) (n - j0) (mk j0 a) (by omega) ⟨j0, a, rfl, rfl, hi⟩
 exact ⟨_, _, rfl, key⟩
def Rd {ρ : Type} (R : RR ρ) (o : Option (a7 × List a8)) (P : ρ → Prop) : Prop := ∃ x r, o = some x ∧ R.rd x = some r ∧ P r
theorem Rd.p {ρ : Type} {R : RR ρ} {o : Option (a7 × List a8)} {P : ρ → Prop} (h : Rd R o P) : P (ea8 R o) := by
 obtain ⟨x, r, h1, h2, h3⟩ := h
 rw [h1, Ua8 R h2]
 exact h3
theorem Rd.g {ρ : Type} {R : RR ρ} {o : Option (a7 × List a8)} {P : ρ → Prop} (h : Rd R o P) : okO R o = true := by
 obtain ⟨x, r, h1, h2, h3⟩ := h
 rw [h1]
 exact jb2 R h2
theorem Rd.sl {ρ : Type} {R : RR ρ} {c : Bool} {t e : Option (a7 × List a8)} {P : ρ → Prop} (h1 : c = true → Rd R t P) (h2 : c = false → Rd R e P) : Rd R (sl c t e) P := by cases c; exact h2 rfl; exact h1 rfl
theorem Za7 (n : Int) (l : List Int) (j : Int) (h1 : 0 ≤ j) (h2 : j ≤ 1000000) (hn : 0 < n) (hn2 : n ≤ 1000000) :
  ∃ v j', L6 ⟨n, l, j⟩ = ⟨1, v, j'⟩ ∧ 0 ≤ v ∧ v < n ∧ j ≤ j' ∧ j' ≤ j + 1 := by
 unfold L6 Z4
 simp only
 by_cases h : j ≥ (l.length : Int)
 ·rw [btD h]
  exact ⟨0, j, rfl, by omega, hn, by omega, by omega⟩
 ·rw [bfD h]
  have hW : W (W (j + 1) - 1) = j := by rw [kc2, ca5 (by omega) (by omega)]; omega
  have hW2 : W (j + 1) = j + 1 := ca5 (by omega) (by omega)
  have hin : inB j l.length = true := by rw [gd6]; exact decide_eq_true (by omega)
  rw [hW, hW2, hin, ad2 _ hn (by omega), Ad2 _ hn (by omega)]
  exact ⟨_, _, rfl, Int.emod_nonneg _ (by omega), Int.emod_lt_of_pos _ hn, by omega, by omega⟩
theorem Fb5 (m : Int) (l : List Int) (j : Int) (h1 : 0 ≤ j) (h2 : j ≤ 900000) (hm : 0 ≤ m) (hm2 : m ≤ 100000) :
  ∃ a b c j', Ia0 ⟨m, l, j⟩ = ⟨1, a, b, c, l, j'⟩ ∧ Sm m a ∧ Sm m b ∧ Sm m c ∧ j ≤ j' ∧ j' ≤ j + 3 := by
 unfold Ia0 Ha9
 simp only [D9, F7]
 have hW : W (W (2 * m) + 1) = 2 * m + 1 := by rw [gb3, ca5 (by omega) (by omega)]
 rw [hW]
 obtain ⟨v1, j1, e1, a1, b1, c1, d1⟩ := Za7 (2 * m + 1) l j h1 (by omega) (by omega) (by omega)
 rw [e1]
 obtain ⟨v2, j2, e2, a2, b2, c2, d2⟩ := Za7 (2 * m + 1) l j1 (by omega) (by omega) (by omega) (by omega)
 simp only
 rw [e2]
 obtain ⟨v3, j3, e3, a3, b3, c3, d3⟩ := Za7 (2 * m + 1) l j2 (by omega) (by omega) (by omega) (by omega)
 simp only
 rw [e3]
 refine ⟨v1 - m, v2 - m, v3 - m, j3, ?_, ⟨by omega, by omega⟩, ⟨by omega, by omega⟩, ⟨by omega, by omega⟩, by omega, by omega⟩
 simp only
 rw [ca5 (n := v1 - m) (by omega) (by omega), ca5 (n := v2 - m) (by omega) (by omega), ca5 (n := v3 - m) (by omega) (by omega)]
 rfl
def inV (v : V3) : Bool := smb 24 v.x && (smb 24 v.y && smb 24 v.z)
theorem nb5 (v : V3) : inV v = true ↔ Sm 24 v.x ∧ Sm 24 v.y ∧ Sm 24 v.z := by unfold inV; rw [Bool.and_eq_true, Bool.and_eq_true, za3, za3, za3]
theorem ad6 (v : V3) : jb7 v = some (b (inV v), []) := by
 unfold jb7 inV smb
 cases h1 : decide (v.x < -24) <;> cases h2 : decide (v.x > 24) <;> cases h3 : decide (v.y < -24) <;> cases h4 : decide (v.y > 24) <;> cases h5 : decide (v.z < -24) <;> cases h6 : decide (v.z > 24) <;> rfl
theorem Ad4 (v : V3) : Va0 v = inV v := by unfold Va0; rw [ad6]; rfl
theorem Ad5 (v : V3) : Va1 v = true := by unfold Va1; rw [ad6]; rfl
def sub (a b : V3) : V3 := ⟨a.x - b.x, a.y - b.y, a.z - b.z⟩
theorem Kc5 {a b : V3} (ha : inV a = true) (hb : inV b = true) : ya5 a b = sub a b ∧ Sm 48 (sub a b).x ∧ Sm 48 (sub a b).y ∧ Sm 48 (sub a b).z := by
 rw [nb5] at ha hb
 obtain ⟨⟨a1, a2⟩, ⟨a3, a4⟩, a5, a6⟩ := ha
 obtain ⟨⟨b1, b2⟩, ⟨b3, b4⟩, b5, b6⟩ := hb
 unfold ya5 sub
 rw [ca5 (by omega) (by omega), ca5 (by omega) (by omega), ca5 (by omega) (by omega)]
 exact ⟨rfl, ⟨by show _ ≤ a.x - b.x; omega, by show a.x - b.x ≤ _; omega⟩, ⟨by show _ ≤ a.y - b.y; omega, by show a.y - b.y ≤ _; omega⟩, ⟨by show _ ≤ a.z - b.z; omega, by show a.z - b.z ≤ _; omega⟩⟩
theorem qb2 {a b c : V3} (ha : inV a = true) (hb : inV b = true) (hc : inV c = true) :
  Aa3 (ya5 b a) (ya5 c a) = o4 (sub b a) (sub c a) ∧ Sm 4608 (o4 (sub b a) (sub c a)).x ∧ Sm 4608 (o4 (sub b a) (sub c a)).y ∧ Sm 4608 (o4 (sub b a) (sub c a)).z := by
 obtain ⟨e1, ⟨u1, u2⟩, ⟨u3, u4⟩, u5, u6⟩ := Kc5 hb ha
 obtain ⟨e2, ⟨v1, v2⟩, ⟨v3, v4⟩, v5, v6⟩ := Kc5 hc ha
 rw [e1, e2, jd0]
 generalize sub b a = p at *
 generalize sub c a = q at *
 have h1 := mb u3 u4 v5 v6; have h2 := mb u5 u6 v3 v4; have h3 := mb u5 u6 v1 v2; have h4 := mb u1 u2 v5 v6; have h5 := mb u1 u2 v3 v4; have h6 := mb u3 u4 v1 v2
 have k : Sm 4608 (o4 p q).x ∧ Sm 4608 (o4 p q).y ∧ Sm 4608 (o4 p q).z := by unfold Sm o4; simp only; omega
 obtain ⟨k1, k2, k3⟩ := k
 rw [Ua6 (k1.mono (by omega)), Ua6 (k2.mono (by omega)), Ua6 (k3.mono (by omega))]
 exact ⟨rfl, k1, k2, k3⟩
def tb4 (a b c : V3) : Pln × Bool :=
 if inV a && (inV b && inV c) then
  if g3 (o4 (sub b a) (sub c a)) = 0 then (⟨⟨0, 0, 0⟩, 0⟩, false)
  else (⟨⟨Int.tdiv (o4 (sub b a) (sub c a)).x (g3 (o4 (sub b a) (sub c a))), Int.tdiv (o4 (sub b a) (sub c a)).y (g3 (o4 (sub b a) (sub c a))), Int.tdiv (o4 (sub b a) (sub c a)).z (g3 (o4 (sub b a) (sub c a)))⟩,
   dot ⟨Int.tdiv (o4 (sub b a) (sub c a)).x (g3 (o4 (sub b a) (sub c a))), Int.tdiv (o4 (sub b a) (sub c a)).y (g3 (o4 (sub b a) (sub c a))), Int.tdiv (o4 (sub b a) (sub c a)).z (g3 (o4 (sub b a) (sub c a)))⟩ a⟩, true)
 else (⟨⟨0, 0, 0⟩, 0⟩, false)
theorem Fb6 (v : V3) : 0 ≤ g3 v := by unfold g3; omega
theorem Vb3 (a c d : V3) : pa4 a c d = some (.tup [.agg (tP.row (tb4 a c d).1), b (tb4 a c d).2], []) := by
 unfold pa4 tb4
 simp only [Ad4, Ad5]
 cases ha : inV a with
 | false => rfl
 | true =>
  cases hc : inV c with
  | false => rfl
  | true =>
   cases hd : inV d with
   | false => rfl
   | true =>
    obtain ⟨e, k1, k2, k3⟩ := qb2 ha hc hd
    rw [e]
    generalize o4 (sub c a) (sub d a) = n at *
    have m1 := k1.mono (m := 1000000000000000000) (by omega)
    have m2 := k2.mono (m := 1000000000000000000) (by omega)
    have m3 := k3.mono (m := 1000000000000000000) (by omega)
    rw [td6 m1 m2 m3, Fc2 m1 m2 m3]
    by_cases h0 : g3 n = 0
    ·rw [show (g3 n == 0) = true from by rw [h0]; rfl]
     simp only [Bool.and_self, if_true, h0]
     rfl
    ·have hp := Fb6 n
     have q1 := L1 (g := g3 n) k1 (by omega)
     have q2 := L1 (g := g3 n) k2 (by omega)
     have q3 := L1 (g := g3 n) k3 (by omega)
     rw [show (g3 n == 0) = false from by rw [beq_eq_false_iff_ne]; exact h0, td5 m1 m2 m3 h0]
     simp only [Bool.and_self, if_true, h0, if_false]
     rw [Ua6 (q1.mono (by omega)), Ua6 (q2.mono (by omega)), Ua6 (q3.mono (by omega))]
     have hdot : mb9 ⟨Int.tdiv n.x (g3 n), Int.tdiv n.y (g3 n), Int.tdiv n.z (g3 n)⟩ a = dot ⟨Int.tdiv n.x (g3 n), Int.tdiv n.y (g3 n), Int.tdiv n.z (g3 n)⟩ a := by
      unfold mb9
      simp only [gb3, Rb6]
      obtain ⟨⟨a1, a2⟩, ⟨a3, a4⟩, a5, a6⟩ := (nb5 a).1 ha
      have r1 := mb q1.1 q1.2 a1 a2; have r2 := mb q2.1 q2.2 a3 a4; have r3 := mb q3.1 q3.2 a5 a6
      rw [ca5 (by omega) (by omega)]
      rfl
     rw [hdot]
     rfl
theorem gc0 (a b c : V3) : za4 a b c = tb4 a b c := by unfold za4; rw [Vb3]; rfl
theorem gc1 (a b c : V3) : za5 a b c = true := by unfold za5; rw [Vb3]; rfl
theorem kd6 (l : List Int) : Rd (one r1P) (ra4 l) (fun _ => True) := by
 unfold ra4
 simp only [D9, F7]
 obtain ⟨v1, j1, e1, a1, b1, c1, d1⟩ := Za7 8 l 0 (by omega) (by omega) (by omega) (by omega)
 rw [e1]
 simp only
 obtain ⟨v2, j2, e2, a2, b2, c2, d2⟩ := Za7 17 l j1 (by omega) (by omega) (by omega) (by omega)
 rw [e2]
 simp only
 obtain ⟨x1, x2, x3, j3, e3, _, _, _, c3, d3⟩ := Fb5 8 l j2 (by omega) (by omega) (by omega) (by omega)
 rw [e3]
 simp only
 obtain ⟨y1, y2, y3, j4, e4, _, _, _, c4, d4⟩ := Fb5 8 l j3 (by omega) (by omega) (by omega) (by omega)
 rw [e4]
 simp only
 obtain ⟨z1, z2, z3, j5, e5, _, _, _, c5, d5⟩ := Fb5 8 l j4 (by omega) (by omega) (by omega) (by omega)
 rw [e5]
 simp only [gc0, gc1, ad2 _ (show (0 : Int) < 3 by omega) (by omega), F7]
 simp only [Nat.beq_refl, Bool.and_true, K6]
 refine Rd.sl (fun _ => Rd.sl (fun _ => ⟨_, _, rfl, rfl, trivial⟩) fun _ => ?_) (fun _ => ?_)
 ·exact Rd.sl (fun _ => ⟨_, _, rfl, rfl, trivial⟩) fun _ => Rd.sl (fun _ => ⟨_, _, rfl, rfl, trivial⟩) fun _ => ⟨_, _, rfl, rfl, trivial⟩
 ·exact Rd.sl (fun _ => ⟨_, _, rfl, rfl, trivial⟩) fun _ => Rd.sl (fun _ => ⟨_, _, rfl, rfl, trivial⟩) fun _ => ⟨_, _, rfl, rfl, trivial⟩
theorem kd7 (l : List Int) : Za3 l = true := (kd6 l).g
theorem ad7 (l : List Pln) (x1 x2 x3 x4 : Int) : app (bL tP l) [[i x1, i x2, i x3, i x4]] = bL tP (l ++ [⟨⟨x1, x2, x3⟩, x4⟩]) := Xa4 tP l [⟨⟨x1, x2, x3⟩, x4⟩]
def Hd5 (x : List Pln) (y : Pln) (n : Nat) : List Pln := x.take n ++ (y :: x.drop n)
end Go.Ev.Ce
namespace Go.Ev.Ce
open Go Go.Ev Go.Ev.L Go.Proofs
structure Fc (ph : Nat) (out : List Pln) (m : Nat) : Prop where
 h : (ph = 0 ∧ out = []) ∨ ph = 1
 l : out.length ≤ m
theorem Fc.more {ph m m' : Nat} {out : List Pln} (h : Fc ph out m) (hm : m ≤ m') : Fc ph out m' := ⟨h.h, Nat.le_trans h.l hm⟩
end Go.Ev.Ce
namespace Go.Ev.Ce
open Go Go.Ev Go.Ev.L Go.Proofs
theorem Nb1 {l : List Pln} {k : Nat} (h : k < l.length) : ldR tP (bL tP l) (0 + k) = true := by rw [Nat.zero_add]; exact Cc9 tP h
theorem Ab3 {l : List Pln} {k : Nat} (h : k < l.length) : rdR tP (bL tP l) (0 + k) = gL tP l k := by rw [Nat.zero_add]; exact Cc8 tP h
theorem ud2 {l : List Pln} {n : Nat} {r : List (List a7)} {P : List Pln → Prop} (hn : n ≤ l.length) (hr : r = bL tP l) (h : P (l.take n)) : Rd (one (r1L tP)) (some (.sl 0 0 n 0, [⟨42, 4, r, true, false, 0⟩])) P := by
 subst hr
 have e1 : slR tP (bL tP l) 0 n = l.take n := Rb3 tP (by rw [List.length_take]; omega) fun k hk => by
  rw [Nat.zero_add, ha5 tP (by omega)]
  congr 1
  simp [gL, List.getD_eq_getElem?_getD, List.getElem?_take, hk]
 have e2 : okS tP (bL tP l) 0 n = true := rb9 tP (f := fun k => gL tP l k) fun k hk => by rw [Nat.zero_add, ha5 tP (by omega)]
 refine ⟨_, l.take n, rfl, ?_, h⟩
 show Bool.rec (motive := fun _ => Option (List Pln)) none (some (slR tP (bL tP l) 0 n)) (Bool.and true (okS tP (bL tP l) 0 n)) = _
 rw [e1, e2]
 rfl
end Go.Ev.Ce
section
namespace Go.Ev.Ce
open Go Go.Ev Go.Ev.L Go.Proofs
set_option maxRecDepth 100000
structure za6 where
 la5 : Int
 la6 : Int
 la7 : Int
 La9 : Int
 i5 : List Pt
noncomputable def jb8 : List (Nat × Sum) := [(32, Pa5)]
theorem Kb9 : m8 prog G jb8 := ⟨Ya4, trivial⟩
structure ga7 where
 Mc3 : List Pt
 is8 : Int
 i5 : List Pt
 P4 : Int
 P5 : Int
 P6 : Int
 P7 : Int
structure J2 where
 is4 : Int
 is9 : Int
noncomputable def Fb7 (p : ga7) (s : J2) : St := ⟨(.unk :: (.unk :: ((.ptr 1 0 0 0) :: (.unk :: ((i s.is4) :: (.unk :: (.unk :: ((eL tX p.Mc3) :: ((i p.is8) :: ((i s.is9) :: (ra 12 []))))))))))), [⟨0, 1, [[(eL tX p.i5)]], true, false, 0⟩, ⟨0, 4, [[(i p.P4), (i p.P5), (i p.P6), (i p.P7)]], true, false, 0⟩]⟩
noncomputable def aa6 {α : Type} (k : J2 → α) (e : Nat → α) (z : α) (p : ga7) (s : J2) : α := let t1 := (ea9 (⟨(⟨p.P4, p.P5, p.P6⟩ : V3), p.P7⟩ : Pln) (gL tX p.Mc3 s.is9.toNat)); (sl (decide (s.is9 < p.is8)) (sl (inB s.is9 (List.length p.Mc3)) (sl (t1 == 0) (k ⟨(W (s.is4 + 1)), (W (s.is9 + 1))⟩) (k ⟨s.is4, (W (s.is9 + 1))⟩)) z) (e 1))
noncomputable def ea2 (p : ga7) (s : J2) : Stp J2 := aa6 .next .exit .fail p s
noncomputable def Ea3 : Lo ga7 J2 := ⟨En jb8, 1, yd9, [1, 1, 0, 1, 4, 4], [2, 4, 7, 8, 9], .p, [⟨((.s (.o .unk)) :: ((.s (.o .unk)) :: ((.s (.o (.ptr 1 0 0 0))) :: ((.s (.o .unk)) :: ((.s (.o (.int .i64))) :: ((.s (.o .unk)) :: ((.s (.o .unk)) :: ((.s (.c 4 (nL tX))) :: ((.s (.o (.int .i64))) :: ((.s (.o (.int .i64))) :: (ru2 12 []))))))))))), [⟨0, 1, true, (some [[(.c 4 (nL tX))]])⟩, ⟨0, 4, true, (some [[(.o (.int .i64)), (.o (.int .i64)), (.o (.int .i64)), (.o (.int .i64))]])⟩], fun a H => (⟨(rL tX (slT a 7)), (toI (slT a 8)), (rL tX (slT (rwT (elT H 0) 0) 0)), (toI (slT (rwT (elT H 1) 0) 0)), (toI (slT (rwT (elT H 1) 0) 1)), (toI (slT (rwT (elT H 1) 0) 2)), (toI (slT (rwT (elT H 1) 0) 3))⟩, ⟨(toI (slT a 4)), (toI (slT a 9))⟩)⟩], ea2, [(some 0, fun p s => ⟨(.unk :: (.unk :: ((.ptr 1 0 0 0) :: (.unk :: ((i s.is4) :: (.unk :: (.unk :: ((eL tX p.Mc3) :: ((i p.is8) :: ((i s.is9) :: ((b (decide (s.is9 < p.is8))) :: (ra 11 [])))))))))))), [⟨0, 1, [[(eL tX p.i5)]], true, false, 0⟩, ⟨0, 4, [[(i p.P4), (i p.P5), (i p.P6), (i p.P7)]], true, false, 0⟩]⟩)], Fb7⟩
theorem Fb8 : Ea3.Ok := Lo.ok [] (by kernel_rfl) .nil rfl (.cons (fun a H => by kernel_rfl) .nil) fun p s => (.of @aa6 (fun F _ _ _ _ _ => by unfold aa6; (repeat' apply z8 (f := F)) <;> rfl) (by kernel_rfl))
structure ha7 where
 alt : Nat
 bs0 : Bool
 i5 : List Pt
noncomputable def ha8 {α : Type} (kk : ha7 → α) (x : za6) : α := let t1 := (lp (ea2 (⟨(rt tX x.i5), (↑(List.length x.i5) : Int), (rt tX x.i5), x.la5, x.la6, x.la7, x.La9⟩ : ga7)) (⟨0, 0⟩ : J2)); (sl ((cnE tX x.i5) && ((cnE tX x.i5) && true)) (sl (Nat.beq t1.1 1) (kk ⟨1, (decide (t1.2.is4 < 3)), (rt tX x.i5)⟩) (kk ⟨0, false, []⟩)) (kk ⟨0, false, []⟩))
noncomputable def ba3 (x : za6) : ha7 := ha8 (fun r => r) x
noncomputable def Ka7 (x : za6) (r : ha7) : DT (a7 × List a8) := (.ite (Nat.beq r.alt 1) (.ret ((b r.bs0), [⟨0, 1, [[(eL tX r.i5)]], true, false, 0⟩])) .fail)
theorem Zb9 {α β : Type} (F : α → β) (kk : ha7 → α) (x : za6) : F (ha8 kk x) = ha8 (fun r => F (kk r)) x := by unfold ha8; (repeat' apply z8 (f := F)) <;> rfl
noncomputable def Sa3 : Sum := Ja1 ⟨[(.agg [(.o (.int .i64)), (.o (.int .i64)), (.o (.int .i64)), (.o (.int .i64))]), (.s (.o (.ptr 0 0 0 0)))], [⟨0, 1, true, (some [[(.c 4 (nL tX))]])⟩], fun a H => (⟨(toI (slT (cellsOf (slT a 0)) 0)), (toI (slT (cellsOf (slT a 0)) 1)), (toI (slT (cellsOf (slT a 0)) 2)), (toI (slT (cellsOf (slT a 0)) 3)), (rL tX (slT (rwT (elT H 0) 0) 0))⟩, ())⟩ (fun x => Ka7 x (ba3 x))
theorem jb9 : i6 prog G 31 Sa3 := L9 (enc := fun x => ⟨[(.agg [(i x.la5), (i x.la6), (i x.la7), (i x.La9)]), (.ptr 0 0 0 0)], [⟨0, 1, [[(eL tX x.i5)]], true, false, 0⟩]⟩) (fun a H => by kernel_rfl) (bd b31 Kb9) fun x => cb0 (.s .p (.s .p (.s (.s .p (.b (.u Ea3.ls))) .p))) [Ea3.pr] (by kernel_rfl) (.cons Fb8 .nil) (Eq.trans (b := ha8 (fun r => (Ka7 x r).run) x) (by kernel_rfl) (Zb9 (fun r => (Ka7 x r).run) (fun r => r) x).symm)
structure M9 where
 ns0 : Nat
 eh0 : List (List a7)
 p4 : List Pt
noncomputable def ka9 : List (Nat × Sum) := [(31, Sa3)]
theorem Ha0 : m8 prog G ka9 := ⟨jb9, trivial⟩
structure E7 where
 ns0 : Nat
 is7 : Int
 eh0 : List (List a7)
structure l5 where
 is8 : Int
 p4 : List Pt
noncomputable def Ea4 (p : E7) (s : l5) : St := ⟨((.sl 0 0 p.ns0 0) :: ((.fn 31 [(.ptr 1 0 0 0)]) :: (ra 5 ((i p.is7) :: ((i s.is8) :: (ra 10 [])))))), [⟨42, 4, p.eh0, true, false, 0⟩, ⟨0, 1, [[(eL tX s.p4)]], true, false, 0⟩]⟩
noncomputable def A6 {α : Type} (k : l5 → α) (e : Nat → α) (z : α) (p : E7) (s : l5) : α := let t1 := (ba3 ⟨(rdR tP p.eh0 (0 + s.is8.toNat)).n.x, (rdR tP p.eh0 (0 + s.is8.toNat)).n.y, (rdR tP p.eh0 (0 + s.is8.toNat)).n.z, (rdR tP p.eh0 (0 + s.is8.toNat)).b, (rt tX s.p4)⟩); (sl (decide (s.is8 < p.is7)) (sl (inB s.is8 p.ns0) (sl (ldR tP p.eh0 (0 + s.is8.toNat)) (sl ((cnE tX s.p4) && true) (sl (Nat.beq t1.alt 1) (sl t1.bs0 (e 1) (k ⟨(W (s.is8 + 1)), t1.i5⟩)) z) z) z) z) (e 2))
noncomputable def D3 (p : E7) (s : l5) : Stp l5 := A6 .next .exit .fail p s
noncomputable def U1 : Lo E7 l5 := ⟨En ka9, 2, id9, [1, 0, 1, 4, 4], [0, 1, 7, 8], .p, [⟨((.s (.o (.sl 0 0 (some 0) none))) :: ((.fn 31 [(.o (.ptr 1 0 0 0))]) :: (ru2 5 ((.s (.o (.int .i64))) :: ((.s (.o (.int .i64))) :: (ru2 10 [])))))), [⟨42, 4, true, none⟩, ⟨0, 1, true, (some [[(.c 4 (nL tX))]])⟩], fun a H => (⟨(slN (slT a 0)), (toI (slT a 7)), (elT H 0)⟩, ⟨(toI (slT a 8)), (rL tX (slT (rwT (elT H 1) 0) 0))⟩)⟩], D3, [(none, fun p s => let t1 := (ba3 ⟨(rdR tP p.eh0 (0 + s.is8.toNat)).n.x, (rdR tP p.eh0 (0 + s.is8.toNat)).n.y, (rdR tP p.eh0 (0 + s.is8.toNat)).n.z, (rdR tP p.eh0 (0 + s.is8.toNat)).b, (rt tX s.p4)⟩); ⟨[(i s.is8)], [⟨42, 4, p.eh0, true, false, 0⟩, ⟨0, 1, [[(eL tX t1.i5)]], true, false, 0⟩]⟩), (some 0, fun p s => ⟨((.sl 0 0 p.ns0 0) :: ((.fn 31 [(.ptr 1 0 0 0)]) :: (ra 5 ((i p.is7) :: ((i s.is8) :: ((b (decide (s.is8 < p.is7))) :: (ra 9 []))))))), [⟨42, 4, p.eh0, true, false, 0⟩, ⟨0, 1, [[(eL tX s.p4)]], true, false, 0⟩]⟩)], Ea4⟩
theorem Ea5 : U1.Ok := Lo.ok [] (by kernel_rfl) .nil rfl (.cons (fun a H => by kernel_rfl) .nil) fun p s => (.of @A6 (fun F _ _ _ _ _ => by unfold A6; (repeat' apply z8 (f := F)) <;> rfl) (by kernel_rfl))
structure N0 where
 alt : Nat
 is0 : Int
 p4 : List Pt
noncomputable def B6 {α : Type} (kk : N0 → α) (x : M9) : α := let t1 := (lp (D3 (⟨x.ns0, (↑x.ns0 : Int), x.eh0⟩ : E7)) (⟨0, (rt tX x.p4)⟩ : l5)); let t2 := (ba3 ⟨(rdR tP x.eh0 (0 + t1.2.is8.toNat)).n.x, (rdR tP x.eh0 (0 + t1.2.is8.toNat)).n.y, (rdR tP x.eh0 (0 + t1.2.is8.toNat)).n.z, (rdR tP x.eh0 (0 + t1.2.is8.toNat)).b, (rt tX t1.2.p4)⟩); (sl ((cnE tX x.p4) && true) (sl (Nat.beq t1.1 1) (kk ⟨1, t1.2.is8, t2.i5⟩) (sl (Nat.beq t1.1 2) (kk ⟨1, (-1), t1.2.p4⟩) (kk ⟨0, 0, []⟩))) (kk ⟨0, 0, []⟩))
noncomputable def N1 (x : M9) : N0 := B6 (fun r => r) x
noncomputable def X5 (x : M9) (r : N0) : DT (a7 × List a8) := (.ite (Nat.beq r.alt 1) (.ret ((i r.is0), [⟨42, 4, x.eh0, true, false, 0⟩, ⟨0, 1, [[(eL tX r.p4)]], true, false, 0⟩])) .fail)
theorem Na4 {α β : Type} (F : α → β) (kk : N0 → α) (x : M9) : F (B6 kk x) = B6 (fun r => F (kk r)) x := by unfold B6; (repeat' apply z8 (f := F)) <;> rfl
noncomputable def na3 : Sum := Ja1 ⟨[(.s (.o (.sl 0 0 (some 0) none))), (.fn 31 [(.o (.ptr 1 0 0 0))])], [⟨42, 4, true, none⟩, ⟨0, 1, true, (some [[(.c 4 (nL tX))]])⟩], fun a H => (⟨(slN (slT a 0)), (elT H 0), (rL tX (slT (rwT (elT H 1) 0) 0))⟩, ())⟩ (fun x => X5 x (N1 x))
theorem Ka8 : i6 prog G 55 na3 := L9 (enc := fun x => ⟨[(.sl 0 0 x.ns0 0), (.fn 31 [(.ptr 1 0 0 0)])], [⟨42, 4, x.eh0, true, false, 0⟩, ⟨0, 1, [[(eL tX x.p4)]], true, false, 0⟩]⟩) (fun a H => by kernel_rfl) (bd b55 Ha0) fun x => cb0 (.s .p (.s (.s .p (.b (.u U1.ls))) .p)) [U1.pr] (by kernel_rfl) (.cons Ea5 .nil) (Eq.trans (b := B6 (fun r => (X5 x r).run) x) (by kernel_rfl) (Na4 (fun r => (X5 x r).run) (fun r => r) x).symm)
structure N2 where
 ns0 : Nat
 eh0 : List (List a7)
 p4 : List Pt
noncomputable def la0 : List (Nat × Sum) := [(55, na3), (31, Sa3)]
theorem Ha1 : m8 prog G la0 := ⟨Ka8, jb9, trivial⟩
structure E8 where
 ns0 : Nat
structure o5 where
 is5 : Int
 is6 : Int
 eh0 : List (List a7)
 p4 : List Pt
noncomputable def Ea6 (p : E8) (s : o5) : St := ⟨((.sl 0 0 p.ns0 0) :: ((.fn 31 [(.ptr 1 0 0 0)]) :: (ra 3 ((i s.is5) :: ((i s.is6) :: (ra 35 [])))))), [⟨42, 4, s.eh0, true, false, 0⟩, ⟨0, 1, [[(eL tX s.p4)]], true, false, 0⟩]⟩
noncomputable def A7 {α : Type} (k : o5 → α) (e : Nat → α) (z : α) (p : E8) (s : o5) : α := let t1 := (ba3 ⟨(rdR tP s.eh0 (0 + s.is6.toNat)).n.x, (rdR tP s.eh0 (0 + s.is6.toNat)).n.y, (rdR tP s.eh0 (0 + s.is6.toNat)).n.z, (rdR tP s.eh0 (0 + s.is6.toNat)).b, (rt tX s.p4)⟩); (sl (decide (s.is6 < (↑p.ns0 : Int))) (sl (inB s.is6 p.ns0) (sl (ldR tP s.eh0 (0 + s.is6.toNat)) (sl ((cnE tX s.p4) && true) (sl (Nat.beq t1.alt 1) (sl (!t1.bs0) (sl (inB s.is5 p.ns0) (sl ((Nat.blt (0 + s.is5.toNat) (len s.eh0)) && (Nat.ble (0 + 4) (len (s4 s.eh0 (0 + s.is5.toNat))))) (k ⟨(W (s.is5 + 1)), (W (s.is6 + 1)), (setAt s.eh0 (0 + s.is5.toNat) (ca1 (s4 s.eh0 (0 + s.is5.toNat)) 0 [(i (rdR tP s.eh0 (0 + s.is6.toNat)).n.x), (i (rdR tP s.eh0 (0 + s.is6.toNat)).n.y), (i (rdR tP s.eh0 (0 + s.is6.toNat)).n.z), (i (rdR tP s.eh0 (0 + s.is6.toNat)).b)])), t1.i5⟩) z) z) (k ⟨s.is5, (W (s.is6 + 1)), s.eh0, t1.i5⟩)) z) z) z) z) (e 1))
noncomputable def y7 (p : E8) (s : o5) : Stp o5 := A7 .next .exit .fail p s
noncomputable def U2 : Lo E8 o5 := ⟨En la0, 2, yd8, [1, 1, 1, 0, 1, 4, 4], [0, 1, 5, 6], .p, [⟨((.s (.o (.sl 0 0 (some 0) none))) :: ((.fn 31 [(.o (.ptr 1 0 0 0))]) :: (ru2 3 ((.s (.o (.int .i64))) :: ((.s (.o (.int .i64))) :: (ru2 35 [])))))), [⟨42, 4, true, none⟩, ⟨0, 1, true, (some [[(.c 4 (nL tX))]])⟩], fun a H => (⟨(slN (slT a 0))⟩, ⟨(toI (slT a 5)), (toI (slT a 6)), (elT H 0), (rL tX (slT (rwT (elT H 1) 0) 0))⟩)⟩], y7, [(some 0, fun p s => ⟨((.sl 0 0 p.ns0 0) :: ((.fn 31 [(.ptr 1 0 0 0)]) :: (ra 3 ((i s.is5) :: ((i s.is6) :: (ra 9 ((i s.is6) :: ((.sl 0 0 p.ns0 0) :: ((i (↑p.ns0 : Int)) :: ((b (decide (s.is6 < (↑p.ns0 : Int)))) :: (ra 22 []))))))))))), [⟨42, 4, s.eh0, true, false, 0⟩, ⟨0, 1, [[(eL tX s.p4)]], true, false, 0⟩]⟩)], Ea6⟩
theorem Ea7 : U2.Ok := Lo.ok [] (by kernel_rfl) .nil rfl (.cons (fun a H => by kernel_rfl) .nil) fun p s => (.of @A7 (fun F _ _ _ _ _ => by unfold A7; (repeat' apply z8 (f := F)) <;> rfl) (by kernel_rfl))
structure N3 where
 alt : Nat
 ns0 : Nat
 eh0 : List (List a7)
 p4 : List Pt
noncomputable def B7 {α : Type} (kk : N3 → α) (x : N2) : α := let t1 := (N1 ⟨x.ns0, x.eh0, (rt tX x.p4)⟩); let t2 := (lp (y7 (⟨x.ns0⟩ : E8)) (⟨t1.is0, (W (t1.is0 + 1)), x.eh0, (rt tX t1.p4)⟩ : o5)); (sl ((cnE tX x.p4) && true) (sl (Nat.beq t1.alt 1) (sl (t1.is0 == (-1)) (kk ⟨1, x.ns0, x.eh0, t1.p4⟩) (sl ((cnE tX t1.p4) && true) (sl (Nat.beq t2.1 1) (sl (inB t2.2.is5 (x.ns0 + 1)) (sl (inB t2.2.is5 (x.ns0 + 1)) (kk ⟨1, (t2.2.is5.toNat - 0), (app (F4 t2.2.eh0 (0 + t2.2.is5.toNat)) (app (List.replicate (x.ns0 - t2.2.is5.toNat) [(i 0), (i 0), (i 0), (i 0)]) (j7 t2.2.eh0 ((0 + t2.2.is5.toNat) + (x.ns0 - t2.2.is5.toNat))))), t2.2.p4⟩) (kk ⟨0, 0, [], []⟩)) (kk ⟨0, 0, [], []⟩)) (kk ⟨0, 0, [], []⟩)) (kk ⟨0, 0, [], []⟩))) (kk ⟨0, 0, [], []⟩)) (kk ⟨0, 0, [], []⟩))
noncomputable def N4 (x : N2) : N3 := B7 (fun r => r) x
noncomputable def X6 (x : N2) (r : N3) : DT (a7 × List a8) := (.ite (Nat.beq r.alt 1) (.ret ((.sl 0 0 r.ns0 0), [⟨42, 4, r.eh0, true, false, 0⟩, ⟨0, 1, [[(eL tX r.p4)]], true, false, 0⟩])) .fail)
theorem Na5 {α β : Type} (F : α → β) (kk : N3 → α) (x : N2) : F (B7 kk x) = B7 (fun r => F (kk r)) x := by unfold B7; (repeat' apply z8 (f := F)) <;> rfl
noncomputable def na4 : Sum := Ja1 ⟨[(.s (.o (.sl 0 0 (some 0) none))), (.fn 31 [(.o (.ptr 1 0 0 0))])], [⟨42, 4, true, none⟩, ⟨0, 1, true, (some [[(.c 4 (nL tX))]])⟩], fun a H => (⟨(slN (slT a 0)), (elT H 0), (rL tX (slT (rwT (elT H 1) 0) 0))⟩, ())⟩ (fun x => X6 x (N4 x))
theorem Ka9 : i6 prog G 29 na4 := L9 (enc := fun x => ⟨[(.sl 0 0 x.ns0 0), (.fn 31 [(.ptr 1 0 0 0)])], [⟨42, 4, x.eh0, true, false, 0⟩, ⟨0, 1, [[(eL tX x.p4)]], true, false, 0⟩]⟩) (fun a H => by kernel_rfl) (bd b29 Ha1) fun x => cb0 (.s .p (.s .p (.s .p (.s (.s .p (.b (.u U2.ls))) .p)))) [U2.pr] (by kernel_rfl) (.cons Ea7 .nil) (Eq.trans (b := B7 (fun r => (X6 x r).run) x) (by kernel_rfl) (Na5 (fun r => (X6 x r).run) (fun r => r) x).symm)
structure U3 where
 ns0 : Nat
 eh0 : List (List a7)
noncomputable def ea3 : List (Nat × Sum) := []
theorem Sa4 : m8 prog G ea3 := trivial
structure z4 where
 ns0 : Nat
 os4 : Nat
 ns4 : Nat
structure l9 where
 is3 : Int
 is5 : Int
 eh0 : List (List a7)
noncomputable def Na6 (p : z4) (s : l9) : St := ⟨((.sl 0 0 p.ns0 0) :: (.unk :: (.unk :: ((i s.is3) :: ((.sl 0 p.os4 p.ns4 0) :: ((i s.is5) :: (ra 55 []))))))), [⟨42, 4, s.eh0, true, false, 0⟩]⟩
noncomputable def F9 {α : Type} (k : l9 → α) (e : Nat → α) (z : α) (p : z4) (s : l9) : α := (sl (decide (s.is5 < (↑p.ns4 : Int))) (sl (inB s.is5 p.ns4) (sl (ldR tP s.eh0 (p.os4 + s.is5.toNat)) (sl (inB (W (s.is5 - 1)) p.ns4) (sl (ldR tP s.eh0 (p.os4 + (W (s.is5 - 1)).toNat)) (sl (!(((rdR tP s.eh0 (p.os4 + s.is5.toNat)).n.x == (rdR tP s.eh0 (p.os4 + (W (s.is5 - 1)).toNat)).n.x) && (((rdR tP s.eh0 (p.os4 + s.is5.toNat)).n.y == (rdR tP s.eh0 (p.os4 + (W (s.is5 - 1)).toNat)).n.y) && (((rdR tP s.eh0 (p.os4 + s.is5.toNat)).n.z == (rdR tP s.eh0 (p.os4 + (W (s.is5 - 1)).toNat)).n.z) && (((rdR tP s.eh0 (p.os4 + s.is5.toNat)).b == (rdR tP s.eh0 (p.os4 + (W (s.is5 - 1)).toNat)).b) && true))))) (sl (inB s.is5 p.ns4) (sl (ldR tP s.eh0 (p.os4 + s.is5.toNat)) (sl (inB s.is3 p.ns0) (sl ((Nat.blt (0 + s.is3.toNat) (len s.eh0)) && (Nat.ble (0 + 4) (len (s4 s.eh0 (0 + s.is3.toNat))))) (k ⟨(W (s.is3 + 1)), (W (s.is5 + 1)), (setAt s.eh0 (0 + s.is3.toNat) (ca1 (s4 s.eh0 (0 + s.is3.toNat)) 0 [(i (rdR tP s.eh0 (p.os4 + s.is5.toNat)).n.x), (i (rdR tP s.eh0 (p.os4 + s.is5.toNat)).n.y), (i (rdR tP s.eh0 (p.os4 + s.is5.toNat)).n.z), (i (rdR tP s.eh0 (p.os4 + s.is5.toNat)).b)]))⟩) z) z) z) z) (k ⟨s.is3, (W (s.is5 + 1)), s.eh0⟩)) z) z) z) z) (e 1))
noncomputable def o2 (p : z4) (s : l9) : Stp l9 := F9 .next .exit .fail p s
noncomputable def ba4 : Lo z4 l9 := ⟨En ea3, 1, sd5, [1, 1, 0, 1, 4, 4, 1, 0, 4, 1, 2, 1, 0, 1, 4, 4], [0, 3, 4, 5], .p, [⟨((.s (.o (.sl 0 0 (some 0) none))) :: ((.s (.o .unk)) :: ((.s (.o .unk)) :: ((.s (.o (.int .i64))) :: ((.s (.o (.sl 0 0 none none))) :: ((.s (.o (.int .i64))) :: (ru2 55 []))))))), [⟨42, 4, true, none⟩], fun a H => (⟨(slN (slT a 0)), (slO (slT a 4)), (slN (slT a 4))⟩, ⟨(toI (slT a 3)), (toI (slT a 5)), (elT H 0)⟩)⟩], o2, [(some 2, fun p s => ⟨((.sl 0 0 p.ns0 0) :: (.unk :: (.unk :: ((i s.is3) :: ((.sl 0 p.os4 p.ns4 0) :: ((i s.is5) :: (ra 23 ((i s.is5) :: ((.sl 0 p.os4 p.ns4 0) :: ((i (↑p.ns4 : Int)) :: ((b (decide (s.is5 < (↑p.ns4 : Int)))) :: (ra 28 [])))))))))))), [⟨42, 4, s.eh0, true, false, 0⟩]⟩)], Na6⟩
theorem Na7 : ba4.Ok := Lo.ok [] (by kernel_rfl) .nil rfl (.cons (fun a H => by kernel_rfl) .nil) fun p s => (.of @F9 (fun F _ _ _ _ _ => by unfold F9; (repeat' apply z8 (f := F)) <;> rfl) (by kernel_rfl))
structure H9 where
 ns0 : Nat
 eh0 : List (List a7)
structure o6 where
 is3 : Int
noncomputable def Na8 (p : H9) (s : o6) : St := ⟨((.sl 0 0 p.ns0 0) :: (.unk :: (.unk :: ((i s.is3) :: (ra 57 []))))), [⟨42, 4, p.eh0, true, false, 0⟩]⟩
noncomputable def G0 {α : Type} (k : o6 → α) (e : Nat → α) (z : α) (p : H9) (s : o6) : α := let t1 := (lp (o2 (⟨p.ns0, (0 + s.is3.toNat), (p.ns0 - s.is3.toNat)⟩ : z4)) (⟨s.is3, 1, p.eh0⟩ : l9)); (sl (decide (s.is3 < (↑p.ns0 : Int))) (sl (inB s.is3 p.ns0) (sl (ldR tP p.eh0 (0 + s.is3.toNat)) (sl (inB (W (s.is3 - 1)) p.ns0) (sl (ldR tP p.eh0 (0 + (W (s.is3 - 1)).toNat)) (sl (((rdR tP p.eh0 (0 + s.is3.toNat)).n.x == (rdR tP p.eh0 (0 + (W (s.is3 - 1)).toNat)).n.x) && (((rdR tP p.eh0 (0 + s.is3.toNat)).n.y == (rdR tP p.eh0 (0 + (W (s.is3 - 1)).toNat)).n.y) && (((rdR tP p.eh0 (0 + s.is3.toNat)).n.z == (rdR tP p.eh0 (0 + (W (s.is3 - 1)).toNat)).n.z) && (((rdR tP p.eh0 (0 + s.is3.toNat)).b == (rdR tP p.eh0 (0 + (W (s.is3 - 1)).toNat)).b) && true)))) (sl (inB s.is3 (p.ns0 + 1)) (sl (Nat.beq t1.1 1) (sl (inB t1.2.is3 (p.ns0 + 1)) (sl (inB t1.2.is3 (p.ns0 + 1)) (e 1) z) z) z) z) (k ⟨(W (s.is3 + 1))⟩)) z) z) z) z) (e 2))
noncomputable def G7 (p : H9) (s : o6) : Stp o6 := G0 .next .exit .fail p s
noncomputable def ba5 : Lo H9 o6 := ⟨En ea3, 1, sd5, [1, 1, 0, 1, 4, 4], [0, 3], (.s .p (.s (.b (.s .p (.c (.s .p (.s (.s .p (.b (.u ba4.ls))) .p)) .p))) .p)), [⟨((.s (.o (.sl 0 0 (some 0) none))) :: ((.s (.o .unk)) :: ((.s (.o .unk)) :: ((.s (.o (.int .i64))) :: (ru2 57 []))))), [⟨42, 4, true, none⟩], fun a H => (⟨(slN (slT a 0)), (elT H 0)⟩, ⟨(toI (slT a 3))⟩)⟩], G7, [(none, fun p s => let t1 := (lp (o2 (⟨p.ns0, (0 + s.is3.toNat), (p.ns0 - s.is3.toNat)⟩ : z4)) (⟨s.is3, 1, p.eh0⟩ : l9)); ⟨[(.sl 0 0 (t1.2.is3.toNat - 0) 0)], [⟨42, 4, (app (F4 t1.2.eh0 (0 + t1.2.is3.toNat)) (app (List.replicate (p.ns0 - t1.2.is3.toNat) [(i 0), (i 0), (i 0), (i 0)]) (j7 t1.2.eh0 ((0 + t1.2.is3.toNat) + (p.ns0 - t1.2.is3.toNat))))), true, false, 0⟩]⟩), (some 0, fun p s => ⟨((.sl 0 0 p.ns0 0) :: (.unk :: (.unk :: ((i s.is3) :: (ra 6 ((i s.is3) :: ((.sl 0 0 p.ns0 0) :: ((i (↑p.ns0 : Int)) :: ((b (decide (s.is3 < (↑p.ns0 : Int)))) :: (ra 47 [])))))))))), [⟨42, 4, p.eh0, true, false, 0⟩]⟩)], Na8⟩
theorem Na9 : ba5.Ok := Lo.ok [ba4.pr] (by kernel_rfl) (.cons Na7 .nil) rfl (.cons (fun a H => by kernel_rfl) .nil) fun p s => (.of @G0 (fun F _ _ _ _ _ => by unfold G0; (repeat' apply z8 (f := F)) <;> rfl) (by kernel_rfl))
structure U4 where
 alt : Nat
 ns0 : Nat
 eh0 : List (List a7)
noncomputable def G4 {α : Type} (kk : U4 → α) (x : U3) : α := let t1 := (lp (G7 (⟨x.ns0, x.eh0⟩ : H9)) (⟨1⟩ : o6)); let t2 := (lp (o2 (⟨x.ns0, (0 + t1.2.is3.toNat), (x.ns0 - t1.2.is3.toNat)⟩ : z4)) (⟨t1.2.is3, 1, x.eh0⟩ : l9)); (sl (decide ((↑x.ns0 : Int) < 2)) (kk ⟨1, x.ns0, x.eh0⟩) (sl (Nat.beq t1.1 1) (kk ⟨1, (t2.2.is3.toNat - 0), (app (F4 t2.2.eh0 (0 + t2.2.is3.toNat)) (app (List.replicate (x.ns0 - t2.2.is3.toNat) [(i 0), (i 0), (i 0), (i 0)]) (j7 t2.2.eh0 ((0 + t2.2.is3.toNat) + (x.ns0 - t2.2.is3.toNat)))))⟩) (sl (Nat.beq t1.1 2) (kk ⟨1, x.ns0, x.eh0⟩) (kk ⟨0, 0, []⟩))))
noncomputable def U5 (x : U3) : U4 := G4 (fun r => r) x
noncomputable def ea4 (x : U3) (r : U4) : DT (a7 × List a8) := (.ite (Nat.beq r.alt 1) (.ret ((.sl 0 0 r.ns0 0), [⟨42, 4, r.eh0, true, false, 0⟩])) .fail)
theorem Za8 {α β : Type} (F : α → β) (kk : U4 → α) (x : U3) : F (G4 kk x) = G4 (fun r => F (kk r)) x := by unfold G4; (repeat' apply z8 (f := F)) <;> rfl
noncomputable def va2 : Sum := Ja1 ⟨[(.s (.o (.sl 0 0 (some 0) none)))], [⟨42, 4, true, none⟩], fun a H => (⟨(slN (slT a 0)), (elT H 0)⟩, ())⟩ (fun x => ea4 x (U5 x))
theorem Va3 : i6 prog G 35 va2 := L9 (enc := fun x => ⟨[(.sl 0 0 x.ns0 0)], [⟨42, 4, x.eh0, true, false, 0⟩]⟩) (fun a H => by kernel_rfl) (bd b35 Sa4) fun x => cb0 (.s .p (.s .p (.s (.s .p (.b (.u ba5.ls))) .p))) [ba5.pr] (by kernel_rfl) (.cons Na9 .nil) (Eq.trans (b := G4 (fun r => (ea4 x r).run) x) (by kernel_rfl) (Za8 (fun r => (ea4 x r).run) (fun r => r) x).symm)
noncomputable def Vb4 : List (Nat × Sum) := []
theorem Lb0 : m8 prog G Vb4 := trivial
noncomputable def pa6 (x : Int) (y : Int) : Option (a7 × List a8) := (sl (decide (x < y)) (some ((i (-1)), [])) (sl (decide (x > y)) (some ((i 1), [])) (some ((i 0), []))))
noncomputable def V6 (x : Int) (y : Int) : Int := ea8 (one r1I) (pa6 x y)
noncomputable def V7 (x : Int) (y : Int) : Bool := okO (one r1I) (pa6 x y)
noncomputable def Sa5 : Sum := oa3 cI cI (fun x y => .guard (V7 x y) (.ret ((one r1I).enc (V6 x y), [])))
theorem kb0 : i6 prog G 46 Sa5 := Db2 (bd b46 Lb0) (one r1I) (o := pa6) fun x y => C6 (by kernel_rfl)
noncomputable def Fb9 : List (Nat × Sum) := [(46, Sa5)]
theorem Ab4 : m8 prog G Fb9 := ⟨kb0, trivial⟩
noncomputable def ga8 (x : Pln) (y : Pln) : Option (a7 × List a8) := let t1 := (V6 x.n.x y.n.x); let t2 := (V6 x.n.y y.n.y); let t3 := (V6 x.n.z y.n.z); let t4 := (V6 x.b y.b); (sl (V7 x.n.x y.n.x) (sl (t1 == 0) (sl (V7 x.n.y y.n.y) (sl (t2 == 0) (sl (V7 x.n.z y.n.z) (sl (t3 == 0) (sl (V7 x.b y.b) (sl (t4 == 0) (some ((i t4), [])) (some ((i t4), []))) none) (some ((i t3), []))) none) (some ((i t2), []))) none) (some ((i t1), []))) none)
noncomputable def qa6 (x : Pln) (y : Pln) : Int := ea8 (one r1I) (ga8 x y)
noncomputable def qa7 (x : Pln) (y : Pln) : Bool := okO (one r1I) (ga8 x y)
noncomputable def Ea8 : Sum := oa3 (ia2 tP) (ia2 tP) (fun x y => .guard (qa7 x y) (.ret ((one r1I).enc (qa6 x y), [])))
theorem Gb0 : i6 prog G 34 Ea8 := Db2 (bd b34 Ab4) (one r1I) (o := ga8) fun x y => C6 (by kernel_rfl)
noncomputable def xc8 : List (Nat × Sum) := [(63, Ka0)]
theorem nc1 : m8 prog G xc8 := ⟨bb2, trivial⟩
noncomputable def La0 (x : V3) : Option (a7 × List a8) := let t1 := (da3 24 [x.x, x.y, x.z]); (sl (da4 24 [x.x, x.y, x.z]) (some ((b t1), [])) none)
noncomputable def La1 (x : V3) : Bool := ea8 (one r1B) (La0 x)
noncomputable def La2 (x : V3) : Bool := okO (one r1B) (La0 x)
noncomputable def tb5 : Sum := ra1 (ia2 tV) (fun x => .guard (La2 x) (.ret ((one r1B).enc (La1 x), [])))
theorem Ib3 : i6 prog G 40 tb5 := Ta3 (bd b40 nc1) (one r1B) (o := La0) fun x => C6 (by kernel_rfl)
noncomputable def xc9 : List (Nat × Sum) := [(26, ma7), (40, tb5), (39, za2)]
theorem nc2 : m8 prog G xc9 := ⟨pa0, Ib3, Ja9, trivial⟩
noncomputable def La3 (x : List Pln) (y : V3) : Option (a7 × List a8) := let t1 := (T3 [(rt tP x)]); let t2 := (La1 y); let t3 := (O9 (rt tP x) (⟨y.x, y.y, y.z, 1⟩ : Pt)); (sl ((okE tP x) && true) (sl (T4 [(rt tP x)]) (sl t1 (sl (La2 y) (sl t2 (sl (okE tP x) (sl (P0 (rt tP x) (⟨y.x, y.y, y.z, 1⟩ : Pt)) (some ((b t3), [])) none) none) (some ((b false), []))) none) (some ((b false), []))) none) none)
noncomputable def ra6 (x : List Pln) (y : V3) : Bool := ea8 (one r1B) (La3 x y)
noncomputable def fa5 (x : List Pln) (y : V3) : Bool := okO (one r1B) (La3 x y)
noncomputable def tb6 : Sum := oa3 (Aa2 tP) (ia2 tV) (fun x y => .guard (fa5 x y) (.ret ((one r1B).enc (ra6 x y), [])))
theorem Ib4 : i6 prog G 14 tb6 := Db2 (bd b14 nc2) (one r1B) (o := La3) fun x y => C6 (by kernel_rfl)
noncomputable def ac0 : List (Nat × Sum) := [(26, ma7), (27, nb0), (36, ra3)]
theorem Vb5 : m8 prog G ac0 := ⟨pa0, sb9, Fa3, trivial⟩
noncomputable def va3 (x : List Pln) (y : List Pln) : Option (a7 × List a8) := let t1 := (T3 [(rt tP x), (rt tP y)]); let t2 := (ya0 [(rt tP x), (rt tP y)]); let t3 := (X1 (rt tP t2)); (sl ((okE tP x) && ((okE tP y) && true)) (sl (T4 [(rt tP x), (rt tP y)]) (sl (!t1) (some ((b true), [])) (sl ((okE tP x) && ((okE tP y) && true)) (sl (ya1 [(rt tP x), (rt tP y)]) (sl (okE tP t2) (sl (X2 (rt tP t2)) (some ((b (!t3)), [])) none) none) none) none)) none) none)
noncomputable def U9 (x : List Pln) (y : List Pln) : Bool := ea8 (one r1B) (va3 x y)
noncomputable def G5 (x : List Pln) (y : List Pln) : Bool := okO (one r1B) (va3 x y)
noncomputable def Za9 : Sum := oa3 (Aa2 tP) (Aa2 tP) (fun x y => .guard (G5 x y) (.ret ((one r1B).enc (U9 x y), [])))
theorem qb3 : i6 prog G 12 Za9 := Db2 (bd b12 Vb5) (one r1B) (o := va3) fun x y => C6 (by kernel_rfl)
structure qa8 where
 la5 : Int
 la6 : Int
 la7 : Int
 La9 : Int
 c8 : List Pln
noncomputable def Gb1 : List (Nat × Sum) := [(39, za2)]
theorem Ab5 : m8 prog G Gb1 := ⟨Ja9, trivial⟩
structure ga9 where
 alt : Nat
 bs0 : Bool
noncomputable def Z5 {α : Type} (kk : ga9 → α) (x : qa8) : α := let t1 := (O9 (rt tP x.c8) (⟨x.la5, x.la6, x.la7, x.La9⟩ : Pt)); (sl (okE tP x.c8) (sl (P0 (rt tP x.c8) (⟨x.la5, x.la6, x.la7, x.La9⟩ : Pt)) (kk ⟨1, (!t1)⟩) (kk ⟨0, false⟩)) (kk ⟨0, false⟩))
noncomputable def qa9 (x : qa8) : ga9 := Z5 (fun r => r) x
noncomputable def ya6 (x : qa8) (r : ga9) : DT (a7 × List a8) := (.ite (Nat.beq r.alt 1) (.ret ((b r.bs0), [⟨0, 1, [[(eL tP x.c8)]], true, false, 0⟩])) .fail)
theorem Lb1 {α β : Type} (F : α → β) (kk : ga9 → α) (x : qa8) : F (Z5 kk x) = Z5 (fun r => F (kk r)) x := by unfold Z5; (repeat' apply z8 (f := F)) <;> rfl
noncomputable def bb5 : Sum := Ja1 ⟨[(.agg [(.o (.int .i64)), (.o (.int .i64)), (.o (.int .i64)), (.o (.int .i64))]), (.s (.o (.ptr 0 0 0 0)))], [⟨0, 1, true, (some [[(.c 4 (nL tP))]])⟩], fun a H => (⟨(toI (slT (cellsOf (slT a 0)) 0)), (toI (slT (cellsOf (slT a 0)) 1)), (toI (slT (cellsOf (slT a 0)) 2)), (toI (slT (cellsOf (slT a 0)) 3)), (rL tP (slT (rwT (elT H 0) 0) 0))⟩, ())⟩ (fun x => ya6 x (qa9 x))
theorem Gb2 : i6 prog G 38 bb5 := L9 (enc := fun x => ⟨[(.agg [(i x.la5), (i x.la6), (i x.la7), (i x.La9)]), (.ptr 0 0 0 0)], [⟨0, 1, [[(eL tP x.c8)]], true, false, 0⟩]⟩) (fun a H => by kernel_rfl) (bd b38 Ab5) fun x => C6 (Eq.trans (b := Z5 (fun r => (ya6 x r).run) x) (by kernel_rfl) (Lb1 (fun r => (ya6 x r).run) (fun r => r) x).symm)
structure N5 where
 G8 : List Pt
 c8 : List Pln
noncomputable def la1 : List (Nat × Sum) := [(38, bb5)]
theorem Ha2 : m8 prog G la1 := ⟨Gb2, trivial⟩
structure E9 where
 G8 : List Pt
 is7 : Int
structure l7 where
 is8 : Int
 c8 : List Pln
noncomputable def Ea9 (p : E9) (s : l7) : St := ⟨((eL tX p.G8) :: ((.fn 38 [(.ptr 0 0 0 0)]) :: (ra 5 ((i p.is7) :: ((i s.is8) :: (ra 10 [])))))), [⟨0, 1, [[(eL tP s.c8)]], true, false, 0⟩]⟩
noncomputable def A8 {α : Type} (k : l7 → α) (e : Nat → α) (z : α) (p : E9) (s : l7) : α := let t1 := (qa9 ⟨(gL tX p.G8 s.is8.toNat).px, (gL tX p.G8 s.is8.toNat).py, (gL tX p.G8 s.is8.toNat).pz, (gL tX p.G8 s.is8.toNat).pw, (rt tP s.c8)⟩); (sl (decide (s.is8 < p.is7)) (sl (inB s.is8 (List.length p.G8)) (sl ((cnE tP s.c8) && true) (sl (Nat.beq t1.alt 1) (sl t1.bs0 (e 1) (k ⟨(W (s.is8 + 1)), (rt tP s.c8)⟩)) z) z) z) (e 2))
noncomputable def D4 (p : E9) (s : l7) : Stp l7 := A8 .next .exit .fail p s
noncomputable def V0 : Lo E9 l7 := ⟨En la1, 1, sd7, [1, 0, 1, 4, 4], [0, 1, 7, 8], .p, [⟨((.s (.c 4 (nL tX))) :: ((.fn 38 [(.o (.ptr 0 0 0 0))]) :: (ru2 5 ((.s (.o (.int .i64))) :: ((.s (.o (.int .i64))) :: (ru2 10 [])))))), [⟨0, 1, true, (some [[(.c 4 (nL tP))]])⟩], fun a H => (⟨(rL tX (slT a 0)), (toI (slT a 7))⟩, ⟨(toI (slT a 8)), (rL tP (slT (rwT (elT H 0) 0) 0))⟩)⟩], D4, [(none, fun p s => ⟨[(i s.is8)], [⟨0, 1, [[(eL tP (rt tP s.c8))]], true, false, 0⟩]⟩), (some 0, fun p s => ⟨((eL tX p.G8) :: ((.fn 38 [(.ptr 0 0 0 0)]) :: (ra 5 ((i p.is7) :: ((i s.is8) :: ((b (decide (s.is8 < p.is7))) :: (ra 9 []))))))), [⟨0, 1, [[(eL tP s.c8)]], true, false, 0⟩]⟩)], Ea9⟩
theorem Fa0 : V0.Ok := Lo.ok [] (by kernel_rfl) .nil rfl (.cons (fun a H => by kernel_rfl) .nil) fun p s => (.of @A8 (fun F _ _ _ _ _ => by unfold A8; (repeat' apply z8 (f := F)) <;> rfl) (by kernel_rfl))
structure N6 where
 alt : Nat
 is0 : Int
 c8 : List Pln
noncomputable def B8 {α : Type} (kk : N6 → α) (x : N5) : α := let t1 := (lp (D4 (⟨(rt tX x.G8), (↑(List.length x.G8) : Int)⟩ : E9)) (⟨0, (rt tP x.c8)⟩ : l7)); (sl ((cnE tX x.G8) && ((cnE tP x.c8) && true)) (sl (Nat.beq t1.1 1) (kk ⟨1, t1.2.is8, (rt tP t1.2.c8)⟩) (sl (Nat.beq t1.1 2) (kk ⟨1, (-1), t1.2.c8⟩) (kk ⟨0, 0, []⟩))) (kk ⟨0, 0, []⟩))
noncomputable def Z0 (x : N5) : N6 := B8 (fun r => r) x
noncomputable def X7 (x : N5) (r : N6) : DT (a7 × List a8) := (.ite (Nat.beq r.alt 1) (.ret ((i r.is0), [⟨0, 1, [[(eL tP r.c8)]], true, false, 0⟩])) .fail)
theorem Oa0 {α β : Type} (F : α → β) (kk : N6 → α) (x : N5) : F (B8 kk x) = B8 (fun r => F (kk r)) x := by unfold B8; (repeat' apply z8 (f := F)) <;> rfl
noncomputable def na5 : Sum := Ja1 ⟨[(.s (.c 4 (nL tX))), (.fn 38 [(.o (.ptr 0 0 0 0))])], [⟨0, 1, true, (some [[(.c 4 (nL tP))]])⟩], fun a H => (⟨(rL tX (slT a 0)), (rL tP (slT (rwT (elT H 0) 0) 0))⟩, ())⟩ (fun x => X7 x (Z0 x))
theorem La4 : i6 prog G 61 na5 := L9 (enc := fun x => ⟨[(eL tX x.G8), (.fn 38 [(.ptr 0 0 0 0)])], [⟨0, 1, [[(eL tP x.c8)]], true, false, 0⟩]⟩) (fun a H => by kernel_rfl) (bd b61 Ha2) fun x => cb0 (.s .p (.s (.s .p (.b (.u V0.ls))) .p)) [V0.pr] (by kernel_rfl) (.cons Fa0 .nil) (Eq.trans (b := B8 (fun r => (X7 x r).run) x) (by kernel_rfl) (Oa0 (fun r => (X7 x r).run) (fun r => r) x).symm)
structure J3 where
 G8 : List Pt
 c8 : List Pln
noncomputable def Ba8 : List (Nat × Sum) := [(61, na5)]
theorem ya7 : m8 prog G Ba8 := ⟨La4, trivial⟩
structure J4 where
 alt : Nat
 bs0 : Bool
 c8 : List Pln
noncomputable def y8 {α : Type} (kk : J4 → α) (x : J3) : α := let t1 := (Z0 ⟨(rt tX x.G8), (rt tP x.c8)⟩); (sl ((cnE tX x.G8) && ((cnE tP x.c8) && true)) (sl (Nat.beq t1.alt 1) (kk ⟨1, (decide (t1.is0 ≥ 0)), t1.c8⟩) (kk ⟨0, false, []⟩)) (kk ⟨0, false, []⟩))
noncomputable def R9 (x : J3) : J4 := y8 (fun r => r) x
noncomputable def Q6 (x : J3) (r : J4) : DT (a7 × List a8) := (.ite (Nat.beq r.alt 1) (.ret ((b r.bs0), [⟨0, 1, [[(eL tP r.c8)]], true, false, 0⟩])) .fail)
theorem Fa1 {α β : Type} (F : α → β) (kk : J4 → α) (x : J3) : F (y8 kk x) = y8 (fun r => F (kk r)) x := by unfold y8; (repeat' apply z8 (f := F)) <;> rfl
noncomputable def ha0 : Sum := Ja1 ⟨[(.s (.c 4 (nL tX))), (.fn 38 [(.o (.ptr 0 0 0 0))])], [⟨0, 1, true, (some [[(.c 4 (nL tP))]])⟩], fun a H => (⟨(rL tX (slT a 0)), (rL tP (slT (rwT (elT H 0) 0) 0))⟩, ())⟩ (fun x => Q6 x (R9 x))
theorem Ba9 : i6 prog G 37 ha0 := L9 (enc := fun x => ⟨[(eL tX x.G8), (.fn 38 [(.ptr 0 0 0 0)])], [⟨0, 1, [[(eL tP x.c8)]], true, false, 0⟩]⟩) (fun a H => by kernel_rfl) (bd b37 ya7) fun x => C6 (Eq.trans (b := y8 (fun r => (Q6 x r).run) x) (by kernel_rfl) (Fa1 (fun r => (Q6 x r).run) (fun r => r) x).symm)
noncomputable def Vb6 : List (Nat × Sum) := [(20, sa1), (26, ma7), (9, pa3), (37, ha0)]
theorem Lb2 : m8 prog G Vb6 := ⟨ua8, pa0, ua7, Ba9, trivial⟩
noncomputable def pa7 (x : List Pln) (y : List Pln) : Option (a7 × List a8) := let t1 := (V5 (rt tP x)); let t2 := (T3 [(rt tP y)]); let t3 := (V2 (rt tP x)); let t4 := (R9 ⟨(rt tX t3), (rt tP y)⟩); (sl (okE tP x) (sl (L5 (rt tP x)) (sl t1 (sl ((okE tP y) && true) (sl (T4 [(rt tP y)]) (sl t2 (sl (okE tP x) (sl (V4 (rt tP x)) (sl ((cnE tX t3) && ((cnE tP y) && true)) (sl (Nat.beq t4.alt 1) (some ((b (!t4.bs0)), [])) none) none) none) none) (some ((b false), []))) none) none) (some ((b false), []))) none) none)
noncomputable def pa8 (x : List Pln) (y : List Pln) : Bool := ea8 (one r1B) (pa7 x y)
noncomputable def pa9 (x : List Pln) (y : List Pln) : Bool := okO (one r1B) (pa7 x y)
noncomputable def qb4 : Sum := oa3 (Aa2 tP) (Aa2 tP) (fun x y => .guard (pa9 x y) (.ret ((one r1B).enc (pa8 x y), [])))
theorem Vb7 : i6 prog G 13 qb4 := Db2 (bd b13 Lb2) (one r1B) (o := pa7) fun x y => C6 (by kernel_rfl)
noncomputable def yc0 : List (Nat × Sum) := []
theorem nc3 : m8 prog G yc0 := trivial
structure ab0 where
 d7 : Int
 r4 : Int
 r5 : Int
 r6 : Int
 r7 : Int
 r8 : Int
noncomputable def La5 {α : Type} (kk : ab0 → α) (x : V3) (y : V3) : α := (kk ⟨y.x, (W (0 - x.x)), y.y, (W (0 - x.y)), y.z, (W (0 - x.z))⟩)
noncomputable def fa6 (x : V3) (y : V3) : ab0 := La5 (fun r => r) x y
noncomputable def kb1 (r : ab0) : DT (a7 × List a8) := .ret ((.sl 0 0 6 0), [⟨42, 4, [[(i 1), (i 0), (i 0), (i r.d7)], [(i (-1)), (i 0), (i 0), (i r.r4)], [(i 0), (i 1), (i 0), (i r.r5)], [(i 0), (i (-1)), (i 0), (i r.r6)], [(i 0), (i 0), (i 1), (i r.r7)], [(i 0), (i 0), (i (-1)), (i r.r8)]], true, false, 0⟩])
theorem Fc9 {α β : Type} (F : α → β) (kk : ab0 → α) (x : V3) (y : V3) : F (La5 kk x y) = La5 (fun r => F (kk r)) x y := by unfold La5; (repeat' apply z8 (f := F)) <;> rfl
noncomputable def tb7 : Sum := oa3 (ia2 tV) (ia2 tV) (fun x y => kb1 (fa6 x y))
theorem Ib5 : i6 prog G 7 tb7 := ta2 (bd b7 nc3) fun x y => C6 (Eq.trans (b := La5 (fun r => (kb1 r).run) x y) (by kernel_rfl) (Fc9 (fun r => (kb1 r).run) (fun r => r) x y).symm)
noncomputable def ac4 : List (Nat × Sum) := [(7, tb7)]
theorem Vb8 : m8 prog G ac4 := ⟨Ib5, trivial⟩
structure Ha3 where
 d7 : Int
 r4 : Int
 r5 : Int
 r6 : Int
 r7 : Int
 r8 : Int
noncomputable def va4 {α : Type} (kk : Ha3 → α)  : α := let t1 := (fa6 (⟨0, 0, 0⟩ : V3) (⟨1, 1, 1⟩ : V3)); (kk ⟨t1.d7, t1.r4, t1.r5, t1.r6, t1.r7, t1.r8⟩)
noncomputable def ab1  : Ha3 := va4 (fun r => r)
noncomputable def Sa6 (r : Ha3) : DT (a7 × List a8) := .ret ((.sl 0 0 6 0), [⟨42, 4, [[(i 1), (i 0), (i 0), (i r.d7)], [(i (-1)), (i 0), (i 0), (i r.r4)], [(i 0), (i 1), (i 0), (i r.r5)], [(i 0), (i (-1)), (i 0), (i r.r6)], [(i 0), (i 0), (i 1), (i r.r7)], [(i 0), (i 0), (i (-1)), (i r.r8)]], true, false, 0⟩])
theorem nc4 {α β : Type} (F : α → β) (kk : Ha3 → α)  : F (va4 kk ) = va4 (fun r => F (kk r))  := by unfold va4; (repeat' apply z8 (f := F)) <;> rfl
noncomputable def Ab6 : Sum := rc8  (Sa6 (ab1 ))
theorem ac5 : i6 prog G 21 Ab6 := Ic0 (bd b21 Vb8) (C6 (Eq.trans (b := va4 (fun r => (Sa6 r).run) ) (by kernel_rfl) (nc4 (fun r => (Sa6 r).run) (fun r => r) ).symm))
end Go.Ev.Ce
end
namespace Go.Ev.Ce
open Go Go.Ev Go.Ev.L Go.Proofs
theorem nc5 (v : V3) : La1 v = inV v ∧ La2 v = true := by
 have h3 : [v.x, v.y, v.z].length ≤ 1000000000 := by simp
 have : La0 v = some (b (inV v), []) := by
  unfold La0 inV
  simp only [Fb1 24 _ (by omega) h3, Fb2 24 _ (by omega) h3, K6]
  simp only [List.all_cons, List.all_nil, Bool.and_true]
 unfold La1 La2
 rw [this]
 exact ⟨rfl, rfl⟩
noncomputable def has (c : List Pln) (v : V3) : Bool := (chk c == 0) && (inV v && inn c ⟨v.x, v.y, v.z, 1⟩)
theorem ad8 {c : List Pln} (hc : c.length ≤ 1000000000) (v : V3) : La3 c v = some (b (has c v), []) := by
 unfold La3 has
 simp only [D9, fa0, zb6 c hc, zb7 c hc, (nc5 v).1, (nc5 v).2, Ub1 c _ hc, Ub2 c _ hc]
 cases chk c == 0 with
 | false => rfl
 | true => cases inV v <;> rfl
theorem Kc6 {c : List Pln} (hc : c.length ≤ 1000000000) (v : V3) : ra6 c v = has c v := by unfold ra6; rw [ad8 hc]; rfl
theorem Kc7 {c : List Pln} (hc : c.length ≤ 1000000000) (v : V3) : fa5 c v = true := by unfold fa5; rw [ad8 hc]; rfl
theorem yc1 {a c : List Pln} (ha : (chk a == 0) = true) (hc : (chk c == 0) = true) : Bds (a ++ c ++ ws) ∧ (a ++ c ++ ws).length ≤ 200 := by
 rw [beq_iff_eq, jb1] at ha hc
 refine ⟨fun p hp => ?_, by rw [List.length_append, List.length_append, show ws.length = 6 from rfl]; omega⟩
 rcases List.mem_append.1 hp with hp | hp
 ·rcases List.mem_append.1 hp with hp | hp
  ·exact tb0 (ha.2 p hp)
  ·exact tb0 (hc.2 p hp)
 ·exact od5 p hp
noncomputable def apart (a c : List Pln) : Bool := !((chk a == 0) && (chk c == 0)) || !ball (a ++ c ++ ws)
theorem yc2 {a c : List Pln} (ha : a.length ≤ 100000000) (hc : c.length ≤ 100000000) : va3 a c = some (b (apart a c), []) := by
 have hn : [a, c].length ≤ 1000000000 := by simp
 have hl : ∀ x ∈ [a, c], x.length ≤ 1000000000 := by
  intro x hx
  simp only [List.mem_cons, List.not_mem_nil, or_false] at hx
  rcases hx with rfl | rfl <;> omega
 have hf : [a, c].flatten = a ++ c := by simp
 have hfl : [a, c].flatten.length ≤ 1000000000 := by rw [hf, List.length_append]; omega
 unfold va3 apart
 simp only [D9, fa0, wc3 _ hn hl, wc4 _ hn hl, Ad0 _ hn hfl, Ad1 _ hn hfl, hf, List.all_cons, List.all_nil, Bool.and_true]
 cases h1 : chk a == 0 with
 | false => rfl
 | true =>
  cases h2 : chk c == 0 with
  | false => rfl
  | true =>
   obtain ⟨q1, q2⟩ := yc1 h1 h2
   rw [Zc8 _ q1 q2, Zc9 _ q1 q2]
   rfl
theorem ab2 {a c : List Pln} (ha : a.length ≤ 100000000) (hc : c.length ≤ 100000000) : U9 a c = apart a c := by unfold U9; rw [yc2 ha hc]; rfl
theorem ab3 {a c : List Pln} (ha : a.length ≤ 100000000) (hc : c.length ≤ 100000000) : G5 a c = true := by unfold G5; rw [yc2 ha hc]; rfl
noncomputable def ad9 (a c : List Pln) : Bool := ful a && ((chk c == 0) && (pts a).all (inn c))
theorem Gc0 (x : Pt) (c : List Pln) (hc : c.length ≤ 1000000000) : qa9 ⟨x.px, x.py, x.pz, x.pw, c⟩ = ⟨1, !inn c x⟩ := by
 unfold qa9 Z5
 simp only [D9, fa0, K6]
 show sl (P0 c x) (ga9.mk 1 (!O9 c x)) _ = _
 rw [Ub1 c x hc, Ub2 c x hc]
 rfl
theorem gc2 {a c : List Pln} (ha : a.length ≤ 1000000000) (hc : c.length ≤ 1000000000) : pa7 a c = some (b (ad9 a c), []) := by
 have hX := mc9 a
 have h := Xa5 (step := D4 ⟨pts a, ((pts a).length : Int)⟩) (mk := fun j => (⟨(j : Int), c⟩ : l7)) (c := fun x => !inn c x) (u := 1) (fin := 2) tX (pts a) (by omega)
  (fun j hj => by
   simp only [D4, A8, Int.toNat_natCast, D9, F7, Gc0 _ _ hc, L7 hj (show (pts a).length ≤ 4611686018427387904 by omega)]
   rw [btD (J1 hj), bt (q7 hj)]
   rfl)
  (by simp only [D4, A8]; rw [bfD (ka7 (Nat.lt_irrefl _))]) 0 (Nat.zero_le _)
 rw [List.drop_zero] at h
 have e : ((pts a).any fun x => !inn c x) = !(pts a).all (inn c) := by rw [List.not_all_eq_any_not]
 unfold pa7 R9 y8 Z0 B8 ad9
 simp only [D9, F7, fa0, jb5 ha, jb6 ha, zb6 c hc, zb7 c hc, jb3 ha, jb4 ha]
 rw [show (⟨0, c⟩ : l7) = ⟨((0 : Nat) : Int), c⟩ from rfl, h, e]
 cases ful a with
 | false => rfl
 | true =>
  cases chk c == 0 with
  | false => rfl
  | true =>
   cases (pts a).all (inn c) with
   | true => rfl
   | false =>
    simp only [Bool.not_false, if_true, Nat.zero_add]
    show some (b (!(decide ((((pts a).findIdx fun x => !inn c x : Nat) : Int) ≥ 0))), []) = _
    rw [show decide ((((pts a).findIdx fun x => !inn c x : Nat) : Int) ≥ 0) = true from decide_eq_true (by omega)]
    rfl
theorem bd0 {a c : List Pln} (ha : a.length ≤ 1000000000) (hc : c.length ≤ 1000000000) : pa8 a c = ad9 a c := by unfold pa8; rw [gc2 ha hc]; rfl
theorem bd1 {a c : List Pln} (ha : a.length ≤ 1000000000) (hc : c.length ≤ 1000000000) : pa9 a c = true := by unfold pa9; rw [gc2 ha hc]; rfl
end Go.Ev.Ce
namespace Go.Ev.L
open Go Go.Ev Go.Sort Go.Proofs
section
variable {α : Type} [Inhabited α] {P : Program} {G : Nat → List Value} {g : FuncId} {S : Sum} {t : Ty α} {enc : α → List Value} {cf : α → α → Int}
theorem kd8 (hc : i6 P G g S) (hS : ∀ x y, (S [.agg (t.row x), .agg (t.row y)] []).run = some (i (cf x y), [])) (hG : ∀ n, G n = []) (he : ∀ x, t.row x = (enc x).map .v) (k blk off size : Nat) (w : World) :
  CmpLays P g #[] enc k cf blk off size w := by
 intro m os dk _ x y
 generalize sortWorldK enc k w blk off m dk os = w0
 have hrow : ∀ (z : α), S1 (fun _ => ⟨0, 0, 0⟩) [] (fun _ _ => False) w0 (.agg (t.row z)) (.agg (enc z).toArray) := fun z => by
  refine .agg _ _ (by rw [he]; simp) fun i u u' hu hu' => ?_
  rw [he, List.getElem?_map] at hu
  have hu' : (enc z)[i]? = some u' := by simpa using hu'
  rw [hu'] at hu
  injection hu with hu
  subst hu
  exact .v _
 obtain ⟨_, h⟩ := hc _ _ _ _ (hS x y) (fun k => w0.heap.size ≤ k) (fun _ => ⟨0, 0, 0⟩) (fun _ _ => False) w0 [.agg (enc x).toArray, .agg (enc y).toArray]
  ⟨fun id b hb => by simp at hb, fun id id' b b' hb => by simp at hb, fun b o hf => hf.elim, fun k hk => hk⟩ rfl
  (fun i u u' hu hu' => by
   match i, hu, hu' with
   | 0, hu, hu' => cases hu; cases hu'; exact .val (hrow x)
   | 1, hu, hu' => cases hu; cases hu'; exact .val (hrow y))
  (fun n c v hv => by rw [hG] at hv; simp at hv)
 refine h.mono fun e w' ⟨r', h1, ρ', F', h2, h3, h4⟩ => ?_
 have h5 := S3 h4
 subst h5
 refine ⟨h1, w'.drawn - w0.drawn, w'.heap.extract w0.heap.size w'.heap.size, ?_⟩
 have hd := h2.ext.drawn
 have hs := h2.ext.size
 have hheap : w'.heap = w0.heap ++ w'.heap.extract w0.heap.size w'.heap.size := by
  apply Array.ext_getElem?
  intro j
  rcases Nat.lt_or_ge j w0.heap.size with hj | hj
  ·rw [Array.getElem?_append_left hj, h2.ext.block j hj (by omega)]
  ·rw [Array.getElem?_append_right hj, Array.getElem?_extract]
   have e : w0.heap.size + (j - w0.heap.size) = j := by omega
   rw [e]
   split
   ·rfl
   ·rw [Array.getElem?_eq_none (by omega)]
 obtain ⟨hp, tp, dr, os', out⟩ := w'
 have e1 := h2.ext.os; have e2 := h2.ext.tape; have e3 := h2.ext.output
 simp only at e1 e2 e3 hd hheap
 subst e1 e2 e3
 unfold grow World.drewN
 simp only
 congr 1
 omega
noncomputable def bd2 (t : Ty α) (g : Nat) (et : Nat) (srt : List α → List α) : Sum := fun args blks => match args, blks with
 | [.sl 0 0 n 0, .fn g' []], [⟨et', es', el, true, false, 0⟩] =>
  Bool.rec (motive := fun _ => DT (a7 × List a8)) .fail (.guard (Bool.and (Nat.ble n room) (Bool.and (Nat.ble n (len el)) (okS t el 0 n))) (.ret (.v (.tuple #[]), [⟨et', es', app (bL t (srt (slR t el 0 n))) (j7 el n), true, false, 0⟩])))
   (Bool.and (Nat.beq g' g) (Bool.and (Nat.beq et' et) (Nat.beq es' t.es)))
 | _, _ => .fail
theorem Ab7 (l : List α) (j : Nat) (h : j < l.length) : l.toArray[j]! = l[j] := by
 rw [getElem!_pos l.toArray j (by simpa using h)]
 simp
theorem kd9 {f : FuncId} {et : Nat} {srt : List α → List α} (hcall : eb6 P f) (hes : 0 < t.es) (he : ∀ x, t.row x = (enc x).map .v) (hx : ∀ r, t.ok r = true → r = t.row (t.rd r)) (h1 : ∀ x, ∀ v ∈ enc x, v.oneCell' = true)
  (hlen : ∀ l, (srt l).length = l.length) (hcl : ∀ blk off size w, CmpLays P g #[] enc t.es cf blk off size w)
  (hcon : ∀ (blk cap : Nat) (d : Array α) (w : World), (∀ off size, CmpLays P g #[] enc t.es cf blk off size w) → HoldsK enc t.es w blk 0 d → blk < w.heap.size → d.size < 4611686018427387904 →
   Calls P f #[.slice (some ⟨blk, 0, none⟩) d.size cap, .func (.func g) #[] #[]] w fun e w' => e = .returned (.tuple #[]) ∧ ∃ n os, w' = sortWorldK enc t.es w blk 0 n (srt d.toList).toArray os) :
  i6 P G f (bd2 t g et srt) := by
 intro args blks r out hr W ρ F w args' hH hl hargs hG
 refine ⟨hcall, ?_⟩
 unfold bd2 at hr
 split at hr
 case h_2 => cases hr
 rename_i n g' et' es' el
 cases hb0 : Bool.and (Nat.beq g' g) (Bool.and (Nat.beq et' et) (Nat.beq es' t.es)) with
 | false => rw [hb0] at hr; cases hr
 | true =>
 rw [hb0] at hr
 rw [Bool.and_eq_true, Bool.and_eq_true] at hb0
 have q1 := Nat.eq_of_beq_eq_true hb0.1; have q2 := Nat.eq_of_beq_eq_true hb0.2.1; have q3 := Nat.eq_of_beq_eq_true hb0.2.2
 subst q1 q2 q3
 obtain ⟨hg0, hr⟩ := DT.run_guard_some hr
 rw [Bool.and_eq_true, Bool.and_eq_true] at hg0
 have hroom : n ≤ room := Nat.le_of_ble_eq_true hg0.1
 have hn := Nat.le_of_ble_eq_true hg0.2.1
 rw [j6] at hn
 have hok := hg0.2.2
 injection hr with hr; injection hr with p1 p2; subst p1 p2
 match args', hl with
 | [v0, v1], _ =>
 obtain ⟨a, cap, b, rfl, hb, hd, _, hncap, hspot, hcap, hq⟩ := na8 (hargs 0 _ _ rfl rfl)
 obtain ⟨vs1, rfl, hvs1, _⟩ := Wa1 (hargs 1 _ _ rfl rfl)
 have hvs1 : vs1 = #[] := Array.eq_empty_of_size_eq_zero (by simpa using hvs1.symm)
 subst hvs1
 have hb : b = ⟨et', t.es, el, true, false, 0⟩ := by simpa using hb.symm
 subst hb
 obtain ⟨ha, hsz, hne⟩ := hq rfl
 have ha : a = ⟨(ρ 0).blk, (ρ 0).off + 0 * t.es, none⟩ := ha.resolve_left fun h => by omega
 obtain ⟨cc, tt, fr, hB⟩ := hH.blk 0 _ rfl rfl
 obtain ⟨hfr, hW, hoff, hsize, hnF, het⟩ := hB.own rfl
 subst hfr
 rw [hoff, Nat.zero_mul, Nat.add_zero] at ha
 subst ha
 generalize hbk : (ρ 0).blk = blk at *
 -- the rows as data
 have hrow : ∀ j, j < n → s4 el j = (enc (gL t (slR t el 0 n) j)).map .v := fun j hj => by
  have h2 : t.ok (s4 el (0 + j)) = true := List.all_eq_true.1 hok j (by simpa using hj)
  rw [Nat.zero_add] at h2
  rw [← he, slR, Ic3 t _ hj, Nat.zero_add]
  exact hx _ h2
 have hld : (slR t el 0 n).length = n := Ic2 ..
 have hk : ∀ x, (enc x).length = t.es := fun x => by have := t.h0 x; rw [j6, he] at this; simpa using this
 have hlt : blk < w.heap.size := by
  have := hB.obj
  rcases Nat.lt_or_ge blk w.heap.size with h | h
  ·exact h
  ·rw [hbk, Array.getElem?_eq_none h] at this; cases this
 have hobj : w.heap[blk]? = some (.cells cc tt (0, 0)) := by rw [← hbk]; exact hB.obj
 have hgd : ∀ (l : List α) (j : Nat) (h : j < l.length), gL t l j = l[j] := fun l j h => by simp [gL, List.getD_eq_getElem?_getD, List.getElem?_eq_getElem h]
 have hdm : ∀ q, q < n * t.es → q / t.es < n ∧ q % t.es < t.es ∧ (q / t.es) * t.es + q % t.es = q := fun q hq => ⟨Nat.div_lt_of_lt_mul (by rw [Nat.mul_comm]; exact hq), Nat.mod_lt _ hes, Nat.div_add_mod' q t.es⟩
 have hrowAt : ∀ j, j < el.length → el[j]? = some (s4 el j) := fun j hj => by
  unfold s4; rw [y9, List.getElem?_eq_getElem hj]
 have hH0 : HoldsK enc t.es w blk 0 (slR t el 0 n).toArray := by
  intro q hq
  have hq : q < n * t.es := by rw [size_flatK] at hq; simpa [hld] using hq
  obtain ⟨e1, e2, e3⟩ := hdm q hq
  rw [get_flatK _ _ _ _ (by simpa [hld] using hq), Ab7 _ _ (by rw [hld]; exact e1), ← hgd _ _ (by rw [hld]; exact e1)]
  have hcx : (s4 el (q / t.es))[q % t.es]? = some (.v ((enc (gL t (slR t el 0 n) (q / t.es)))[q % t.es]!)) := by
   rw [hrow _ e1, List.getElem?_map, List.getElem?_eq_getElem (by rw [hk]; exact e2), getElem!_pos _ _ (by rw [hk]; exact e2)]
   rfl
  obtain ⟨x', h5, h6⟩ := hB.cell (q / t.es) _ (q % t.es) _ (hrowAt _ (by omega)) hcx
  have h6 : x' = (enc (gL t (slR t el 0 n) (q / t.es)))[q % t.es]! := by cases h6; rfl
  subst h6
  rw [hoff] at h5
  simp only [e3, Nat.zero_add] at h5
  constructor
  ·simp only [World.cell?, hobj, Nat.zero_add]
   simpa using h5
  ·simp [World.frozen?, hobj]
 have hds : (slR t el 0 n).toArray.size = n := by simpa using hld
 have hmax : n < 4611686018427387904 := by unfold room at hroom; omega
 have hcalls := hcon blk cap (slR t el 0 n).toArray w (fun off size => hcl blk off size w) hH0 hlt (by rw [hds]; exact hmax)
 rw [hds] at hcalls
 refine hcalls.mono fun e w' ⟨h5, m, os, h6⟩ => ⟨_, h5, ρ, F, ?_⟩
 generalize hsd : srt (slR t el 0 n) = sd at *
 have hsl : sd.length = n := by rw [← hsd, hlen, hld]
 have h6 : w' = grow (mapBlock (Sort.ahead w m) blk (putCells id 0 (flatK enc t.es sd.toArray))) os := h6
 have hw'size : w'.heap.size = w.heap.size + os.size := by rw [h6]; simp [mapBlock]
 have hold : ∀ k, k < w.heap.size → k ≠ blk → w'.heap[k]? = w.heap[k]? := fun k h7 h8 => by
  rw [h6]
  simp only [grow, mapBlock]
  rw [Array.getElem?_append_left (by simpa using h7), Array.getElem?_modify]
  simp [Ne.symm h8]
 have hnew : w'.heap[blk]? = some (.cells (putCells id 0 (flatK enc t.es sd.toArray) cc) tt (0, 0)) := by
  rw [h6]
  simp only [grow, mapBlock]
  rw [Array.getElem?_append_left (by simpa using hlt), Array.getElem?_modify]
  simp [hobj, onCells]
 have hcells : ∀ b o, F b o → w'.cell? ⟨b, o, none⟩ = w.cell? ⟨b, o, none⟩ := fun b o hf => by
  have h7 : b ≠ blk := fun h8 => hnF o (h8 ▸ hf)
  have := Va8 (hH.frz b o hf)
  simp only [World.cell?, hold b this h7]
 have hpc : ∀ q, q < cc.size → (putCells id 0 (flatK enc t.es sd.toArray) cc)[q]? = if q < n * t.es then some ((enc sd.toArray[q / t.es]!)[q % t.es]!) else cc[q]? := fun q hq => by
  simp only [putCells, Array.getElem?_mapIdx, Array.getElem?_eq_getElem hq, Option.map_some, size_flatK, Nat.zero_le, true_and, Nat.zero_add, Nat.sub_zero, id]
  have : sd.toArray.size = n := by simpa using hsl
  rw [this]
  split
  ·next h7 => rw [get_flatK _ _ _ _ (by rw [this]; exact h7)]
  ·rfl
 have hel : (app (bL t sd) (j7 el n)).length = el.length := by
  rw [B9, List.length_append, ← j6 (bL t sd), ta4, hsl, F6, List.length_drop]
  omega
 have hnrow : ∀ (j : Nat) r, (app (bL t sd) (j7 el n))[j]? = some r → (j < n ∧ r = t.row (gL t sd j)) ∨ (n ≤ j ∧ el[j]? = some r) := fun j r hr => by
  have hlb : (bL t sd).length = n := by rw [← j6, ta4, hsl]
  rw [B9] at hr
  rcases Nat.lt_or_ge j n with h7 | h7
  ·rw [List.getElem?_append_left (by omega)] at hr
   left
   refine ⟨h7, ?_⟩
   unfold bL at hr
   rw [o3, List.getElem?_map, List.getElem?_eq_getElem (by omega)] at hr
   injection hr with hr
   rw [← hr, hgd sd j (by omega)]
  ·rw [List.getElem?_append_right (by omega), hlb, F6, List.getElem?_drop] at hr
   right
   exact ⟨h7, by rw [← hr]; congr 1; omega⟩
 have hcs : el.length * t.es ≤ cc.size := by have := hB.len; rw [hsize] at this; exact this
 refine ⟨⟨⟨?_, ?_, ?_, by omega, fun k h7 h8 => hold k h7 fun h9 => h8 (h9 ▸ hW), hcells, ?_⟩, fun id b hb => ?_, fun _ _ h => h, fun _ _ h => .inl h, fun id b' hb' hn' => ?_⟩, ⟨fun id b hb hd' => ?_, fun id id' b b' hb hb' h7 h8 h9 h10 => ?_, fun b o hf => by rw [hcells b o hf]; exact hH.frz b o hf, fun k hk' => hH.new k (by omega)⟩, .ofv _⟩
 ·rw [h6]; rfl
 ·rw [h6]; rfl
 ·rw [h6]; rfl
 ·rw [h6]; exact Nat.le_add_right _ _
 ·match id, hb with
  | 0, hb =>
   cases hb
   exact ⟨_, rfl, rfl, Nat.le_refl _, fun _ => ⟨rfl, rfl, by simp only [hel]; exact Nat.le_refl _⟩⟩
 ·match id, hb' with
  | 0, hb' => cases hb'; exact absurd rfl (hn' ⟨et', t.es, el, true, false, 0⟩ rfl)
 ·match id, hb with
  | 0, hb =>
   cases hb
   refine ⟨_, tt, (0, 0), by rw [hbk]; exact hnew, ?_, ?_, ?_, ?_, fun _ => ⟨rfl, by rw [hbk]; exact hW, hoff, ?_, by rw [hbk]; exact hnF, het⟩, fun h => by cases h⟩
   ·rw [hoff, hsize]; simp [putCells]
   ·simp only [hel]; exact hB.len
   ·intro j r hr
    rcases hnrow j r hr with ⟨_, h8⟩ | ⟨_, h8⟩
    ·rw [h8, ← j6]; exact t.h0 _
    ·exact hB.rows j r h8
   ·intro j r c x hr hc
    rw [hoff, Nat.zero_add]
    rcases hnrow j r hr with ⟨h7, h8⟩ | ⟨h7, h8⟩
    ·subst h8
     have hclt : c < t.es := by
      have := (List.getElem?_eq_some_iff.1 hc).1
      rw [← j6, t.h0] at this
      exact this
     have hq : j * t.es + c < n * t.es := by
      have := Nat.mul_le_mul_right t.es (show j + 1 ≤ n from h7)
      rw [Nat.add_mul, Nat.one_mul] at this
      omega
     have hqn : n * t.es ≤ el.length * t.es := Nat.mul_le_mul_right _ hn
     have e1 : (j * t.es + c) / t.es = j := by rw [Nat.mul_comm, Nat.mul_add_div hes, Nat.div_eq_of_lt hclt, Nat.add_zero]
     have e2 : (j * t.es + c) % t.es = c := by rw [Nat.mul_comm, Nat.mul_add_mod, Nat.mod_eq_of_lt hclt]
     rw [he, List.getElem?_map, List.getElem?_eq_getElem (by rw [hk]; exact hclt)] at hc
     injection hc with hc
     subst hc
     refine ⟨(enc (gL t sd j))[c]'(by rw [hk]; exact hclt), ?_, .v _ (h1 _ _ (List.getElem_mem _))⟩
     rw [hpc _ (Nat.lt_of_lt_of_le hq (Nat.le_trans hqn hcs)), if_pos hq, e1, e2, Ab7 _ _ (by omega), hgd sd j (by omega), getElem!_pos _ _ (by rw [hk]; exact hclt)]
    ·obtain ⟨x', h9, h10⟩ := hB.cell j r c x h8 hc
     rw [hoff, Nat.zero_add] at h9
     have hq : ¬ j * t.es + c < n * t.es := by
      have := Nat.mul_le_mul_right t.es h7
      omega
     have hlt' : j * t.es + c < cc.size := (Array.getElem?_eq_some_iff.1 h9).1
     exact ⟨x', by rw [hpc _ hlt', if_neg hq]; exact h9, h10.adv (fun _ _ h => h) hcells⟩
   ·rw [hsize]; simp [putCells]
 ·match id, hb, id', hb' with
  | 0, hb, 0, hb' => exact absurd rfl h10
end
end Go.Ev.L
namespace Go.Proofs
open Go.Shelf
shelf_lay_g SlLaysF0.n6 Slsf 6 at Try 33 as Ce.sortLay
end Go.Proofs
namespace Go.Ev.Ce
open Go Go.Ev Go.Ev.L Go.Proofs Go.Sort
def tb8 (x y : Int) : Int := if x < y then -1 else if x > y then 1 else 0
def La6 (x y : Pln) : Int :=
 if tb8 x.n.x y.n.x = 0 then if tb8 x.n.y y.n.y = 0 then if tb8 x.n.z y.n.z = 0 then tb8 x.b y.b else tb8 x.n.z y.n.z else tb8 x.n.y y.n.y else tb8 x.n.x y.n.x
theorem Nb2 (x y : Int) : tb8 x y < 0 ↔ x < y := by unfold tb8; split <;> (try split) <;> omega
theorem nc6 (x y : Int) : tb8 x y = 0 ↔ x = y := by unfold tb8; split <;> (try split) <;> omega
def LtP (x y : Pln) : Prop := x.n.x < y.n.x ∨ x.n.x = y.n.x ∧ (x.n.y < y.n.y ∨ x.n.y = y.n.y ∧ (x.n.z < y.n.z ∨ x.n.z = y.n.z ∧ x.b < y.b))
instance (x y : Pln) : Decidable (LtP x y) := by unfold LtP; exact inferInstance
theorem ld0 (x y : Pln) : La6 x y < 0 ↔ LtP x y := by
 have h1 := Nb2 x.n.x y.n.x; have h2 := nc6 x.n.x y.n.x
 have h3 := Nb2 x.n.y y.n.y; have h4 := nc6 x.n.y y.n.y
 have h5 := Nb2 x.n.z y.n.z; have h6 := nc6 x.n.z y.n.z
 have h7 := Nb2 x.b y.b
 unfold La6 LtP
 split
 ·split
  ·split <;> omega
  ·omega
 ·omega
theorem Ia1 (x y : Pln) : ltOf La6 x y = decide (LtP x y) := by
 unfold ltOf
 rw [decide_eq_decide]
 exact ld0 x y
theorem Ad6 : SWO (ltOf La6) where
 irrefl x := by rw [Ia1]; simp [LtP]
 trans x y z h1 h2 := by rw [Ia1, decide_eq_true_eq] at *; unfold LtP at *; omega
 ntrans x y z h1 h2 := by rw [Ia1, decide_eq_false_iff_not] at *; unfold LtP at *; omega
theorem Ad7 (x y : Pln) (h1 : ltOf La6 x y = false) (h2 : ltOf La6 y x = false) : x = y := by
 rw [Ia1, decide_eq_false_iff_not] at *
 unfold LtP at *
 obtain ⟨⟨a, b, c⟩, d⟩ := x; obtain ⟨⟨a', b', c'⟩, d'⟩ := y
 simp only at *
 have : a = a' ∧ b = b' ∧ c = c' ∧ d = d' := by omega
 obtain ⟨rfl, rfl, rfl, rfl⟩ := this
 rfl
theorem yc3 (x y : Int) : pa6 x y = some (i (tb8 x y), []) := by
 unfold pa6 tb8
 simp only [Xa3, decide_eq_true_eq]
 split <;> (try split) <;> rfl
theorem Kc8 (x y : Int) : V6 x y = tb8 x y := by unfold V6; rw [yc3]; rfl
theorem Kc9 (x y : Int) : V7 x y = true := by unfold V7; rw [yc3]; rfl
theorem Vb9 (x y : Pln) : ga8 x y = some (i (La6 x y), []) := by
 unfold ga8 La6
 simp only [Kc8, Kc9, Xa3, beq_iff_eq, if_true]
 repeat' (first | rfl | split)
theorem Ad8 (x y : Pln) : qa6 x y = La6 x y := by unfold qa6; rw [Vb9]; rfl
theorem Ad9 (x y : Pln) : qa7 x y = true := by unfold qa7; rw [Vb9]; rfl
theorem Bd0 (x y : Pln) : (Ea8 [.agg (tP.row x), .agg (tP.row y)] []).run = some (i (La6 x y), []) := by
 have : (Ea8 [.agg (tP.row x), .agg (tP.row y)] []).run = sel (qa7 x y) (some (i (qa6 x y), [])) none := by kernel_rfl
 rw [this, Ad9, Ad8]
def Eb1 (p : Pln) : List Value := [.int .i64 p.n.x, .int .i64 p.n.y, .int .i64 p.n.z, .int .i64 p.b]
instance : Inhabited Pln := ⟨⟨⟨0, 0, 0⟩, 0⟩⟩
def bb6 (l : List Pln) : List Pln := l.mergeSort fun x y => !ltOf La6 y x
theorem gc3 (l : List Pln) : (bb6 l).length = l.length := List.length_mergeSort l
noncomputable def sa2 : Sum := bd2 tP 34 42 bb6
theorem bd3 : Ce.sortLay_ren.f 6 = 33 := by kernel_rfl
theorem gc4 : Ce.sortLay_ren.t 24 = 42 := by kernel_rfl
set_option maxRecDepth 100000 in
theorem Sa7 : i6 prog G 33 sa2 := by
 refine kd9 (enc := Eb1) (cf := La6) ⟨_, Try.func33, by kernel_rfl, of_decide_eq_true (by kernel_rfl)⟩ (by decide) (fun _ => rfl) (fun r h => xa2 (n := 4) h) (fun x v hv => ?_) gc3
  (fun blk off size w => kd8 Gb0 Bd0 (fun _ => rfl) (fun _ => rfl) _ _ _ _ _) (fun blk cap d w hcl hH hb hs => ?_)
 ·simp [Eb1] at hv
  rcases hv with rfl | rfl | rfl | rfl <;> rfl
 ·have eg : ∀ args w, (callFunc 34 args).run Try.prog w = .ok (.enter 34 args) w := enters_of Try.func34 (by kernel_rfl) rfl
  have := AnyQ.slices_SortFunc Ce.sortLay 4 (by rw [gc4]; exact Try.isAgg42) (by rw [gc4]; exact Try.sizeOf42) Eb1 (fun _ => rfl) (fun x v hv => by simp [Eb1] at hv; rcases hv with rfl | rfl | rfl | rfl <;> rfl) La6 Ad6 34 #[] blk 0 cap d w eg (hcl 0 d.size) hH hb hs
  rw [bd3] at this
  refine this.mono fun e w' ⟨h1, d', n, os, h2, h3, h4⟩ => ⟨h1, n, os, ?_⟩
  have h5 := sorted_unique_holds Ad6 Ad7 d d' h2 h3
  rw [h4]
  show _ = sortWorldK Eb1 4 w blk 0 n (d.toList.mergeSort fun x y => !ltOf La6 y x).toArray os
  rw [← h5]
end Go.Ev.Ce
section
namespace Go.Ev.Ce
open Go Go.Ev Go.Ev.L Go.Proofs
set_option maxRecDepth 100000
noncomputable def cb5 : List (Nat × Sum) := []
theorem ab4 : m8 prog G cb5 := trivial
structure aa7 where
 alt : Nat
 ns0 : Nat
 eh0 : List (List a7)
noncomputable def J9 {α : Type} (kk : aa7 → α) (x : Pln × List Pln) : α := (sl (Nat.beq (len (o9 (fun k => (tP).row (gL tP (x.1 :: x.2) k)) (List.range (List.length x.2 + 1)))) 0) (kk ⟨1, 0, []⟩) (sl (Nat.beq 0 0 && Nat.ble ((0 + (len (o9 (fun k => (tP).row (gL tP (x.1 :: x.2) k)) (List.range (List.length x.2 + 1))))) * 32) room) (kk ⟨1, (0 + (len (o9 (fun k => (tP).row (gL tP (x.1 :: x.2) k)) (List.range (List.length x.2 + 1))))), (app [] (o9 (fun k => (tP).row (gL tP (x.1 :: x.2) k)) (List.range (List.length x.2 + 1))))⟩) (kk ⟨0, 0, []⟩)))
noncomputable def aa8 (x : Pln × List Pln) : aa7 := J9 (fun r => r) x
noncomputable def ia7 (r : aa7) : DT (a7 × List a8) := (.ite (Nat.beq r.alt 1) (.ret ((.sl 0 0 r.ns0 0), [⟨42, 4, r.eh0, true, false, 0⟩])) .fail)
theorem kb2 {α β : Type} (F : α → β) (kk : aa7 → α) (x : Pln × List Pln) : F (J9 kk x) = J9 (fun r => F (kk r)) x := by unfold J9; (repeat' apply z8 (f := F)) <;> rfl
noncomputable def Ca0 : Sum := ra1 (xd9 tP) (fun x => ia7 (aa8 x))
theorem cb6 : i6 prog G 30 Ca0 := xb0 (bd b30 ab4) fun x => C6 (Eq.trans (b := J9 (fun r => (ia7 r).run) x) (by kernel_rfl) (kb2 (fun r => (ia7 r).run) (fun r => r) x).symm)
noncomputable def nc7 : List (Nat × Sum) := [(20, sa1), (9, pa3), (30, Ca0), (29, na4), (33, sa2), (35, va2)]
theorem ac6 : m8 prog G nc7 := ⟨ua8, ua7, cb6, Ka9, Sa7, Va3, trivial⟩
noncomputable def Ca1 (x : Pln × List Pln) : Option (a7 × List a8) := let t1 := (V5 (rt tP (x.1 :: x.2))); let t2 := (V2 (rt tP (x.1 :: x.2))); let t3 := (aa8 (hC tP (fun k => (tP).row (gL tP (x.1 :: x.2) k)), tC tP (List.length x.2) (fun k => (tP).row (gL tP (x.1 :: x.2) k)))); let t4 := (N4 ⟨t3.ns0, t3.eh0, (rt tX t2)⟩); let t5 := (U5 ⟨t4.ns0, (app (bL tP (bb6 (slR tP t4.eh0 0 t4.ns0))) (j7 t4.eh0 t4.ns0))⟩); (sl (okE tP (x.1 :: x.2)) (sl (L5 (rt tP (x.1 :: x.2))) (sl (!t1) (some ((.v (.slice none 0 0)), [])) (sl (okE tP (x.1 :: x.2)) (sl (V4 (rt tP (x.1 :: x.2))) (sl (okL tP (List.length x.2 + 1) (fun k => (tP).row (gL tP (x.1 :: x.2) k))) (sl (Nat.beq t3.alt 1) (sl ((cnE tX t2) && true) (sl (Nat.beq t4.alt 1) (sl (Bool.and (Nat.ble t4.ns0 room) (Bool.and (Nat.ble t4.ns0 (len t4.eh0)) (okS tP t4.eh0 0 t4.ns0))) (sl (Nat.beq t5.alt 1) (some ((.sl 0 0 t5.ns0 0), [⟨42, 4, t5.eh0, true, false, 0⟩])) none) none) none) none) none) none) none) none)) none) none)
noncomputable def kb3 (x : Pln × List Pln) : List Pln := ea8 (one (r1L tP)) (Ca1 x)
noncomputable def kb4 (x : Pln × List Pln) : Bool := okO (one (r1L tP)) (Ca1 x)
noncomputable def Ib6 : Sum := ra1 (xd9 tP) (fun x => .guard (kb4 x) (.ret ((one (r1L tP)).enc (kb3 x), [])))
theorem nc8 : i6 prog G 10 Ib6 := Ta3 (bd b10 ac6) (one (r1L tP)) (o := Ca1) fun x => C6 (by kernel_rfl)
noncomputable def Lb3 : List (Nat × Sum) := [(21, Ab6), (9, pa3), (22, Va2), (10, Ib6), (23, Vb2), (20, sa1), (14, tb6), (8, zb0), (12, Za9), (13, qb4), (19, Ga2)]
theorem Gb3 : m8 prog G Lb3 := ⟨ac5, ua7, zb9, nc8, xc1, ua8, Ib4, Zb4, qb3, Vb7, Ra4, trivial⟩
noncomputable def la2  : Option (a7 × List a8) := let t1 := ab1; let t2 := (V2 [(⟨(⟨1, 0, 0⟩ : V3), t1.d7⟩ : Pln), (⟨(⟨(-1), 0, 0⟩ : V3), t1.r4⟩ : Pln), (⟨(⟨0, 1, 0⟩ : V3), t1.r5⟩ : Pln), (⟨(⟨0, (-1), 0⟩ : V3), t1.r6⟩ : Pln), (⟨(⟨0, 0, 1⟩ : V3), t1.r7⟩ : Pln), (⟨(⟨0, 0, (-1)⟩ : V3), t1.r8⟩ : Pln)]); let t3 := (V2 [(⟨(⟨(-1), 0, 0⟩ : V3), 0⟩ : Pln), (⟨(⟨0, (-1), 0⟩ : V3), 0⟩ : Pln), (⟨(⟨0, 0, (-1)⟩ : V3), 0⟩ : Pln), (⟨(⟨2, 3, 4⟩ : V3), 1⟩ : Pln)]); let t4 := (ea0 (rt tX t2) [(⟨1, 1, 1, 1⟩ : Pt), (⟨1, 1, 0, 1⟩ : Pt), (⟨1, 0, 1, 1⟩ : Pt), (⟨1, 0, 0, 1⟩ : Pt), (⟨0, 1, 1, 1⟩ : Pt), (⟨0, 1, 0, 1⟩ : Pt), (⟨0, 0, 1, 1⟩ : Pt), (⟨0, 0, 0, 1⟩ : Pt)]); let t5 := (ea0 (rt tX t3) [(⟨0, 0, 0, 1⟩ : Pt), (⟨0, 0, 1, 4⟩ : Pt), (⟨0, 1, 0, 3⟩ : Pt), (⟨1, 0, 0, 2⟩ : Pt)]); let t6 := (kb3 ((⟨(⟨1, 0, 0⟩ : V3), t1.d7⟩ : Pln), [(⟨(⟨(-1), 0, 0⟩ : V3), t1.r4⟩ : Pln), (⟨(⟨0, 1, 0⟩ : V3), t1.r5⟩ : Pln), (⟨(⟨0, (-1), 0⟩ : V3), t1.r6⟩ : Pln), (⟨(⟨0, 0, 1⟩ : V3), t1.r7⟩ : Pln), (⟨(⟨0, 0, (-1)⟩ : V3), t1.r8⟩ : Pln), (⟨(⟨1, 0, 0⟩ : V3), t1.d7⟩ : Pln), (⟨(⟨1, 1, 1⟩ : V3), 3⟩ : Pln), (⟨(⟨1, 0, 0⟩ : V3), 7⟩ : Pln)])); let t7 := (Za5 (rt tP t6) [(⟨(⟨(-1), 0, 0⟩ : V3), t1.r4⟩ : Pln), (⟨(⟨0, (-1), 0⟩ : V3), t1.r6⟩ : Pln), (⟨(⟨0, 0, (-1)⟩ : V3), t1.r8⟩ : Pln), (⟨(⟨0, 0, 1⟩ : V3), t1.r7⟩ : Pln), (⟨(⟨0, 1, 0⟩ : V3), t1.r5⟩ : Pln), (⟨(⟨1, 0, 0⟩ : V3), t1.d7⟩ : Pln)]); let t8 := (V5 []); let t9 := (V5 [(⟨(⟨1, 0, 0⟩ : V3), t1.d7⟩ : Pln), (⟨(⟨(-1), 0, 0⟩ : V3), t1.r4⟩ : Pln), (⟨(⟨0, 1, 0⟩ : V3), t1.r5⟩ : Pln), (⟨(⟨0, (-1), 0⟩ : V3), t1.r6⟩ : Pln), (⟨(⟨0, 0, 1⟩ : V3), t1.r7⟩ : Pln), (⟨(⟨0, 0, (-1)⟩ : V3), t1.r8⟩ : Pln), (⟨(⟨(-1), 0, 0⟩ : V3), (-1)⟩ : Pln)]); let t10 := (ra6 [(⟨(⟨1, 0, 0⟩ : V3), t1.d7⟩ : Pln), (⟨(⟨(-1), 0, 0⟩ : V3), t1.r4⟩ : Pln), (⟨(⟨0, 1, 0⟩ : V3), t1.r5⟩ : Pln), (⟨(⟨0, (-1), 0⟩ : V3), t1.r6⟩ : Pln), (⟨(⟨0, 0, 1⟩ : V3), t1.r7⟩ : Pln), (⟨(⟨0, 0, (-1)⟩ : V3), t1.r8⟩ : Pln)] (⟨1, 0, 0⟩ : V3)); let t11 := (ra6 [(⟨(⟨1, 0, 0⟩ : V3), t1.d7⟩ : Pln), (⟨(⟨(-1), 0, 0⟩ : V3), t1.r4⟩ : Pln), (⟨(⟨0, 1, 0⟩ : V3), t1.r5⟩ : Pln), (⟨(⟨0, (-1), 0⟩ : V3), t1.r6⟩ : Pln), (⟨(⟨0, 0, 1⟩ : V3), t1.r7⟩ : Pln), (⟨(⟨0, 0, (-1)⟩ : V3), t1.r8⟩ : Pln)] (⟨2, 0, 0⟩ : V3)); let t12 := (Ga8 [(⟨(⟨(-1), 0, 0⟩ : V3), 0⟩ : Pln), (⟨(⟨0, (-1), 0⟩ : V3), 0⟩ : Pln), (⟨(⟨0, 0, (-1)⟩ : V3), 0⟩ : Pln), (⟨(⟨2, 3, 4⟩ : V3), 1⟩ : Pln)]); let t13 := (U9 [(⟨(⟨1, 0, 0⟩ : V3), t1.d7⟩ : Pln), (⟨(⟨(-1), 0, 0⟩ : V3), t1.r4⟩ : Pln), (⟨(⟨0, 1, 0⟩ : V3), t1.r5⟩ : Pln), (⟨(⟨0, (-1), 0⟩ : V3), t1.r6⟩ : Pln), (⟨(⟨0, 0, 1⟩ : V3), t1.r7⟩ : Pln), (⟨(⟨0, 0, (-1)⟩ : V3), t1.r8⟩ : Pln)] [(⟨(⟨(-1), 0, 0⟩ : V3), (-1)⟩ : Pln)]); let t14 := (U9 [(⟨(⟨1, 0, 0⟩ : V3), t1.d7⟩ : Pln), (⟨(⟨(-1), 0, 0⟩ : V3), t1.r4⟩ : Pln), (⟨(⟨0, 1, 0⟩ : V3), t1.r5⟩ : Pln), (⟨(⟨0, (-1), 0⟩ : V3), t1.r6⟩ : Pln), (⟨(⟨0, 0, 1⟩ : V3), t1.r7⟩ : Pln), (⟨(⟨0, 0, (-1)⟩ : V3), t1.r8⟩ : Pln)] [(⟨(⟨(-1), (-1), 0⟩ : V3), (-1)⟩ : Pln)]); let t15 := (pa8 [(⟨(⟨1, 0, 0⟩ : V3), t1.d7⟩ : Pln), (⟨(⟨(-1), 0, 0⟩ : V3), t1.r4⟩ : Pln), (⟨(⟨0, 1, 0⟩ : V3), t1.r5⟩ : Pln), (⟨(⟨0, (-1), 0⟩ : V3), t1.r6⟩ : Pln), (⟨(⟨0, 0, 1⟩ : V3), t1.r7⟩ : Pln), (⟨(⟨0, 0, (-1)⟩ : V3), t1.r8⟩ : Pln)] [(⟨(⟨1, 1, 1⟩ : V3), 3⟩ : Pln)]); let t16 := (pa8 [(⟨(⟨1, 0, 0⟩ : V3), t1.d7⟩ : Pln), (⟨(⟨(-1), 0, 0⟩ : V3), t1.r4⟩ : Pln), (⟨(⟨0, 1, 0⟩ : V3), t1.r5⟩ : Pln), (⟨(⟨0, (-1), 0⟩ : V3), t1.r6⟩ : Pln), (⟨(⟨0, 0, 1⟩ : V3), t1.r7⟩ : Pln), (⟨(⟨0, 0, (-1)⟩ : V3), t1.r8⟩ : Pln)] [(⟨(⟨1, 1, 1⟩ : V3), 2⟩ : Pln)]); let t17 := (fa1 [(⟨(⟨0, 0, 0⟩ : V3), 0⟩ : Pln)]); (sl (V4 [(⟨(⟨1, 0, 0⟩ : V3), t1.d7⟩ : Pln), (⟨(⟨(-1), 0, 0⟩ : V3), t1.r4⟩ : Pln), (⟨(⟨0, 1, 0⟩ : V3), t1.r5⟩ : Pln), (⟨(⟨0, (-1), 0⟩ : V3), t1.r6⟩ : Pln), (⟨(⟨0, 0, 1⟩ : V3), t1.r7⟩ : Pln), (⟨(⟨0, 0, (-1)⟩ : V3), t1.r8⟩ : Pln)]) (sl (V4 [(⟨(⟨(-1), 0, 0⟩ : V3), 0⟩ : Pln), (⟨(⟨0, (-1), 0⟩ : V3), 0⟩ : Pln), (⟨(⟨0, 0, (-1)⟩ : V3), 0⟩ : Pln), (⟨(⟨2, 3, 4⟩ : V3), 1⟩ : Pln)]) (sl (okE tX t2) (sl (ea1 (rt tX t2) [(⟨1, 1, 1, 1⟩ : Pt), (⟨1, 1, 0, 1⟩ : Pt), (⟨1, 0, 1, 1⟩ : Pt), (⟨1, 0, 0, 1⟩ : Pt), (⟨0, 1, 1, 1⟩ : Pt), (⟨0, 1, 0, 1⟩ : Pt), (⟨0, 0, 1, 1⟩ : Pt), (⟨0, 0, 0, 1⟩ : Pt)]) (sl (!t4) (some ((b false), [])) (sl (okE tX t3) (sl (ea1 (rt tX t3) [(⟨0, 0, 0, 1⟩ : Pt), (⟨0, 0, 1, 4⟩ : Pt), (⟨0, 1, 0, 3⟩ : Pt), (⟨1, 0, 0, 2⟩ : Pt)]) (sl (!t5) (some ((b false), [])) (sl (kb4 ((⟨(⟨1, 0, 0⟩ : V3), t1.d7⟩ : Pln), [(⟨(⟨(-1), 0, 0⟩ : V3), t1.r4⟩ : Pln), (⟨(⟨0, 1, 0⟩ : V3), t1.r5⟩ : Pln), (⟨(⟨0, (-1), 0⟩ : V3), t1.r6⟩ : Pln), (⟨(⟨0, 0, 1⟩ : V3), t1.r7⟩ : Pln), (⟨(⟨0, 0, (-1)⟩ : V3), t1.r8⟩ : Pln), (⟨(⟨1, 0, 0⟩ : V3), t1.d7⟩ : Pln), (⟨(⟨1, 1, 1⟩ : V3), 3⟩ : Pln), (⟨(⟨1, 0, 0⟩ : V3), 7⟩ : Pln)])) (sl (okE tP t6) (sl (Za6 (rt tP t6) [(⟨(⟨(-1), 0, 0⟩ : V3), t1.r4⟩ : Pln), (⟨(⟨0, (-1), 0⟩ : V3), t1.r6⟩ : Pln), (⟨(⟨0, 0, (-1)⟩ : V3), t1.r8⟩ : Pln), (⟨(⟨0, 0, 1⟩ : V3), t1.r7⟩ : Pln), (⟨(⟨0, 1, 0⟩ : V3), t1.r5⟩ : Pln), (⟨(⟨1, 0, 0⟩ : V3), t1.d7⟩ : Pln)]) (sl (!t7) (some ((b false), [])) (sl (L5 []) (sl (!t8) (some ((b false), [])) (sl (L5 [(⟨(⟨1, 0, 0⟩ : V3), t1.d7⟩ : Pln), (⟨(⟨(-1), 0, 0⟩ : V3), t1.r4⟩ : Pln), (⟨(⟨0, 1, 0⟩ : V3), t1.r5⟩ : Pln), (⟨(⟨0, (-1), 0⟩ : V3), t1.r6⟩ : Pln), (⟨(⟨0, 0, 1⟩ : V3), t1.r7⟩ : Pln), (⟨(⟨0, 0, (-1)⟩ : V3), t1.r8⟩ : Pln), (⟨(⟨(-1), 0, 0⟩ : V3), (-1)⟩ : Pln)]) (sl t9 (some ((b false), [])) (sl (fa5 [(⟨(⟨1, 0, 0⟩ : V3), t1.d7⟩ : Pln), (⟨(⟨(-1), 0, 0⟩ : V3), t1.r4⟩ : Pln), (⟨(⟨0, 1, 0⟩ : V3), t1.r5⟩ : Pln), (⟨(⟨0, (-1), 0⟩ : V3), t1.r6⟩ : Pln), (⟨(⟨0, 0, 1⟩ : V3), t1.r7⟩ : Pln), (⟨(⟨0, 0, (-1)⟩ : V3), t1.r8⟩ : Pln)] (⟨1, 0, 0⟩ : V3)) (sl (!t10) (some ((b false), [])) (sl (fa5 [(⟨(⟨1, 0, 0⟩ : V3), t1.d7⟩ : Pln), (⟨(⟨(-1), 0, 0⟩ : V3), t1.r4⟩ : Pln), (⟨(⟨0, 1, 0⟩ : V3), t1.r5⟩ : Pln), (⟨(⟨0, (-1), 0⟩ : V3), t1.r6⟩ : Pln), (⟨(⟨0, 0, 1⟩ : V3), t1.r7⟩ : Pln), (⟨(⟨0, 0, (-1)⟩ : V3), t1.r8⟩ : Pln)] (⟨2, 0, 0⟩ : V3)) (sl t11 (some ((b false), [])) (sl (Ga9 [(⟨(⟨(-1), 0, 0⟩ : V3), 0⟩ : Pln), (⟨(⟨0, (-1), 0⟩ : V3), 0⟩ : Pln), (⟨(⟨0, 0, (-1)⟩ : V3), 0⟩ : Pln), (⟨(⟨2, 3, 4⟩ : V3), 1⟩ : Pln)]) (sl (!((t12.1.x == 0) && ((t12.1.y == 0) && ((t12.1.z == 0) && true)))) (some ((b false), [])) (sl (!((t12.2.1.x == 1) && ((t12.2.1.y == 1) && ((t12.2.1.z == 1) && true)))) (some ((b false), [])) (sl (!t12.2.2) (some ((b false), [])) (sl (G5 [(⟨(⟨1, 0, 0⟩ : V3), t1.d7⟩ : Pln), (⟨(⟨(-1), 0, 0⟩ : V3), t1.r4⟩ : Pln), (⟨(⟨0, 1, 0⟩ : V3), t1.r5⟩ : Pln), (⟨(⟨0, (-1), 0⟩ : V3), t1.r6⟩ : Pln), (⟨(⟨0, 0, 1⟩ : V3), t1.r7⟩ : Pln), (⟨(⟨0, 0, (-1)⟩ : V3), t1.r8⟩ : Pln)] [(⟨(⟨(-1), 0, 0⟩ : V3), (-1)⟩ : Pln)]) (sl t13 (sl (G5 [(⟨(⟨1, 0, 0⟩ : V3), t1.d7⟩ : Pln), (⟨(⟨(-1), 0, 0⟩ : V3), t1.r4⟩ : Pln), (⟨(⟨0, 1, 0⟩ : V3), t1.r5⟩ : Pln), (⟨(⟨0, (-1), 0⟩ : V3), t1.r6⟩ : Pln), (⟨(⟨0, 0, 1⟩ : V3), t1.r7⟩ : Pln), (⟨(⟨0, 0, (-1)⟩ : V3), t1.r8⟩ : Pln)] [(⟨(⟨(-1), (-1), 0⟩ : V3), (-1)⟩ : Pln)]) (sl (!t14) (sl (pa9 [(⟨(⟨1, 0, 0⟩ : V3), t1.d7⟩ : Pln), (⟨(⟨(-1), 0, 0⟩ : V3), t1.r4⟩ : Pln), (⟨(⟨0, 1, 0⟩ : V3), t1.r5⟩ : Pln), (⟨(⟨0, (-1), 0⟩ : V3), t1.r6⟩ : Pln), (⟨(⟨0, 0, 1⟩ : V3), t1.r7⟩ : Pln), (⟨(⟨0, 0, (-1)⟩ : V3), t1.r8⟩ : Pln)] [(⟨(⟨1, 1, 1⟩ : V3), 3⟩ : Pln)]) (sl t15 (sl (pa9 [(⟨(⟨1, 0, 0⟩ : V3), t1.d7⟩ : Pln), (⟨(⟨(-1), 0, 0⟩ : V3), t1.r4⟩ : Pln), (⟨(⟨0, 1, 0⟩ : V3), t1.r5⟩ : Pln), (⟨(⟨0, (-1), 0⟩ : V3), t1.r6⟩ : Pln), (⟨(⟨0, 0, 1⟩ : V3), t1.r7⟩ : Pln), (⟨(⟨0, 0, (-1)⟩ : V3), t1.r8⟩ : Pln)] [(⟨(⟨1, 1, 1⟩ : V3), 2⟩ : Pln)]) (sl (!t16) (sl (T1 [(⟨(⟨0, 0, 0⟩ : V3), 0⟩ : Pln)]) (some ((b (t17 == 12)), [])) none) (some ((b false), []))) none) (some ((b false), []))) none) (some ((b false), []))) none) (some ((b false), []))) none)))) none)) none)) none)) none)) none)) none) none) none)) none) none)) none) none) none) none)
noncomputable def va5  : Bool := ea8 (one r1B) la2
noncomputable def va6  : Bool := okO (one r1B) la2
noncomputable def kb5 : Sum := rc8  (.guard va6 (.ret ((one r1B).enc va5, [])))
theorem Lb4 : i6 prog G 5 kb5 := Cd4 (bd b5 Gb3) (one r1B) (o := la2) (C6 (by kernel_rfl))
end Go.Ev.Ce
end
