/- Own work: a part of the proof. -/
import Derived.Test.YtlccibobknidjaaEvIE2
import Derived.Shelf.SlSortCmp.WholeK
import Derived.Test.YtlccibobknidjaaEvSp7
import Derived.KernelRfl
set_option linter.unusedVariables false
set_option linter.unusedSimpArgs false
set_option linter.unnecessarySimpa false
set_option linter.unusedSectionVars false
namespace Go.Ev.Ce
open Go Go.Ev Go.Ev.L Go.Proofs
theorem btD {p : Prop} {inst : Decidable p} (h : p) {α : Type} (t e : α) : sl (@decide p inst) t e = t := bt (decide_eq_true h) t e
theorem bfD {p : Prop} {inst : Decidable p} (h : ¬ p) {α : Type} (t e : α) : sl (@decide p inst) t e = e := bf (decide_eq_false h) t e
theorem N8 {j n : Nat} (h : j < n) : (j : Int) < (n : Int) := Int.ofNat_lt.2 h
theorem ra6 {j n : Nat} (h : ¬ j < n) : ¬ (j : Int) < (n : Int) := fun h' => h (Int.ofNat_lt.1 h')
theorem Pa3 {σ τ α : Type} {step : σ → Stp σ} {mk : Nat → τ → σ} {f : α → List α → τ → τ} {g : List α → τ → τ} {fin : τ → Nat} (l : List α) (I : Nat → τ → Prop) (hl : l.length ≤ 1000000000)
  (g0 : ∀ a, g [] a = a) (g1 : ∀ x r a, g (x :: r) a = g r (f x r a))
  (h : ∀ j a (hj : j < l.length), I j a → step (mk j a) = .next (mk (j + 1) (f l[j] (l.drop (j + 1)) a)) ∧ I (j + 1) (f l[j] (l.drop (j + 1)) a))
  (hf : ∀ j a, l.length ≤ j → I j a → step (mk j a) = .exit (fin a)) (j0 : Nat) (a : τ) (hi : I j0 a) :
  lp step (mk j0 a) = (fin (g (l.drop j0) a), mk (max j0 l.length) (g (l.drop j0) a)) ∧ I (max j0 l.length) (g (l.drop j0) a) := by
 have key := kb8 (step := step) (I := fun m s => ∃ j b, m = l.length - j ∧ max j l.length = max j0 l.length ∧ s = mk j b ∧ I j b ∧ g (l.drop j) b = g (l.drop j0) a)
  (Q := fun u s => u = fin (g (l.drop j0) a) ∧ s = mk (max j0 l.length) (g (l.drop j0) a) ∧ I (max j0 l.length) (g (l.drop j0) a)) (fun m s ⟨j, b, hm, hj, hs, hb, he⟩ => by
   subst hs
   by_cases hlt : j < l.length
   ·obtain ⟨h1, h2⟩ := h j b hlt hb
    refine .inr ⟨_, l.length - (j + 1), by omega, h1, j + 1, _, rfl, by omega, rfl, h2, ?_⟩
    rw [← he, List.drop_eq_getElem_cons hlt, g1]
   ·have hd : l.drop j = [] := List.drop_eq_nil_of_le (by omega)
    rw [hd, g0] at he
    have hj' : j = max j0 l.length := by omega
    subst he
    rw [← hj']
    exact .inl ⟨_, hf j _ (by omega) hb, rfl, rfl, hb⟩) (l.length - j0) (mk j0 a) (by omega) ⟨j0, a, rfl, rfl, rfl, hi, rfl⟩
 exact ⟨Prod.ext key.1 key.2.1, key.2.2⟩
noncomputable def oa6 (r : List Pln) (p q : Pln) (out : List Pt) (s : Pln) : List Pt :=
 if (mpt p q s).2 && (!Bb9 out (mpt p q s).1 && inn r (mpt p q s).1) then out ++ [(mpt p q s).1] else out
noncomputable def Ta4 (r : List Pln) (p q : Pln) (l : List Pln) (out : List Pt) : List Pt := l.foldl (oa6 r p q) out
noncomputable def Ia9 (r : List Pln) (p : Pln) : List Pln → List Pt → List Pt
 | [], out => out
 | q :: l, out => Ia9 r p l (Ta4 r p q l out)
noncomputable def xb3 (r : List Pln) : List Pln → List Pt → List Pt
 | [], out => out
 | p :: l, out => xb3 r l (Ia9 r p l out)
noncomputable def cor (r : List Pln) : List Pt := xb3 r r []
def Bds (r : List Pln) : Prop := ∀ p ∈ r, Bd p
theorem Vb1 (r : List Pln) (p q : Pln) (out : List Pt) (s : Pln) : (oa6 r p q out s).length ≤ out.length + 1 := by
 unfold oa6
 split
 ·simp
 ·omega
theorem Lb7 (r : List Pln) (p q : Pln) : ∀ (l : List Pln) (out : List Pt), (Ta4 r p q l out).length ≤ out.length + l.length
 | [], out => Nat.le_refl _
 | s :: l, out => by
  have h1 := Vb1 r p q out s
  have h2 := Lb7 r p q l (oa6 r p q out s)
  show (Ta4 r p q l (oa6 r p q out s)).length ≤ _
  simp only [List.length_cons]
  omega
theorem Lb8 (r : List Pln) (p : Pln) : ∀ (l : List Pln) (out : List Pt), l.length ≤ 200 → (Ia9 r p l out).length ≤ out.length + 200 * l.length
 | [], out, _ => by simp [Ia9]
 | q :: l, out, h => by
  simp only [List.length_cons] at h ⊢
  have h1 := Lb7 r p q l out
  have h2 := Lb8 r p l (Ta4 r p q l out) (by omega)
  show (Ia9 r p l (Ta4 r p q l out)).length ≤ _
  omega
theorem lc3 (r : List Pln) : ∀ (l : List Pln) (out : List Pt), l.length ≤ 200 → (xb3 r l out).length ≤ out.length + 40000 * l.length
 | [], out, _ => by simp [xb3]
 | p :: l, out, h => by
  simp only [List.length_cons] at h ⊢
  have h1 := Lb8 r p l out (by omega)
  have h2 := lc3 r l (Ia9 r p l out) (by omega)
  show (xb3 r l (Ia9 r p l out)).length ≤ _
  omega
theorem yc1 (r : List Pln) (_ : Bds r) (hr : r.length ≤ 200) : (cor r).length ≤ 8000000 := by
 have := lc3 r r [] hr
 rw [List.length_nil] at this
 show (xb3 r r []).length ≤ _
 omega
noncomputable def ph (out : List Pt) : Nat := match out with
 | [] => 0
 | _ :: _ => 1
theorem Nc0 (x : Pt) : Bb9 [] x = false := rfl
theorem Eb2 {α : Type} (t : Ty α) (l : List α) (n k : Nat) : gL t (l.drop n) k = gL t l (n + k) := by simp [gL, List.getD_eq_getElem?_getD, List.getElem?_drop]
theorem Nc1 {n : Nat} {l : List Pt} (hn : n = l.length) (h : l.length ≤ 1000000000) : (Nat.beq n (len (bL tX l)) && Nat.ble ((n + 1) * 32) room) = true := by
 subst hn
 rw [ta3, Nat.beq_refl, Bool.true_and]
 exact Db7 (by omega)
theorem Xc2 (l : List Pt) (x : Pt) : app (bL tX l) [[i x.px, i x.py, i x.pz, i x.pw]] = bL tX (l ++ [x]) := Za9 tX l [x]
noncomputable def slX (l : List Pt) : a7 × List a8 := match l with
 | [] => (.v (.slice none 0 0), [])
 | _ :: _ => (.sl 0 0 l.length 0, [⟨53, 4, bL tX l, true, false, 0⟩])
theorem Nc2 (l : List Pt) : (one (r1L tX)).rd (slX l) = some l := by
 cases l with
 | nil => rfl
 | cons x l =>
  show Bool.rec (motive := fun _ => Option (List Pt)) none (some (slR tX (bL tX (x :: l)) 0 (x :: l).length)) (Bool.and true (okS tX (bL tX (x :: l)) 0 (x :: l).length)) = _
  rw [Ic7, Ic8]
  rfl
theorem Pa4 {ρ : Type} (R : RR ρ) {x : a7 × List a8} {r : ρ} (h : R.rd x = some r) : la0 R (some x) = r := by
 show Option.rec (motive := fun _ => ρ) R.d (fun x => x) (R.rd x) = r
 rw [h]
theorem bb9 {ρ : Type} (R : RR ρ) {x : a7 × List a8} {r : ρ} (h : R.rd x = some r) : okO R (some x) = true := by
 show Option.rec (motive := fun _ => Bool) false (fun _ => true) (R.rd x) = true
 rw [h]
noncomputable def Qb4 (x : Pt) : List a7 := [i x.px, i x.py, i x.pz, i x.pw, b true]
noncomputable def Va4 (l : List Pt) : List (List a7) := l.map Qb4
@[reducible] noncomputable def flK : List (Nat × CK) := [(0, (.int .i64)), (1, (.int .i64)), (2, (.int .i64)), (3, (.int .i64))]
theorem lc4 (x q : Pt) : fb7 flK [i x.px, i x.py, i x.pz, i x.pw] (Qb4 q) = eqX x q := by
 show Bool.and (decide (x.px = q.px)) (Bool.and (decide (x.py = q.py)) (Bool.and (decide (x.pz = q.pz)) (Bool.and (decide (x.pw = q.pw)) true))) = _
 unfold eqX
 have h : ∀ a c : Int, decide (a = c) = (c == a) := fun a c => by rw [Bool.eq_iff_iff, decide_eq_true_eq, beq_iff_eq]; exact eq_comm
 rw [h, h, h, h]
theorem Lb9 (x : Pt) : ∀ l, nb2 4 flK [i x.px, i x.py, i x.pz, i x.pw] (Va4 l) = Bb9 l x
 | [] => rfl
 | q :: l => by
  have ih := Lb9 x l
  unfold nb2 at ih ⊢
  show Option.rec (motive := fun _ => Bool) false (fun r => toB (hdA (j8 r 4))) (Bool.rec (motive := fun _ => Option (List a7)) (yb8 flK [i x.px, i x.py, i x.pz, i x.pw] (Va4 l)) (some (Qb4 q)) (fb7 flK [i x.px, i x.py, i x.pz, i x.pw] (Qb4 q))) = Bb9 (q :: l) x
  rw [lc4]
  unfold Bb9 at ih ⊢
  rw [List.any_cons]
  cases eqX x q with
  | true => rfl
  | false => exact ih
theorem Vb2 (x : Pt) : ∀ l, Bb9 l x = false → La1 flK [i x.px, i x.py, i x.pz, i x.pw] (Qb4 x) (Va4 l) = Va4 (l ++ [x])
 | [], _ => rfl
 | q :: l, h => by
  unfold Bb9 at h
  rw [List.any_cons, Bool.or_eq_false_iff] at h
  show Bool.rec (motive := fun _ => List (List a7)) (Qb4 q :: La1 flK [i x.px, i x.py, i x.pz, i x.pw] (Qb4 x) (Va4 l)) (Qb4 x :: Va4 l) (fb7 flK [i x.px, i x.py, i x.pz, i x.pw] (Qb4 q)) = _
  rw [lc4, h.1, Vb2 x l h.2]
  rfl
@[reducible] noncomputable def gb4 (k : Nat) (out : List Pt) : g8 := ⟨ph out, (k : Int), out.length, bL tX out, Va4 out⟩
structure C2 (P : g7) (r : List Pln) (p q : Pln) (lo : Nat) : Prop where
 ns : P.vc0 = (r.drop lo).length
 gs : P.Ba1 = fun k => tP.row (gL tP r (lo + k))
 is : P.dc7 = ((r.drop lo).length : Int)
 p1 : (⟨⟨P.N9, P.O0, P.O1⟩, P.O2⟩ : Pln) = p
 q1 : (⟨⟨P.aa0, P.aa1, P.aa2⟩, P.Da5⟩ : Pln) = q
 r1 : P.ca6 = r
theorem bc2 (s : Pln) : (⟨⟨toI (hdA (tP.row s)), toI (hdA (tlA (tP.row s))), toI (hdA (tlA (tlA (tP.row s))))⟩, toI (hdA (tlA (tlA (tlA (tP.row s)))))⟩ : Pln) = s := rfl
theorem bc3 (s : Pln) : ((Nat.ble 4 (len (tP.row s))) && (Ka0 [(CK.int .i64), (CK.int .i64), (CK.int .i64), (CK.int .i64)] (tP.row s))) = true := rfl
theorem Xc3 {P : g7} {r : List Pln} {p q : Pln} {lo : Nat} (h : C2 P r p q lo) (hb : Bds r) (hr : r.length ≤ 200) (hp : Bd p) (hq : Bd q) (k : Nat) (out : List Pt) (ho : out.length ≤ 1000000000) (hk : k < (r.drop lo).length) :
  o9 P (gb4 k out) = .next (gb4 (k + 1) (oa6 r p q out (r.drop lo)[k])) := by
 have hwi : ∀ x, N2 r x = inn r x := fun x => Lb3 r x (by omega)
 have hwg : ∀ x, N3 r x = true := fun x => Lb4 r x (by omega)
 have hs : gL tP r (lo + k) = (r.drop lo)[k] := by rw [← Eb2, pb5 tP hk]
 have hbs : Bd (r.drop lo)[k] := hb _ (List.mem_of_mem_drop (List.getElem_mem hk))
 have hd : (r.drop lo).length ≤ 200 := by rw [List.length_drop]; omega
 have hme := gd7 hp hq hbs
 have hmg := gd8 hp hq hbs
 obtain ⟨x1, x2, x3, x4, x5, x6, x7, x8, x9, x10, x11, x12, x13, x14, x15, x16, x17, x18, x19, x20, x21⟩ := P
 obtain ⟨ns, gs, is, p1, q1, r1⟩ := h
 simp only at ns gs is p1 q1 r1
 have r1 := r1.symm
 subst ns gs is r1
 unfold o9
 cases out with
 | nil =>
  show s4 Stp.next Stp.exit Stp.fail _ (gb4 k []) = _
  simp only [s4, gb4, Int.toNat_natCast, F9, ka9, p1, q1, hs, bc2, bc3, hme, hmg, hwi, hwg, M5 hk (by omega)]
  rw [btD (N8 hk), bt (q8 hk), ma7, ma7]
  unfold oa6
  rw [Nc0]
  cases (mpt p q (r.drop lo)[k]).2 with
  | false => rfl
  | true =>
   cases inn r (mpt p q (r.drop lo)[k]).1 with
   | false => rfl
   | true => rfl
 | cons o os =>
  show s5 Stp.next Stp.exit Stp.fail _ (gb4 k (o :: os)) = _
  simp only [s5, gb4, Int.toNat_natCast, F9, ka9, p1, q1, hs, bc2, bc3, hme, hmg, hwi, hwg, M5 hk (by omega), Lb9]
  rw [btD (N8 hk), bt (q8 hk), ma7, ma7, Nc1 rfl ho, Xc2]
  unfold oa6
  cases (mpt p q (r.drop lo)[k]).2 with
  | false => rfl
  | true =>
   cases hx : Bb9 (o :: os) (mpt p q (r.drop lo)[k]).1 with
   | true => rfl
   | false =>
    cases inn r (mpt p q (r.drop lo)[k]).1 with
    | false => rfl
    | true =>
     show Stp.next (⟨1, ((k + 1 : Nat) : Int), (o :: os).length + 1, bL tX (o :: os ++ [(mpt p q (r.drop lo)[k]).1]), La1 flK [i (mpt p q (r.drop lo)[k]).1.px, i (mpt p q (r.drop lo)[k]).1.py, i (mpt p q (r.drop lo)[k]).1.pz, i (mpt p q (r.drop lo)[k]).1.pw] (Qb4 (mpt p q (r.drop lo)[k]).1) (Va4 (o :: os))⟩ : g8) = _
     rw [Vb2 _ _ hx]
     simp [ph]
theorem hd5 {P : g7} {r : List Pln} {p q : Pln} {lo : Nat} (h : C2 P r p q lo) (k : Nat) (out : List Pt) (hk : (r.drop lo).length ≤ k) : o9 P (gb4 k out) = .exit (ph out + 1) := by
 obtain ⟨x1, x2, x3, x4, x5, x6, x7, x8, x9, x10, x11, x12, x13, x14, x15, x16, x17, x18, x19, x20, x21⟩ := P
 obtain ⟨ns, gs, is, p1, q1, r1⟩ := h
 simp only at ns gs is p1 q1 r1
 have r1 := r1.symm
 subst ns gs is r1
 unfold o9
 have this : ¬ ((k : Int) < ((r.drop lo).length : Int)) := by omega
 cases out with
 | nil =>
  show s4 Stp.next Stp.exit Stp.fail _ (gb4 k []) = _
  simp only [s4, gb4]
  rw [bfD this]
  rfl
 | cons o os =>
  show s5 Stp.next Stp.exit Stp.fail _ (gb4 k (o :: os)) = _
  simp only [s5, gb4]
  rw [bfD this]
  rfl
theorem Xc4 {P : g7} {r : List Pln} {p q : Pln} {lo : Nat} (h : C2 P r p q lo) (hb : Bds r) (hr : r.length ≤ 200) (hp : Bd p) (hq : Bd q) (out : List Pt) (ho : out.length ≤ 100000000) :
  ∃ m, lp (o9 P) (gb4 0 out) = (ph (Ta4 r p q (r.drop lo) out) + 1, gb4 m (Ta4 r p q (r.drop lo) out)) := by
 have hd : (r.drop lo).length ≤ 200 := by rw [List.length_drop]; omega
 exact ⟨_, (Pa3 (mk := gb4) (f := fun s _ out => oa6 r p q out s) (g := fun l out => Ta4 r p q l out) (fin := fun out => ph out + 1) (r.drop lo) (fun j o => o.length ≤ out.length + j) (by omega)
  (fun _ => rfl) (fun _ _ _ => rfl) (fun j o hj hi => ⟨Xc3 h hb hr hp hq j o (by omega) hj, by have := Vb1 r p q o (r.drop lo)[j]; show (oa6 r p q o (r.drop lo)[j]).length ≤ out.length + (j + 1); omega⟩)
  (fun j o hj _ => hd5 h j o hj) 0 out (by omega)).1⟩
@[reducible] noncomputable def gb5 (r : List Pln) (j : Nat) (out : List Pt) : i4 := ⟨ph out, r, (j : Int), r, r, out.length, bL tX out, Va4 out⟩
structure C1 (P : g9) (r : List Pln) (p : Pln) (a : Nat) : Prop where
 i3 : P.is3 = (a : Int)
 ns : P.tb5 = (r.drop (a + 1)).length
 gs : P.Da4 = fun k => tP.row (gL tP r (a + 1 + k))
 is : P.V7 = ((r.drop (a + 1)).length : Int)
 p1 : (⟨⟨P.N9, P.O0, P.O1⟩, P.O2⟩ : Pln) = p
theorem Xc5 {P : g9} {r : List Pln} {p : Pln} {a : Nat} (h : C1 P r p a) (hb : Bds r) (hr : r.length ≤ 200) (hp : Bd p) (j : Nat) (out : List Pt) (ho : out.length ≤ 100000000) (hj : j < (r.drop (a + 1)).length) :
  p6 P (gb5 r j out) = .next (gb5 r (j + 1) (Ta4 r p (r.drop (a + 1))[j] ((r.drop (a + 1)).drop (j + 1)) out)) := by
 have hs : gL tP r (a + 1 + j) = (r.drop (a + 1))[j] := by rw [← Eb2, pb5 tP hj]
 have hbs : Bd (r.drop (a + 1))[j] := hb _ (List.mem_of_mem_drop (List.getElem_mem hj))
 have hd := hj
 rw [List.length_drop] at hd
 have hW : W (W ((a : Int) + (j : Int)) + 2) = ((a + 1 + (j + 1) : Nat) : Int) := by rw [Ib9, Ca1 (by omega) (by omega)]; omega
 have hdl : (r.drop (a + 1)).length ≤ 4611686018427387904 := by rw [List.length_drop]; omega
 have hlo : inB ((a + 1 + (j + 1) : Nat) : Int) (r.length + 1) = true := q8 (by omega)
 rw [List.drop_drop]
 generalize hq : (r.drop (a + 1))[j] = q at *
 obtain ⟨x1, x2, x3, x4, x5, x6, x7, x8, x9, x10⟩ := P
 obtain ⟨i3, ns, gs, is, p1⟩ := h
 simp only at i3 ns gs is p1
 subst i3 ns gs is
 unfold p6
 have key : ∀ (P2 : g7), C2 P2 r p q (a + 1 + (j + 1)) → _ := fun P2 h2 => Xc4 h2 hb hr hp hbs out ho
 cases out with
 | nil =>
  show s6 Stp.next Stp.exit Stp.fail _ (gb5 r j []) = _
  simp only [s6, gb5, F9, J7, M5 hj hdl, hW, Int.toNat_natCast, hs, bc3, hlo]
  rw [show (⟨0, 0, 0, [], []⟩ : g8) = gb4 0 [] from rfl]
  generalize hP : g7.mk _ _ _ _ _ _ _ _ _ _ _ _ _ _ _ _ _ _ _ _ _ = P2
  obtain ⟨m, hm⟩ := key P2 (by
   subst hP
   exact ⟨by simp, rfl, by simp, p1, bc2 q, rfl⟩)
  rw [hm, btD (N8 hj), bt (q8 hj)]
  cases Ta4 r p q (r.drop (a + 1 + (j + 1))) [] <;> rfl
 | cons o os =>
  show s7 Stp.next Stp.exit Stp.fail _ (gb5 r j (o :: os)) = _
  simp only [s7, gb5, F9, J7, M5 hj hdl, hW, Int.toNat_natCast, hs, bc3, hlo]
  rw [show (⟨1, 0, (o :: os).length, bL tX (o :: os), Va4 (o :: os)⟩ : g8) = gb4 0 (o :: os) from rfl]
  generalize hP : g7.mk _ _ _ _ _ _ _ _ _ _ _ _ _ _ _ _ _ _ _ _ _ = P2
  obtain ⟨m, hm⟩ := key P2 (by
   subst hP
   exact ⟨by simp, rfl, by simp, p1, bc2 q, rfl⟩)
  rw [hm, btD (N8 hj), bt (q8 hj)]
  cases Ta4 r p q (r.drop (a + 1 + (j + 1))) (o :: os) <;> rfl
theorem hd6 {P : g9} {r : List Pln} {p : Pln} {a : Nat} (h : C1 P r p a) (j : Nat) (out : List Pt) (hj : (r.drop (a + 1)).length ≤ j) : p6 P (gb5 r j out) = .exit (ph out + 1) := by
 obtain ⟨x1, x2, x3, x4, x5, x6, x7, x8, x9, x10⟩ := P
 obtain ⟨i3, ns, gs, is, p1⟩ := h
 simp only at i3 ns gs is p1
 subst i3 ns gs is
 unfold p6
 have this : ¬ ((j : Int) < ((r.drop (a + 1)).length : Int)) := by omega
 cases out with
 | nil =>
  show s6 Stp.next Stp.exit Stp.fail _ (gb5 r j []) = _
  simp only [s6, gb5]
  rw [bfD this]
  rfl
 | cons o os =>
  show s7 Stp.next Stp.exit Stp.fail _ (gb5 r j (o :: os)) = _
  simp only [s7, gb5]
  rw [bfD this]
  rfl
theorem Xc6 {P : g9} {r : List Pln} {p : Pln} {a : Nat} (h : C1 P r p a) (hb : Bds r) (hr : r.length ≤ 200) (hp : Bd p) (out : List Pt) (ho : out.length ≤ 10000000) :
  ∃ m, lp (p6 P) (gb5 r 0 out) = (ph (Ia9 r p (r.drop (a + 1)) out) + 1, gb5 r m (Ia9 r p (r.drop (a + 1)) out)) := by
 have hd : (r.drop (a + 1)).length ≤ 200 := by rw [List.length_drop]; omega
 exact ⟨_, (Pa3 (mk := gb5 r) (f := fun q l out => Ta4 r p q l out) (g := fun l out => Ia9 r p l out) (fin := fun out => ph out + 1) (r.drop (a + 1)) (fun k o => o.length ≤ out.length + 200 * k) (by omega)
  (fun _ => rfl) (fun _ _ _ => rfl) (fun k o hj hi => ⟨Xc5 h hb hr hp k o (by omega) hj, by
   have := Lb7 r p (r.drop (a + 1))[k] ((r.drop (a + 1)).drop (k + 1)) o
   rw [List.length_drop] at this
   show (Ta4 r p (r.drop (a + 1))[k] ((r.drop (a + 1)).drop (k + 1)) o).length ≤ out.length + 200 * (k + 1)
   omega⟩)
  (fun k o hj _ => hd6 h k o hj) 0 out (by omega)).1⟩
@[reducible] noncomputable def lb8 (r : List Pln) (j : Nat) (out : List Pt) : j4 := ⟨ph out, r, (j : Int), r, r, out.length, bL tX out, Va4 out⟩
theorem Xc7 {P : m9} (r : List Pln) (h : P.sa3 = (r.length : Int)) (hb : Bds r) (hr : r.length ≤ 200) (a : Nat) (ha : a < r.length) (out : List Pt) (ho : out.length ≤ 40000 * a) :
  p7 P (lb8 r a out) = .next (lb8 r (a + 1) (Ia9 r r[a] (r.drop (a + 1)) out)) := by
 have hbs : Bd r[a] := hb _ (List.getElem_mem ha)
 have hlo : inB ((a + 1 : Nat) : Int) (r.length + 1) = true := q8 (by omega)
 have key : ∀ (P2 : g9), C1 P2 r r[a] a → _ := fun P2 h2 => Xc6 h2 hb hr hbs out (by omega)
 obtain ⟨x1⟩ := P
 simp only at h
 subst h
 unfold p7
 cases out with
 | nil =>
  show s8 Stp.next Stp.exit Stp.fail _ (lb8 r a []) = _
  simp only [s8, lb8, F9, J7, M5 ha (by omega), Int.toNat_natCast, hlo, pb5 tP ha]
  rw [show (⟨0, r, 0, r, r, 0, [], []⟩ : i4) = gb5 r 0 [] from rfl]
  generalize hP : g9.mk _ _ _ _ _ _ _ _ _ _ = P2
  obtain ⟨m, hm⟩ := key P2 (by
   subst hP
   exact ⟨rfl, by simp, rfl, by simp, rfl⟩)
  rw [hm, btD (N8 ha), bt (q8 ha)]
  cases Ia9 r r[a] (r.drop (a + 1)) [] <;> rfl
 | cons o os =>
  show s9 Stp.next Stp.exit Stp.fail _ (lb8 r a (o :: os)) = _
  simp only [s9, lb8, F9, J7, M5 ha (by omega), Int.toNat_natCast, hlo, pb5 tP ha]
  rw [show (⟨1, r, 0, r, r, (o :: os).length, bL tX (o :: os), Va4 (o :: os)⟩ : i4) = gb5 r 0 (o :: os) from rfl]
  generalize hP : g9.mk _ _ _ _ _ _ _ _ _ _ = P2
  obtain ⟨m, hm⟩ := key P2 (by
   subst hP
   exact ⟨rfl, by simp, rfl, by simp, rfl⟩)
  rw [hm, btD (N8 ha), bt (q8 ha)]
  cases Ia9 r r[a] (r.drop (a + 1)) (o :: os) <;> rfl
theorem hd7 {P : m9} (r : List Pln) (h : P.sa3 = (r.length : Int)) (j : Nat) (out : List Pt) (hj : r.length ≤ j) : p7 P (lb8 r j out) = .exit (ph out + 1) := by
 obtain ⟨x1⟩ := P
 simp only at h
 subst h
 unfold p7
 have this : ¬ ((j : Int) < (r.length : Int)) := by omega
 cases out with
 | nil =>
  show s8 Stp.next Stp.exit Stp.fail _ (lb8 r j []) = _
  simp only [s8, lb8]
  rw [bfD this]
  rfl
 | cons o os =>
  show s9 Stp.next Stp.exit Stp.fail _ (lb8 r j (o :: os)) = _
  simp only [s9, lb8]
  rw [bfD this]
  rfl
theorem Xc8 (r : List Pln) (hb : Bds r) (hr : r.length ≤ 200) : ∃ m, lp (p7 ⟨(r.length : Int)⟩) (lb8 r 0 []) = (ph (cor r) + 1, lb8 r m (cor r)) :=
 ⟨_, (Pa3 (step := p7 ⟨(r.length : Int)⟩) (mk := lb8 r) (f := fun q l out => Ia9 r q l out) (g := fun l out => xb3 r l out) (fin := fun out => ph out + 1) r (fun k o => o.length ≤ 40000 * k) (by omega)
  (fun _ => rfl) (fun _ _ _ => rfl) (fun k o hj hi => ⟨Xc7 r rfl hb hr k hj o hi, by
   have h1 := Lb8 r r[k] (r.drop (k + 1)) o (by rw [List.length_drop]; omega)
   rw [List.length_drop] at h1
   show (Ia9 r r[k] (r.drop (k + 1)) o).length ≤ 40000 * (k + 1)
   omega⟩)
  (fun k o hj _ => hd7 r rfl k o hj) 0 [] (by simp)).1⟩
theorem Mb0 (r : List Pln) (hb : Bds r) (hr : r.length ≤ 200) : M1 r = some (slX (cor r)) := by
 obtain ⟨m, hm⟩ := Xc8 r hb hr
 unfold M1
 simp only [F9, J7]
 rw [show (⟨0, r, 0, r, r, 0, [], []⟩ : j4) = lb8 r 0 [] from rfl, hm]
 cases cor r <;> rfl
theorem Vb3 (r : List Pln) (hb : Bds r) (hr : r.length ≤ 200) : M2 r = cor r := by unfold M2; rw [Mb0 r hb hr]; exact Pa4 _ (Nc2 _)
theorem Vb4 (r : List Pln) (hb : Bds r) (hr : r.length ≤ 200) : M3 r = true := by unfold M3; rw [Mb0 r hb hr]; exact bb9 _ (Nc2 _)
end Go.Ev.Ce
namespace Go.Ev.Ce
open Go Go.Ev Go.Ev.L Go.Proofs
noncomputable def slP (l : List Pln) : a7 × List a8 := (.sl 0 0 l.length 0, [⟨42, 4, bL tP l, true, false, 0⟩])
theorem Nc3 (l : List Pln) : (one (r1L tP)).rd (slP l) = some l := by
 show Bool.rec (motive := fun _ => Option (List Pln)) none (some (slR tP (bL tP l) 0 l.length)) (Bool.and true (okS tP (bL tP l) 0 l.length)) = _
 rw [Ic7, Ic8]
 rfl
theorem nd5 {α : Type} (t : Ty α) (l : List α) : (one (r1L t)).rd (eL t l, []) = some l := by
 show Bool.rec (motive := fun _ => Option (List α)) none (some (rt t l)) (Bool.and (Nat.beq t.es t.es) (okE t l)) = _
 rw [F9, ka9, Nat.beq_refl]
 rfl
noncomputable def ws : List Pln := [⟨⟨1, 0, 0⟩, 24⟩, ⟨⟨-1, 0, 0⟩, 24⟩, ⟨⟨0, 1, 0⟩, 24⟩, ⟨⟨0, -1, 0⟩, 24⟩, ⟨⟨0, 0, 1⟩, 24⟩, ⟨⟨0, 0, -1⟩, 24⟩]
theorem bd7 : Bds ws := by
 intro p hp
 have : okp p = true := by
  have h : ws.all okp = true := by decide
  exact List.all_eq_true.1 h p hp
 exact Lb6 this
noncomputable def tc8 (lo hi : V3) : List Pln := [⟨⟨1, 0, 0⟩, hi.x⟩, ⟨⟨-1, 0, 0⟩, W (0 - lo.x)⟩, ⟨⟨0, 1, 0⟩, hi.y⟩, ⟨⟨0, -1, 0⟩, W (0 - lo.y)⟩, ⟨⟨0, 0, 1⟩, hi.z⟩, ⟨⟨0, 0, -1⟩, W (0 - lo.z)⟩]
theorem Nc4 {l : List (List Pln)} {j : Nat} (h : j < l.length) : gL (tLs tP) l j = l[j] := pb5 (tLs tP) h
theorem Nc5 (ls : List (List Pln)) (hn : ls.length ≤ 1000000000) (hl : ls.flatten.length ≤ 1000000000) : ∃ m, lp (C9 ⟨ls, ls, (ls.length : Int)⟩) ⟨0, 0⟩ = (1, ⟨(ls.flatten.length : Int), m⟩) := by
 have h := Pa3 (step := C9 ⟨ls, ls, (ls.length : Int)⟩) (mk := fun j (n : Nat) => (⟨(n : Int), (j : Int)⟩ : o0)) (f := fun l _ n => n + l.length) (g := fun l n => n + l.flatten.length) (fin := fun _ => 1) ls
  (fun j n => n + (ls.drop j).flatten.length = ls.flatten.length) hn (fun _ => rfl) (fun x r a => by simp only [List.flatten_cons, List.length_append]; omega)
  (fun j n hj hi => by
   rw [List.drop_eq_getElem_cons hj, List.flatten_cons, List.length_append] at hi
   have hW : W ((n : Int) + (ls[j].length : Int)) = ((n + ls[j].length : Nat) : Int) := by rw [Ca1 (by omega) (by omega)]; omega
   refine ⟨?_, by show n + ls[j].length + (ls.drop (j + 1)).flatten.length = _; omega⟩
   simp only [C9, F5, Int.toNat_natCast, Nc4 hj, hW, M5 hj (by omega)]
   rw [btD (N8 hj), bt (q8 hj), bfD (by omega)])
  (fun j n hj _ => by
   simp only [C9, F5]
   rw [bfD (by omega)]) 0 0 (by simp)
 have h := h.1
 rw [List.drop_zero, Nat.zero_add] at h
 exact ⟨_, h⟩
theorem Nc6 {ls : List (List Pln)} (h : ls.flatten = []) {j : Nat} (hj : j < ls.length) : ls[j] = [] := by
 rw [List.flatten_eq_nil_iff] at h
 exact h _ (List.getElem_mem hj)
theorem Xc9 (ls : List (List Pln)) (hn : ls.length ≤ 1000000000) (hl : ls.flatten = []) : ∃ s, lp (w9 ⟨ls, (ls.length : Int)⟩) ⟨0, 0, 0, []⟩ = (1, s) := by
 have h := Pa3 (step := w9 ⟨ls, (ls.length : Int)⟩) (mk := fun j (_ : Unit) => (⟨0, (j : Int), 0, []⟩ : i7)) (f := fun _ _ n => n) (g := fun _ n => n) (fin := fun _ => 1) ls
  (fun _ _ => True) hn (fun _ => rfl) (fun x r a => rfl)
  (fun j n hj hi => by
   refine ⟨?_, trivial⟩
   show u4 Stp.next Stp.exit Stp.fail _ _ = _
   simp only [u4, Int.toNat_natCast, Nc4 hj, Nc6 hl hj, M5 hj (by omega)]
   rw [btD (N8 hj), bt (q8 hj)]
   rfl)
  (fun j n hj _ => by
   show u4 Stp.next Stp.exit Stp.fail _ _ = _
   simp only [u4]
   rw [bfD (by omega)]) 0 () trivial
 exact ⟨_, h.1⟩
noncomputable def Na2 (t : Nat) (d : List Pln) : List (List a7) := app (bL tP d) (List.replicate (t - d.length) ac7)
theorem Nc7 (t : Nat) (d : List Pln) (h : d.length ≤ t) : len (Na2 t d) = t := by
 unfold Na2
 rw [B4, j7, List.length_append, ← j7, ta3, List.length_replicate]
 omega
theorem Nc8 (t : Nat) (d l : List Pln) (h : d.length + l.length ≤ t) : app (E2 (Na2 t d) d.length) (app (bL tP l) (j8 (Na2 t d) (d.length + len (bL tP l)))) = Na2 t (d ++ l) := by
 have hd : (bL tP d).length = d.length := by rw [← j7, ta3]
 unfold Na2
 rw [ta3, ← Za9]
 simp only [B4, E3, E4]
 rw [List.take_left' hd, List.append_assoc]
 congr 2
 rw [List.drop_append, List.drop_eq_nil_of_le (by omega), List.nil_append, hd, List.drop_replicate, List.length_append]
 congr 1
 omega
theorem Nc9 (ls : List (List Pln)) (hn : ls.length ≤ 1000000000) : ∃ m, lp (w9 ⟨ls, (ls.length : Int)⟩) ⟨1, 0, 0, List.replicate ls.flatten.length ac7⟩ = (2, ⟨1, m, ls.flatten.length, bL tP ls.flatten⟩) := by
 have h := Pa3 (step := w9 ⟨ls, (ls.length : Int)⟩) (mk := fun j (d : List Pln) => (⟨1, (j : Int), d.length, Na2 ls.flatten.length d⟩ : i7)) (f := fun l _ d => d ++ l) (g := fun l d => d ++ l.flatten) (fin := fun _ => 2) ls
  (fun j d => d.length + (ls.drop j).flatten.length = ls.flatten.length) hn (fun _ => by simp) (fun x r a => by simp)
  (fun j d hj hi => by
   rw [List.drop_eq_getElem_cons hj, List.flatten_cons, List.length_append] at hi
   refine ⟨?_, by show (d ++ ls[j]).length + (ls.drop (j + 1)).flatten.length = _; rw [List.length_append]; omega⟩
   show u5 Stp.next Stp.exit Stp.fail _ _ = _
   simp only [u5, Int.toNat_natCast, Nc4 hj, M5 hj (by omega), hc7]
   rw [Nc8 _ _ _ (by omega), Nc7 _ _ (by omega), ta3, btD (N8 hj), bt (q8 hj), bt (by rw [Nat.ble_eq]; omega), List.length_append])
  (fun j d hj _ => by
   show u5 Stp.next Stp.exit Stp.fail _ _ = _
   simp only [u5]
   rw [bfD (by omega)]) 0 [] (by simp)
 have h := h.1
 rw [List.drop_zero, List.nil_append] at h
 have e : Na2 ls.flatten.length ls.flatten = bL tP ls.flatten := by unfold Na2; rw [Nat.sub_self, B4]; simp
 rw [e] at h
 exact ⟨_, h⟩
theorem bd8 (ls : List (List Pln)) (hn : ls.length ≤ 1000000000) (hl : ls.flatten.length ≤ 1000000000) : Pa0 ls = some (slP (ls.flatten ++ ws)) := by
 have hc : W0 ls = if ls.flatten = [] then ⟨1, 0, []⟩ else ⟨2, ls.flatten.length, bL tP ls.flatten⟩ := by
  unfold W0 G3
  simp only [F9, J7]
  obtain ⟨m, hm⟩ := Nc5 ls hn hl
  rw [hm]
  by_cases h0 : ls.flatten = []
  ·obtain ⟨s, hs⟩ := Xc9 ls hn h0
   rw [if_pos h0, hs]
   rw [show (⟨(ls.flatten.length : Int), m⟩ : o0) = ⟨0, m⟩ by rw [h0]; rfl]
   rfl
  ·obtain ⟨m', hm'⟩ := Nc9 ls hn
   rw [if_neg h0]
   simp only [Int.toNat_natCast]
   rw [hm']
   have h1 : 0 < ls.flatten.length := List.length_pos_iff.2 h0
   have e1 : ((ls.flatten.length : Int) == 0) = false := by rw [beq_eq_false_iff_ne]; omega
   have e2 : Bool.and (decide ((0 : Int) < (ls.flatten.length : Int))) (Nat.ble (ls.flatten.length * 32) room) = true := by
    rw [Db7 (by omega), decide_eq_true (by omega)]
    rfl
   rw [e1, e2]
   rfl
 unfold Pa0
 simp only [F9, ka9, hc]
 by_cases h0 : ls.flatten = []
 ·rw [if_pos h0, h0]; rfl
 ·rw [if_neg h0]
  generalize ls.flatten = c at *
  have e : ∀ (d : List Pln) (p : Pln), app (bL tP d) [[i p.n.x, i p.n.y, i p.n.z, i p.b]] = bL tP (d ++ [p]) := fun d p => Za9 tP d [p]
  have c1 := e c ⟨⟨1, 0, 0⟩, 24⟩
  have c2 := e (c ++ [⟨⟨1, 0, 0⟩, 24⟩]) ⟨⟨-1, 0, 0⟩, 24⟩
  have c3 := e (c ++ [⟨⟨1, 0, 0⟩, 24⟩] ++ [⟨⟨-1, 0, 0⟩, 24⟩]) ⟨⟨0, 1, 0⟩, 24⟩
  have c4 := e (c ++ [⟨⟨1, 0, 0⟩, 24⟩] ++ [⟨⟨-1, 0, 0⟩, 24⟩] ++ [⟨⟨0, 1, 0⟩, 24⟩]) ⟨⟨0, -1, 0⟩, 24⟩
  have c5 := e (c ++ [⟨⟨1, 0, 0⟩, 24⟩] ++ [⟨⟨-1, 0, 0⟩, 24⟩] ++ [⟨⟨0, 1, 0⟩, 24⟩] ++ [⟨⟨0, -1, 0⟩, 24⟩]) ⟨⟨0, 0, 1⟩, 24⟩
  have c6 := e (c ++ [⟨⟨1, 0, 0⟩, 24⟩] ++ [⟨⟨-1, 0, 0⟩, 24⟩] ++ [⟨⟨0, 1, 0⟩, 24⟩] ++ [⟨⟨0, -1, 0⟩, 24⟩] ++ [⟨⟨0, 0, 1⟩, 24⟩]) ⟨⟨0, 0, -1⟩, 24⟩
  simp only at c1 c2 c3 c4 c5 c6
  simp only [c1, c2, c3, c4, c5, c6, ta3, List.length_append, List.length_singleton]
  have g : ∀ n : Nat, n ≤ 1000000010 → (Nat.beq n n && Nat.ble ((n + 1) * 32) room) = true := fun n h => by rw [Nat.beq_refl, Db7 (by omega)]; rfl
  rw [g _ (by omega), g _ (by omega), g _ (by omega), g _ (by omega), g _ (by omega), g _ (by omega)]
  show some (a7.sl 0 0 (c.length + 1 + 1 + 1 + 1 + 1 + 1) 0, [(⟨42, 4, bL tP _, true, false, 0⟩ : a8)]) = _
  unfold slP
  rw [List.length_append]
  simp only [List.append_assoc]
  rfl
theorem nd6 (ls : List (List Pln)) (hn : ls.length ≤ 1000000000) (hl : ls.flatten.length ≤ 1000000000) : ua0 ls = ls.flatten ++ ws := by unfold ua0; rw [bd8 ls hn hl]; exact Pa4 _ (Nc3 _)
theorem nd7 (ls : List (List Pln)) (hn : ls.length ≤ 1000000000) (hl : ls.flatten.length ≤ 1000000000) : ua1 ls = true := by unfold ua1; rw [bd8 ls hn hl]; exact bb9 _ (Nc3 _)
theorem bd9 (c : List Pln) (hc : c.length ≤ 1000000000) : ua0 [c] = c ++ ws := by
 have : [c].flatten = c := by simp
 rw [nd6 [c] (by simp) (by rw [this]; exact hc), this]
theorem cd0 (c : List Pln) (hc : c.length ≤ 1000000000) : ua1 [c] = true := by
 have : [c].flatten = c := by simp
 exact nd7 [c] (by simp) (by rw [this]; exact hc)
theorem Vb5 (ls : List (List Pln)) (hn : ls.length ≤ 1000000000) (hl : ∀ c ∈ ls, c.length ≤ 1000000000) : ra0 ls = some (b (ls.all fun c => chk c == 0), []) := by
 have hv : ∀ c ∈ ls, qa8 c = !(chk c == 0) ∧ qa9 c = true := fun c hc => by
  have : ha7 c = some (b (!(chk c == 0)), []) := by
   unfold ha7
   simp only [F9, ka9, xc9 c (hl c hc), yc0 c (hl c hc)]
   rfl
  unfold qa8 qa9
  rw [this]
  exact ⟨rfl, rfl⟩
 have h := Ra7 (step := C3 ⟨ls, (ls.length : Int)⟩) (mk := fun j => (⟨(j : Int)⟩ : l4)) (c := fun c => !(chk c == 0)) (u := 1) (fin := 2) (tLs tP) ls hn
  (fun j hj => by
   have hm := hv _ (Zb1 (tLs tP) hj)
   simp only [C3, A0, Int.toNat_natCast, F9, ka9, hm.1, hm.2, M5 hj (by omega)]
   rw [btD (N8 hj), bt (q8 hj), ma7, ma7])
  (by simp only [C3, A0]; rw [bfD (ra6 (Nat.lt_irrefl _))]) 0 (Nat.zero_le _)
 rw [List.drop_zero] at h
 have e : (ls.any fun c => !(chk c == 0)) = !ls.all fun c => chk c == 0 := by rw [List.not_all_eq_any_not]
 unfold ra0 Q0 v6 W5 A7
 simp only [F9, J7]
 rw [show (⟨0⟩ : l4) = ⟨((0 : Nat) : Int)⟩ from rfl, h, e]
 cases ls.all fun c => chk c == 0 with
 | true => rfl
 | false =>
  simp only [Bool.not_false, if_true, Nat.zero_add]
  show sl true (sl (Nat.beq 1 1) (some (b (!(decide (((ls.findIdx fun c => !(chk c == 0) : Nat) : Int) ≥ 0))), [])) _) _ = _
  rw [show decide (((ls.findIdx fun c => !(chk c == 0) : Nat) : Int) ≥ 0) = true from decide_eq_true (by omega)]
  rfl
theorem lc5 (ls : List (List Pln)) (hn : ls.length ≤ 1000000000) (hl : ∀ c ∈ ls, c.length ≤ 1000000000) : R9 ls = ls.all fun c => chk c == 0 := by unfold R9; rw [Vb5 ls hn hl]; rfl
theorem lc6 (ls : List (List Pln)) (hn : ls.length ≤ 1000000000) (hl : ∀ c ∈ ls, c.length ≤ 1000000000) : S1 ls = true := by unfold S1; rw [Vb5 ls hn hl]; rfl
theorem rb6 (c : List Pln) (hc : c.length ≤ 1000000000) : R9 [c] = (chk c == 0) := by
 rw [lc5 [c] (by simp) (by simpa using hc)]
 simp
theorem rb7 (c : List Pln) (hc : c.length ≤ 1000000000) : S1 [c] = true := lc6 [c] (by simp) (by simpa using hc)
noncomputable def pos (X : List Pt) (p : Pln) : Bool := X.any fun x => decide (rm p x > 0)
noncomputable def ball (r : List Pln) : Bool := r.all (pos (cor r))
theorem Oc0 (p : Pln) (X : List Pt) (hX : X.length ≤ 1000000000) : Y0 ⟨p.n.x, p.n.y, p.n.z, p.b, X⟩ = ⟨1, !pos X p⟩ := by
 have hw : ∀ x : Pt, da3 ⟨x.px, x.py, x.pz, x.pw, p.n.x, p.n.y, p.n.z, p.b⟩ = ⟨decide (rm p x > 0)⟩ := fun x => by
  show J9.mk (decide (ca8 p x > 0)) = _
  rw [ac9]
 have h := Ra7 (step := D6 ⟨X, (X.length : Int), p.n.x, p.n.y, p.n.z, p.b⟩) (mk := fun j => (⟨(j : Int)⟩ : m0)) (c := fun x => decide (rm p x > 0)) (u := 1) (fin := 2) tX X hX
  (fun j hj => by
   simp only [D6, C5, Int.toNat_natCast, hw, M5 hj (by omega)]
   rw [btD (N8 hj), bt (q8 hj)])
  (by simp only [D6, C5]; rw [bfD (ra6 (Nat.lt_irrefl _))]) 0 (Nat.zero_le _)
 rw [List.drop_zero] at h
 unfold Y0 I9 S4 y6 Y9 D0 pos
 simp only [F9, J7]
 rw [show (⟨0⟩ : m0) = ⟨((0 : Nat) : Int)⟩ from rfl, h]
 cases X.any fun x => decide (rm p x > 0) with
 | false => rfl
 | true =>
  simp only [if_true, Nat.zero_add]
  show O6.mk 1 (!(decide (((X.findIdx fun x => decide (rm p x > 0) : Nat) : Int) ≥ 0))) = _
  rw [show decide (((X.findIdx fun x => decide (rm p x > 0) : Nat) : Int) ≥ 0) = true from decide_eq_true (by omega)]
theorem yc2 (r : List Pln) (hb : Bds r) (hr : r.length ≤ 200) : U5 r = some (b (ball r), []) := by
 have hX : (cor r).length ≤ 1000000000 := Nat.le_trans (yc1 r hb hr) (by omega)
 have h := Ra7 (step := C6 ⟨r, (r.length : Int)⟩) (mk := fun j => (⟨(j : Int), cor r⟩ : l5)) (c := fun p => !pos (cor r) p) (u := 1) (fin := 2) tP r (by omega)
  (fun j hj => by
   simp only [C6, A1, Int.toNat_natCast, F9, J7, Oc0 _ _ hX, M5 hj (by omega)]
   rw [btD (N8 hj), bt (q8 hj)]
   rfl)
  (by simp only [C6, A1]; rw [bfD (ra6 (Nat.lt_irrefl _))]) 0 (Nat.zero_le _)
 rw [List.drop_zero] at h
 have e : (r.any fun p => !pos (cor r) p) = !r.all (pos (cor r)) := by rw [List.not_all_eq_any_not]
 unfold U5 Q3 v7 W7 A8 ball
 simp only [F9, J7, ka9, Vb3 r hb hr, Vb4 r hb hr]
 rw [show (⟨0, cor r⟩ : l5) = ⟨((0 : Nat) : Int), cor r⟩ from rfl, h, e]
 cases r.all (pos (cor r)) with
 | true => rfl
 | false =>
  simp only [Bool.not_false, if_true, Nat.zero_add]
  show some (b (!(decide (((r.findIdx fun p => !pos (cor r) p : Nat) : Int) ≥ 0))), []) = _
  rw [show decide (((r.findIdx fun p => !pos (cor r) p : Nat) : Int) ≥ 0) = true from decide_eq_true (by omega)]
  rfl
theorem Oc1 (r : List Pln) (hb : Bds r) (hr : r.length ≤ 200) : U9 r = ball r := by unfold U9; rw [yc2 r hb hr]; rfl
theorem Oc2 (r : List Pln) (hb : Bds r) (hr : r.length ≤ 200) : V0 r = true := by unfold V0; rw [yc2 r hb hr]; rfl
theorem fb1 {c : List Pln} (h : (chk c == 0) = true) : Bds (c ++ ws) ∧ (c ++ ws).length ≤ 200 := by
 rw [beq_iff_eq, rb5] at h
 refine ⟨fun p hp => ?_, by rw [List.length_append, show ws.length = 6 from rfl]; omega⟩
 rcases List.mem_append.1 hp with hp | hp
 ·exact Lb6 (h.2 p hp)
 ·exact bd7 p hp
noncomputable def pts (c : List Pln) : List Pt := if chk c == 0 then cor (c ++ ws) else []
noncomputable def ful (c : List Pln) : Bool := (chk c == 0) && ball (c ++ ws)
theorem lc7 {c : List Pln} (hc : c.length ≤ 1000000000) : ∃ x, ma2 c = some x ∧ (one (r1L tX)).rd x = some (pts c) := by
 unfold ma2 pts
 simp only [F9, ka9, rb6 c hc, rb7 c hc, bd9 c hc, cd0 c hc]
 cases h : chk c == 0 with
 | false => exact ⟨_, rfl, rfl⟩
 | true =>
  obtain ⟨h1, h2⟩ := fb1 h
  rw [Vb3 _ h1 h2, Vb4 _ h1 h2]
  exact ⟨_, rfl, nd5 tX _⟩
theorem Pa5 {c : List Pln} (hc : c.length ≤ 1000000000) : N6 c = pts c := by
 obtain ⟨x, h1, h2⟩ := lc7 hc
 unfold N6; rw [h1]; exact Pa4 _ h2
theorem Pa6 {c : List Pln} (hc : c.length ≤ 1000000000) : N7 c = true := by
 obtain ⟨x, h1, h2⟩ := lc7 hc
 unfold N7; rw [h1]; exact bb9 _ h2
theorem yc3 {c : List Pln} (hc : c.length ≤ 1000000000) : xa4 c = some (b (ful c), []) := by
 unfold xa4 ful
 simp only [F9, ka9, rb6 c hc, rb7 c hc, bd9 c hc, cd0 c hc]
 cases h : chk c == 0 with
 | false => rfl
 | true =>
  obtain ⟨h1, h2⟩ := fb1 h
  rw [Oc1 _ h1 h2, Oc2 _ h1 h2]
  rfl
theorem Mb1 {c : List Pln} (hc : c.length ≤ 1000000000) : ca9 c = ful c := by unfold ca9; rw [yc3 hc]; rfl
theorem Mb2 {c : List Pln} (hc : c.length ≤ 1000000000) : da0 c = true := by unfold da0; rw [yc3 hc]; rfl
end Go.Ev.Ce
section
namespace Go.Ev.Ce
open Go Go.Ev Go.Ev.L Go.Proofs
set_option maxRecDepth 100000
structure Gc4 where
 is1 : Int
 Wb3 : List Int
 o7 : Int
structure Gc5 where
 alt : Nat
 is0 : Int
 o7 : Int
structure kd4 where
 is1 : Int
 Wb3 : List Int
 o7 : Int
structure kd5 where
 alt : Nat
 Ba3 : Int
 Ba4 : Int
 Ba5 : Int
 Wb3 : List Int
 o7 : Int
end Go.Ev.Ce
end
section
namespace Go.Ev.Ce
open Go Go.Ev Go.Ev.L Go.Proofs
set_option maxRecDepth 100000
noncomputable def Ka9 : List (Nat × Sum) := []
theorem lb9 : o8 prog G Ka9 := trivial
structure V1 where
 F7 : List Pt
 Ob0 : List Pt
structure B5 where
 is5 : Int
noncomputable def gb6 (p : V1) (s : B5) : St := ⟨((eL tX p.F7) :: ((eL tX p.Ob0) :: (ra 3 ((i s.is5) :: (ra 20 []))))), []⟩
noncomputable def O9 {α : Type} (k : B5 → α) (e : Nat → α) (z : α) (p : V1) (s : B5) : α := (sl (decide (s.is5 < (↑(List.length p.F7) : Int))) (sl (inB s.is5 (List.length p.F7)) (sl (inB s.is5 (List.length p.Ob0)) (sl (!(((gL tX p.F7 s.is5.toNat).px == (gL tX p.Ob0 s.is5.toNat).px) && (((gL tX p.F7 s.is5.toNat).py == (gL tX p.Ob0 s.is5.toNat).py) && (((gL tX p.F7 s.is5.toNat).pz == (gL tX p.Ob0 s.is5.toNat).pz) && (((gL tX p.F7 s.is5.toNat).pw == (gL tX p.Ob0 s.is5.toNat).pw) && true))))) (e 1) (k ⟨(W (s.is5 + 1))⟩)) z) z) (e 2))
noncomputable def Q9 (p : V1) (s : B5) : Stp B5 := O9 .next .exit .fail p s
noncomputable def na9 : Lo V1 B5 := ⟨En Ka9, 0, md4, [1, 1, 0, 1, 4, 4], [0, 1, 5], .p, [⟨((.s (.c 4 (nL tX))) :: ((.s (.c 4 (nL tX))) :: (ru2 3 ((.s (.o (.int .i64))) :: (ru2 20 []))))), [], fun a H => (⟨(rL tX (slT a 0)), (rL tX (slT a 1))⟩, ⟨(toI (slT a 5))⟩)⟩], Q9, [(none, fun p s => ⟨[(b false)], []⟩), (some 0, fun p s => ⟨((eL tX p.F7) :: ((eL tX p.Ob0) :: (ra 3 ((i s.is5) :: (ra 5 ((i s.is5) :: ((eL tX p.F7) :: ((i (↑(List.length p.F7) : Int)) :: ((b (decide (s.is5 < (↑(List.length p.F7) : Int)))) :: (ra 11 [])))))))))), []⟩)], gb6⟩
theorem gb7 : na9.Ok := Lo.ok [] (by kernel_rfl) .nil rfl (.cons (fun a H => by kernel_rfl) .nil) fun p s => (.of @O9 (fun F _ _ _ _ _ => by unfold O9; (repeat' apply B7 (f := F)) <;> rfl) (by kernel_rfl))
noncomputable def ba9 (x : List Pt) (y : List Pt) : Option (a7 × List a8) := let t1 := (lp (Q9 (⟨(rt tX x), (rt tX y)⟩ : V1)) (⟨0⟩ : B5)); (sl ((↑(List.length x) : Int) != (↑(List.length y) : Int)) (some ((b false), [])) (sl ((cnE tX x) && ((cnE tX y) && true)) (sl (Nat.beq t1.1 1) (some ((b false), [])) (sl (Nat.beq t1.1 2) (some ((b true), [])) none)) none))
noncomputable def ca0 (x : List Pt) (y : List Pt) : Bool := la0 (one r1B) (ba9 x y)
noncomputable def ca1 (x : List Pt) (y : List Pt) : Bool := okO (one r1B) (ba9 x y)
noncomputable def Pa7 : Sum := va9 (Ea9 tX) (Ea9 tX) (fun x y => .guard (ca1 x y) (.ret ((one r1B).enc (ca0 x y), [])))
theorem rb8 : j6 prog G 22 Pa7 := Ib7 (bd b22 lb9) (one r1B) (o := ba9) fun x y => gb2 (.s .p (.s .p (.s (.s .p (.b (.u na9.ls))) .p))) [na9.pr] (by kernel_rfl) (.cons gb7 .nil) (by kernel_rfl)
noncomputable def zb9 : List (Nat × Sum) := []
theorem bc4 : o8 prog G zb9 := trivial
structure ra7 where
 u9 : List Pln
 Ob1 : List Pln
structure S8 where
 is5 : Int
noncomputable def Qb5 (p : ra7) (s : S8) : St := ⟨((eL tP p.u9) :: ((eL tP p.Ob1) :: (ra 3 ((i s.is5) :: (ra 20 []))))), []⟩
noncomputable def ia2 {α : Type} (k : S8 → α) (e : Nat → α) (z : α) (p : ra7) (s : S8) : α := (sl (decide (s.is5 < (↑(List.length p.u9) : Int))) (sl (inB s.is5 (List.length p.u9)) (sl (inB s.is5 (List.length p.Ob1)) (sl (!(((gL tP p.u9 s.is5.toNat).n.x == (gL tP p.Ob1 s.is5.toNat).n.x) && (((gL tP p.u9 s.is5.toNat).n.y == (gL tP p.Ob1 s.is5.toNat).n.y) && (((gL tP p.u9 s.is5.toNat).n.z == (gL tP p.Ob1 s.is5.toNat).n.z) && (((gL tP p.u9 s.is5.toNat).b == (gL tP p.Ob1 s.is5.toNat).b) && true))))) (e 1) (k ⟨(W (s.is5 + 1))⟩)) z) z) (e 2))
noncomputable def ma3 (p : ra7) (s : S8) : Stp S8 := ia2 .next .exit .fail p s
noncomputable def Ta5 : Lo ra7 S8 := ⟨En zb9, 0, md5, [1, 1, 0, 1, 4, 4], [0, 1, 5], .p, [⟨((.s (.c 4 (nL tP))) :: ((.s (.c 4 (nL tP))) :: (ru2 3 ((.s (.o (.int .i64))) :: (ru2 20 []))))), [], fun a H => (⟨(rL tP (slT a 0)), (rL tP (slT a 1))⟩, ⟨(toI (slT a 5))⟩)⟩], ma3, [(none, fun p s => ⟨[(b false)], []⟩), (some 0, fun p s => ⟨((eL tP p.u9) :: ((eL tP p.Ob1) :: (ra 3 ((i s.is5) :: (ra 5 ((i s.is5) :: ((eL tP p.u9) :: ((i (↑(List.length p.u9) : Int)) :: ((b (decide (s.is5 < (↑(List.length p.u9) : Int)))) :: (ra 11 [])))))))))), []⟩)], Qb5⟩
theorem Qb6 : Ta5.Ok := Lo.ok [] (by kernel_rfl) .nil rfl (.cons (fun a H => by kernel_rfl) .nil) fun p s => (.of @ia2 (fun F _ _ _ _ _ => by unfold ia2; (repeat' apply B7 (f := F)) <;> rfl) (by kernel_rfl))
noncomputable def Ga3 (x : List Pln) (y : List Pln) : Option (a7 × List a8) := let t1 := (lp (ma3 (⟨(rt tP x), (rt tP y)⟩ : ra7)) (⟨0⟩ : S8)); (sl ((↑(List.length x) : Int) != (↑(List.length y) : Int)) (some ((b false), [])) (sl ((cnE tP x) && ((cnE tP y) && true)) (sl (Nat.beq t1.1 1) (some ((b false), [])) (sl (Nat.beq t1.1 2) (some ((b true), [])) none)) none))
noncomputable def Ta6 (x : List Pln) (y : List Pln) : Bool := la0 (one r1B) (Ga3 x y)
noncomputable def Ta7 (x : List Pln) (y : List Pln) : Bool := okO (one r1B) (Ga3 x y)
noncomputable def Mb3 : Sum := va9 (Ea9 tP) (Ea9 tP) (fun x y => .guard (Ta7 x y) (.ret ((one r1B).enc (Ta6 x y), [])))
theorem lc8 : j6 prog G 23 Mb3 := Ib7 (bd b23 bc4) (one r1B) (o := Ga3) fun x y => gb2 (.s .p (.s .p (.s (.s .p (.b (.u Ta5.ls))) .p))) [Ta5.pr] (by kernel_rfl) (.cons Qb6 .nil) (by kernel_rfl)
end Go.Ev.Ce
end
namespace Go.Ev.Ce
open Go Go.Ev Go.Ev.L Go.Proofs
theorem lc9 {Q : Pt → Prop} (r : List Pln) (p q : Pln) : ∀ (l : List Pln) (out : List Pt), (∀ s ∈ l, (mpt p q s).2 = true → inn r (mpt p q s).1 = true → Q (mpt p q s).1) → (∀ x ∈ out, Q x) → ∀ x ∈ Ta4 r p q l out, Q x
 | [], out, _, h => h
 | s :: l, out, hs, h => lc9 r p q l (oa6 r p q out s) (fun t ht => hs t (List.mem_cons_of_mem _ ht)) fun x hx => by
  unfold oa6 at hx
  split at hx
  ·rename_i hc
   rw [Bool.and_eq_true, Bool.and_eq_true] at hc
   rcases List.mem_append.1 hx with hx | hx
   ·exact h x hx
   ·rw [List.mem_singleton] at hx
    subst hx
    exact hs s List.mem_cons_self hc.1 hc.2.2
  ·exact h x hx
theorem mc0 {Q : Pt → Prop} (r : List Pln) (p : Pln) : ∀ (l : List Pln) (out : List Pt), (∀ q ∈ l, ∀ s ∈ l, (mpt p q s).2 = true → inn r (mpt p q s).1 = true → Q (mpt p q s).1) → (∀ x ∈ out, Q x) → ∀ x ∈ Ia9 r p l out, Q x
 | [], out, _, h => h
 | q :: l, out, hs, h => mc0 r p l _ (fun a ha t ht => hs a (List.mem_cons_of_mem _ ha) t (List.mem_cons_of_mem _ ht)) (lc9 r p q l out (fun t ht => hs q List.mem_cons_self t (List.mem_cons_of_mem _ ht)) h)
theorem mc1 {Q : Pt → Prop} (r : List Pln) : ∀ (l : List Pln) (out : List Pt), (∀ p ∈ l, ∀ q ∈ l, ∀ s ∈ l, (mpt p q s).2 = true → inn r (mpt p q s).1 = true → Q (mpt p q s).1) → (∀ x ∈ out, Q x) → ∀ x ∈ xb3 r l out, Q x
 | [], out, _, h => h
 | p :: l, out, hs, h => mc1 r l _ (fun a ha c hc t ht => hs a (List.mem_cons_of_mem _ ha) c (List.mem_cons_of_mem _ hc) t (List.mem_cons_of_mem _ ht)) (mc0 r p l out (fun c hc t ht => hs p List.mem_cons_self c (List.mem_cons_of_mem _ hc) t (List.mem_cons_of_mem _ ht)) h)
theorem bc5 {Q : Pt → Prop} {r : List Pln} (hs : ∀ p ∈ r, ∀ q ∈ r, ∀ s ∈ r, (mpt p q s).2 = true → inn r (mpt p q s).1 = true → Q (mpt p q s).1) : ∀ x ∈ cor r, Q x :=
 mc1 r r [] hs fun x hx => by cases hx
structure Okx (x : Pt) : Prop where
 w1 : 0 < x.pw
 w2 : x.pw ≤ 600000000000
 c1 : Sm 300000000000000 x.px
 c2 : Sm 300000000000000 x.py
 c3 : Sm 300000000000000 x.pz
theorem fb2 {r : List Pln} (hb : Bds r) : ∀ x ∈ cor r, Okx x := bc5 fun p hp q hq s hs h _ => by
 obtain ⟨h1, h2, h3, h4, h5⟩ := tc6 (hb p hp) (hb q hq) (hb s hs) h
 exact ⟨h1, h5, h2, h3, h4⟩
theorem Yc0 {c : List Pln} : ∀ x ∈ pts c, Okx x := by
 unfold pts
 cases h : chk c == 0 with
 | false => intro x hx; cases hx
 | true => exact fb2 (fb1 h).1
theorem bc6 (c : List Pln) : (pts c).length ≤ 8000000 := by
 unfold pts
 cases h : chk c == 0 with
 | false => exact Nat.zero_le _
 | true => exact yc1 _ (fb1 h).1 (fb1 h).2
theorem Oc3 {x y : Int} (hy : 0 < y) : Int.tmod x y + y * Int.tdiv x y = x ∧ -y < Int.tmod x y ∧ Int.tmod x y < y := by
 refine ⟨Int.tmod_add_mul_tdiv x y, ?_, Int.tmod_lt_of_pos x hy⟩
 have := Int.lt_tmod_of_pos x hy
 omega
theorem yc4 {x y q r : Int} (hy : 0 < y) (h : r + y * q = x) (h1 : 0 ≤ r) (h2 : r < y) : x / y = q := ((Int.ediv_emod_unique hy).2 ⟨h, h1, h2⟩).1
theorem Yc1 {x y : Int} (hx : Sm 300000000000000 x) (hy : 0 < y) : Sm 300000000000000 (Int.tdiv x y) := Y1 hx hy
theorem mc2 {x y : Int} (hx : Sm 300000000000000 x) (hy : 0 < y) : ra2 x y = some (i (x / y), []) := by
 have hz : (y == 0) = false := by rw [beq_eq_false_iff_ne]; omega
 obtain ⟨h1, h2, h3⟩ := Oc3 (x := x) hy
 have hb := Yc1 hx hy
 unfold ra2
 rw [bf hz, bf hz, xb0 (hb.mono (by omega))]
 by_cases h : Int.tmod x y < 0
 ·rw [btD h, yc4 hy (q := Int.tdiv x y - 1) (r := Int.tmod x y + y) (by rw [Int.mul_sub]; omega) (by omega) (by omega), Ca1 (by have := hb.1; omega) (by have := hb.2; omega)]
 ·rw [bfD h, yc4 hy h1 (by omega) h3]
theorem fb3 {x y : Int} (hx : Sm 300000000000000 x) (hy : 0 < y) : S6 x y = x / y := by unfold S6; rw [mc2 hx hy]; rfl
theorem fb4 {x y : Int} (hx : Sm 300000000000000 x) (hy : 0 < y) : S7 x y = true := by unfold S7; rw [mc2 hx hy]; rfl
noncomputable def Ga4 (s : V3 × V3) (x : Pt) : V3 × V3 :=
 (⟨if x.px / x.pw < s.1.x then x.px / x.pw else s.1.x, if x.py / x.pw < s.1.y then x.py / x.pw else s.1.y, if x.pz / x.pw < s.1.z then x.pz / x.pw else s.1.z⟩,
  ⟨if W (0 - -x.px / x.pw) > s.2.x then W (0 - -x.px / x.pw) else s.2.x, if W (0 - -x.py / x.pw) > s.2.y then W (0 - -x.py / x.pw) else s.2.y, if W (0 - -x.pz / x.pw) > s.2.z then W (0 - -x.pz / x.pw) else s.2.z⟩)
noncomputable def bnd (c : List Pln) : V3 × V3 × Bool :=
 if ful c then (((pts c).foldl Ga4 (⟨24, 24, 24⟩, ⟨-24, -24, -24⟩)).1, ((pts c).foldl Ga4 (⟨24, 24, 24⟩, ⟨-24, -24, -24⟩)).2, true) else (⟨0, 0, 0⟩, ⟨0, 0, 0⟩, false)
theorem Oc4 {x : Int} (h : Sm 300000000000000 x) : W (0 - x) = -x := by obtain ⟨h1, h2⟩ := h; rw [Ca1 (by omega) (by omega)]; omega
theorem Sm.neg {n x : Int} (h : Sm n x) : Sm n (-x) := ⟨by have := h.2; omega, by have := h.1; omega⟩
noncomputable def nd8 (r : V3 × V3 × Bool) : a7 := .tup [.agg (tV.row r.1), .agg (tV.row r.2.1), b r.2.2]
theorem tc9 (X : List Pt) (hX : X.length ≤ 8000000) (hok : ∀ x ∈ X, Okx x) (s : V3 × V3) : ∃ m, lp (X1 ⟨X, (X.length : Int)⟩) ⟨0, s.1.x, s.1.y, s.1.z, s.2.x, s.2.y, s.2.z⟩ = (1, ⟨m, (X.foldl Ga4 s).1.x, (X.foldl Ga4 s).1.y, (X.foldl Ga4 s).1.z, (X.foldl Ga4 s).2.x, (X.foldl Ga4 s).2.y, (X.foldl Ga4 s).2.z⟩) := by
 have h := Db8 (step := X1 ⟨X, (X.length : Int)⟩) (mk := fun j (s : V3 × V3) => (⟨(j : Int), s.1.x, s.1.y, s.1.z, s.2.x, s.2.y, s.2.z⟩ : O8)) (f := Ga4) (fin := 1) tX X (fun _ _ => True) (by omega)
  (fun j s hj _ => ⟨by
   have hx := hok _ (Zb1 tX hj)
   simp only [X1, ba8, Int.toNat_natCast, Oc4 hx.c1, Oc4 hx.c2, Oc4 hx.c3, fb3 hx.c1 hx.w1, fb3 hx.c2 hx.w1, fb3 hx.c3 hx.w1, fb4 hx.c1 hx.w1, fb4 hx.c2 hx.w1, fb4 hx.c3 hx.w1,
    fb3 hx.c1.neg hx.w1, fb3 hx.c2.neg hx.w1, fb3 hx.c3.neg hx.w1, fb4 hx.c1.neg hx.w1, fb4 hx.c2.neg hx.w1, fb4 hx.c3.neg hx.w1, M5 hj (by omega)]
   rw [btD (N8 hj), bt (q8 hj)]
   rfl, trivial⟩)
  (fun s _ => by simp only [X1, ba8]; rw [bfD (ra6 (Nat.lt_irrefl _))]) 0 (Nat.zero_le _) s trivial
 have h := h.1
 rw [List.drop_zero] at h
 exact ⟨_, h⟩
theorem mc3 {c : List Pln} (hc : c.length ≤ 1000000000) : ra3 c = some (nd8 (bnd c), []) := by
 have ht : J8 ⟨24, 24, 24⟩ (-1) = ⟨-24, -24, -24⟩ := by
  unfold J8
  rw [show W (24 * -1) = -24 from by rw [Jc4]; rfl]
 obtain ⟨m, hm⟩ := tc9 (pts c) (bc6 c) Yc0 (⟨24, 24, 24⟩, ⟨-24, -24, -24⟩)
 unfold ra3 bnd
 simp only [F9, ka9, J7, Mb1 hc, Mb2 hc, Pa5 hc, Pa6 hc, ht, hm]
 cases ful c <;> rfl
theorem yc5 (r : V3 × V3 × Bool) : (ic1 r1V r1V r1B).rd (nd8 r, []) = some r := rfl
theorem yc6 {c : List Pln} (hc : c.length ≤ 1000000000) : ra4 c = bnd c := by unfold ra4; rw [mc3 hc]; exact Pa4 _ (yc5 _)
theorem yc7 {c : List Pln} (hc : c.length ≤ 1000000000) : ra5 c = true := by unfold ra5; rw [mc3 hc]; exact bb9 _ (yc5 _)
theorem Oc5 (x : Pt) : (x.px == x.px && (x.py == x.py && (x.pz == x.pz && (x.pw == x.pw && true)))) = true := (bc1 x x).2 rfl
theorem Oc6 (x : Pln) : (x.n.x == x.n.x && (x.n.y == x.n.y && (x.n.z == x.n.z && (x.b == x.b && true)))) = true := by simp
theorem jb0 (l : List Pt) (hl : l.length ≤ 1000000000) : ba9 l l = some (b true, []) := by
 have h := sc4 (step := Q9 ⟨l, l⟩) (mk := fun j => (⟨(j : Int)⟩ : B5)) (c := fun _ => false) (u := 1) (fin := 2) tX l hl
  (fun j hj => by
   simp only [Q9, O9, Int.toNat_natCast, M5 hj (by omega), Oc5]
   rw [btD (N8 hj), bt (q8 hj), bt (q8 hj)]
   rfl)
  (by simp only [Q9, O9]; rw [bfD (ra6 (Nat.lt_irrefl _))]) 0 (Nat.zero_le _)
 rw [List.drop_zero, show (l.any fun _ => false) = false by simp] at h
 unfold ba9
 simp only [F9, J7]
 rw [show (⟨0⟩ : B5) = ⟨((0 : Nat) : Int)⟩ from rfl, h, bf (by simp)]
 rfl
theorem rb9 (l : List Pt) (hl : l.length ≤ 1000000000) : ca0 l l = true := by unfold ca0; rw [jb0 l hl]; rfl
theorem sb0 (l : List Pt) (hl : l.length ≤ 1000000000) : ca1 l l = true := by unfold ca1; rw [jb0 l hl]; rfl
theorem yc8 (l : List Pln) (hl : l.length ≤ 1000000000) : Ga3 l l = some (b true, []) := by
 have h := sc4 (step := ma3 ⟨l, l⟩) (mk := fun j => (⟨(j : Int)⟩ : S8)) (c := fun _ => false) (u := 1) (fin := 2) tP l hl
  (fun j hj => by
   simp only [ma3, ia2, Int.toNat_natCast, M5 hj (by omega), Oc6]
   rw [btD (N8 hj), bt (q8 hj), bt (q8 hj)]
   rfl)
  (by simp only [ma3, ia2]; rw [bfD (ra6 (Nat.lt_irrefl _))]) 0 (Nat.zero_le _)
 rw [List.drop_zero, show (l.any fun _ => false) = false by simp] at h
 unfold Ga3
 simp only [F9, J7]
 rw [show (⟨0⟩ : S8) = ⟨((0 : Nat) : Int)⟩ from rfl, h, bf (by simp)]
 rfl
theorem hd8 (l : List Pln) (hl : l.length ≤ 1000000000) : Ta6 l l = true := by unfold Ta6; rw [yc8 l hl]; rfl
theorem hd9 (l : List Pln) (hl : l.length ≤ 1000000000) : Ta7 l l = true := by unfold Ta7; rw [yc8 l hl]; rfl
end Go.Ev.Ce
namespace Go.Ev.Ce
open Go Go.Ev Go.Ev.L Go.Proofs
def Nx {σ : Type} (x : Stp σ) (E : Nat → Prop) (N : σ → Prop) : Prop := (∃ t, x = .exit t ∧ E t) ∨ ∃ s, x = .next s ∧ N s
theorem Nx.sl {σ : Type} {c : Bool} {t e : Stp σ} {E : Nat → Prop} {N : σ → Prop} (h1 : c = true → Nx t E N) (h2 : c = false → Nx e E N) : Nx (sl c t e) E N := by cases c; exact h2 rfl; exact h1 rfl
theorem Nx.ex {σ : Type} {t : Nat} {E : Nat → Prop} {N : σ → Prop} (h : E t) : Nx (.exit t) E N := .inl ⟨t, rfl, h⟩
theorem Nx.nx {σ : Type} {s : σ} {E : Nat → Prop} {N : σ → Prop} (h : N s) : Nx (.next s) E N := .inr ⟨s, rfl, h⟩
theorem bc7 {σ τ : Type} {step : σ → Stp σ} {mk : Nat → τ → σ} (n : Nat) (I : Nat → τ → Prop) (E : Nat → σ → Prop) (hn : n ≤ 1000000000)
  (h : ∀ j a, j < n → I j a → Nx (step (mk j a)) (fun t => E t (mk j a)) (fun s => ∃ a', s = mk (j + 1) a' ∧ I (j + 1) a'))
  (hf : ∀ j a, n ≤ j → I j a → ∃ t, step (mk j a) = .exit t ∧ E t (mk j a)) (j0 : Nat) (a : τ) (hi : I j0 a) : ∃ t s, lp step (mk j0 a) = (t, s) ∧ E t s := by
 have key := kb8 (step := step) (I := fun m s => ∃ j a, m = n - j ∧ s = mk j a ∧ I j a) (Q := E) (fun m s ⟨j, a, hm, hs, ha⟩ => by
  subst hs
  by_cases hlt : j < n
  ·rcases h j a hlt ha with h1 | ⟨s', h1, a', h2, h3⟩
   ·exact .inl h1
   ·subst h2
    exact .inr ⟨_, n - (j + 1), by omega, h1, j + 1, a', rfl, rfl, h3⟩
  ·exact .inl (hf j a (by omega) ha)) (n - j0) (mk j0 a) (by omega) ⟨j0, a, rfl, rfl, hi⟩
 exact ⟨_, _, rfl, key⟩
def Rd {ρ : Type} (R : RR ρ) (o : Option (a7 × List a8)) (P : ρ → Prop) : Prop := ∃ x r, o = some x ∧ R.rd x = some r ∧ P r
theorem Rd.p {ρ : Type} {R : RR ρ} {o : Option (a7 × List a8)} {P : ρ → Prop} (h : Rd R o P) : P (la0 R o) := by
 obtain ⟨x, r, h1, h2, h3⟩ := h
 rw [h1, Pa4 R h2]
 exact h3
theorem Rd.g {ρ : Type} {R : RR ρ} {o : Option (a7 × List a8)} {P : ρ → Prop} (h : Rd R o P) : okO R o = true := by
 obtain ⟨x, r, h1, h2, h3⟩ := h
 rw [h1]
 exact bb9 R h2
theorem Rd.sl {ρ : Type} {R : RR ρ} {c : Bool} {t e : Option (a7 × List a8)} {P : ρ → Prop} (h1 : c = true → Rd R t P) (h2 : c = false → Rd R e P) : Rd R (sl c t e) P := by cases c; exact h2 rfl; exact h1 rfl
def inV (v : V3) : Bool := smb 24 v.x && (smb 24 v.y && smb 24 v.z)
theorem bc8 (v : V3) : inV v = true ↔ Sm 24 v.x ∧ Sm 24 v.y ∧ Sm 24 v.z := by unfold inV; rw [Bool.and_eq_true, Bool.and_eq_true, fb0, fb0, fb0]
def sub (a b : V3) : V3 := ⟨a.x - b.x, a.y - b.y, a.z - b.z⟩
def uc0 (a b c : V3) : Pln × Bool :=
 if inV a && (inV b && inV c) then
  if g3 (o4 (sub b a) (sub c a)) = 0 then (⟨⟨0, 0, 0⟩, 0⟩, false)
  else (⟨⟨Int.tdiv (o4 (sub b a) (sub c a)).x (g3 (o4 (sub b a) (sub c a))), Int.tdiv (o4 (sub b a) (sub c a)).y (g3 (o4 (sub b a) (sub c a))), Int.tdiv (o4 (sub b a) (sub c a)).z (g3 (o4 (sub b a) (sub c a)))⟩,
   dot ⟨Int.tdiv (o4 (sub b a) (sub c a)).x (g3 (o4 (sub b a) (sub c a))), Int.tdiv (o4 (sub b a) (sub c a)).y (g3 (o4 (sub b a) (sub c a))), Int.tdiv (o4 (sub b a) (sub c a)).z (g3 (o4 (sub b a) (sub c a)))⟩ a⟩, true)
 else (⟨⟨0, 0, 0⟩, 0⟩, false)
end Go.Ev.Ce
namespace Go.Ev.Ce
open Go Go.Ev Go.Ev.L Go.Proofs
structure Fc (ph : Nat) (out : List Pln) (m : Nat) : Prop where
 h : (ph = 0 ∧ out = []) ∨ ph = 1
 l : out.length ≤ m
theorem Fc.more {ph m m' : Nat} {out : List Pln} (h : Fc ph out m) (hm : m ≤ m') : Fc ph out m' := ⟨h.h, Nat.le_trans h.l hm⟩
end Go.Ev.Ce
namespace Go.Ev.Ce
open Go Go.Ev Go.Ev.L Go.Proofs
theorem Eb3 {l : List Pln} {k : Nat} (h : k < l.length) : ldR tP (bL tP l) (0 + k) = true := by rw [Nat.zero_add]; exact rc9 tP h
theorem sb1 {l : List Pln} {k : Nat} (h : k < l.length) : rdR tP (bL tP l) (0 + k) = gL tP l k := by rw [Nat.zero_add]; exact rc8 tP h
theorem id1 {l : List Pln} {n : Nat} {r : List (List a7)} {P : List Pln → Prop} (hn : n ≤ l.length) (hr : r = bL tP l) (h : P (l.take n)) : Rd (one (r1L tP)) (some (.sl 0 0 n 0, [⟨42, 4, r, true, false, 0⟩])) P := by
 subst hr
 have e1 : slR tP (bL tP l) 0 n = l.take n := Ib5 tP (by rw [List.length_take]; omega) fun k hk => by
  rw [Nat.zero_add, fa0 tP (by omega)]
  congr 1
  simp [gL, List.getD_eq_getElem?_getD, List.getElem?_take, hk]
 have e2 : okS tP (bL tP l) 0 n = true := vb3 tP (f := fun k => gL tP l k) fun k hk => by rw [Nat.zero_add, fa0 tP (by omega)]
 refine ⟨_, l.take n, rfl, ?_, h⟩
 show Bool.rec (motive := fun _ => Option (List Pln)) none (some (slR tP (bL tP l) 0 n)) (Bool.and true (okS tP (bL tP l) 0 n)) = _
 rw [e1, e2]
 rfl
end Go.Ev.Ce
section
namespace Go.Ev.Ce
open Go Go.Ev Go.Ev.L Go.Proofs
set_option maxRecDepth 100000
structure va3 where
 Ba3 : Int
 Ba4 : Int
 Ba5 : Int
 Ha3 : Int
 i8 : List Pt
noncomputable def cb0 : List (Nat × Sum) := [(32, Ka8)]
theorem Cb0 : o8 prog G cb0 := ⟨Sa3, trivial⟩
structure ea2 where
 Ac4 : List Pt
 is8 : Int
 i8 : List Pt
 N9 : Int
 O0 : Int
 O1 : Int
 O2 : Int
structure I0 where
 is4 : Int
 is9 : Int
noncomputable def xb4 (p : ea2) (s : I0) : St := ⟨(.unk :: (.unk :: ((.ptr 1 0 0 0) :: (.unk :: ((i s.is4) :: (.unk :: (.unk :: ((eL tX p.Ac4) :: ((i p.is8) :: ((i s.is9) :: (ra 12 []))))))))))), [⟨0, 1, [[(eL tX p.i8)]], true, false, 0⟩, ⟨0, 4, [[(i p.N9), (i p.O0), (i p.O1), (i p.O2)]], true, false, 0⟩]⟩
noncomputable def Y2 {α : Type} (k : I0 → α) (e : Nat → α) (z : α) (p : ea2) (s : I0) : α := let t1 := (ca8 (⟨(⟨p.N9, p.O0, p.O1⟩ : V3), p.O2⟩ : Pln) (gL tX p.Ac4 s.is9.toNat)); (sl (decide (s.is9 < p.is8)) (sl (inB s.is9 (List.length p.Ac4)) (sl (t1 == 0) (k ⟨(W (s.is4 + 1)), (W (s.is9 + 1))⟩) (k ⟨s.is4, (W (s.is9 + 1))⟩)) z) (e 1))
noncomputable def ca2 (p : ea2) (s : I0) : Stp I0 := Y2 .next .exit .fail p s
noncomputable def Aa2 : Lo ea2 I0 := ⟨En cb0, 1, md7, [1, 1, 0, 1, 4, 4], [2, 4, 7, 8, 9], .p, [⟨((.s (.o .unk)) :: ((.s (.o .unk)) :: ((.s (.o (.ptr 1 0 0 0))) :: ((.s (.o .unk)) :: ((.s (.o (.int .i64))) :: ((.s (.o .unk)) :: ((.s (.o .unk)) :: ((.s (.c 4 (nL tX))) :: ((.s (.o (.int .i64))) :: ((.s (.o (.int .i64))) :: (ru2 12 []))))))))))), [⟨0, 1, true, (some [[(.c 4 (nL tX))]])⟩, ⟨0, 4, true, (some [[(.o (.int .i64)), (.o (.int .i64)), (.o (.int .i64)), (.o (.int .i64))]])⟩], fun a H => (⟨(rL tX (slT a 7)), (toI (slT a 8)), (rL tX (slT (rwT (elT H 0) 0) 0)), (toI (slT (rwT (elT H 1) 0) 0)), (toI (slT (rwT (elT H 1) 0) 1)), (toI (slT (rwT (elT H 1) 0) 2)), (toI (slT (rwT (elT H 1) 0) 3))⟩, ⟨(toI (slT a 4)), (toI (slT a 9))⟩)⟩], ca2, [(some 0, fun p s => ⟨(.unk :: (.unk :: ((.ptr 1 0 0 0) :: (.unk :: ((i s.is4) :: (.unk :: (.unk :: ((eL tX p.Ac4) :: ((i p.is8) :: ((i s.is9) :: ((b (decide (s.is9 < p.is8))) :: (ra 11 [])))))))))))), [⟨0, 1, [[(eL tX p.i8)]], true, false, 0⟩, ⟨0, 4, [[(i p.N9), (i p.O0), (i p.O1), (i p.O2)]], true, false, 0⟩]⟩)], xb4⟩
theorem xb5 : Aa2.Ok := Lo.ok [] (by kernel_rfl) .nil rfl (.cons (fun a H => by kernel_rfl) .nil) fun p s => (.of @Y2 (fun F _ _ _ _ _ => by unfold Y2; (repeat' apply B7 (f := F)) <;> rfl) (by kernel_rfl))
structure fa3 where
 alt : Nat
 bs0 : Bool
 i8 : List Pt
noncomputable def fa4 {α : Type} (kk : fa3 → α) (x : va3) : α := let t1 := (lp (ca2 (⟨(rt tX x.i8), (↑(List.length x.i8) : Int), (rt tX x.i8), x.Ba3, x.Ba4, x.Ba5, x.Ha3⟩ : ea2)) (⟨0, 0⟩ : I0)); (sl ((cnE tX x.i8) && ((cnE tX x.i8) && true)) (sl (Nat.beq t1.1 1) (kk ⟨1, (decide (t1.2.is4 < 3)), (rt tX x.i8)⟩) (kk ⟨0, false, []⟩)) (kk ⟨0, false, []⟩))
noncomputable def Z0 (x : va3) : fa3 := fa4 (fun r => r) x
noncomputable def Ga5 (x : va3) (r : fa3) : DT (a7 × List a8) := (.ite (Nat.beq r.alt 1) (.ret ((b r.bs0), [⟨0, 1, [[(eL tX r.i8)]], true, false, 0⟩])) .fail)
theorem Qb7 {α β : Type} (F : α → β) (kk : fa3 → α) (x : va3) : F (fa4 kk x) = fa4 (fun r => F (kk r)) x := by unfold fa4; (repeat' apply B7 (f := F)) <;> rfl
noncomputable def Na3 : Sum := La8 ⟨[(.agg [(.o (.int .i64)), (.o (.int .i64)), (.o (.int .i64)), (.o (.int .i64))]), (.s (.o (.ptr 0 0 0 0)))], [⟨0, 1, true, (some [[(.c 4 (nL tX))]])⟩], fun a H => (⟨(toI (slT (cellsOf (slT a 0)) 0)), (toI (slT (cellsOf (slT a 0)) 1)), (toI (slT (cellsOf (slT a 0)) 2)), (toI (slT (cellsOf (slT a 0)) 3)), (rL tX (slT (rwT (elT H 0) 0) 0))⟩, ())⟩ (fun x => Ga5 x (Z0 x))
theorem cb1 : j6 prog G 31 Na3 := P4 (enc := fun x => ⟨[(.agg [(i x.Ba3), (i x.Ba4), (i x.Ba5), (i x.Ha3)]), (.ptr 0 0 0 0)], [⟨0, 1, [[(eL tX x.i8)]], true, false, 0⟩]⟩) (fun a H => by kernel_rfl) (bd b31 Cb0) fun x => gb2 (.s .p (.s .p (.s (.s .p (.b (.u Aa2.ls))) .p))) [Aa2.pr] (by kernel_rfl) (.cons xb5 .nil) (Eq.trans (b := fa4 (fun r => (Ga5 x r).run) x) (by kernel_rfl) (Qb7 (fun r => (Ga5 x r).run) (fun r => r) x).symm)
structure L2 where
 ns0 : Nat
 eh0 : List (List a7)
 o5 : List Pt
noncomputable def ia3 : List (Nat × Sum) := [(31, Na3)]
theorem Da0 : o8 prog G ia3 := ⟨cb1, trivial⟩
structure D8 where
 ns0 : Nat
 is7 : Int
 eh0 : List (List a7)
structure l6 where
 is8 : Int
 o5 : List Pt
noncomputable def Aa3 (p : D8) (s : l6) : St := ⟨((.sl 0 0 p.ns0 0) :: ((.fn 31 [(.ptr 1 0 0 0)]) :: (ra 5 ((i p.is7) :: ((i s.is8) :: (ra 10 [])))))), [⟨42, 4, p.eh0, true, false, 0⟩, ⟨0, 1, [[(eL tX s.o5)]], true, false, 0⟩]⟩
noncomputable def A2 {α : Type} (k : l6 → α) (e : Nat → α) (z : α) (p : D8) (s : l6) : α := let t1 := (Z0 ⟨(rdR tP p.eh0 (0 + s.is8.toNat)).n.x, (rdR tP p.eh0 (0 + s.is8.toNat)).n.y, (rdR tP p.eh0 (0 + s.is8.toNat)).n.z, (rdR tP p.eh0 (0 + s.is8.toNat)).b, (rt tX s.o5)⟩); (sl (decide (s.is8 < p.is7)) (sl (inB s.is8 p.ns0) (sl (ldR tP p.eh0 (0 + s.is8.toNat)) (sl ((cnE tX s.o5) && true) (sl (Nat.beq t1.alt 1) (sl t1.bs0 (e 1) (k ⟨(W (s.is8 + 1)), t1.i8⟩)) z) z) z) z) (e 2))
noncomputable def C7 (p : D8) (s : l6) : Stp l6 := A2 .next .exit .fail p s
noncomputable def S9 : Lo D8 l6 := ⟨En ia3, 2, Wc5, [1, 0, 1, 4, 4], [0, 1, 7, 8], .p, [⟨((.s (.o (.sl 0 0 (some 0) none))) :: ((.fn 31 [(.o (.ptr 1 0 0 0))]) :: (ru2 5 ((.s (.o (.int .i64))) :: ((.s (.o (.int .i64))) :: (ru2 10 [])))))), [⟨42, 4, true, none⟩, ⟨0, 1, true, (some [[(.c 4 (nL tX))]])⟩], fun a H => (⟨(slN (slT a 0)), (toI (slT a 7)), (elT H 0)⟩, ⟨(toI (slT a 8)), (rL tX (slT (rwT (elT H 1) 0) 0))⟩)⟩], C7, [(none, fun p s => let t1 := (Z0 ⟨(rdR tP p.eh0 (0 + s.is8.toNat)).n.x, (rdR tP p.eh0 (0 + s.is8.toNat)).n.y, (rdR tP p.eh0 (0 + s.is8.toNat)).n.z, (rdR tP p.eh0 (0 + s.is8.toNat)).b, (rt tX s.o5)⟩); ⟨[(i s.is8)], [⟨42, 4, p.eh0, true, false, 0⟩, ⟨0, 1, [[(eL tX t1.i8)]], true, false, 0⟩]⟩), (some 0, fun p s => ⟨((.sl 0 0 p.ns0 0) :: ((.fn 31 [(.ptr 1 0 0 0)]) :: (ra 5 ((i p.is7) :: ((i s.is8) :: ((b (decide (s.is8 < p.is7))) :: (ra 9 []))))))), [⟨42, 4, p.eh0, true, false, 0⟩, ⟨0, 1, [[(eL tX s.o5)]], true, false, 0⟩]⟩)], Aa3⟩
theorem Aa4 : S9.Ok := Lo.ok [] (by kernel_rfl) .nil rfl (.cons (fun a H => by kernel_rfl) .nil) fun p s => (.of @A2 (fun F _ _ _ _ _ => by unfold A2; (repeat' apply B7 (f := F)) <;> rfl) (by kernel_rfl))
structure L3 where
 alt : Nat
 is0 : Int
 o5 : List Pt
noncomputable def A9 {α : Type} (kk : L3 → α) (x : L2) : α := let t1 := (lp (C7 (⟨x.ns0, (↑x.ns0 : Int), x.eh0⟩ : D8)) (⟨0, (rt tX x.o5)⟩ : l6)); let t2 := (Z0 ⟨(rdR tP x.eh0 (0 + t1.2.is8.toNat)).n.x, (rdR tP x.eh0 (0 + t1.2.is8.toNat)).n.y, (rdR tP x.eh0 (0 + t1.2.is8.toNat)).n.z, (rdR tP x.eh0 (0 + t1.2.is8.toNat)).b, (rt tX t1.2.o5)⟩); (sl ((cnE tX x.o5) && true) (sl (Nat.beq t1.1 1) (kk ⟨1, t1.2.is8, t2.i8⟩) (sl (Nat.beq t1.1 2) (kk ⟨1, (-1), t1.2.o5⟩) (kk ⟨0, 0, []⟩))) (kk ⟨0, 0, []⟩))
noncomputable def L4 (x : L2) : L3 := A9 (fun r => r) x
noncomputable def V2 (x : L2) (r : L3) : DT (a7 × List a8) := (.ite (Nat.beq r.alt 1) (.ret ((i r.is0), [⟨42, 4, x.eh0, true, false, 0⟩, ⟨0, 1, [[(eL tX r.o5)]], true, false, 0⟩])) .fail)
theorem Ja0 {α β : Type} (F : α → β) (kk : L3 → α) (x : L2) : F (A9 kk x) = A9 (fun r => F (kk r)) x := by unfold A9; (repeat' apply B7 (f := F)) <;> rfl
noncomputable def ka3 : Sum := La8 ⟨[(.s (.o (.sl 0 0 (some 0) none))), (.fn 31 [(.o (.ptr 1 0 0 0))])], [⟨42, 4, true, none⟩, ⟨0, 1, true, (some [[(.c 4 (nL tX))]])⟩], fun a H => (⟨(slN (slT a 0)), (elT H 0), (rL tX (slT (rwT (elT H 1) 0) 0))⟩, ())⟩ (fun x => V2 x (L4 x))
theorem Ga6 : j6 prog G 55 ka3 := P4 (enc := fun x => ⟨[(.sl 0 0 x.ns0 0), (.fn 31 [(.ptr 1 0 0 0)])], [⟨42, 4, x.eh0, true, false, 0⟩, ⟨0, 1, [[(eL tX x.o5)]], true, false, 0⟩]⟩) (fun a H => by kernel_rfl) (bd b55 Da0) fun x => gb2 (.s .p (.s (.s .p (.b (.u S9.ls))) .p)) [S9.pr] (by kernel_rfl) (.cons Aa4 .nil) (Eq.trans (b := A9 (fun r => (V2 x r).run) x) (by kernel_rfl) (Ja0 (fun r => (V2 x r).run) (fun r => r) x).symm)
structure L5 where
 ns0 : Nat
 eh0 : List (List a7)
 o5 : List Pt
noncomputable def ia4 : List (Nat × Sum) := [(55, ka3), (31, Na3)]
theorem Da1 : o8 prog G ia4 := ⟨Ga6, cb1, trivial⟩
structure D9 where
 ns0 : Nat
structure n8 where
 is5 : Int
 is6 : Int
 eh0 : List (List a7)
 o5 : List Pt
noncomputable def Aa5 (p : D9) (s : n8) : St := ⟨((.sl 0 0 p.ns0 0) :: ((.fn 31 [(.ptr 1 0 0 0)]) :: (ra 3 ((i s.is5) :: ((i s.is6) :: (ra 35 [])))))), [⟨42, 4, s.eh0, true, false, 0⟩, ⟨0, 1, [[(eL tX s.o5)]], true, false, 0⟩]⟩
noncomputable def A3 {α : Type} (k : n8 → α) (e : Nat → α) (z : α) (p : D9) (s : n8) : α := let t1 := (Z0 ⟨(rdR tP s.eh0 (0 + s.is6.toNat)).n.x, (rdR tP s.eh0 (0 + s.is6.toNat)).n.y, (rdR tP s.eh0 (0 + s.is6.toNat)).n.z, (rdR tP s.eh0 (0 + s.is6.toNat)).b, (rt tX s.o5)⟩); (sl (decide (s.is6 < (↑p.ns0 : Int))) (sl (inB s.is6 p.ns0) (sl (ldR tP s.eh0 (0 + s.is6.toNat)) (sl ((cnE tX s.o5) && true) (sl (Nat.beq t1.alt 1) (sl (!t1.bs0) (sl (inB s.is5 p.ns0) (sl ((Nat.blt (0 + s.is5.toNat) (len s.eh0)) && (Nat.ble (0 + 4) (len (r7 s.eh0 (0 + s.is5.toNat))))) (k ⟨(W (s.is5 + 1)), (W (s.is6 + 1)), (setAt s.eh0 (0 + s.is5.toNat) (aa4 (r7 s.eh0 (0 + s.is5.toNat)) 0 [(i (rdR tP s.eh0 (0 + s.is6.toNat)).n.x), (i (rdR tP s.eh0 (0 + s.is6.toNat)).n.y), (i (rdR tP s.eh0 (0 + s.is6.toNat)).n.z), (i (rdR tP s.eh0 (0 + s.is6.toNat)).b)])), t1.i8⟩) z) z) (k ⟨s.is5, (W (s.is6 + 1)), s.eh0, t1.i8⟩)) z) z) z) z) (e 1))
noncomputable def v8 (p : D9) (s : n8) : Stp n8 := A3 .next .exit .fail p s
noncomputable def T0 : Lo D9 n8 := ⟨En ia4, 2, md6, [1, 1, 1, 0, 1, 4, 4], [0, 1, 5, 6], .p, [⟨((.s (.o (.sl 0 0 (some 0) none))) :: ((.fn 31 [(.o (.ptr 1 0 0 0))]) :: (ru2 3 ((.s (.o (.int .i64))) :: ((.s (.o (.int .i64))) :: (ru2 35 [])))))), [⟨42, 4, true, none⟩, ⟨0, 1, true, (some [[(.c 4 (nL tX))]])⟩], fun a H => (⟨(slN (slT a 0))⟩, ⟨(toI (slT a 5)), (toI (slT a 6)), (elT H 0), (rL tX (slT (rwT (elT H 1) 0) 0))⟩)⟩], v8, [(some 0, fun p s => ⟨((.sl 0 0 p.ns0 0) :: ((.fn 31 [(.ptr 1 0 0 0)]) :: (ra 3 ((i s.is5) :: ((i s.is6) :: (ra 9 ((i s.is6) :: ((.sl 0 0 p.ns0 0) :: ((i (↑p.ns0 : Int)) :: ((b (decide (s.is6 < (↑p.ns0 : Int)))) :: (ra 22 []))))))))))), [⟨42, 4, s.eh0, true, false, 0⟩, ⟨0, 1, [[(eL tX s.o5)]], true, false, 0⟩]⟩)], Aa5⟩
theorem Aa6 : T0.Ok := Lo.ok [] (by kernel_rfl) .nil rfl (.cons (fun a H => by kernel_rfl) .nil) fun p s => (.of @A3 (fun F _ _ _ _ _ => by unfold A3; (repeat' apply B7 (f := F)) <;> rfl) (by kernel_rfl))
structure L6 where
 alt : Nat
 ns0 : Nat
 eh0 : List (List a7)
 o5 : List Pt
noncomputable def B0 {α : Type} (kk : L6 → α) (x : L5) : α := let t1 := (L4 ⟨x.ns0, x.eh0, (rt tX x.o5)⟩); let t2 := (lp (v8 (⟨x.ns0⟩ : D9)) (⟨t1.is0, (W (t1.is0 + 1)), x.eh0, (rt tX t1.o5)⟩ : n8)); (sl ((cnE tX x.o5) && true) (sl (Nat.beq t1.alt 1) (sl (t1.is0 == (-1)) (kk ⟨1, x.ns0, x.eh0, t1.o5⟩) (sl ((cnE tX t1.o5) && true) (sl (Nat.beq t2.1 1) (sl (inB t2.2.is5 (x.ns0 + 1)) (sl (inB t2.2.is5 (x.ns0 + 1)) (kk ⟨1, (t2.2.is5.toNat - 0), (app (E2 t2.2.eh0 (0 + t2.2.is5.toNat)) (app (List.replicate (x.ns0 - t2.2.is5.toNat) [(i 0), (i 0), (i 0), (i 0)]) (j8 t2.2.eh0 ((0 + t2.2.is5.toNat) + (x.ns0 - t2.2.is5.toNat))))), t2.2.o5⟩) (kk ⟨0, 0, [], []⟩)) (kk ⟨0, 0, [], []⟩)) (kk ⟨0, 0, [], []⟩)) (kk ⟨0, 0, [], []⟩))) (kk ⟨0, 0, [], []⟩)) (kk ⟨0, 0, [], []⟩))
noncomputable def L7 (x : L5) : L6 := B0 (fun r => r) x
noncomputable def V4 (x : L5) (r : L6) : DT (a7 × List a8) := (.ite (Nat.beq r.alt 1) (.ret ((.sl 0 0 r.ns0 0), [⟨42, 4, r.eh0, true, false, 0⟩, ⟨0, 1, [[(eL tX r.o5)]], true, false, 0⟩])) .fail)
theorem Ja1 {α β : Type} (F : α → β) (kk : L6 → α) (x : L5) : F (B0 kk x) = B0 (fun r => F (kk r)) x := by unfold B0; (repeat' apply B7 (f := F)) <;> rfl
noncomputable def ka4 : Sum := La8 ⟨[(.s (.o (.sl 0 0 (some 0) none))), (.fn 31 [(.o (.ptr 1 0 0 0))])], [⟨42, 4, true, none⟩, ⟨0, 1, true, (some [[(.c 4 (nL tX))]])⟩], fun a H => (⟨(slN (slT a 0)), (elT H 0), (rL tX (slT (rwT (elT H 1) 0) 0))⟩, ())⟩ (fun x => V4 x (L7 x))
theorem Ga7 : j6 prog G 29 ka4 := P4 (enc := fun x => ⟨[(.sl 0 0 x.ns0 0), (.fn 31 [(.ptr 1 0 0 0)])], [⟨42, 4, x.eh0, true, false, 0⟩, ⟨0, 1, [[(eL tX x.o5)]], true, false, 0⟩]⟩) (fun a H => by kernel_rfl) (bd b29 Da1) fun x => gb2 (.s .p (.s .p (.s .p (.s (.s .p (.b (.u T0.ls))) .p)))) [T0.pr] (by kernel_rfl) (.cons Aa6 .nil) (Eq.trans (b := B0 (fun r => (V4 x r).run) x) (by kernel_rfl) (Ja1 (fun r => (V4 x r).run) (fun r => r) x).symm)
structure T1 where
 ns0 : Nat
 eh0 : List (List a7)
noncomputable def ca3 : List (Nat × Sum) := []
theorem Na4 : o8 prog G ca3 := trivial
structure y5 where
 ns0 : Nat
 os4 : Nat
 ns4 : Nat
structure l9 where
 is3 : Int
 is5 : Int
 eh0 : List (List a7)
noncomputable def Ja2 (p : y5) (s : l9) : St := ⟨((.sl 0 0 p.ns0 0) :: (.unk :: (.unk :: ((i s.is3) :: ((.sl 0 p.os4 p.ns4 0) :: ((i s.is5) :: (ra 55 []))))))), [⟨42, 4, s.eh0, true, false, 0⟩]⟩
noncomputable def E6 {α : Type} (k : l9 → α) (e : Nat → α) (z : α) (p : y5) (s : l9) : α := (sl (decide (s.is5 < (↑p.ns4 : Int))) (sl (inB s.is5 p.ns4) (sl (ldR tP s.eh0 (p.os4 + s.is5.toNat)) (sl (inB (W (s.is5 - 1)) p.ns4) (sl (ldR tP s.eh0 (p.os4 + (W (s.is5 - 1)).toNat)) (sl (!(((rdR tP s.eh0 (p.os4 + s.is5.toNat)).n.x == (rdR tP s.eh0 (p.os4 + (W (s.is5 - 1)).toNat)).n.x) && (((rdR tP s.eh0 (p.os4 + s.is5.toNat)).n.y == (rdR tP s.eh0 (p.os4 + (W (s.is5 - 1)).toNat)).n.y) && (((rdR tP s.eh0 (p.os4 + s.is5.toNat)).n.z == (rdR tP s.eh0 (p.os4 + (W (s.is5 - 1)).toNat)).n.z) && (((rdR tP s.eh0 (p.os4 + s.is5.toNat)).b == (rdR tP s.eh0 (p.os4 + (W (s.is5 - 1)).toNat)).b) && true))))) (sl (inB s.is5 p.ns4) (sl (ldR tP s.eh0 (p.os4 + s.is5.toNat)) (sl (inB s.is3 p.ns0) (sl ((Nat.blt (0 + s.is3.toNat) (len s.eh0)) && (Nat.ble (0 + 4) (len (r7 s.eh0 (0 + s.is3.toNat))))) (k ⟨(W (s.is3 + 1)), (W (s.is5 + 1)), (setAt s.eh0 (0 + s.is3.toNat) (aa4 (r7 s.eh0 (0 + s.is3.toNat)) 0 [(i (rdR tP s.eh0 (p.os4 + s.is5.toNat)).n.x), (i (rdR tP s.eh0 (p.os4 + s.is5.toNat)).n.y), (i (rdR tP s.eh0 (p.os4 + s.is5.toNat)).n.z), (i (rdR tP s.eh0 (p.os4 + s.is5.toNat)).b)]))⟩) z) z) z) z) (k ⟨s.is3, (W (s.is5 + 1)), s.eh0⟩)) z) z) z) z) (e 1))
noncomputable def n5 (p : y5) (s : l9) : Stp l9 := E6 .next .exit .fail p s
noncomputable def Z1 : Lo y5 l9 := ⟨En ca3, 1, gd0, [1, 1, 0, 1, 4, 4, 1, 0, 4, 1, 2, 1, 0, 1, 4, 4], [0, 3, 4, 5], .p, [⟨((.s (.o (.sl 0 0 (some 0) none))) :: ((.s (.o .unk)) :: ((.s (.o .unk)) :: ((.s (.o (.int .i64))) :: ((.s (.o (.sl 0 0 none none))) :: ((.s (.o (.int .i64))) :: (ru2 55 []))))))), [⟨42, 4, true, none⟩], fun a H => (⟨(slN (slT a 0)), (slO (slT a 4)), (slN (slT a 4))⟩, ⟨(toI (slT a 3)), (toI (slT a 5)), (elT H 0)⟩)⟩], n5, [(some 2, fun p s => ⟨((.sl 0 0 p.ns0 0) :: (.unk :: (.unk :: ((i s.is3) :: ((.sl 0 p.os4 p.ns4 0) :: ((i s.is5) :: (ra 23 ((i s.is5) :: ((.sl 0 p.os4 p.ns4 0) :: ((i (↑p.ns4 : Int)) :: ((b (decide (s.is5 < (↑p.ns4 : Int)))) :: (ra 28 [])))))))))))), [⟨42, 4, s.eh0, true, false, 0⟩]⟩)], Ja2⟩
theorem Ja3 : Z1.Ok := Lo.ok [] (by kernel_rfl) .nil rfl (.cons (fun a H => by kernel_rfl) .nil) fun p s => (.of @E6 (fun F _ _ _ _ _ => by unfold E6; (repeat' apply B7 (f := F)) <;> rfl) (by kernel_rfl))
structure G6 where
 ns0 : Nat
 eh0 : List (List a7)
structure n9 where
 is3 : Int
noncomputable def Ja4 (p : G6) (s : n9) : St := ⟨((.sl 0 0 p.ns0 0) :: (.unk :: (.unk :: ((i s.is3) :: (ra 57 []))))), [⟨42, 4, p.eh0, true, false, 0⟩]⟩
noncomputable def E7 {α : Type} (k : n9 → α) (e : Nat → α) (z : α) (p : G6) (s : n9) : α := let t1 := (lp (n5 (⟨p.ns0, (0 + s.is3.toNat), (p.ns0 - s.is3.toNat)⟩ : y5)) (⟨s.is3, 1, p.eh0⟩ : l9)); (sl (decide (s.is3 < (↑p.ns0 : Int))) (sl (inB s.is3 p.ns0) (sl (ldR tP p.eh0 (0 + s.is3.toNat)) (sl (inB (W (s.is3 - 1)) p.ns0) (sl (ldR tP p.eh0 (0 + (W (s.is3 - 1)).toNat)) (sl (((rdR tP p.eh0 (0 + s.is3.toNat)).n.x == (rdR tP p.eh0 (0 + (W (s.is3 - 1)).toNat)).n.x) && (((rdR tP p.eh0 (0 + s.is3.toNat)).n.y == (rdR tP p.eh0 (0 + (W (s.is3 - 1)).toNat)).n.y) && (((rdR tP p.eh0 (0 + s.is3.toNat)).n.z == (rdR tP p.eh0 (0 + (W (s.is3 - 1)).toNat)).n.z) && (((rdR tP p.eh0 (0 + s.is3.toNat)).b == (rdR tP p.eh0 (0 + (W (s.is3 - 1)).toNat)).b) && true)))) (sl (inB s.is3 (p.ns0 + 1)) (sl (Nat.beq t1.1 1) (sl (inB t1.2.is3 (p.ns0 + 1)) (sl (inB t1.2.is3 (p.ns0 + 1)) (e 1) z) z) z) z) (k ⟨(W (s.is3 + 1))⟩)) z) z) z) z) (e 2))
noncomputable def F6 (p : G6) (s : n9) : Stp n9 := E7 .next .exit .fail p s
noncomputable def Z2 : Lo G6 n9 := ⟨En ca3, 1, gd0, [1, 1, 0, 1, 4, 4], [0, 3], (.s .p (.s (.b (.s .p (.c (.s .p (.s (.s .p (.b (.u Z1.ls))) .p)) .p))) .p)), [⟨((.s (.o (.sl 0 0 (some 0) none))) :: ((.s (.o .unk)) :: ((.s (.o .unk)) :: ((.s (.o (.int .i64))) :: (ru2 57 []))))), [⟨42, 4, true, none⟩], fun a H => (⟨(slN (slT a 0)), (elT H 0)⟩, ⟨(toI (slT a 3))⟩)⟩], F6, [(none, fun p s => let t1 := (lp (n5 (⟨p.ns0, (0 + s.is3.toNat), (p.ns0 - s.is3.toNat)⟩ : y5)) (⟨s.is3, 1, p.eh0⟩ : l9)); ⟨[(.sl 0 0 (t1.2.is3.toNat - 0) 0)], [⟨42, 4, (app (E2 t1.2.eh0 (0 + t1.2.is3.toNat)) (app (List.replicate (p.ns0 - t1.2.is3.toNat) [(i 0), (i 0), (i 0), (i 0)]) (j8 t1.2.eh0 ((0 + t1.2.is3.toNat) + (p.ns0 - t1.2.is3.toNat))))), true, false, 0⟩]⟩), (some 0, fun p s => ⟨((.sl 0 0 p.ns0 0) :: (.unk :: (.unk :: ((i s.is3) :: (ra 6 ((i s.is3) :: ((.sl 0 0 p.ns0 0) :: ((i (↑p.ns0 : Int)) :: ((b (decide (s.is3 < (↑p.ns0 : Int)))) :: (ra 47 [])))))))))), [⟨42, 4, p.eh0, true, false, 0⟩]⟩)], Ja4⟩
theorem Ja5 : Z2.Ok := Lo.ok [Z1.pr] (by kernel_rfl) (.cons Ja3 .nil) rfl (.cons (fun a H => by kernel_rfl) .nil) fun p s => (.of @E7 (fun F _ _ _ _ _ => by unfold E7; (repeat' apply B7 (f := F)) <;> rfl) (by kernel_rfl))
structure T2 where
 alt : Nat
 ns0 : Nat
 eh0 : List (List a7)
noncomputable def F4 {α : Type} (kk : T2 → α) (x : T1) : α := let t1 := (lp (F6 (⟨x.ns0, x.eh0⟩ : G6)) (⟨1⟩ : n9)); let t2 := (lp (n5 (⟨x.ns0, (0 + t1.2.is3.toNat), (x.ns0 - t1.2.is3.toNat)⟩ : y5)) (⟨t1.2.is3, 1, x.eh0⟩ : l9)); (sl (decide ((↑x.ns0 : Int) < 2)) (kk ⟨1, x.ns0, x.eh0⟩) (sl (Nat.beq t1.1 1) (kk ⟨1, (t2.2.is3.toNat - 0), (app (E2 t2.2.eh0 (0 + t2.2.is3.toNat)) (app (List.replicate (x.ns0 - t2.2.is3.toNat) [(i 0), (i 0), (i 0), (i 0)]) (j8 t2.2.eh0 ((0 + t2.2.is3.toNat) + (x.ns0 - t2.2.is3.toNat)))))⟩) (sl (Nat.beq t1.1 2) (kk ⟨1, x.ns0, x.eh0⟩) (kk ⟨0, 0, []⟩))))
noncomputable def T3 (x : T1) : T2 := F4 (fun r => r) x
noncomputable def ca4 (x : T1) (r : T2) : DT (a7 × List a8) := (.ite (Nat.beq r.alt 1) (.ret ((.sl 0 0 r.ns0 0), [⟨42, 4, r.eh0, true, false, 0⟩])) .fail)
theorem Ta8 {α β : Type} (F : α → β) (kk : T2 → α) (x : T1) : F (F4 kk x) = F4 (fun r => F (kk r)) x := by unfold F4; (repeat' apply B7 (f := F)) <;> rfl
noncomputable def ra8 : Sum := La8 ⟨[(.s (.o (.sl 0 0 (some 0) none)))], [⟨42, 4, true, none⟩], fun a H => (⟨(slN (slT a 0)), (elT H 0)⟩, ())⟩ (fun x => ca4 x (T3 x))
theorem Pa8 : j6 prog G 35 ra8 := P4 (enc := fun x => ⟨[(.sl 0 0 x.ns0 0)], [⟨42, 4, x.eh0, true, false, 0⟩]⟩) (fun a H => by kernel_rfl) (bd b35 Na4) fun x => gb2 (.s .p (.s .p (.s (.s .p (.b (.u Z2.ls))) .p))) [Z2.pr] (by kernel_rfl) (.cons Ja5 .nil) (Eq.trans (b := F4 (fun r => (ca4 x r).run) x) (by kernel_rfl) (Ta8 (fun r => (ca4 x r).run) (fun r => r) x).symm)
noncomputable def Mb4 : List (Nat × Sum) := []
theorem Cb1 : o8 prog G Mb4 := trivial
noncomputable def ma4 (x : Int) (y : Int) : Option (a7 × List a8) := (sl (decide (x < y)) (some ((i (-1)), [])) (sl (decide (x > y)) (some ((i 1), [])) (some ((i 0), []))))
noncomputable def Z3 (x : Int) (y : Int) : Int := la0 (one r1I) (ma4 x y)
noncomputable def Z4 (x : Int) (y : Int) : Bool := okO (one r1I) (ma4 x y)
noncomputable def jb1 : Sum := va9 cI cI (fun x y => .guard (Z4 x y) (.ret ((one r1I).enc (Z3 x y), [])))
theorem Mb5 : j6 prog G 46 jb1 := Ib7 (bd b46 Cb1) (one r1I) (o := ma4) fun x y => I7 (by kernel_rfl)
noncomputable def xb6 : List (Nat × Sum) := [(46, jb1)]
theorem sb2 : o8 prog G xb6 := ⟨Mb5, trivial⟩
noncomputable def ea3 (x : Pln) (y : Pln) : Option (a7 × List a8) := let t1 := (Z3 x.n.x y.n.x); let t2 := (Z3 x.n.y y.n.y); let t3 := (Z3 x.n.z y.n.z); let t4 := (Z3 x.b y.b); (sl (Z4 x.n.x y.n.x) (sl (t1 == 0) (sl (Z4 x.n.y y.n.y) (sl (t2 == 0) (sl (Z4 x.n.z y.n.z) (sl (t3 == 0) (sl (Z4 x.b y.b) (sl (t4 == 0) (some ((i t4), [])) (some ((i t4), []))) none) (some ((i t3), []))) none) (some ((i t2), []))) none) (some ((i t1), []))) none)
noncomputable def na1 (x : Pln) (y : Pln) : Int := la0 (one r1I) (ea3 x y)
noncomputable def na2 (x : Pln) (y : Pln) : Bool := okO (one r1I) (ea3 x y)
noncomputable def Aa7 : Sum := va9 (Ha4 tP) (Ha4 tP) (fun x y => .guard (na2 x y) (.ret ((one r1I).enc (na1 x y), [])))
theorem xb7 : j6 prog G 34 Aa7 := Ib7 (bd b34 sb2) (one r1I) (o := ea3) fun x y => I7 (by kernel_rfl)
noncomputable def mc4 : List (Nat × Sum) := [(63, Fa7)]
theorem bc9 : o8 prog G mc4 := ⟨Va2, trivial⟩
noncomputable def Ga8 (x : V3) : Option (a7 × List a8) := let t1 := (ba3 24 [x.x, x.y, x.z]); (sl (ba4 24 [x.x, x.y, x.z]) (some ((b t1), [])) none)
noncomputable def Ta9 (x : V3) : Bool := la0 (one r1B) (Ga8 x)
noncomputable def Ua0 (x : V3) : Bool := okO (one r1B) (Ga8 x)
noncomputable def Mb6 : Sum := va8 (Ha4 tV) (fun x => .guard (Ua0 x) (.ret ((one r1B).enc (Ta9 x), [])))
theorem mc5 : j6 prog G 40 Mb6 := gb0 (bd b40 bc9) (one r1B) (o := Ga8) fun x => I7 (by kernel_rfl)
noncomputable def mc6 : List (Nat × Sum) := [(26, ja6), (40, Mb6), (39, va0)]
theorem cc2 : o8 prog G mc6 := ⟨ma0, mc5, Fa6, trivial⟩
noncomputable def Ga9 (x : List Pln) (y : V3) : Option (a7 × List a8) := let t1 := (R9 [(rt tP x)]); let t2 := (Ta9 y); let t3 := (N2 (rt tP x) (⟨y.x, y.y, y.z, 1⟩ : Pt)); (sl ((okE tP x) && true) (sl (S1 [(rt tP x)]) (sl t1 (sl (Ua0 y) (sl t2 (sl (okE tP x) (sl (N3 (rt tP x) (⟨y.x, y.y, y.z, 1⟩ : Pt)) (some ((b t3), [])) none) none) (some ((b false), []))) none) (some ((b false), []))) none) none)
noncomputable def oa0 (x : List Pln) (y : V3) : Bool := la0 (one r1B) (Ga9 x y)
noncomputable def V5 (x : List Pln) (y : V3) : Bool := okO (one r1B) (Ga9 x y)
noncomputable def mb0 : Sum := va9 (Ea9 tP) (Ha4 tV) (fun x y => .guard (V5 x y) (.ret ((one r1B).enc (oa0 x y), [])))
theorem Ab0 : j6 prog G 14 mb0 := Ib7 (bd b14 cc2) (one r1B) (o := Ga9) fun x y => I7 (by kernel_rfl)
noncomputable def Qb8 : List (Nat × Sum) := [(26, ja6), (27, eb9), (36, na8)]
theorem Mb7 : o8 prog G Qb8 := ⟨ma0, lb7, Ba2, trivial⟩
noncomputable def ra9 (x : List Pln) (y : List Pln) : Option (a7 × List a8) := let t1 := (R9 [(rt tP x), (rt tP y)]); let t2 := (ua0 [(rt tP x), (rt tP y)]); let t3 := (U9 (rt tP t2)); (sl ((okE tP x) && ((okE tP y) && true)) (sl (S1 [(rt tP x), (rt tP y)]) (sl (!t1) (some ((b true), [])) (sl ((okE tP x) && ((okE tP y) && true)) (sl (ua1 [(rt tP x), (rt tP y)]) (sl (okE tP t2) (sl (V0 (rt tP t2)) (some ((b (!t3)), [])) none) none) none) none)) none) none)
noncomputable def da4 (x : List Pln) (y : List Pln) : Bool := la0 (one r1B) (ra9 x y)
noncomputable def E0 (x : List Pln) (y : List Pln) : Bool := okO (one r1B) (ra9 x y)
noncomputable def Ua1 : Sum := va9 (Ea9 tP) (Ea9 tP) (fun x y => .guard (E0 x y) (.ret ((one r1B).enc (da4 x y), [])))
theorem jb2 : j6 prog G 12 Ua1 := Ib7 (bd b12 Mb7) (one r1B) (o := ra9) fun x y => I7 (by kernel_rfl)
structure na3 where
 Ba3 : Int
 Ba4 : Int
 Ba5 : Int
 Ha3 : Int
 c9 : List Pln
noncomputable def xb8 : List (Nat × Sum) := [(39, va0)]
theorem sb3 : o8 prog G xb8 := ⟨Fa6, trivial⟩
structure ea4 where
 alt : Nat
 bs0 : Bool
noncomputable def X2 {α : Type} (kk : ea4 → α) (x : na3) : α := let t1 := (N2 (rt tP x.c9) (⟨x.Ba3, x.Ba4, x.Ba5, x.Ha3⟩ : Pt)); (sl (okE tP x.c9) (sl (N3 (rt tP x.c9) (⟨x.Ba3, x.Ba4, x.Ba5, x.Ha3⟩ : Pt)) (kk ⟨1, (!t1)⟩) (kk ⟨0, false⟩)) (kk ⟨0, false⟩))
noncomputable def na4 (x : na3) : ea4 := X2 (fun r => r) x
noncomputable def ua4 (x : na3) (r : ea4) : DT (a7 × List a8) := (.ite (Nat.beq r.alt 1) (.ret ((b r.bs0), [⟨0, 1, [[(eL tP x.c9)]], true, false, 0⟩])) .fail)
theorem Cb2 {α β : Type} (F : α → β) (kk : ea4 → α) (x : na3) : F (X2 kk x) = X2 (fun r => F (kk r)) x := by unfold X2; (repeat' apply B7 (f := F)) <;> rfl
noncomputable def Va5 : Sum := La8 ⟨[(.agg [(.o (.int .i64)), (.o (.int .i64)), (.o (.int .i64)), (.o (.int .i64))]), (.s (.o (.ptr 0 0 0 0)))], [⟨0, 1, true, (some [[(.c 4 (nL tP))]])⟩], fun a H => (⟨(toI (slT (cellsOf (slT a 0)) 0)), (toI (slT (cellsOf (slT a 0)) 1)), (toI (slT (cellsOf (slT a 0)) 2)), (toI (slT (cellsOf (slT a 0)) 3)), (rL tP (slT (rwT (elT H 0) 0) 0))⟩, ())⟩ (fun x => ua4 x (na4 x))
theorem xb9 : j6 prog G 38 Va5 := P4 (enc := fun x => ⟨[(.agg [(i x.Ba3), (i x.Ba4), (i x.Ba5), (i x.Ha3)]), (.ptr 0 0 0 0)], [⟨0, 1, [[(eL tP x.c9)]], true, false, 0⟩]⟩) (fun a H => by kernel_rfl) (bd b38 sb3) fun x => I7 (Eq.trans (b := X2 (fun r => (ua4 x r).run) x) (by kernel_rfl) (Cb2 (fun r => (ua4 x r).run) (fun r => r) x).symm)
structure L8 where
 F7 : List Pt
 c9 : List Pln
noncomputable def ia5 : List (Nat × Sum) := [(38, Va5)]
theorem Da2 : o8 prog G ia5 := ⟨xb9, trivial⟩
structure E1 where
 F7 : List Pt
 is7 : Int
structure l7 where
 is8 : Int
 c9 : List Pln
noncomputable def Aa8 (p : E1) (s : l7) : St := ⟨((eL tX p.F7) :: ((.fn 38 [(.ptr 0 0 0 0)]) :: (ra 5 ((i p.is7) :: ((i s.is8) :: (ra 10 [])))))), [⟨0, 1, [[(eL tP s.c9)]], true, false, 0⟩]⟩
noncomputable def A4 {α : Type} (k : l7 → α) (e : Nat → α) (z : α) (p : E1) (s : l7) : α := let t1 := (na4 ⟨(gL tX p.F7 s.is8.toNat).px, (gL tX p.F7 s.is8.toNat).py, (gL tX p.F7 s.is8.toNat).pz, (gL tX p.F7 s.is8.toNat).pw, (rt tP s.c9)⟩); (sl (decide (s.is8 < p.is7)) (sl (inB s.is8 (List.length p.F7)) (sl ((cnE tP s.c9) && true) (sl (Nat.beq t1.alt 1) (sl t1.bs0 (e 1) (k ⟨(W (s.is8 + 1)), (rt tP s.c9)⟩)) z) z) z) (e 2))
noncomputable def C8 (p : E1) (s : l7) : Stp l7 := A4 .next .exit .fail p s
noncomputable def T4 : Lo E1 l7 := ⟨En ia5, 1, gd2, [1, 0, 1, 4, 4], [0, 1, 7, 8], .p, [⟨((.s (.c 4 (nL tX))) :: ((.fn 38 [(.o (.ptr 0 0 0 0))]) :: (ru2 5 ((.s (.o (.int .i64))) :: ((.s (.o (.int .i64))) :: (ru2 10 [])))))), [⟨0, 1, true, (some [[(.c 4 (nL tP))]])⟩], fun a H => (⟨(rL tX (slT a 0)), (toI (slT a 7))⟩, ⟨(toI (slT a 8)), (rL tP (slT (rwT (elT H 0) 0) 0))⟩)⟩], C8, [(none, fun p s => ⟨[(i s.is8)], [⟨0, 1, [[(eL tP (rt tP s.c9))]], true, false, 0⟩]⟩), (some 0, fun p s => ⟨((eL tX p.F7) :: ((.fn 38 [(.ptr 0 0 0 0)]) :: (ra 5 ((i p.is7) :: ((i s.is8) :: ((b (decide (s.is8 < p.is7))) :: (ra 9 []))))))), [⟨0, 1, [[(eL tP s.c9)]], true, false, 0⟩]⟩)], Aa8⟩
theorem Aa9 : T4.Ok := Lo.ok [] (by kernel_rfl) .nil rfl (.cons (fun a H => by kernel_rfl) .nil) fun p s => (.of @A4 (fun F _ _ _ _ _ => by unfold A4; (repeat' apply B7 (f := F)) <;> rfl) (by kernel_rfl))
structure L9 where
 alt : Nat
 is0 : Int
 c9 : List Pln
noncomputable def B1 {α : Type} (kk : L9 → α) (x : L8) : α := let t1 := (lp (C8 (⟨(rt tX x.F7), (↑(List.length x.F7) : Int)⟩ : E1)) (⟨0, (rt tP x.c9)⟩ : l7)); (sl ((cnE tX x.F7) && ((cnE tP x.c9) && true)) (sl (Nat.beq t1.1 1) (kk ⟨1, t1.2.is8, (rt tP t1.2.c9)⟩) (sl (Nat.beq t1.1 2) (kk ⟨1, (-1), t1.2.c9⟩) (kk ⟨0, 0, []⟩))) (kk ⟨0, 0, []⟩))
noncomputable def W8 (x : L8) : L9 := B1 (fun r => r) x
noncomputable def V6 (x : L8) (r : L9) : DT (a7 × List a8) := (.ite (Nat.beq r.alt 1) (.ret ((i r.is0), [⟨0, 1, [[(eL tP r.c9)]], true, false, 0⟩])) .fail)
theorem Ja6 {α β : Type} (F : α → β) (kk : L9 → α) (x : L8) : F (B1 kk x) = B1 (fun r => F (kk r)) x := by unfold B1; (repeat' apply B7 (f := F)) <;> rfl
noncomputable def ka5 : Sum := La8 ⟨[(.s (.c 4 (nL tX))), (.fn 38 [(.o (.ptr 0 0 0 0))])], [⟨0, 1, true, (some [[(.c 4 (nL tP))]])⟩], fun a H => (⟨(rL tX (slT a 0)), (rL tP (slT (rwT (elT H 0) 0) 0))⟩, ())⟩ (fun x => V6 x (W8 x))
theorem Ha0 : j6 prog G 61 ka5 := P4 (enc := fun x => ⟨[(eL tX x.F7), (.fn 38 [(.ptr 0 0 0 0)])], [⟨0, 1, [[(eL tP x.c9)]], true, false, 0⟩]⟩) (fun a H => by kernel_rfl) (bd b61 Da2) fun x => gb2 (.s .p (.s (.s .p (.b (.u T4.ls))) .p)) [T4.pr] (by kernel_rfl) (.cons Aa9 .nil) (Eq.trans (b := B1 (fun r => (V6 x r).run) x) (by kernel_rfl) (Ja6 (fun r => (V6 x r).run) (fun r => r) x).symm)
structure I1 where
 F7 : List Pt
 c9 : List Pln
noncomputable def xa6 : List (Nat × Sum) := [(61, ka5)]
theorem ua5 : o8 prog G xa6 := ⟨Ha0, trivial⟩
structure I4 where
 alt : Nat
 bs0 : Bool
 c9 : List Pln
noncomputable def v9 {α : Type} (kk : I4 → α) (x : I1) : α := let t1 := (W8 ⟨(rt tX x.F7), (rt tP x.c9)⟩); (sl ((cnE tX x.F7) && ((cnE tP x.c9) && true)) (sl (Nat.beq t1.alt 1) (kk ⟨1, (decide (t1.is0 ≥ 0)), t1.c9⟩) (kk ⟨0, false, []⟩)) (kk ⟨0, false, []⟩))
noncomputable def Q4 (x : I1) : I4 := v9 (fun r => r) x
noncomputable def P0 (x : I1) (r : I4) : DT (a7 × List a8) := (.ite (Nat.beq r.alt 1) (.ret ((b r.bs0), [⟨0, 1, [[(eL tP r.c9)]], true, false, 0⟩])) .fail)
theorem Ba0 {α β : Type} (F : α → β) (kk : I4 → α) (x : I1) : F (v9 kk x) = v9 (fun r => F (kk r)) x := by unfold v9; (repeat' apply B7 (f := F)) <;> rfl
noncomputable def ea5 : Sum := La8 ⟨[(.s (.c 4 (nL tX))), (.fn 38 [(.o (.ptr 0 0 0 0))])], [⟨0, 1, true, (some [[(.c 4 (nL tP))]])⟩], fun a H => (⟨(rL tX (slT a 0)), (rL tP (slT (rwT (elT H 0) 0) 0))⟩, ())⟩ (fun x => P0 x (Q4 x))
theorem xa7 : j6 prog G 37 ea5 := P4 (enc := fun x => ⟨[(eL tX x.F7), (.fn 38 [(.ptr 0 0 0 0)])], [⟨0, 1, [[(eL tP x.c9)]], true, false, 0⟩]⟩) (fun a H => by kernel_rfl) (bd b37 ua5) fun x => I7 (Eq.trans (b := v9 (fun r => (P0 x r).run) x) (by kernel_rfl) (Ba0 (fun r => (P0 x r).run) (fun r => r) x).symm)
noncomputable def Mb8 : List (Nat × Sum) := [(20, xa5), (26, ja6), (9, fa2), (37, ea5)]
theorem Cb3 : o8 prog G Mb8 := ⟨Ca9, ma0, ia0, xa7, trivial⟩
noncomputable def ma5 (x : List Pln) (y : List Pln) : Option (a7 × List a8) := let t1 := (ca9 (rt tP x)); let t2 := (R9 [(rt tP y)]); let t3 := (N6 (rt tP x)); let t4 := (Q4 ⟨(rt tX t3), (rt tP y)⟩); (sl (okE tP x) (sl (da0 (rt tP x)) (sl t1 (sl ((okE tP y) && true) (sl (S1 [(rt tP y)]) (sl t2 (sl (okE tP x) (sl (N7 (rt tP x)) (sl ((cnE tX t3) && ((cnE tP y) && true)) (sl (Nat.beq t4.alt 1) (some ((b (!t4.bs0)), [])) none) none) none) none) (some ((b false), []))) none) none) (some ((b false), []))) none) none)
noncomputable def Z5 (x : List Pln) (y : List Pln) : Bool := la0 (one r1B) (ma5 x y)
noncomputable def z5 (x : List Pln) (y : List Pln) : Bool := okO (one r1B) (ma5 x y)
noncomputable def Na5 : Sum := va9 (Ea9 tP) (Ea9 tP) (fun x y => .guard (z5 x y) (.ret ((one r1B).enc (Z5 x y), [])))
theorem cb2 : j6 prog G 13 Na5 := Ib7 (bd b13 Cb3) (one r1B) (o := ma5) fun x y => I7 (by kernel_rfl)
noncomputable def mc7 : List (Nat × Sum) := []
theorem cc3 : o8 prog G mc7 := trivial
structure Ua2 where
 c7 : Int
 d7 : Int
 d8 : Int
 d9 : Int
 e7 : Int
 e8 : Int
noncomputable def Ha1 {α : Type} (kk : Ua2 → α) (x : V3) (y : V3) : α := (kk ⟨y.x, (W (0 - x.x)), y.y, (W (0 - x.y)), y.z, (W (0 - x.z))⟩)
noncomputable def u6 (x : V3) (y : V3) : Ua2 := Ha1 (fun r => r) x y
noncomputable def cb3 (r : Ua2) : DT (a7 × List a8) := .ret ((.sl 0 0 6 0), [⟨42, 4, [[(i 1), (i 0), (i 0), (i r.c7)], [(i (-1)), (i 0), (i 0), (i r.d7)], [(i 0), (i 1), (i 0), (i r.d8)], [(i 0), (i (-1)), (i 0), (i r.d9)], [(i 0), (i 0), (i 1), (i r.e7)], [(i 0), (i 0), (i (-1)), (i r.e8)]], true, false, 0⟩])
theorem uc1 {α β : Type} (F : α → β) (kk : Ua2 → α) (x : V3) (y : V3) : F (Ha1 kk x y) = Ha1 (fun r => F (kk r)) x y := by unfold Ha1; (repeat' apply B7 (f := F)) <;> rfl
noncomputable def mb1 : Sum := va9 (Ha4 tV) (Ha4 tV) (fun x y => cb3 (u6 x y))
theorem Ab1 : j6 prog G 7 mb1 := Ra6 (bd b7 cc3) fun x y => I7 (Eq.trans (b := Ha1 (fun r => (cb3 r).run) x y) (by kernel_rfl) (uc1 (fun r => (cb3 r).run) (fun r => r) x y).symm)
noncomputable def Qb9 : List (Nat × Sum) := [(7, mb1)]
theorem Mb9 : o8 prog G Qb9 := ⟨Ab1, trivial⟩
structure Da3 where
 c7 : Int
 d7 : Int
 d8 : Int
 d9 : Int
 e7 : Int
 e8 : Int
noncomputable def sa0 {α : Type} (kk : Da3 → α)  : α := let t1 := (u6 (⟨0, 0, 0⟩ : V3) (⟨1, 1, 1⟩ : V3)); (kk ⟨t1.c7, t1.d7, t1.d8, t1.d9, t1.e7, t1.e8⟩)
noncomputable def Ua3  : Da3 := sa0 (fun r => r)
noncomputable def Na6 (r : Da3) : DT (a7 × List a8) := .ret ((.sl 0 0 6 0), [⟨42, 4, [[(i 1), (i 0), (i 0), (i r.c7)], [(i (-1)), (i 0), (i 0), (i r.d7)], [(i 0), (i 1), (i 0), (i r.d8)], [(i 0), (i (-1)), (i 0), (i r.d9)], [(i 0), (i 0), (i 1), (i r.e7)], [(i 0), (i 0), (i (-1)), (i r.e8)]], true, false, 0⟩])
theorem cc4 {α β : Type} (F : α → β) (kk : Da3 → α)  : F (sa0 kk ) = sa0 (fun r => F (kk r))  := by unfold sa0; (repeat' apply B7 (f := F)) <;> rfl
noncomputable def sb4 : Sum := gc9  (Na6 (Ua3 ))
theorem Rb0 : j6 prog G 21 sb4 := wc3 (bd b21 Mb9) (I7 (Eq.trans (b := sa0 (fun r => (Na6 r).run) ) (by kernel_rfl) (cc4 (fun r => (Na6 r).run) (fun r => r) ).symm))
end Go.Ev.Ce
end
namespace Go.Ev.Ce
open Go Go.Ev Go.Ev.L Go.Proofs
theorem Oc7 (v : V3) : Ta9 v = inV v ∧ Ua0 v = true := by
 have h3 : [v.x, v.y, v.z].length ≤ 1000000000 := by simp
 have : Ga8 v = some (b (inV v), []) := by
  unfold Ga8 inV
  simp only [xb1 24 _ (by omega) h3, xb2 24 _ (by omega) h3, ma7]
  simp only [List.all_cons, List.all_nil, Bool.and_true]
 unfold Ta9 Ua0
 rw [this]
 exact ⟨rfl, rfl⟩
noncomputable def has (c : List Pln) (v : V3) : Bool := (chk c == 0) && (inV v && inn c ⟨v.x, v.y, v.z, 1⟩)
theorem Oc8 {c : List Pln} (hc : c.length ≤ 1000000000) (v : V3) : Ga9 c v = some (b (has c v), []) := by
 unfold Ga9 has
 simp only [F9, ka9, rb6 c hc, rb7 c hc, (Oc7 v).1, (Oc7 v).2, Lb3 c _ hc, Lb4 c _ hc]
 cases chk c == 0 with
 | false => rfl
 | true => cases inV v <;> rfl
theorem cd1 {c : List Pln} (hc : c.length ≤ 1000000000) (v : V3) : oa0 c v = has c v := by unfold oa0; rw [Oc8 hc]; rfl
theorem cd2 {c : List Pln} (hc : c.length ≤ 1000000000) (v : V3) : V5 c v = true := by unfold V5; rw [Oc8 hc]; rfl
theorem mc8 {a c : List Pln} (ha : (chk a == 0) = true) (hc : (chk c == 0) = true) : Bds (a ++ c ++ ws) ∧ (a ++ c ++ ws).length ≤ 200 := by
 rw [beq_iff_eq, rb5] at ha hc
 refine ⟨fun p hp => ?_, by rw [List.length_append, List.length_append, show ws.length = 6 from rfl]; omega⟩
 rcases List.mem_append.1 hp with hp | hp
 ·rcases List.mem_append.1 hp with hp | hp
  ·exact Lb6 (ha.2 p hp)
  ·exact Lb6 (hc.2 p hp)
 ·exact bd7 p hp
noncomputable def apart (a c : List Pln) : Bool := !((chk a == 0) && (chk c == 0)) || !ball (a ++ c ++ ws)
theorem mc9 {a c : List Pln} (ha : a.length ≤ 100000000) (hc : c.length ≤ 100000000) : ra9 a c = some (b (apart a c), []) := by
 have hn : [a, c].length ≤ 1000000000 := by simp
 have hl : ∀ x ∈ [a, c], x.length ≤ 1000000000 := by
  intro x hx
  simp only [List.mem_cons, List.not_mem_nil, or_false] at hx
  rcases hx with rfl | rfl <;> omega
 have hf : [a, c].flatten = a ++ c := by simp
 have hfl : [a, c].flatten.length ≤ 1000000000 := by rw [hf, List.length_append]; omega
 unfold ra9 apart
 simp only [F9, ka9, lc5 _ hn hl, lc6 _ hn hl, nd6 _ hn hfl, nd7 _ hn hfl, hf, List.all_cons, List.all_nil, Bool.and_true]
 cases h1 : chk a == 0 with
 | false => rfl
 | true =>
  cases h2 : chk c == 0 with
  | false => rfl
  | true =>
   obtain ⟨q1, q2⟩ := mc8 h1 h2
   rw [Oc1 _ q1 q2, Oc2 _ q1 q2]
   rfl
theorem yc9 {a c : List Pln} (ha : a.length ≤ 100000000) (hc : c.length ≤ 100000000) : da4 a c = apart a c := by unfold da4; rw [mc9 ha hc]; rfl
theorem zc0 {a c : List Pln} (ha : a.length ≤ 100000000) (hc : c.length ≤ 100000000) : E0 a c = true := by unfold E0; rw [mc9 ha hc]; rfl
noncomputable def cc5 (a c : List Pln) : Bool := ful a && ((chk c == 0) && (pts a).all (inn c))
theorem uc2 (x : Pt) (c : List Pln) (hc : c.length ≤ 1000000000) : na4 ⟨x.px, x.py, x.pz, x.pw, c⟩ = ⟨1, !inn c x⟩ := by
 unfold na4 X2
 simp only [F9, ka9, ma7]
 show sl (N3 c x) (ea4.mk 1 (!N2 c x)) _ = _
 rw [Lb3 c x hc, Lb4 c x hc]
 rfl
theorem Vb6 {a c : List Pln} (ha : a.length ≤ 1000000000) (hc : c.length ≤ 1000000000) : ma5 a c = some (b (cc5 a c), []) := by
 have hX := bc6 a
 have h := Ra7 (step := C8 ⟨pts a, ((pts a).length : Int)⟩) (mk := fun j => (⟨(j : Int), c⟩ : l7)) (c := fun x => !inn c x) (u := 1) (fin := 2) tX (pts a) (by omega)
  (fun j hj => by
   simp only [C8, A4, Int.toNat_natCast, F9, J7, uc2 _ _ hc, M5 hj (show (pts a).length ≤ 4611686018427387904 by omega)]
   rw [btD (N8 hj), bt (q8 hj)]
   rfl)
  (by simp only [C8, A4]; rw [bfD (ra6 (Nat.lt_irrefl _))]) 0 (Nat.zero_le _)
 rw [List.drop_zero] at h
 have e : ((pts a).any fun x => !inn c x) = !(pts a).all (inn c) := by rw [List.not_all_eq_any_not]
 unfold ma5 Q4 v9 W8 B1 cc5
 simp only [F9, J7, ka9, Mb1 ha, Mb2 ha, rb6 c hc, rb7 c hc, Pa5 ha, Pa6 ha]
 rw [show (⟨0, c⟩ : l7) = ⟨((0 : Nat) : Int), c⟩ from rfl, h, e]
 cases ful a with
 | false => rfl
 | true =>
  cases chk c == 0 with
  | false => rfl
  | true =>
   cases (pts a).all (inn c) with
   | true => rfl
   | false =>
    simp only [Bool.not_false, if_true, Nat.zero_add]
    show some (b (!(decide ((((pts a).findIdx fun x => !inn c x : Nat) : Int) ≥ 0))), []) = _
    rw [show decide ((((pts a).findIdx fun x => !inn c x : Nat) : Int) ≥ 0) = true from decide_eq_true (by omega)]
    rfl
theorem nc0 {a c : List Pln} (ha : a.length ≤ 1000000000) (hc : c.length ≤ 1000000000) : Z5 a c = cc5 a c := by unfold Z5; rw [Vb6 ha hc]; rfl
theorem nc1 {a c : List Pln} (ha : a.length ≤ 1000000000) (hc : c.length ≤ 1000000000) : z5 a c = true := by unfold z5; rw [Vb6 ha hc]; rfl
end Go.Ev.Ce
namespace Go.Ev.L
open Go Go.Ev Go.Sort Go.Proofs
section
variable {α : Type} [Inhabited α] {P : Program} {G : Nat → List Value} {g : FuncId} {S : Sum} {t : Ty α} {enc : α → List Value} {cf : α → α → Int}
theorem Yc2 (hc : j6 P G g S) (hS : ∀ x y, (S [.agg (t.row x), .agg (t.row y)] []).run = some (i (cf x y), [])) (hG : ∀ n, G n = []) (he : ∀ x, t.row x = (enc x).map .v) (k blk off size : Nat) (w : World) :
  CmpLays P g #[] enc k cf blk off size w := by
 intro m os dk _ x y
 generalize sortWorldK enc k w blk off m dk os = w0
 have hrow : ∀ (z : α), R3 (fun _ => ⟨0, 0, 0⟩) [] (fun _ _ => False) w0 (.agg (t.row z)) (.agg (enc z).toArray) := fun z => by
  refine .agg _ _ (by rw [he]; simp) fun i u u' hu hu' => ?_
  rw [he, List.getElem?_map] at hu
  have hu' : (enc z)[i]? = some u' := by simpa using hu'
  rw [hu'] at hu
  injection hu with hu
  subst hu
  exact .v _
 obtain ⟨_, h⟩ := hc _ _ _ _ (hS x y) (fun k => w0.heap.size ≤ k) (fun _ => ⟨0, 0, 0⟩) (fun _ _ => False) w0 [.agg (enc x).toArray, .agg (enc y).toArray]
  ⟨fun id b hb => by simp at hb, fun id id' b b' hb => by simp at hb, fun b o hf => hf.elim, fun k hk => hk⟩ rfl
  (fun i u u' hu hu' => by
   match i, hu, hu' with
   | 0, hu, hu' => cases hu; cases hu'; exact .val (hrow x)
   | 1, hu, hu' => cases hu; cases hu'; exact .val (hrow y))
  (fun n c v hv => by rw [hG] at hv; simp at hv)
 refine h.mono fun e w' ⟨r', h1, ρ', F', h2, h3, h4⟩ => ?_
 have h5 := Q6 h4
 subst h5
 refine ⟨h1, w'.drawn - w0.drawn, w'.heap.extract w0.heap.size w'.heap.size, ?_⟩
 have hd := h2.ext.drawn
 have hs := h2.ext.size
 have hheap : w'.heap = w0.heap ++ w'.heap.extract w0.heap.size w'.heap.size := by
  apply Array.ext_getElem?
  intro j
  rcases Nat.lt_or_ge j w0.heap.size with hj | hj
  ·rw [Array.getElem?_append_left hj, h2.ext.block j hj (by omega)]
  ·rw [Array.getElem?_append_right hj, Array.getElem?_extract]
   have e : w0.heap.size + (j - w0.heap.size) = j := by omega
   rw [e]
   split
   ·rfl
   ·rw [Array.getElem?_eq_none (by omega)]
 obtain ⟨hp, tp, dr, os', out⟩ := w'
 have e1 := h2.ext.os; have e2 := h2.ext.tape; have e3 := h2.ext.output
 simp only at e1 e2 e3 hd hheap
 subst e1 e2 e3
 unfold grow World.drewN
 simp only
 congr 1
 omega
noncomputable def Oc9 (t : Ty α) (g : Nat) (et : Nat) (srt : List α → List α) : Sum := fun args blks => match args, blks with
 | [.sl 0 0 n 0, .fn g' []], [⟨et', es', el, true, false, 0⟩] =>
  Bool.rec (motive := fun _ => DT (a7 × List a8)) .fail (.guard (Bool.and (Nat.ble n room) (Bool.and (Nat.ble n (len el)) (okS t el 0 n))) (.ret (.v (.tuple #[]), [⟨et', es', app (bL t (srt (slR t el 0 n))) (j8 el n), true, false, 0⟩])))
   (Bool.and (Nat.beq g' g) (Bool.and (Nat.beq et' et) (Nat.beq es' t.es)))
 | _, _ => .fail
theorem sb5 (l : List α) (j : Nat) (h : j < l.length) : l.toArray[j]! = l[j] := by
 rw [getElem!_pos l.toArray j (by simpa using h)]
 simp
theorem Yc3 {f : FuncId} {et : Nat} {srt : List α → List α} (hcall : Ya3 P f) (hes : 0 < t.es) (he : ∀ x, t.row x = (enc x).map .v) (hx : ∀ r, t.ok r = true → r = t.row (t.rd r)) (h1 : ∀ x, ∀ v ∈ enc x, v.oneCell' = true)
  (hlen : ∀ l, (srt l).length = l.length) (hcl : ∀ blk off size w, CmpLays P g #[] enc t.es cf blk off size w)
  (hcon : ∀ (blk cap : Nat) (d : Array α) (w : World), (∀ off size, CmpLays P g #[] enc t.es cf blk off size w) → HoldsK enc t.es w blk 0 d → blk < w.heap.size → d.size < 4611686018427387904 →
   Calls P f #[.slice (some ⟨blk, 0, none⟩) d.size cap, .func (.func g) #[] #[]] w fun e w' => e = .returned (.tuple #[]) ∧ ∃ n os, w' = sortWorldK enc t.es w blk 0 n (srt d.toList).toArray os) :
  j6 P G f (Oc9 t g et srt) := by
 intro args blks r out hr W ρ F w args' hH hl hargs hG
 refine ⟨hcall, ?_⟩
 unfold Oc9 at hr
 split at hr
 case h_2 => cases hr
 rename_i n g' et' es' el
 cases hb0 : Bool.and (Nat.beq g' g) (Bool.and (Nat.beq et' et) (Nat.beq es' t.es)) with
 | false => rw [hb0] at hr; cases hr
 | true =>
 rw [hb0] at hr
 rw [Bool.and_eq_true, Bool.and_eq_true] at hb0
 have q1 := Nat.eq_of_beq_eq_true hb0.1; have q2 := Nat.eq_of_beq_eq_true hb0.2.1; have q3 := Nat.eq_of_beq_eq_true hb0.2.2
 subst q1 q2 q3
 obtain ⟨hg0, hr⟩ := DT.run_guard_some hr
 rw [Bool.and_eq_true, Bool.and_eq_true] at hg0
 have hroom : n ≤ room := Nat.le_of_ble_eq_true hg0.1
 have hn := Nat.le_of_ble_eq_true hg0.2.1
 rw [j7] at hn
 have hok := hg0.2.2
 injection hr with hr; injection hr with p1 p2; subst p1 p2
 match args', hl with
 | [v0, v1], _ =>
 obtain ⟨a, cap, b, rfl, hb, hd, _, hncap, hspot, hcap, hq⟩ := ka8 (hargs 0 _ _ rfl rfl)
 obtain ⟨vs1, rfl, hvs1, _⟩ := Qa4 (hargs 1 _ _ rfl rfl)
 have hvs1 : vs1 = #[] := Array.eq_empty_of_size_eq_zero (by simpa using hvs1.symm)
 subst hvs1
 have hb : b = ⟨et', t.es, el, true, false, 0⟩ := by simpa using hb.symm
 subst hb
 obtain ⟨ha, hsz, hne⟩ := hq rfl
 have ha : a = ⟨(ρ 0).blk, (ρ 0).off + 0 * t.es, none⟩ := ha.resolve_left fun h => by omega
 obtain ⟨cc, tt, fr, hB⟩ := hH.blk 0 _ rfl rfl
 obtain ⟨hfr, hW, hoff, hsize, hnF, het⟩ := hB.own rfl
 subst hfr
 rw [hoff, Nat.zero_mul, Nat.add_zero] at ha
 subst ha
 generalize hbk : (ρ 0).blk = blk at *
 -- the rows as data
 have hrow : ∀ j, j < n → r7 el j = (enc (gL t (slR t el 0 n) j)).map .v := fun j hj => by
  have h2 : t.ok (r7 el (0 + j)) = true := List.all_eq_true.1 hok j (by simpa using hj)
  rw [Nat.zero_add] at h2
  rw [← he, slR, wc6 t _ hj, Nat.zero_add]
  exact hx _ h2
 have hld : (slR t el 0 n).length = n := wc5 ..
 have hk : ∀ x, (enc x).length = t.es := fun x => by have := t.h0 x; rw [j7, he] at this; simpa using this
 have hlt : blk < w.heap.size := by
  have := hB.obj
  rcases Nat.lt_or_ge blk w.heap.size with h | h
  ·exact h
  ·rw [hbk, Array.getElem?_eq_none h] at this; cases this
 have hobj : w.heap[blk]? = some (.cells cc tt (0, 0)) := by rw [← hbk]; exact hB.obj
 have hgd : ∀ (l : List α) (j : Nat) (h : j < l.length), gL t l j = l[j] := fun l j h => by simp [gL, List.getD_eq_getElem?_getD, List.getElem?_eq_getElem h]
 have hdm : ∀ q, q < n * t.es → q / t.es < n ∧ q % t.es < t.es ∧ (q / t.es) * t.es + q % t.es = q := fun q hq => ⟨Nat.div_lt_of_lt_mul (by rw [Nat.mul_comm]; exact hq), Nat.mod_lt _ hes, Nat.div_add_mod' q t.es⟩
 have hrowAt : ∀ j, j < el.length → el[j]? = some (r7 el j) := fun j hj => by
  unfold r7; rw [w6, List.getElem?_eq_getElem hj]
 have hH0 : HoldsK enc t.es w blk 0 (slR t el 0 n).toArray := by
  intro q hq
  have hq : q < n * t.es := by rw [size_flatK] at hq; simpa [hld] using hq
  obtain ⟨e1, e2, e3⟩ := hdm q hq
  rw [get_flatK _ _ _ _ (by simpa [hld] using hq), sb5 _ _ (by rw [hld]; exact e1), ← hgd _ _ (by rw [hld]; exact e1)]
  have hcx : (r7 el (q / t.es))[q % t.es]? = some (.v ((enc (gL t (slR t el 0 n) (q / t.es)))[q % t.es]!)) := by
   rw [hrow _ e1, List.getElem?_map, List.getElem?_eq_getElem (by rw [hk]; exact e2), getElem!_pos _ _ (by rw [hk]; exact e2)]
   rfl
  obtain ⟨x', h5, h6⟩ := hB.cell (q / t.es) _ (q % t.es) _ (hrowAt _ (by omega)) hcx
  have h6 : x' = (enc (gL t (slR t el 0 n) (q / t.es)))[q % t.es]! := by cases h6; rfl
  subst h6
  rw [hoff] at h5
  simp only [e3, Nat.zero_add] at h5
  constructor
  ·simp only [World.cell?, hobj, Nat.zero_add]
   simpa using h5
  ·simp [World.frozen?, hobj]
 have hds : (slR t el 0 n).toArray.size = n := by simpa using hld
 have hmax : n < 4611686018427387904 := by unfold room at hroom; omega
 have hcalls := hcon blk cap (slR t el 0 n).toArray w (fun off size => hcl blk off size w) hH0 hlt (by rw [hds]; exact hmax)
 rw [hds] at hcalls
 refine hcalls.mono fun e w' ⟨h5, m, os, h6⟩ => ⟨_, h5, ρ, F, ?_⟩
 generalize hsd : srt (slR t el 0 n) = sd at *
 have hsl : sd.length = n := by rw [← hsd, hlen, hld]
 have h6 : w' = grow (mapBlock (Sort.ahead w m) blk (putCells id 0 (flatK enc t.es sd.toArray))) os := h6
 have hw'size : w'.heap.size = w.heap.size + os.size := by rw [h6]; simp [mapBlock]
 have hold : ∀ k, k < w.heap.size → k ≠ blk → w'.heap[k]? = w.heap[k]? := fun k h7 h8 => by
  rw [h6]
  simp only [grow, mapBlock]
  rw [Array.getElem?_append_left (by simpa using h7), Array.getElem?_modify]
  simp [Ne.symm h8]
 have hnew : w'.heap[blk]? = some (.cells (putCells id 0 (flatK enc t.es sd.toArray) cc) tt (0, 0)) := by
  rw [h6]
  simp only [grow, mapBlock]
  rw [Array.getElem?_append_left (by simpa using hlt), Array.getElem?_modify]
  simp [hobj, onCells]
 have hcells : ∀ b o, F b o → w'.cell? ⟨b, o, none⟩ = w.cell? ⟨b, o, none⟩ := fun b o hf => by
  have h7 : b ≠ blk := fun h8 => hnF o (h8 ▸ hf)
  have := Qa1 (hH.frz b o hf)
  simp only [World.cell?, hold b this h7]
 have hpc : ∀ q, q < cc.size → (putCells id 0 (flatK enc t.es sd.toArray) cc)[q]? = if q < n * t.es then some ((enc sd.toArray[q / t.es]!)[q % t.es]!) else cc[q]? := fun q hq => by
  simp only [putCells, Array.getElem?_mapIdx, Array.getElem?_eq_getElem hq, Option.map_some, size_flatK, Nat.zero_le, true_and, Nat.zero_add, Nat.sub_zero, id]
  have : sd.toArray.size = n := by simpa using hsl
  rw [this]
  split
  ·next h7 => rw [get_flatK _ _ _ _ (by rw [this]; exact h7)]
  ·rfl
 have hel : (app (bL t sd) (j8 el n)).length = el.length := by
  rw [B4, List.length_append, ← j7 (bL t sd), ta3, hsl, E4, List.length_drop]
  omega
 have hnrow : ∀ (j : Nat) r, (app (bL t sd) (j8 el n))[j]? = some r → (j < n ∧ r = t.row (gL t sd j)) ∨ (n ≤ j ∧ el[j]? = some r) := fun j r hr => by
  have hlb : (bL t sd).length = n := by rw [← j7, ta3, hsl]
  rw [B4] at hr
  rcases Nat.lt_or_ge j n with h7 | h7
  ·rw [List.getElem?_append_left (by omega)] at hr
   left
   refine ⟨h7, ?_⟩
   unfold bL at hr
   rw [n7, List.getElem?_map, List.getElem?_eq_getElem (by omega)] at hr
   injection hr with hr
   rw [← hr, hgd sd j (by omega)]
  ·rw [List.getElem?_append_right (by omega), hlb, E4, List.getElem?_drop] at hr
   right
   exact ⟨h7, by rw [← hr]; congr 1; omega⟩
 have hcs : el.length * t.es ≤ cc.size := by have := hB.len; rw [hsize] at this; exact this
 refine ⟨⟨⟨?_, ?_, ?_, by omega, fun k h7 h8 => hold k h7 fun h9 => h8 (h9 ▸ hW), hcells, ?_⟩, fun id b hb => ?_, fun _ _ h => h, fun _ _ h => .inl h, fun id b' hb' hn' => ?_⟩, ⟨fun id b hb hd' => ?_, fun id id' b b' hb hb' h7 h8 h9 h10 => ?_, fun b o hf => by rw [hcells b o hf]; exact hH.frz b o hf, fun k hk' => hH.new k (by omega)⟩, .ofv _⟩
 ·rw [h6]; rfl
 ·rw [h6]; rfl
 ·rw [h6]; rfl
 ·rw [h6]; exact Nat.le_add_right _ _
 ·match id, hb with
  | 0, hb =>
   cases hb
   exact ⟨_, rfl, rfl, Nat.le_refl _, fun _ => ⟨rfl, rfl, by simp only [hel]; exact Nat.le_refl _⟩⟩
 ·match id, hb' with
  | 0, hb' => cases hb'; exact absurd rfl (hn' ⟨et', t.es, el, true, false, 0⟩ rfl)
 ·match id, hb with
  | 0, hb =>
   cases hb
   refine ⟨_, tt, (0, 0), by rw [hbk]; exact hnew, ?_, ?_, ?_, ?_, fun _ => ⟨rfl, by rw [hbk]; exact hW, hoff, ?_, by rw [hbk]; exact hnF, het⟩, fun h => by cases h⟩
   ·rw [hoff, hsize]; simp [putCells]
   ·simp only [hel]; exact hB.len
   ·intro j r hr
    rcases hnrow j r hr with ⟨_, h8⟩ | ⟨_, h8⟩
    ·rw [h8, ← j7]; exact t.h0 _
    ·exact hB.rows j r h8
   ·intro j r c x hr hc
    rw [hoff, Nat.zero_add]
    rcases hnrow j r hr with ⟨h7, h8⟩ | ⟨h7, h8⟩
    ·subst h8
     have hclt : c < t.es := by
      have := (List.getElem?_eq_some_iff.1 hc).1
      rw [← j7, t.h0] at this
      exact this
     have hq : j * t.es + c < n * t.es := by
      have := Nat.mul_le_mul_right t.es (show j + 1 ≤ n from h7)
      rw [Nat.add_mul, Nat.one_mul] at this
      omega
     have hqn : n * t.es ≤ el.length * t.es := Nat.mul_le_mul_right _ hn
     have e1 : (j * t.es + c) / t.es = j := by rw [Nat.mul_comm, Nat.mul_add_div hes, Nat.div_eq_of_lt hclt, Nat.add_zero]
     have e2 : (j * t.es + c) % t.es = c := by rw [Nat.mul_comm, Nat.mul_add_mod, Nat.mod_eq_of_lt hclt]
     rw [he, List.getElem?_map, List.getElem?_eq_getElem (by rw [hk]; exact hclt)] at hc
     injection hc with hc
     subst hc
     refine ⟨(enc (gL t sd j))[c]'(by rw [hk]; exact hclt), ?_, .v _ (h1 _ _ (List.getElem_mem _))⟩
     rw [hpc _ (Nat.lt_of_lt_of_le hq (Nat.le_trans hqn hcs)), if_pos hq, e1, e2, sb5 _ _ (by omega), hgd sd j (by omega), getElem!_pos _ _ (by rw [hk]; exact hclt)]
    ·obtain ⟨x', h9, h10⟩ := hB.cell j r c x h8 hc
     rw [hoff, Nat.zero_add] at h9
     have hq : ¬ j * t.es + c < n * t.es := by
      have := Nat.mul_le_mul_right t.es h7
      omega
     have hlt' : j * t.es + c < cc.size := (Array.getElem?_eq_some_iff.1 h9).1
     exact ⟨x', by rw [hpc _ hlt', if_neg hq]; exact h9, h10.adv (fun _ _ h => h) hcells⟩
   ·rw [hsize]; simp [putCells]
 ·match id, hb, id', hb' with
  | 0, hb, 0, hb' => exact absurd rfl h10
end
end Go.Ev.L
namespace Go.Proofs
open Go.Shelf
shelf_lay_g SlLaysF0.n6 Slsf 6 at Try 33 as Ce.sortLay
end Go.Proofs
namespace Go.Ev.Ce
open Go Go.Ev Go.Ev.L Go.Proofs Go.Sort
def sb6 (x y : Int) : Int := if x < y then -1 else if x > y then 1 else 0
def Ja7 (x y : Pln) : Int :=
 if sb6 x.n.x y.n.x = 0 then if sb6 x.n.y y.n.y = 0 then if sb6 x.n.z y.n.z = 0 then sb6 x.b y.b else sb6 x.n.z y.n.z else sb6 x.n.y y.n.y else sb6 x.n.x y.n.x
theorem Eb4 (x y : Int) : sb6 x y < 0 ↔ x < y := by unfold sb6; split <;> (try split) <;> omega
theorem cc6 (x y : Int) : sb6 x y = 0 ↔ x = y := by unfold sb6; split <;> (try split) <;> omega
def LtP (x y : Pln) : Prop := x.n.x < y.n.x ∨ x.n.x = y.n.x ∧ (x.n.y < y.n.y ∨ x.n.y = y.n.y ∧ (x.n.z < y.n.z ∨ x.n.z = y.n.z ∧ x.b < y.b))
instance (x y : Pln) : Decidable (LtP x y) := by unfold LtP; exact inferInstance
theorem Yc4 (x y : Pln) : Ja7 x y < 0 ↔ LtP x y := by
 have h1 := Eb4 x.n.x y.n.x; have h2 := cc6 x.n.x y.n.x
 have h3 := Eb4 x.n.y y.n.y; have h4 := cc6 x.n.y y.n.y
 have h5 := Eb4 x.n.z y.n.z; have h6 := cc6 x.n.z y.n.z
 have h7 := Eb4 x.b y.b
 unfold Ja7 LtP
 split
 ·split
  ·split <;> omega
  ·omega
 ·omega
theorem Da8 (x y : Pln) : ltOf Ja7 x y = decide (LtP x y) := by
 unfold ltOf
 rw [decide_eq_decide]
 exact Yc4 x y
theorem nd9 : SWO (ltOf Ja7) where
 irrefl x := by rw [Da8]; simp [LtP]
 trans x y z h1 h2 := by rw [Da8, decide_eq_true_eq] at *; unfold LtP at *; omega
 ntrans x y z h1 h2 := by rw [Da8, decide_eq_false_iff_not] at *; unfold LtP at *; omega
theorem od0 (x y : Pln) (h1 : ltOf Ja7 x y = false) (h2 : ltOf Ja7 y x = false) : x = y := by
 rw [Da8, decide_eq_false_iff_not] at *
 unfold LtP at *
 obtain ⟨⟨a, b, c⟩, d⟩ := x; obtain ⟨⟨a', b', c'⟩, d'⟩ := y
 simp only at *
 have : a = a' ∧ b = b' ∧ c = c' ∧ d = d' := by omega
 obtain ⟨rfl, rfl, rfl, rfl⟩ := this
 rfl
theorem nc2 (x y : Int) : ma4 x y = some (i (sb6 x y), []) := by
 unfold ma4 sb6
 simp only [kb7, decide_eq_true_eq]
 split <;> (try split) <;> rfl
theorem Yc5 (x y : Int) : Z3 x y = sb6 x y := by unfold Z3; rw [nc2]; rfl
theorem Yc6 (x y : Int) : Z4 x y = true := by unfold Z4; rw [nc2]; rfl
theorem Nb0 (x y : Pln) : ea3 x y = some (i (Ja7 x y), []) := by
 unfold ea3 Ja7
 simp only [Yc5, Yc6, kb7, beq_iff_eq, if_true]
 repeat' (first | rfl | split)
theorem od1 (x y : Pln) : na1 x y = Ja7 x y := by unfold na1; rw [Nb0]; rfl
theorem od2 (x y : Pln) : na2 x y = true := by unfold na2; rw [Nb0]; rfl
theorem od3 (x y : Pln) : (Aa7 [.agg (tP.row x), .agg (tP.row y)] []).run = some (i (Ja7 x y), []) := by
 have : (Aa7 [.agg (tP.row x), .agg (tP.row y)] []).run = sel (na2 x y) (some (i (na1 x y), [])) none := by kernel_rfl
 rw [this, od2, od1]
def wb2 (p : Pln) : List Value := [.int .i64 p.n.x, .int .i64 p.n.y, .int .i64 p.n.z, .int .i64 p.b]
instance : Inhabited Pln := ⟨⟨⟨0, 0, 0⟩, 0⟩⟩
def Va6 (l : List Pln) : List Pln := l.mergeSort fun x y => !ltOf Ja7 y x
theorem Vb7 (l : List Pln) : (Va6 l).length = l.length := List.length_mergeSort l
noncomputable def oa7 : Sum := Oc9 tP 34 42 Va6
theorem Pc0 : Ce.sortLay_ren.f 6 = 33 := by kernel_rfl
theorem Vb8 : Ce.sortLay_ren.t 24 = 42 := by kernel_rfl
set_option maxRecDepth 100000 in
theorem Na7 : j6 prog G 33 oa7 := by
 refine Yc3 (enc := wb2) (cf := Ja7) ⟨_, Try.func33, by kernel_rfl, of_decide_eq_true (by kernel_rfl)⟩ (by decide) (fun _ => rfl) (fun r h => ta4 (n := 4) h) (fun x v hv => ?_) Vb7
  (fun blk off size w => Yc2 xb7 od3 (fun _ => rfl) (fun _ => rfl) _ _ _ _ _) (fun blk cap d w hcl hH hb hs => ?_)
 ·simp [wb2] at hv
  rcases hv with rfl | rfl | rfl | rfl <;> rfl
 ·have eg : ∀ args w, (callFunc 34 args).run Try.prog w = .ok (.enter 34 args) w := enters_of Try.func34 (by kernel_rfl) rfl
  have := AnyQ.slices_SortFunc Ce.sortLay 4 (by rw [Vb8]; exact Try.isAgg42) (by rw [Vb8]; exact Try.sizeOf42) wb2 (fun _ => rfl) (fun x v hv => by simp [wb2] at hv; rcases hv with rfl | rfl | rfl | rfl <;> rfl) Ja7 nd9 34 #[] blk 0 cap d w eg (hcl 0 d.size) hH hb hs
  rw [Pc0] at this
  refine this.mono fun e w' ⟨h1, d', n, os, h2, h3, h4⟩ => ⟨h1, n, os, ?_⟩
  have h5 := sorted_unique_holds nd9 od0 d d' h2 h3
  rw [h4]
  show _ = sortWorldK wb2 4 w blk 0 n (d.toList.mergeSort fun x y => !ltOf Ja7 y x).toArray os
  rw [← h5]
end Go.Ev.Ce
section
namespace Go.Ev.Ce
open Go Go.Ev Go.Ev.L Go.Proofs
set_option maxRecDepth 100000
noncomputable def Wa4 : List (Nat × Sum) := []
theorem Ua4 : o8 prog G Wa4 := trivial
structure Y3 where
 alt : Nat
 ns0 : Nat
 eh0 : List (List a7)
noncomputable def J0 {α : Type} (kk : Y3 → α) (x : Pln × List Pln) : α := (sl (Nat.beq (len (o3 (fun k => (tP).row (gL tP (x.1 :: x.2) k)) (List.range (List.length x.2 + 1)))) 0) (kk ⟨1, 0, []⟩) (sl (Nat.beq 0 0 && Nat.ble ((0 + (len (o3 (fun k => (tP).row (gL tP (x.1 :: x.2) k)) (List.range (List.length x.2 + 1))))) * 32) room) (kk ⟨1, (0 + (len (o3 (fun k => (tP).row (gL tP (x.1 :: x.2) k)) (List.range (List.length x.2 + 1))))), (app [] (o3 (fun k => (tP).row (gL tP (x.1 :: x.2) k)) (List.range (List.length x.2 + 1))))⟩) (kk ⟨0, 0, []⟩)))
noncomputable def Y4 (x : Pln × List Pln) : Y3 := J0 (fun r => r) x
noncomputable def ga1 (r : Y3) : DT (a7 × List a8) := (.ite (Nat.beq r.alt 1) (.ret ((.sl 0 0 r.ns0 0), [⟨42, 4, r.eh0, true, false, 0⟩])) .fail)
theorem cb4 {α β : Type} (F : α → β) (kk : Y3 → α) (x : Pln × List Pln) : F (J0 kk x) = J0 (fun r => F (kk r)) x := by unfold J0; (repeat' apply B7 (f := F)) <;> rfl
noncomputable def xa8 : Sum := va8 (ld7 tP) (fun x => ga1 (Y4 x))
theorem Wa5 : j6 prog G 30 xa8 := Db5 (bd b30 Ua4) fun x => I7 (Eq.trans (b := J0 (fun r => (ga1 r).run) x) (by kernel_rfl) (cb4 (fun r => (ga1 r).run) (fun r => r) x).symm)
noncomputable def cc7 : List (Nat × Sum) := [(20, xa5), (9, fa2), (30, xa8), (29, ka4), (33, oa7), (35, ra8)]
theorem Rb1 : o8 prog G cc7 := ⟨Ca9, ia0, Wa5, Ga7, Na7, Pa8, trivial⟩
noncomputable def xa9 (x : Pln × List Pln) : Option (a7 × List a8) := let t1 := (ca9 (rt tP (x.1 :: x.2))); let t2 := (N6 (rt tP (x.1 :: x.2))); let t3 := (Y4 (hC tP (fun k => (tP).row (gL tP (x.1 :: x.2) k)), tC tP (List.length x.2) (fun k => (tP).row (gL tP (x.1 :: x.2) k)))); let t4 := (L7 ⟨t3.ns0, t3.eh0, (rt tX t2)⟩); let t5 := (T3 ⟨t4.ns0, (app (bL tP (Va6 (slR tP t4.eh0 0 t4.ns0))) (j8 t4.eh0 t4.ns0))⟩); (sl (okE tP (x.1 :: x.2)) (sl (da0 (rt tP (x.1 :: x.2))) (sl (!t1) (some ((.v (.slice none 0 0)), [])) (sl (okE tP (x.1 :: x.2)) (sl (N7 (rt tP (x.1 :: x.2))) (sl (okL tP (List.length x.2 + 1) (fun k => (tP).row (gL tP (x.1 :: x.2) k))) (sl (Nat.beq t3.alt 1) (sl ((cnE tX t2) && true) (sl (Nat.beq t4.alt 1) (sl (Bool.and (Nat.ble t4.ns0 room) (Bool.and (Nat.ble t4.ns0 (len t4.eh0)) (okS tP t4.eh0 0 t4.ns0))) (sl (Nat.beq t5.alt 1) (some ((.sl 0 0 t5.ns0 0), [⟨42, 4, t5.eh0, true, false, 0⟩])) none) none) none) none) none) none) none) none)) none) none)
noncomputable def ya0 (x : Pln × List Pln) : List Pln := la0 (one (r1L tP)) (xa9 x)
noncomputable def ya1 (x : Pln × List Pln) : Bool := okO (one (r1L tP)) (xa9 x)
noncomputable def cb5 : Sum := va8 (ld7 tP) (fun x => .guard (ya1 x) (.ret ((one (r1L tP)).enc (ya0 x), [])))
theorem sb7 : j6 prog G 10 cb5 := gb0 (bd b10 Rb1) (one (r1L tP)) (o := xa9) fun x => I7 (by kernel_rfl)
noncomputable def Cb4 : List (Nat × Sum) := [(21, sb4), (9, fa2), (22, Pa7), (10, cb5), (23, Mb3), (20, xa5), (14, mb0), (8, Ta3), (12, Ua1), (13, Na5), (19, Sa9)]
theorem yb0 : o8 prog G Cb4 := ⟨Rb0, ia0, rb8, sb7, lc8, Ca9, Ab0, ib9, jb2, cb2, ib7, trivial⟩
noncomputable def ia6  : Option (a7 × List a8) := let t1 := Ua3; let t2 := (N6 [(⟨(⟨1, 0, 0⟩ : V3), t1.c7⟩ : Pln), (⟨(⟨(-1), 0, 0⟩ : V3), t1.d7⟩ : Pln), (⟨(⟨0, 1, 0⟩ : V3), t1.d8⟩ : Pln), (⟨(⟨0, (-1), 0⟩ : V3), t1.d9⟩ : Pln), (⟨(⟨0, 0, 1⟩ : V3), t1.e7⟩ : Pln), (⟨(⟨0, 0, (-1)⟩ : V3), t1.e8⟩ : Pln)]); let t3 := (N6 [(⟨(⟨(-1), 0, 0⟩ : V3), 0⟩ : Pln), (⟨(⟨0, (-1), 0⟩ : V3), 0⟩ : Pln), (⟨(⟨0, 0, (-1)⟩ : V3), 0⟩ : Pln), (⟨(⟨2, 3, 4⟩ : V3), 1⟩ : Pln)]); let t4 := (ca0 (rt tX t2) [(⟨1, 1, 1, 1⟩ : Pt), (⟨1, 1, 0, 1⟩ : Pt), (⟨1, 0, 1, 1⟩ : Pt), (⟨1, 0, 0, 1⟩ : Pt), (⟨0, 1, 1, 1⟩ : Pt), (⟨0, 1, 0, 1⟩ : Pt), (⟨0, 0, 1, 1⟩ : Pt), (⟨0, 0, 0, 1⟩ : Pt)]); let t5 := (ca0 (rt tX t3) [(⟨0, 0, 0, 1⟩ : Pt), (⟨0, 0, 1, 4⟩ : Pt), (⟨0, 1, 0, 3⟩ : Pt), (⟨1, 0, 0, 2⟩ : Pt)]); let t6 := (ya0 ((⟨(⟨1, 0, 0⟩ : V3), t1.c7⟩ : Pln), [(⟨(⟨(-1), 0, 0⟩ : V3), t1.d7⟩ : Pln), (⟨(⟨0, 1, 0⟩ : V3), t1.d8⟩ : Pln), (⟨(⟨0, (-1), 0⟩ : V3), t1.d9⟩ : Pln), (⟨(⟨0, 0, 1⟩ : V3), t1.e7⟩ : Pln), (⟨(⟨0, 0, (-1)⟩ : V3), t1.e8⟩ : Pln), (⟨(⟨1, 0, 0⟩ : V3), t1.c7⟩ : Pln), (⟨(⟨1, 1, 1⟩ : V3), 3⟩ : Pln), (⟨(⟨1, 0, 0⟩ : V3), 7⟩ : Pln)])); let t7 := (Ta6 (rt tP t6) [(⟨(⟨(-1), 0, 0⟩ : V3), t1.d7⟩ : Pln), (⟨(⟨0, (-1), 0⟩ : V3), t1.d9⟩ : Pln), (⟨(⟨0, 0, (-1)⟩ : V3), t1.e8⟩ : Pln), (⟨(⟨0, 0, 1⟩ : V3), t1.e7⟩ : Pln), (⟨(⟨0, 1, 0⟩ : V3), t1.d8⟩ : Pln), (⟨(⟨1, 0, 0⟩ : V3), t1.c7⟩ : Pln)]); let t8 := (ca9 []); let t9 := (ca9 [(⟨(⟨1, 0, 0⟩ : V3), t1.c7⟩ : Pln), (⟨(⟨(-1), 0, 0⟩ : V3), t1.d7⟩ : Pln), (⟨(⟨0, 1, 0⟩ : V3), t1.d8⟩ : Pln), (⟨(⟨0, (-1), 0⟩ : V3), t1.d9⟩ : Pln), (⟨(⟨0, 0, 1⟩ : V3), t1.e7⟩ : Pln), (⟨(⟨0, 0, (-1)⟩ : V3), t1.e8⟩ : Pln), (⟨(⟨(-1), 0, 0⟩ : V3), (-1)⟩ : Pln)]); let t10 := (oa0 [(⟨(⟨1, 0, 0⟩ : V3), t1.c7⟩ : Pln), (⟨(⟨(-1), 0, 0⟩ : V3), t1.d7⟩ : Pln), (⟨(⟨0, 1, 0⟩ : V3), t1.d8⟩ : Pln), (⟨(⟨0, (-1), 0⟩ : V3), t1.d9⟩ : Pln), (⟨(⟨0, 0, 1⟩ : V3), t1.e7⟩ : Pln), (⟨(⟨0, 0, (-1)⟩ : V3), t1.e8⟩ : Pln)] (⟨1, 0, 0⟩ : V3)); let t11 := (oa0 [(⟨(⟨1, 0, 0⟩ : V3), t1.c7⟩ : Pln), (⟨(⟨(-1), 0, 0⟩ : V3), t1.d7⟩ : Pln), (⟨(⟨0, 1, 0⟩ : V3), t1.d8⟩ : Pln), (⟨(⟨0, (-1), 0⟩ : V3), t1.d9⟩ : Pln), (⟨(⟨0, 0, 1⟩ : V3), t1.e7⟩ : Pln), (⟨(⟨0, 0, (-1)⟩ : V3), t1.e8⟩ : Pln)] (⟨2, 0, 0⟩ : V3)); let t12 := (ra4 [(⟨(⟨(-1), 0, 0⟩ : V3), 0⟩ : Pln), (⟨(⟨0, (-1), 0⟩ : V3), 0⟩ : Pln), (⟨(⟨0, 0, (-1)⟩ : V3), 0⟩ : Pln), (⟨(⟨2, 3, 4⟩ : V3), 1⟩ : Pln)]); let t13 := (da4 [(⟨(⟨1, 0, 0⟩ : V3), t1.c7⟩ : Pln), (⟨(⟨(-1), 0, 0⟩ : V3), t1.d7⟩ : Pln), (⟨(⟨0, 1, 0⟩ : V3), t1.d8⟩ : Pln), (⟨(⟨0, (-1), 0⟩ : V3), t1.d9⟩ : Pln), (⟨(⟨0, 0, 1⟩ : V3), t1.e7⟩ : Pln), (⟨(⟨0, 0, (-1)⟩ : V3), t1.e8⟩ : Pln)] [(⟨(⟨(-1), 0, 0⟩ : V3), (-1)⟩ : Pln)]); let t14 := (da4 [(⟨(⟨1, 0, 0⟩ : V3), t1.c7⟩ : Pln), (⟨(⟨(-1), 0, 0⟩ : V3), t1.d7⟩ : Pln), (⟨(⟨0, 1, 0⟩ : V3), t1.d8⟩ : Pln), (⟨(⟨0, (-1), 0⟩ : V3), t1.d9⟩ : Pln), (⟨(⟨0, 0, 1⟩ : V3), t1.e7⟩ : Pln), (⟨(⟨0, 0, (-1)⟩ : V3), t1.e8⟩ : Pln)] [(⟨(⟨(-1), (-1), 0⟩ : V3), (-1)⟩ : Pln)]); let t15 := (Z5 [(⟨(⟨1, 0, 0⟩ : V3), t1.c7⟩ : Pln), (⟨(⟨(-1), 0, 0⟩ : V3), t1.d7⟩ : Pln), (⟨(⟨0, 1, 0⟩ : V3), t1.d8⟩ : Pln), (⟨(⟨0, (-1), 0⟩ : V3), t1.d9⟩ : Pln), (⟨(⟨0, 0, 1⟩ : V3), t1.e7⟩ : Pln), (⟨(⟨0, 0, (-1)⟩ : V3), t1.e8⟩ : Pln)] [(⟨(⟨1, 1, 1⟩ : V3), 3⟩ : Pln)]); let t16 := (Z5 [(⟨(⟨1, 0, 0⟩ : V3), t1.c7⟩ : Pln), (⟨(⟨(-1), 0, 0⟩ : V3), t1.d7⟩ : Pln), (⟨(⟨0, 1, 0⟩ : V3), t1.d8⟩ : Pln), (⟨(⟨0, (-1), 0⟩ : V3), t1.d9⟩ : Pln), (⟨(⟨0, 0, 1⟩ : V3), t1.e7⟩ : Pln), (⟨(⟨0, 0, (-1)⟩ : V3), t1.e8⟩ : Pln)] [(⟨(⟨1, 1, 1⟩ : V3), 2⟩ : Pln)]); let t17 := (qa6 [(⟨(⟨0, 0, 0⟩ : V3), 0⟩ : Pln)]); (sl (N7 [(⟨(⟨1, 0, 0⟩ : V3), t1.c7⟩ : Pln), (⟨(⟨(-1), 0, 0⟩ : V3), t1.d7⟩ : Pln), (⟨(⟨0, 1, 0⟩ : V3), t1.d8⟩ : Pln), (⟨(⟨0, (-1), 0⟩ : V3), t1.d9⟩ : Pln), (⟨(⟨0, 0, 1⟩ : V3), t1.e7⟩ : Pln), (⟨(⟨0, 0, (-1)⟩ : V3), t1.e8⟩ : Pln)]) (sl (N7 [(⟨(⟨(-1), 0, 0⟩ : V3), 0⟩ : Pln), (⟨(⟨0, (-1), 0⟩ : V3), 0⟩ : Pln), (⟨(⟨0, 0, (-1)⟩ : V3), 0⟩ : Pln), (⟨(⟨2, 3, 4⟩ : V3), 1⟩ : Pln)]) (sl (okE tX t2) (sl (ca1 (rt tX t2) [(⟨1, 1, 1, 1⟩ : Pt), (⟨1, 1, 0, 1⟩ : Pt), (⟨1, 0, 1, 1⟩ : Pt), (⟨1, 0, 0, 1⟩ : Pt), (⟨0, 1, 1, 1⟩ : Pt), (⟨0, 1, 0, 1⟩ : Pt), (⟨0, 0, 1, 1⟩ : Pt), (⟨0, 0, 0, 1⟩ : Pt)]) (sl (!t4) (some ((b false), [])) (sl (okE tX t3) (sl (ca1 (rt tX t3) [(⟨0, 0, 0, 1⟩ : Pt), (⟨0, 0, 1, 4⟩ : Pt), (⟨0, 1, 0, 3⟩ : Pt), (⟨1, 0, 0, 2⟩ : Pt)]) (sl (!t5) (some ((b false), [])) (sl (ya1 ((⟨(⟨1, 0, 0⟩ : V3), t1.c7⟩ : Pln), [(⟨(⟨(-1), 0, 0⟩ : V3), t1.d7⟩ : Pln), (⟨(⟨0, 1, 0⟩ : V3), t1.d8⟩ : Pln), (⟨(⟨0, (-1), 0⟩ : V3), t1.d9⟩ : Pln), (⟨(⟨0, 0, 1⟩ : V3), t1.e7⟩ : Pln), (⟨(⟨0, 0, (-1)⟩ : V3), t1.e8⟩ : Pln), (⟨(⟨1, 0, 0⟩ : V3), t1.c7⟩ : Pln), (⟨(⟨1, 1, 1⟩ : V3), 3⟩ : Pln), (⟨(⟨1, 0, 0⟩ : V3), 7⟩ : Pln)])) (sl (okE tP t6) (sl (Ta7 (rt tP t6) [(⟨(⟨(-1), 0, 0⟩ : V3), t1.d7⟩ : Pln), (⟨(⟨0, (-1), 0⟩ : V3), t1.d9⟩ : Pln), (⟨(⟨0, 0, (-1)⟩ : V3), t1.e8⟩ : Pln), (⟨(⟨0, 0, 1⟩ : V3), t1.e7⟩ : Pln), (⟨(⟨0, 1, 0⟩ : V3), t1.d8⟩ : Pln), (⟨(⟨1, 0, 0⟩ : V3), t1.c7⟩ : Pln)]) (sl (!t7) (some ((b false), [])) (sl (da0 []) (sl (!t8) (some ((b false), [])) (sl (da0 [(⟨(⟨1, 0, 0⟩ : V3), t1.c7⟩ : Pln), (⟨(⟨(-1), 0, 0⟩ : V3), t1.d7⟩ : Pln), (⟨(⟨0, 1, 0⟩ : V3), t1.d8⟩ : Pln), (⟨(⟨0, (-1), 0⟩ : V3), t1.d9⟩ : Pln), (⟨(⟨0, 0, 1⟩ : V3), t1.e7⟩ : Pln), (⟨(⟨0, 0, (-1)⟩ : V3), t1.e8⟩ : Pln), (⟨(⟨(-1), 0, 0⟩ : V3), (-1)⟩ : Pln)]) (sl t9 (some ((b false), [])) (sl (V5 [(⟨(⟨1, 0, 0⟩ : V3), t1.c7⟩ : Pln), (⟨(⟨(-1), 0, 0⟩ : V3), t1.d7⟩ : Pln), (⟨(⟨0, 1, 0⟩ : V3), t1.d8⟩ : Pln), (⟨(⟨0, (-1), 0⟩ : V3), t1.d9⟩ : Pln), (⟨(⟨0, 0, 1⟩ : V3), t1.e7⟩ : Pln), (⟨(⟨0, 0, (-1)⟩ : V3), t1.e8⟩ : Pln)] (⟨1, 0, 0⟩ : V3)) (sl (!t10) (some ((b false), [])) (sl (V5 [(⟨(⟨1, 0, 0⟩ : V3), t1.c7⟩ : Pln), (⟨(⟨(-1), 0, 0⟩ : V3), t1.d7⟩ : Pln), (⟨(⟨0, 1, 0⟩ : V3), t1.d8⟩ : Pln), (⟨(⟨0, (-1), 0⟩ : V3), t1.d9⟩ : Pln), (⟨(⟨0, 0, 1⟩ : V3), t1.e7⟩ : Pln), (⟨(⟨0, 0, (-1)⟩ : V3), t1.e8⟩ : Pln)] (⟨2, 0, 0⟩ : V3)) (sl t11 (some ((b false), [])) (sl (ra5 [(⟨(⟨(-1), 0, 0⟩ : V3), 0⟩ : Pln), (⟨(⟨0, (-1), 0⟩ : V3), 0⟩ : Pln), (⟨(⟨0, 0, (-1)⟩ : V3), 0⟩ : Pln), (⟨(⟨2, 3, 4⟩ : V3), 1⟩ : Pln)]) (sl (!((t12.1.x == 0) && ((t12.1.y == 0) && ((t12.1.z == 0) && true)))) (some ((b false), [])) (sl (!((t12.2.1.x == 1) && ((t12.2.1.y == 1) && ((t12.2.1.z == 1) && true)))) (some ((b false), [])) (sl (!t12.2.2) (some ((b false), [])) (sl (E0 [(⟨(⟨1, 0, 0⟩ : V3), t1.c7⟩ : Pln), (⟨(⟨(-1), 0, 0⟩ : V3), t1.d7⟩ : Pln), (⟨(⟨0, 1, 0⟩ : V3), t1.d8⟩ : Pln), (⟨(⟨0, (-1), 0⟩ : V3), t1.d9⟩ : Pln), (⟨(⟨0, 0, 1⟩ : V3), t1.e7⟩ : Pln), (⟨(⟨0, 0, (-1)⟩ : V3), t1.e8⟩ : Pln)] [(⟨(⟨(-1), 0, 0⟩ : V3), (-1)⟩ : Pln)]) (sl t13 (sl (E0 [(⟨(⟨1, 0, 0⟩ : V3), t1.c7⟩ : Pln), (⟨(⟨(-1), 0, 0⟩ : V3), t1.d7⟩ : Pln), (⟨(⟨0, 1, 0⟩ : V3), t1.d8⟩ : Pln), (⟨(⟨0, (-1), 0⟩ : V3), t1.d9⟩ : Pln), (⟨(⟨0, 0, 1⟩ : V3), t1.e7⟩ : Pln), (⟨(⟨0, 0, (-1)⟩ : V3), t1.e8⟩ : Pln)] [(⟨(⟨(-1), (-1), 0⟩ : V3), (-1)⟩ : Pln)]) (sl (!t14) (sl (z5 [(⟨(⟨1, 0, 0⟩ : V3), t1.c7⟩ : Pln), (⟨(⟨(-1), 0, 0⟩ : V3), t1.d7⟩ : Pln), (⟨(⟨0, 1, 0⟩ : V3), t1.d8⟩ : Pln), (⟨(⟨0, (-1), 0⟩ : V3), t1.d9⟩ : Pln), (⟨(⟨0, 0, 1⟩ : V3), t1.e7⟩ : Pln), (⟨(⟨0, 0, (-1)⟩ : V3), t1.e8⟩ : Pln)] [(⟨(⟨1, 1, 1⟩ : V3), 3⟩ : Pln)]) (sl t15 (sl (z5 [(⟨(⟨1, 0, 0⟩ : V3), t1.c7⟩ : Pln), (⟨(⟨(-1), 0, 0⟩ : V3), t1.d7⟩ : Pln), (⟨(⟨0, 1, 0⟩ : V3), t1.d8⟩ : Pln), (⟨(⟨0, (-1), 0⟩ : V3), t1.d9⟩ : Pln), (⟨(⟨0, 0, 1⟩ : V3), t1.e7⟩ : Pln), (⟨(⟨0, 0, (-1)⟩ : V3), t1.e8⟩ : Pln)] [(⟨(⟨1, 1, 1⟩ : V3), 2⟩ : Pln)]) (sl (!t16) (sl (qa7 [(⟨(⟨0, 0, 0⟩ : V3), 0⟩ : Pln)]) (some ((b (t17 == 12)), [])) none) (some ((b false), []))) none) (some ((b false), []))) none) (some ((b false), []))) none) (some ((b false), []))) none)))) none)) none)) none)) none)) none)) none) none) none)) none) none)) none) none) none) none)
noncomputable def sa1  : Bool := la0 (one r1B) ia6
noncomputable def sa2  : Bool := okO (one r1B) ia6
noncomputable def cb6 : Sum := gc9  (.guard sa2 (.ret ((one r1B).enc sa1, [])))
theorem Cb5 : j6 prog G 5 cb6 := pd9 (bd b5 yb0) (one r1B) (o := ia6) (I7 (by kernel_rfl))
end Go.Ev.Ce
end
namespace Go.Ev.Ce
open Go Go.Ev Go.Ev.L Go.Proofs
noncomputable def onc (X : List Pt) (p : Pln) : Nat := X.countP fun x => rm p x == 0
noncomputable def keep (X : List Pt) (p : Pln) : Bool := !decide ((onc X p : Int) < 3)
theorem Nb1 (p : Pln) (X : List Pt) (hX : X.length ≤ 1000000000) : Z0 ⟨p.n.x, p.n.y, p.n.z, p.b, X⟩ = ⟨1, !keep X p, X⟩ := by
 have h := Db8 (step := ca2 ⟨X, (X.length : Int), X, p.n.x, p.n.y, p.n.z, p.b⟩) (mk := fun j (n : Nat) => (⟨(n : Int), (j : Int)⟩ : I0)) (f := fun n x => if rm p x == 0 then n + 1 else n) (fin := 1) tX X (fun j n => n ≤ j) hX
  (fun j n hj hi => by
   have hW : W ((n : Int) + 1) = ((n + 1 : Nat) : Int) := by rw [Ca1 (by omega) (by omega)]; omega
   refine ⟨?_, by show (if rm p (gL tX X j) == 0 then n + 1 else n) ≤ j + 1; split <;> omega⟩
   simp only [ca2, Y2, Int.toNat_natCast, ac9, hW, M5 hj (show X.length ≤ 4611686018427387904 by omega)]
   rw [btD (N8 hj), bt (q8 hj)]
   cases rm p (gL tX X j) == 0 <;> rfl)
  (fun n _ => by simp only [ca2, Y2]; rw [bfD (ra6 (Nat.lt_irrefl _))]) 0 (Nat.zero_le _) 0 (Nat.le_refl _)
 have h := h.1
 have e : ∀ (l : List Pt) (n : Nat), l.foldl (fun n x => if rm p x == 0 then n + 1 else n) n = n + l.countP fun x => rm p x == 0 := by
  intro l
  induction l with
  | nil => intro n; rfl
  | cons x l ih =>
   intro n
   rw [List.foldl_cons, ih, List.countP_cons]
   split <;> omega
 rw [List.drop_zero, e, Nat.zero_add] at h
 unfold Z0 fa4 keep onc
 simp only [F9, J7]
 rw [show (⟨0, 0⟩ : I0) = ⟨((0 : Nat) : Int), ((0 : Nat) : Int)⟩ from rfl, h]
 show fa3.mk 1 (decide _) X = fa3.mk 1 (!(!(decide _))) X
 rw [Bool.not_not]
theorem Yc7 (l : List Pln) (X : List Pt) (hl : l.length ≤ 1000000000) (hX : X.length ≤ 1000000000) : L4 ⟨l.length, bL tP l, X⟩ = ⟨1, if l.any (fun p => !keep X p) then ((l.findIdx (fun p => !keep X p) : Nat) : Int) else -1, X⟩ := by
 have h := Ra7 (step := C7 ⟨l.length, (l.length : Int), bL tP l⟩) (mk := fun j => (⟨(j : Int), X⟩ : l6)) (c := fun p => !keep X p) (u := 1) (fin := 2) tP l hl
  (fun j hj => by
   simp only [C7, A2, Int.toNat_natCast, F9, J7, Eb3 hj, sb1 hj, Nb1 _ _ hX, M5 hj (show l.length ≤ 4611686018427387904 by omega)]
   rw [btD (N8 hj), bt (q8 hj)]
   rfl)
  (by simp only [C7, A2]; rw [bfD (ra6 (Nat.lt_irrefl _))]) 0 (Nat.zero_le _)
 rw [List.drop_zero] at h
 unfold L4 A9
 simp only [F9, J7]
 rw [show (⟨0, X⟩ : l6) = ⟨((0 : Nat) : Int), X⟩ from rfl, h]
 cases ha : l.any fun p => !keep X p with
 | false => rfl
 | true =>
  have hf : l.findIdx (fun p => !keep X p) < l.length := by
   rw [List.any_eq_true] at ha
   obtain ⟨p, hp, hc⟩ := ha
   exact List.findIdx_lt_length_of_exists ⟨p, hp, hc⟩
  simp only [if_true, Nat.zero_add, Int.toNat_natCast, sb1 hf, Nb1 _ _ hX, F9]
  rfl
theorem sb8 {α : Type} (c : α → Bool) : ∀ l : List α, (l.take (l.findIdx c)).filter (fun x => !c x) = l.take (l.findIdx c)
 | [] => rfl
 | x :: l => by
  rw [List.findIdx_cons]
  cases h : c x with
  | true => rfl
  | false =>
   simp only [cond_false, List.take_succ_cons, List.filter_cons, h, Bool.not_false, if_true]
   rw [sb8 c l]
theorem uc3 {α : Type} (l : List α) (j : Nat) (h : j < l.length) : l.take (j + 1) = l.take j ++ [l[j]] := by rw [List.take_succ_eq_append_getElem h]
theorem cc8 {α : Type} (t : Ty α) {l : List α} {j : Nat} (h : j < l.length) : l.take (j + 1) = l.take j ++ [gL t l j] := by rw [uc3 l j h, pb5 t h]
theorem yb1 {α : Type} (t : Ty α) {l r : List α} {j : Nat} (h : l.drop j = r.drop j) : gL t l j = gL t r j := by
 have h1 := Eb2 t l j 0
 have h2 := Eb2 t r j 0
 rw [Nat.add_zero] at h1 h2
 rw [← h1, ← h2, h]
theorem sb9 {α : Type} {l r : List α} {j : Nat} (h : l.drop j = r.drop j) (k : Nat) : l.drop (j + k) = r.drop (j + k) := by rw [← List.drop_drop, ← List.drop_drop, h]
structure Del (l : List Pln) (f : Pln → Bool) (cur : List Pln) (m j : Nat) : Prop where
 len : cur.length = l.length
 t : cur.take m = (l.take j).filter f
 d : cur.drop j = l.drop j
 le : m ≤ j
 lm : m ≤ l.length
theorem nc3 (l : List Pln) (X : List Pt) (hl : l.length ≤ 1000000000) (hX : X.length ≤ 1000000000) (m j : Nat) (cur : List Pln) (hd : Del l (keep X) cur m j) :
  ∃ t s, lp (v8 ⟨l.length⟩) ⟨(m : Int), (j : Int), bL tP cur, X⟩ = (t, s) ∧ (t = 1 ∧ ∃ m' cur' k, s = ⟨((m' : Nat) : Int), ((k : Nat) : Int), bL tP cur', X⟩ ∧ Del l (keep X) cur' m' k ∧ l.length ≤ k) := by
 refine bc7 (step := v8 ⟨l.length⟩) (mk := fun j (x : Nat × List Pln) => (⟨(x.1 : Int), (j : Int), bL tP x.2, X⟩ : n8)) l.length (fun j x => Del l (keep X) x.2 x.1 j) (fun t s => t = 1 ∧ ∃ m' cur' k, s = ⟨((m' : Nat) : Int), ((k : Nat) : Int), bL tP cur', X⟩ ∧ Del l (keep X) cur' m' k ∧ l.length ≤ k) hl (fun j x hj hx => ?_) (fun j x hj hx => ?_) j (m, cur) hd
 ·obtain ⟨m, cur⟩ := x
  obtain ⟨h1, h2, h3, h4, h5⟩ := hx
  simp only at h1 h2 h3 h4 h5
  have hjc : j < cur.length := by omega
  have hmc : m < cur.length := by omega
  have hg : gL tP cur j = gL tP l j := yb1 tP h3
  have hWm : W ((m : Int) + 1) = ((m + 1 : Nat) : Int) := by rw [Ca1 (by omega) (by omega)]; omega
  have hb : Nat.blt m cur.length = true := by rw [Nat.blt_eq]; exact hmc
  have hrow : r7 (bL tP cur) m = tP.row (gL tP cur m) := fa0 tP hmc
  have sp : ∀ (v : Pln) (x1 x2 x3 x4 : Int), aa4 (tP.row v) 0 [i x1, i x2, i x3, i x4] = tP.row ⟨⟨x1, x2, x3⟩, x4⟩ := fun _ _ _ _ _ => rfl
  have rl : ∀ v : Pln, Nat.ble (0 + 4) (len (tP.row v)) = true := fun _ => rfl
  simp only [v8, A3, Int.toNat_natCast, F9, J7, Eb3 hjc, sb1 hjc, Nb1 _ _ hX, M5 hj (show l.length ≤ 4611686018427387904 by omega), hWm]
  rw [btD (N8 hj), bt (q8 hj)]
  simp only [Nat.zero_add, hrow, ta3, hb, sp, hc8, q8 (show m < l.length by omega), hg]
  have ht := cc8 tP hj
  have hd1 : cur.drop (j + 1) = l.drop (j + 1) := sb9 h3 1
  cases hk : keep X (gL tP l j) with
  | true =>
   refine .nx ⟨(m + 1, cur.set m (gL tP l j)), rfl, ⟨by rw [List.length_set]; exact h1, ?_, ?_, by omega, by show m + 1 ≤ l.length; omega⟩⟩
   ·show (cur.set m (gL tP l j)).take (m + 1) = _
    rw [ht, List.filter_append, List.take_succ_eq_append_getElem (by rw [List.length_set]; exact hmc), List.getElem_set_self, List.take_set_of_le (Nat.le_refl _), h2, List.filter_cons, hk, if_pos rfl, List.filter_nil]
   ·show (cur.set m (gL tP l j)).drop (j + 1) = _
    rw [List.drop_set_of_lt (by omega), hd1]
  | false =>
   refine .nx ⟨(m, cur), rfl, ⟨h1, ?_, hd1, by omega, h5⟩⟩
   show cur.take m = _
   rw [ht, List.filter_append, h2, List.filter_cons, hk, if_neg (by simp), List.filter_nil, List.append_nil]
 ·obtain ⟨m, cur⟩ := x
  refine ⟨1, ?_, rfl, m, cur, j, rfl, hx, hj⟩
  simp only [v8, A3]
  rw [bfD (by omega)]
theorem zc1 (l : List Pln) (n : Nat) : E2 (bL tP l) n = bL tP (l.take n) := by unfold bL; rw [E3, n7, n7, List.map_take]
theorem cc9 (l : List Pln) (n : Nat) : j8 (bL tP l) n = bL tP (l.drop n) := by unfold bL; rw [E4, n7, n7, List.map_drop]
theorem zc2 (n : Nat) : List.replicate n [i 0, i 0, i 0, i 0] = bL tP (List.replicate n ⟨⟨0, 0, 0⟩, 0⟩) := by unfold bL; rw [n7, List.map_replicate]; rfl
theorem Fc2 (l : List Pln) (X : List Pt) (hl : l.length ≤ 1000000000) (hX : X.length ≤ 1000000000) :
  ∃ m r, L7 ⟨l.length, bL tP l, X⟩ = ⟨1, m, bL tP r, X⟩ ∧ m ≤ r.length ∧ r.take m = l.filter (keep X) ∧ r.length = l.length := by
 unfold L7 B0
 simp only [F9, J7, Yc7 l X hl hX]
 cases ha : l.any fun p => !keep X p with
 | false =>
  refine ⟨l.length, l, rfl, Nat.le_refl _, ?_, rfl⟩
  rw [List.take_length]
  symm
  rw [List.filter_eq_self]
  intro p hp
  have := List.any_eq_false.1 ha p hp
  simpa using this
 | true =>
  have hf : l.findIdx (fun p => !keep X p) < l.length := by
   rw [List.any_eq_true] at ha
   obtain ⟨p, hp, hc⟩ := ha
   exact List.findIdx_lt_length_of_exists ⟨p, hp, hc⟩
  have hk : keep X (gL tP l (l.findIdx fun p => !keep X p)) = false := by
   have := List.findIdx_getElem (xs := l) (p := fun p => !keep X p) (w := hf)
   rw [pb5 tP hf]
   simpa using this
  have ht := sb8 (fun p => !keep X p) l
  simp only [Bool.not_not] at ht
  generalize hF : l.findIdx (fun p => !keep X p) = F at *
  have hW : W ((F : Int) + 1) = ((F + 1 : Nat) : Int) := M5 hf (by omega)
  have hne : ((F : Int) == -1) = false := by rw [beq_eq_false_iff_ne]; omega
  obtain ⟨t, s, e1, rfl, m, cur, k, e2, e3, e4⟩ := nc3 l X hl hX F (F + 1) l ⟨rfl, by rw [cc8 tP hf, List.filter_append, ht, List.filter_cons, hk, if_neg (by simp), List.filter_nil, List.append_nil], rfl, by omega, by omega⟩
  have hm : m ≤ l.length := e3.lm
  have hin : inB (m : Int) (l.length + 1) = true := q8 (by omega)
  have hfin : cur.take m = l.filter (keep X) := by rw [e3.t, List.take_of_length_le e4]
  simp only [if_true, hW, hne, e1, e2, Int.toNat_natCast, hin, Nat.zero_add, Nat.sub_zero]
  refine ⟨m, cur.take m ++ (List.replicate (l.length - m) ⟨⟨0, 0, 0⟩, 0⟩ ++ cur.drop (m + (l.length - m))), ?_, ?_, ?_, ?_⟩
  ·rw [zc1, zc2, cc9, Za9, Za9]
   rfl
  ·rw [List.length_append, List.length_append, List.length_take, List.length_replicate, e3.len]; omega
  ·rw [List.take_append_of_le_length (by rw [List.length_take, e3.len]; omega), List.take_take, Nat.min_self, hfin]
  ·rw [List.length_append, List.length_append, List.length_take, List.length_replicate, List.length_drop, e3.len]; omega
def eqP (x y : Pln) : Bool := x.n.x == y.n.x && (x.n.y == y.n.y && (x.n.z == y.n.z && (x.b == y.b && true)))
theorem zc3 (x y : Pln) : eqP x y = true ↔ x = y := by
 unfold eqP
 simp only [Bool.and_true, Bool.and_eq_true, beq_iff_eq]
 refine ⟨fun ⟨h1, h2, h3, h4⟩ => ?_, fun h => by subst h; exact ⟨rfl, rfl, rfl, rfl⟩⟩
 obtain ⟨⟨x1, x2, x3⟩, x4⟩ := x
 obtain ⟨⟨y1, y2, y3⟩, y4⟩ := y
 simp only at h1 h2 h3 h4
 subst h1 h2 h3 h4
 rfl
def ddF : Pln → List Pln → List Pln
 | _, [] => []
 | a, x :: l => if eqP x a then ddF x l else x :: ddF x l
def dd : List Pln → List Pln
 | [] => []
 | x :: l => x :: ddF x l
structure Cmp (l : List Pln) (n : Nat) (cur : List Pln) (m j : Nat) (R : List Pln) : Prop where
 len : cur.length = l.length
 t : cur.take m ++ ddF (gL tP l (j - 1)) ((l.take n).drop j) = R
 d : cur.drop (j - 1) = l.drop (j - 1)
 le : m + 1 ≤ j
theorem dc0 (l : List Pln) (n o : Nat) (hn : n ≤ l.length) (hl : l.length ≤ 1000000000) (ho : o < n) (m : Nat) (cur : List Pln) (R : List Pln) (hd : Cmp l n cur m (o + 1) R) :
  ∃ t s, lp (n5 ⟨n, 0 + o, n - o⟩) ⟨(m : Int), ((1 : Nat) : Int), bL tP cur⟩ = (t, s) ∧ (t = 1 ∧ ∃ m' cur' k, s = ⟨((m' : Nat) : Int), k, bL tP cur'⟩ ∧ cur'.length = l.length ∧ cur'.take m' = R ∧ m' ≤ n) := by
 refine bc7 (step := n5 ⟨n, 0 + o, n - o⟩) (mk := fun j (x : Nat × List Pln) => (⟨(x.1 : Int), (j : Int), bL tP x.2⟩ : l9)) (n - o) (fun j x => Cmp l n x.2 x.1 (o + j) R ∧ 1 ≤ j ∧ x.1 ≤ n) (fun t s => t = 1 ∧ ∃ m' cur' k, s = ⟨((m' : Nat) : Int), k, bL tP cur'⟩ ∧ cur'.length = l.length ∧ cur'.take m' = R ∧ m' ≤ n) (by omega) (fun j x hj hx => ?_) (fun j x hj hx => ?_) 1 (m, cur) ⟨hd, Nat.le_refl _, by have := hd.le; show m ≤ n; omega⟩
 ·obtain ⟨m, cur⟩ := x
  obtain ⟨⟨h1, h2, h3, h4⟩, hj1, hmn⟩ := hx
  simp only at h1 h2 h3 h4 hmn
  have hoj : o + j < n := by omega
  have hjc : o + j < cur.length := by omega
  have hjc' : o + (j - 1) < cur.length := by omega
  have hmc : m < cur.length := by omega
  have hg' : gL tP cur (o + (j - 1)) = gL tP l (o + j - 1) := by rw [show o + (j - 1) = o + j - 1 by omega]; exact yb1 tP h3
  have hd1 : cur.drop (o + j) = l.drop (o + j) := by have := sb9 h3 1; rw [show o + j - 1 + 1 = o + j by omega] at this; exact this
  have hg : gL tP cur (o + j) = gL tP l (o + j) := yb1 tP hd1
  have hWm : W ((m : Int) + 1) = ((m + 1 : Nat) : Int) := by rw [Ca1 (by omega) (by omega)]; omega
  have hWj : W ((j : Int) - 1) = ((j - 1 : Nat) : Int) := by rw [Ca1 (by omega) (by omega)]; omega
  have hb : Nat.blt m cur.length = true := by rw [Nat.blt_eq]; exact hmc
  have hrow : r7 (bL tP cur) m = tP.row (gL tP cur m) := fa0 tP hmc
  have sp : ∀ (v : Pln) (x1 x2 x3 x4 : Int), aa4 (tP.row v) 0 [i x1, i x2, i x3, i x4] = tP.row ⟨⟨x1, x2, x3⟩, x4⟩ := fun _ _ _ _ _ => rfl
  have rl : ∀ v : Pln, Nat.ble 4 (len (tP.row v)) = true := fun _ => rfl
  simp only [n5, E6, Int.toNat_natCast, Nat.zero_add, hWj, rc9 tP hjc, rc9 tP hjc', rc8 tP hjc, rc8 tP hjc', M5 hj (show n - o ≤ 4611686018427387904 by omega), hWm, hg, hg', hrow, ta3, hb, sp, rl, hc8, q8 (show m < n by omega)]
  rw [btD (N8 hj)]
  simp only [q8 hj, q8 (show j - 1 < n - o by omega), ma7, Bool.and_self]
  rw [show ((gL tP l (o + j)).n.x == (gL tP l (o + j - 1)).n.x && ((gL tP l (o + j)).n.y == (gL tP l (o + j - 1)).n.y && ((gL tP l (o + j)).n.z == (gL tP l (o + j - 1)).n.z && ((gL tP l (o + j)).b == (gL tP l (o + j - 1)).b && true)))) = eqP (gL tP l (o + j)) (gL tP l (o + j - 1)) from rfl]
  have hcons : (l.take n).drop (o + j) = gL tP l (o + j) :: (l.take n).drop (o + (j + 1)) := by
   rw [List.drop_eq_getElem_cons (by rw [List.length_take]; omega), List.getElem_take, pb5 tP (by omega)]
   rfl
  rw [hcons] at h2
  have hlast : o + (j + 1) - 1 = o + j := by omega
  unfold ddF at h2
  cases he : eqP (gL tP l (o + j)) (gL tP l (o + j - 1)) with
  | true =>
   rw [he] at h2
   simp only [if_true] at h2
   refine .nx ⟨(m, cur), rfl, ⟨⟨h1, ?_, ?_, by show m + 1 ≤ o + (j + 1); omega⟩, by omega, hmn⟩⟩
   ·rw [hlast]; exact h2
   ·rw [hlast]; exact hd1
  | false =>
   rw [he] at h2
   simp only [Bool.false_eq_true, if_false] at h2
   refine .nx ⟨(m + 1, cur.set m (gL tP l (o + j))), rfl, ⟨⟨by rw [List.length_set]; exact h1, ?_, ?_, by show m + 1 + 1 ≤ o + (j + 1); omega⟩, by omega, by show m + 1 ≤ n; omega⟩⟩
   ·rw [hlast]
    show (cur.set m (gL tP l (o + j))).take (m + 1) ++ _ = R
    rw [List.take_succ_eq_append_getElem (by rw [List.length_set]; exact hmc), List.getElem_set_self, List.take_set_of_le (Nat.le_refl _), List.append_assoc]
    exact h2
   ·rw [hlast]
    show (cur.set m (gL tP l (o + j))).drop (o + j) = _
    rw [List.drop_set_of_lt (by omega), hd1]
 ·obtain ⟨m, cur⟩ := x
  obtain ⟨⟨h1, h2, h3, h4⟩, hj1, hmn⟩ := hx
  simp only at h1 h2 h3 h4 hmn
  refine ⟨1, ?_, rfl, m, cur, _, rfl, h1, ?_, hmn⟩
  ·simp only [n5, E6]
   rw [bfD (by omega)]
  ·rw [List.drop_eq_nil_of_le (by rw [List.length_take]; omega)] at h2
   unfold ddF at h2
   rw [List.append_nil] at h2
   exact h2
theorem uc4 (l : List Pln) (n : Nat) (hn : n ≤ l.length) (hl : l.length ≤ 1000000000) :
  ∃ m r, T3 ⟨n, bL tP l⟩ = ⟨1, m, bL tP r⟩ ∧ m ≤ r.length ∧ r.take m = dd (l.take n) := by
 unfold T3 F4
 simp only
 by_cases h2 : (n : Int) < 2
 ·rw [btD h2]
  refine ⟨n, l, rfl, hn, ?_⟩
  have : n = 0 ∨ n = 1 := by omega
  rcases this with rfl | rfl
  ·rfl
  ·cases l with
   | nil => rfl
   | cons x l => rfl
 ·rw [bfD h2]
  have h1n : 1 ≤ n := by omega
  have hI : ∀ j, j < n → 1 ≤ j → l.take j ++ ddF (gL tP l (j - 1)) ((l.take n).drop j) = dd (l.take n) →
    (eqP (gL tP l j) (gL tP l (j - 1)) = true → Cmp l n l j (j + 1) (dd (l.take n))) ∧ (eqP (gL tP l j) (gL tP l (j - 1)) = false → l.take (j + 1) ++ ddF (gL tP l (j + 1 - 1)) ((l.take n).drop (j + 1)) = dd (l.take n)) := by
   intro j hj hj1 hR
   have hcons : (l.take n).drop j = gL tP l j :: (l.take n).drop (j + 1) := by
    rw [List.drop_eq_getElem_cons (by rw [List.length_take]; omega), List.getElem_take, pb5 tP (by omega)]
   rw [hcons] at hR
   unfold ddF at hR
   constructor
   ·intro he
    rw [he] at hR
    simp only [if_true] at hR
    exact ⟨rfl, hR, rfl, Nat.le_refl _⟩
   ·intro he
    rw [he] at hR
    simp only [Bool.false_eq_true, if_false] at hR
    rw [cc8 tP (show j < l.length by omega), List.append_assoc]
    exact hR
  have inner : ∀ k, k < n → 1 ≤ k → Cmp l n l k (k + 1) (dd (l.take n)) → ∃ m' cur' k', lp (n5 ⟨n, 0 + k, n - k⟩) ⟨(k : Int), 1, bL tP l⟩ = (1, ⟨((m' : Nat) : Int), k', bL tP cur'⟩) ∧ cur'.length = l.length ∧ cur'.take m' = dd (l.take n) ∧ m' ≤ n := by
   intro k hk hk1 hc
   obtain ⟨t, s, e1, rfl, m', cur', k', rfl, e2, e3, e4⟩ := dc0 l n k hn hl hk k l _ hc
   exact ⟨m', cur', k', e1, e2, e3, e4⟩
  have key := bc7 (step := F6 ⟨n, bL tP l⟩) (mk := fun j (_ : Unit) => (⟨(j : Int)⟩ : n9)) n (fun j _ => 1 ≤ j ∧ j ≤ n ∧ l.take j ++ ddF (gL tP l (j - 1)) ((l.take n).drop j) = dd (l.take n))
   (fun t s => (t = 1 ∧ ∃ k : Nat, s = ⟨(k : Int)⟩ ∧ k < n ∧ 1 ≤ k ∧ Cmp l n l k (k + 1) (dd (l.take n))) ∨ (t = 2 ∧ l.take n = dd (l.take n))) (by omega) (fun j x hj hx => ?_) (fun j x hj hx => ?_) 1 () ⟨Nat.le_refl _, h1n, by
    cases l with
    | nil => simp only [List.length_nil] at hn; omega
    | cons x l =>
     cases n with
     | zero => omega
     | succ n => rfl⟩
  ·obtain ⟨t, s, e1, e2⟩ := key
   rw [show (⟨1⟩ : n9) = ⟨((1 : Nat) : Int)⟩ from rfl, e1]
   rcases e2 with ⟨rfl, k, rfl, hk, hk1, hc⟩ | ⟨rfl, he⟩
   ·obtain ⟨m', cur', k', e2, e3, e4, e5⟩ := inner k hk hk1 hc
    simp only [Int.toNat_natCast, e2]
    simp only [Nat.zero_add, Nat.sub_zero]
    refine ⟨m', cur'.take m' ++ (List.replicate (n - m') ⟨⟨0, 0, 0⟩, 0⟩ ++ cur'.drop (m' + (n - m'))), ?_, ?_, ?_⟩
    ·rw [zc1, zc2, cc9, Za9, Za9]
     rfl
    ·rw [List.length_append, List.length_take, e3]; omega
    ·rw [List.take_append_of_le_length (by rw [List.length_take, e3]; omega), List.take_take, Nat.min_self, e4]
   ·exact ⟨n, l, rfl, hn, he⟩
  ·obtain ⟨hj1, hjn, hR⟩ := hx
   obtain ⟨i1, i2⟩ := hI j hj hj1 hR
   have hWj : W ((j : Int) - 1) = ((j - 1 : Nat) : Int) := by rw [Ca1 (by omega) (by omega)]; omega
   have hjl : j < l.length := by omega
   have hjl' : j - 1 < l.length := by omega
   simp only [F6, E7, Int.toNat_natCast, hWj, Eb3 hjl, Eb3 hjl', sb1 hjl, sb1 hjl', M5 hj (show n ≤ 4611686018427387904 by omega)]
   rw [btD (N8 hj), bt (q8 hj), bt (q8 (show j - 1 < n by omega)), bt (q8 (show j < n + 1 by omega))]
   simp only [ma7]
   rw [show ((gL tP l j).n.x == (gL tP l (j - 1)).n.x && ((gL tP l j).n.y == (gL tP l (j - 1)).n.y && ((gL tP l j).n.z == (gL tP l (j - 1)).n.z && ((gL tP l j).b == (gL tP l (j - 1)).b && true)))) = eqP (gL tP l j) (gL tP l (j - 1)) from rfl]
   cases he : eqP (gL tP l j) (gL tP l (j - 1)) with
   | false => exact .nx ⟨(), rfl, by omega, by omega, i2 he⟩
   | true =>
    obtain ⟨m', cur', k', e2, e3, e4, e5⟩ := inner j hj hj1 (i1 he)
    rw [e2]
    simp only [q8 (show m' < n + 1 by omega)]
    exact .ex (.inl ⟨rfl, j, rfl, hj, hj1, i1 he⟩)
  ·obtain ⟨hj1, hjn, hR⟩ := hx
   refine ⟨2, ?_, .inr ⟨rfl, ?_⟩⟩
   ·simp only [F6, E7]
    rw [bfD (by omega)]
   ·have : j = n := by omega
    subst this
    rw [List.drop_eq_nil_of_le (by rw [List.length_take]; omega)] at hR
    unfold ddF at hR
    rw [List.append_nil] at hR
    exact hR
theorem Pc1 (l : List Pln) (n : Nat) (hn : n ≤ l.length) : slR tP (bL tP l) 0 n = l.take n := Ib5 tP (by rw [List.length_take]; omega) fun k hk => by
 rw [Nat.zero_add, fa0 tP (by omega)]
 congr 1
 simp [gL, List.getD_eq_getElem?_getD, List.getElem?_take, hk]
theorem Pc2 (l : List Pln) (n : Nat) (hn : n ≤ l.length) : okS tP (bL tP l) 0 n = true := vb3 tP (f := fun k => gL tP l k) fun k hk => by rw [Nat.zero_add, fa0 tP (by omega)]
noncomputable def lean (c : List Pln) : List Pln := if ful c then dd (Va6 (c.filter (keep (pts c)))) else []
theorem zc4 (p : Pln) (c : List Pln) (hc : c.length ≤ 1000000) : Rd (one (r1L tP)) (xa9 (p, c)) (fun r => r = lean (p :: c)) := by
 have hl : (p :: c).length ≤ 1000000000 := by simp only [List.length_cons]; omega
 have hX := bc6 (p :: c)
 unfold xa9 lean
 simp only [F9, ka9, J7, ld5, ld6, Mb1 hl, Mb2 hl, Pa5 hl, Pa6 hl]
 cases hf : ful (p :: c) with
 | false => exact ⟨_, [], rfl, rfl, rfl⟩
 | true =>
  have ec : o3 (fun k => tP.row (gL tP (p :: c) k)) (List.range (c.length + 1)) = bL tP (p :: c) := hc7 tP (p :: c)
  have hcl : Y4 (p, c) = ⟨1, (p :: c).length, bL tP (p :: c)⟩ := by
   unfold Y4 J0
   simp only [ec, ta3]
   have z : Nat.beq (p :: c).length 0 = false := rfl
   have r : Nat.ble ((0 + (p :: c).length) * 32) room = true := Db7 (by simp only [List.length_cons]; omega)
   rw [z, r, Nat.zero_add]
   rfl
  obtain ⟨m, r, e1, e2, e3, e4⟩ := Fc2 (p :: c) (pts (p :: c)) hl (by omega)
  have hm : m ≤ (p :: c).length := by
   have h1 := congrArg List.length e3
   have h2 := List.length_filter_le (keep (pts (p :: c))) (p :: c)
   rw [List.length_take] at h1
   omega
  have hs : (Va6 (r.take m)).length = m := by rw [Vb7, List.length_take]; omega
  have hrows : app (bL tP (Va6 (r.take m))) (j8 (bL tP r) m) = bL tP (Va6 (r.take m) ++ r.drop m) := by rw [cc9, Za9]
  have hok : okL tP (c.length + 1) (fun k => tP.row (gL tP (p :: c) k)) = true := vb3 tP (f := fun k => gL tP (p :: c) k) fun _ _ => rfl
  simp only [hcl, e1, Pc1 r m e2, Pc2 r m e2, hrows, hok]
  obtain ⟨m2, r2, k1, k2, k3⟩ := uc4 (Va6 (r.take m) ++ r.drop m) m (by rw [List.length_append, hs]; omega) (by rw [List.length_append, hs, List.length_drop, e4]; omega)
  rw [k1, ta3]
  have q1 : Nat.ble m room = true := by rw [Nat.ble_eq]; unfold room; simp only [List.length_cons] at hm; omega
  have q2 : Nat.ble m r.length = true := by rw [Nat.ble_eq]; exact e2
  rw [q1, q2]
  have hfin : r2.take m2 = dd (Va6 ((p :: c).filter (keep (pts (p :: c))))) := by
   rw [k3, List.take_append_of_le_length (by rw [hs]; omega), List.take_of_length_le (by rw [hs]; omega), e3]
  exact id1 k2 rfl hfin
theorem Pc3 (p : Pln) (c : List Pln) (hc : c.length ≤ 1000000) : ya0 (p, c) = lean (p :: c) := (zc4 p c hc).p
theorem Pc4 (p : Pln) (c : List Pln) (hc : c.length ≤ 1000000) : ya1 (p, c) = true := (zc4 p c hc).g
end Go.Ev.Ce
namespace Go.Ev.Ce
open Go Go.Ev Go.Ev.L Go.Proofs Go.Sort
theorem mb2 (l : List Pln) : List.Perm (Va6 l) l := List.mergeSort_perm l _
theorem Fc3 (x y z : Pln) (h1 : (!ltOf Ja7 y x) = true) (h2 : (!ltOf Ja7 z y) = true) : (!ltOf Ja7 z x) = true := by
 simp only [Bool.not_eq_true', Da8, decide_eq_false_iff_not] at *
 unfold LtP at *
 omega
theorem Fc4 (x y : Pln) : ((!ltOf Ja7 y x) || !ltOf Ja7 x y) = true := by
 simp only [Bool.or_eq_true, Bool.not_eq_true', Da8, decide_eq_false_iff_not]
 unfold LtP
 omega
theorem dc1 (l : List Pln) : (Va6 l).Pairwise fun x y => (!ltOf Ja7 y x) = true := List.pairwise_mergeSort Fc3 Fc4 l
theorem dc2 {l r : List Pln} (hp : List.Perm r l) (hs : r.Pairwise fun x y => (!ltOf Ja7 y x) = true) : Va6 l = r :=
 List.Perm.eq_of_pairwise (fun x y _ _ h1 h2 => od0 x y (by simpa using h2) (by simpa using h1)) (dc1 l) hs ((mb2 l).trans hp.symm)
instance : DecidableEq Pln := fun x y => decidable_of_iff _ (zc3 x y)
def U6 : List Pln := [⟨⟨1, 0, 0⟩, 1⟩, ⟨⟨-1, 0, 0⟩, 0⟩, ⟨⟨0, 1, 0⟩, 1⟩, ⟨⟨0, -1, 0⟩, 0⟩, ⟨⟨0, 0, 1⟩, 1⟩, ⟨⟨0, 0, -1⟩, 0⟩]
def U8 : List Pln := [⟨⟨-1, 0, 0⟩, 0⟩, ⟨⟨0, 1, 0⟩, 1⟩, ⟨⟨0, -1, 0⟩, 0⟩, ⟨⟨0, 0, 1⟩, 1⟩, ⟨⟨0, 0, -1⟩, 0⟩, ⟨⟨1, 0, 0⟩, 1⟩, ⟨⟨1, 1, 1⟩, 3⟩, ⟨⟨1, 0, 0⟩, 7⟩]
def C4 : List Pln := [⟨⟨-1, 0, 0⟩, 0⟩, ⟨⟨0, -1, 0⟩, 0⟩, ⟨⟨0, 0, -1⟩, 0⟩, ⟨⟨2, 3, 4⟩, 1⟩]
def U7 : List Pln := [⟨⟨1, 0, 0⟩, 1⟩, ⟨⟨-1, 0, 0⟩, 0⟩, ⟨⟨0, 1, 0⟩, 1⟩, ⟨⟨0, -1, 0⟩, 0⟩, ⟨⟨0, 0, 1⟩, 1⟩, ⟨⟨0, 0, -1⟩, 0⟩, ⟨⟨-1, 0, 0⟩, -1⟩]
def LU : List Pln := [⟨⟨-1, 0, 0⟩, 0⟩, ⟨⟨0, -1, 0⟩, 0⟩, ⟨⟨0, 0, -1⟩, 0⟩, ⟨⟨0, 0, 1⟩, 1⟩, ⟨⟨0, 1, 0⟩, 1⟩, ⟨⟨1, 0, 0⟩, 1⟩]
def PU : List Pt := [⟨1, 1, 1, 1⟩, ⟨1, 1, 0, 1⟩, ⟨1, 0, 1, 1⟩, ⟨1, 0, 0, 1⟩, ⟨0, 1, 1, 1⟩, ⟨0, 1, 0, 1⟩, ⟨0, 0, 1, 1⟩, ⟨0, 0, 0, 1⟩]
def PC : List Pt := [⟨0, 0, 0, 1⟩, ⟨0, 0, 1, 4⟩, ⟨0, 1, 0, 3⟩, ⟨1, 0, 0, 2⟩]
theorem id3 : pts U6 = PU := by kernel_rfl
theorem id4 : pts C4 = PC := by kernel_rfl
theorem id5 : ful [] = true := by kernel_rfl
theorem id6 : ful U7 = false := by kernel_rfl
theorem id7 : has U6 ⟨1, 0, 0⟩ = true := by kernel_rfl
theorem id8 : has U6 ⟨2, 0, 0⟩ = false := by kernel_rfl
theorem od4 : bnd C4 = (⟨0, 0, 0⟩, ⟨1, 1, 1⟩, true) := by kernel_rfl
theorem od5 : apart U6 [⟨⟨-1, 0, 0⟩, -1⟩] = true := by kernel_rfl
theorem od6 : apart U6 [⟨⟨-1, -1, 0⟩, -1⟩] = false := by kernel_rfl
theorem od7 : cc5 U6 [⟨⟨1, 1, 1⟩, 3⟩] = true := by kernel_rfl
theorem od8 : cc5 U6 [⟨⟨1, 1, 1⟩, 2⟩] = false := by kernel_rfl
theorem od9 : chk [⟨⟨0, 0, 0⟩, 0⟩] = 12 := by kernel_rfl
theorem pd0 : (⟨⟨1, 0, 0⟩, 1⟩ :: U8).filter (keep (pts (⟨⟨1, 0, 0⟩, 1⟩ :: U8))) = [⟨⟨1, 0, 0⟩, 1⟩, ⟨⟨-1, 0, 0⟩, 0⟩, ⟨⟨0, 1, 0⟩, 1⟩, ⟨⟨0, -1, 0⟩, 0⟩, ⟨⟨0, 0, 1⟩, 1⟩, ⟨⟨0, 0, -1⟩, 0⟩, ⟨⟨1, 0, 0⟩, 1⟩] := by kernel_rfl
theorem id9 : ful (⟨⟨1, 0, 0⟩, 1⟩ :: U8) = true := by kernel_rfl
theorem jd0 : lean (⟨⟨1, 0, 0⟩, 1⟩ :: U8) = LU := by
 unfold lean
 rw [id9, if_pos rfl, pd0, dc2 (r := [⟨⟨-1, 0, 0⟩, 0⟩, ⟨⟨0, -1, 0⟩, 0⟩, ⟨⟨0, 0, -1⟩, 0⟩, ⟨⟨0, 0, 1⟩, 1⟩, ⟨⟨0, 1, 0⟩, 1⟩, ⟨⟨1, 0, 0⟩, 1⟩, ⟨⟨1, 0, 0⟩, 1⟩])]
 ·rfl
 ·exact List.isPerm_iff.1 (by kernel_rfl)
 ·exact of_decide_eq_true (by kernel_rfl)
theorem Yc8 : Ua3 = ⟨1, 0, 1, 0, 1, 0⟩ := by kernel_rfl
theorem Vb9 : ia6 = some (b true, []) := by
 have le : ∀ {c : List Pln}, c.length ≤ 100 → c.length ≤ 1000000000 := fun h => by omega
 have le' : ∀ {c : List Pln}, c.length ≤ 100 → c.length ≤ 100000000 := fun h => by omega
 have u : U6.length ≤ 100 := by decide
 have u7 : U7.length ≤ 100 := by decide
 have u8 : U8.length ≤ 1000000 := by decide
 have c4 : C4.length ≤ 100 := by decide
 have n0 : ([] : List Pln).length ≤ 100 := by decide
 have o1 : ∀ p : Pln, [p].length ≤ 100 := fun _ => (by decide : 1 ≤ 100)
 unfold ia6
 rw [Yc8]
 simp only [F9, ka9]
 rw [show ([⟨⟨1, 0, 0⟩, 1⟩, ⟨⟨-1, 0, 0⟩, 0⟩, ⟨⟨0, 1, 0⟩, 1⟩, ⟨⟨0, -1, 0⟩, 0⟩, ⟨⟨0, 0, 1⟩, 1⟩, ⟨⟨0, 0, -1⟩, 0⟩, ⟨⟨-1, 0, 0⟩, -1⟩] : List Pln) = U7 from rfl,
  show ([⟨⟨-1, 0, 0⟩, 0⟩, ⟨⟨0, 1, 0⟩, 1⟩, ⟨⟨0, -1, 0⟩, 0⟩, ⟨⟨0, 0, 1⟩, 1⟩, ⟨⟨0, 0, -1⟩, 0⟩, ⟨⟨1, 0, 0⟩, 1⟩, ⟨⟨1, 1, 1⟩, 3⟩, ⟨⟨1, 0, 0⟩, 7⟩] : List Pln) = U8 from rfl,
  show ([⟨⟨1, 0, 0⟩, 1⟩, ⟨⟨-1, 0, 0⟩, 0⟩, ⟨⟨0, 1, 0⟩, 1⟩, ⟨⟨0, -1, 0⟩, 0⟩, ⟨⟨0, 0, 1⟩, 1⟩, ⟨⟨0, 0, -1⟩, 0⟩] : List Pln) = U6 from rfl,
  show ([⟨⟨-1, 0, 0⟩, 0⟩, ⟨⟨0, -1, 0⟩, 0⟩, ⟨⟨0, 0, -1⟩, 0⟩, ⟨⟨2, 3, 4⟩, 1⟩] : List Pln) = C4 from rfl,
  show ([⟨⟨-1, 0, 0⟩, 0⟩, ⟨⟨0, -1, 0⟩, 0⟩, ⟨⟨0, 0, -1⟩, 0⟩, ⟨⟨0, 0, 1⟩, 1⟩, ⟨⟨0, 1, 0⟩, 1⟩, ⟨⟨1, 0, 0⟩, 1⟩] : List Pln) = LU from rfl]
 simp only [Pa5 (le u), Pa6 (le u), Pa5 (le c4), Pa6 (le c4), id3, id4, Pc3 _ U8 u8, Pc4 _ U8 u8, jd0, Mb1 (le n0), Mb2 (le n0), id5, Mb1 (le u7), Mb2 (le u7), id6,
  cd1 (le u), cd2 (le u), id7, id8, yc6 (le c4), yc7 (le c4), od4, yc9 (le' u) (le' (o1 _)), zc0 (le' u) (le' (o1 _)), od5, od6, nc0 (le u) (le (o1 _)), nc1 (le u) (le (o1 _)), od7, od8,
  xc9 _ (le (o1 _)), yc0 _ (le (o1 _)), od9]
 rw [show ([⟨1, 1, 1, 1⟩, ⟨1, 1, 0, 1⟩, ⟨1, 0, 1, 1⟩, ⟨1, 0, 0, 1⟩, ⟨0, 1, 1, 1⟩, ⟨0, 1, 0, 1⟩, ⟨0, 0, 1, 1⟩, ⟨0, 0, 0, 1⟩] : List Pt) = PU from rfl,
  show ([⟨0, 0, 0, 1⟩, ⟨0, 0, 1, 4⟩, ⟨0, 1, 0, 3⟩, ⟨1, 0, 0, 2⟩] : List Pt) = PC from rfl]
 simp only [rb9 PU (by decide), sb0 PU (by decide), rb9 PC (by decide), sb0 PC (by decide), hd8 LU (by decide), hd9 LU (by decide)]
 rfl
theorem Pc5 : sa1 = true := by unfold sa1; rw [Vb9]; rfl
theorem Pc6 : sa2 = true := by unfold sa2; rw [Vb9]; rfl
end Go.Ev.Ce
