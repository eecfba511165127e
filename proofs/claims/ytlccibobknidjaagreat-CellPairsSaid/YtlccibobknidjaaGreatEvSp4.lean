/- Own work: a part of the proof. -/
import Derived.Test.YtlccibobknidjaaGreatEvLt
import Derived.Test.YtlccibobknidjaaGreatEvDraw5
import Derived.CallsIn
import Derived.RangeFuncIn
import Derived.RangeFuncRecord
import Derived.RangeFuncLeaves
import Derived.ControlIn
import Derived.LoopNIn
import Derived.TacticsIn
set_option linter.unusedVariables false
set_option linter.unusedSimpArgs false
set_option linter.unnecessarySimpa false
set_option linter.unusedSectionVars false
namespace Go.Ev.L
open Go Go.Ev
theorem Bd8 (n : Int) : W n = (n + 9223372036854775808) % 18446744073709551616 - 9223372036854775808 := IntKind.wrap_i64 n
theorem Ca0 {n : Int} (h1 : -9223372036854775808 ≤ n) (h2 : n ≤ 9223372036854775807) : W n = n := by rw [Bd8]; omega
theorem ud9 (n : Int) : ∃ k, W n = n + 18446744073709551616 * k := ⟨-((n + 9223372036854775808) / 18446744073709551616), by rw [Bd8]; omega⟩
theorem Fb2 (n k : Int) : W (n + 18446744073709551616 * k) = W n := by rw [Bd8, Bd8]; omega
theorem jb0 (a b : Int) : W (W a + b) = W (a + b) := by
 obtain ⟨k, hk⟩ := ud9 a
 rw [hk, show a + 18446744073709551616 * k + b = a + b + 18446744073709551616 * k by omega, Fb2]
theorem Mb3 (a b : Int) : W (a + W b) = W (a + b) := by rw [Int.add_comm, jb0, Int.add_comm]
theorem sc7 (a b : Int) : W (W a - b) = W (a - b) := by
 obtain ⟨k, hk⟩ := ud9 a
 rw [hk, show a + 18446744073709551616 * k - b = a - b + 18446744073709551616 * k by omega, Fb2]
theorem Rc1 (a b : Int) : W (a - W b) = W (a - b) := by
 obtain ⟨k, hk⟩ := ud9 b
 rw [hk, show a - (b + 18446744073709551616 * k) = a - b + 18446744073709551616 * (-k) by omega, Fb2]
theorem pd0 (a b : Int) : W (W a * b) = W (a * b) := by
 obtain ⟨k, hk⟩ := ud9 a
 rw [hk, show (a + 18446744073709551616 * k) * b = a * b + 18446744073709551616 * (k * b) by grind, Fb2]
theorem Id3 (a b : Int) : W (a * W b) = W (a * b) := by rw [Int.mul_comm, pd0, Int.mul_comm]
theorem p6 {j n : Nat} (h : j < n) (hn : n ≤ 4611686018427387904) : W ((j : Int) + 1) = ((j + 1 : Nat) : Int) := by
 rw [Ca0 (by omega) (by omega)]; omega
theorem zb3 {j n : Nat} (h : j < n) : decide ((j : Int) < (n : Int)) = true := decide_eq_true (by omega)
theorem qb1 {j n : Nat} (h : ¬ j < n) : decide ((j : Int) < (n : Int)) = false := decide_eq_false (by omega)
theorem f9 {j n : Nat} (h : j < n) : inB (j : Int) n = true := by
 show Nat.blt j n = true
 rw [Nat.blt_eq]; exact h
theorem oc0 (m : Int) (n : Nat) : inB m n = decide (0 ≤ m ∧ m < n) := by
 unfold inB
 cases m with
 | ofNat k =>
  rw [Bool.eq_iff_iff, decide_eq_true_eq]
  show Nat.blt k n = true ↔ _
  rw [Nat.blt_eq]
  constructor
  ·intro h; exact ⟨Int.natCast_nonneg k, Int.ofNat_lt.2 h⟩
  ·intro h; exact Int.ofNat_lt.1 h.2
 | negSucc k => exact (decide_eq_false (fun h => by omega)).symm
theorem bt {c : Bool} (h : c = true) {α : Type} (t e : α) : sl c t e = t := by rw [h]; rfl
theorem bf {c : Bool} (h : c = false) {α : Type} (t e : α) : sl c t e = e := by rw [h]; rfl
theorem ba6 {n : Nat} (h : n ≤ 1000000000000) : Nat.ble (n * 32) room = true := by
 rw [Nat.ble_eq]; unfold room; omega
theorem Id4 {σ : Type} {step : σ → Stp σ} {I : Nat → σ → Prop} {Q : Nat → σ → Prop} (h : ∀ m s, I m s → (∃ t, step s = .exit t ∧ Q t s) ∨ ∃ s' m', m = m' + 1 ∧ step s = .next s' ∧ I m' s') :
  ∀ (m n : Nat) (s : σ), m ≤ n → I m s → Q (lp0 step n s).1 (lp0 step n s).2
 | m, n, s, hn, hi => by
  rcases h m s hi with ⟨t, h1, h2⟩ | ⟨s', m', rfl, h1, h2⟩
  ·rw [bd3 h1]
   exact h2
  ·cases n with
   | zero => omega
   | succ n =>
    rw [bd2 h1]
    exact Id4 h m' n s' (by omega) h2
theorem zb4 {σ : Type} {step : σ → Stp σ} {I : Nat → σ → Prop} {Q : Nat → σ → Prop} (h : ∀ m s, I m s → (∃ t, step s = .exit t ∧ Q t s) ∨ ∃ s' m', m = m' + 1 ∧ step s = .next s' ∧ I m' s')
  (m : Nat) (s : σ) (hm : m ≤ 18446744073709551615) (hi : I m s) : Q (lp step s).1 (lp step s).2 := by
 rw [be1]
 exact Id4 h m rounds s (by unfold rounds; omega) hi
section
variable {σ τ α : Type} {step : σ → Stp σ}
theorem Sb3 {mk : Nat → τ → σ} {f : τ → α → τ} {fin : Nat} (t : Ty α) (l : List α) (I : Nat → τ → Prop) (hl : l.length ≤ 1000000000)
  (h : ∀ j a, j < l.length → I j a → step (mk j a) = .next (mk (j + 1) (f a (gL t l j))) ∧ I (j + 1) (f a (gL t l j)))
  (hf : ∀ a, I l.length a → step (mk l.length a) = .exit fin) (j0 : Nat) (hj : j0 ≤ l.length) (a : τ) (hi : I j0 a) :
  lp step (mk j0 a) = (fin, mk l.length ((l.drop j0).foldl f a)) ∧ I l.length ((l.drop j0).foldl f a) := by
 have key := zb4 (step := step) (I := fun m s => ∃ j b, m = l.length - j ∧ j ≤ l.length ∧ s = mk j b ∧ I j b ∧ (l.drop j).foldl f b = (l.drop j0).foldl f a)
  (Q := fun u s => u = fin ∧ s = mk l.length ((l.drop j0).foldl f a) ∧ I l.length ((l.drop j0).foldl f a)) (fun m s ⟨j, b, hm, hj, hs, hb, he⟩ => by
   subst hs
   by_cases hlt : j < l.length
   ·obtain ⟨h1, h2⟩ := h j b hlt hb
    refine .inr ⟨_, l.length - (j + 1), by omega, h1, j + 1, _, rfl, by omega, rfl, h2, ?_⟩
    rw [← he, List.drop_eq_getElem_cons hlt, List.foldl_cons]
    simp [gL, List.getD_eq_getElem?_getD, List.getElem?_eq_getElem hlt]
   ·have : j = l.length := by omega
    subst this
    have he : b = (l.drop j0).foldl f a := by rw [← he]; simp
    subst he
    exact .inl ⟨fin, hf _ hb, rfl, rfl, hb⟩) (l.length - j0) (mk j0 a) (by omega) ⟨j0, a, rfl, hj, rfl, hi, rfl⟩
 exact ⟨by rw [← key.2.1, ← key.1], key.2.2⟩
theorem Za3 {mk : Nat → σ} {c : α → Bool} {u fin : Nat} (t : Ty α) (l : List α) (hl : l.length ≤ 1000000000)
  (h : ∀ j, j < l.length → step (mk j) = sl (c (gL t l j)) (.exit u) (.next (mk (j + 1)))) (hf : step (mk l.length) = .exit fin) (j0 : Nat) (hj : j0 ≤ l.length) :
  (lp step (mk j0)).1 = if (l.drop j0).any c then u else fin :=
 zb4 (step := step) (I := fun m s => ∃ j, m = l.length - j ∧ j ≤ l.length ∧ s = mk j ∧ (l.drop j).any c = (l.drop j0).any c)
  (Q := fun v _ => v = if (l.drop j0).any c then u else fin) (fun m s ⟨j, hm, hj, hs, he⟩ => by
   subst hs
   by_cases hlt : j < l.length
   ·have h1 := h j hlt
    have e : gL t l j = l[j] := by simp [gL, List.getD_eq_getElem?_getD, List.getElem?_eq_getElem hlt]
    have e2 : (l.drop j).any c = (c l[j] || (l.drop (j + 1)).any c) := by rw [List.drop_eq_getElem_cons hlt, List.any_cons]
    rw [e] at h1
    cases hc : c l[j] with
    | true =>
     rw [hc] at h1
     refine .inl ⟨u, h1, ?_⟩
     rw [← he, e2, hc]; rfl
    | false =>
     rw [hc] at h1
     refine .inr ⟨_, l.length - (j + 1), by omega, h1, j + 1, rfl, by omega, rfl, ?_⟩
     rw [← he, e2, hc]; rfl
   ·have : j = l.length := by omega
    subst this
    refine .inl ⟨fin, hf, ?_⟩
    rw [← he]; simp) (l.length - j0) (mk j0) (by omega) ⟨j0, rfl, hj, rfl, rfl⟩
theorem hb6 {mk : Nat → σ} {c : α → Bool} {u fin : Nat} (t : Ty α) (l : List α) (hl : l.length ≤ 1000000000)
  (h : ∀ j, j < l.length → step (mk j) = sl (c (gL t l j)) (.exit u) (.next (mk (j + 1)))) (hf : step (mk l.length) = .exit fin) (j0 : Nat) (hj : j0 ≤ l.length) :
  lp step (mk j0) = if (l.drop j0).any c then (u, mk (j0 + (l.drop j0).findIdx c)) else (fin, mk l.length) := by
 have key := zb4 (step := step) (I := fun m s => ∃ j, m = l.length - j ∧ j ≤ l.length ∧ j0 ≤ j ∧ s = mk j ∧ (l.drop j).any c = (l.drop j0).any c ∧ j + (l.drop j).findIdx c = j0 + (l.drop j0).findIdx c)
  (Q := fun v s => (v, s) = if (l.drop j0).any c then (u, mk (j0 + (l.drop j0).findIdx c)) else (fin, mk l.length)) (fun m s ⟨j, hm, hj, hj0, hs, he, hi⟩ => by
   subst hs
   by_cases hlt : j < l.length
   ·have h1 := h j hlt
    have e : gL t l j = l[j] := by simp [gL, List.getD_eq_getElem?_getD, List.getElem?_eq_getElem hlt]
    have e2 : (l.drop j).any c = (c l[j] || (l.drop (j + 1)).any c) := by rw [List.drop_eq_getElem_cons hlt, List.any_cons]
    have e3 : (l.drop j).findIdx c = if c l[j] then 0 else (l.drop (j + 1)).findIdx c + 1 := by rw [List.drop_eq_getElem_cons hlt, List.findIdx_cons]; cases c l[j] <;> rfl
    rw [e] at h1
    cases hc : c l[j] with
    | true =>
     rw [hc] at h1
     refine .inl ⟨u, h1, ?_⟩
     rw [← he, e2, hc, ← hi, e3, hc]; rfl
    | false =>
     rw [hc] at h1
     refine .inr ⟨_, l.length - (j + 1), by omega, h1, j + 1, rfl, by omega, by omega, rfl, ?_, ?_⟩
     ·rw [← he, e2, hc]; rfl
     ·rw [← hi, e3, hc]; simp only [Bool.false_eq_true, if_false]; omega
   ·have : j = l.length := by omega
    subst this
    refine .inl ⟨fin, hf, ?_⟩
    rw [← he]; simp) (l.length - j0) (mk j0) (by omega) ⟨j0, rfl, hj, Nat.le_refl _, rfl, rfl, rfl⟩
 exact key
end
theorem sc8 {α : Type} (t : Ty α) {l : List α} {j : Nat} (h : j < l.length) : gL t l j ∈ l := by
 simp [gL, List.getD_eq_getElem?_getD, List.getElem?_eq_getElem h]
theorem Na3 {α : Type} (t : Ty α) {l : List α} {j : Nat} (h : j < l.length) : gL t l j = l[j] := by
 simp [gL, List.getD_eq_getElem?_getD, List.getElem?_eq_getElem h]
end Go.Ev.L
namespace Go.Ev.L
open Go Go.Ev
def euF : Nat → Int → Int → Int
 | 0, g, _ => g
 | k + 1, g, n => if n = 0 then g else euF k n (Int.tmod g n)
def eu (g n : Int) : Int := euF (n.natAbs + 1) g n
theorem Ka3 {g n : Int} (h : n ≠ 0) : (Int.tmod g n).natAbs < n.natAbs := by
 rw [Int.natAbs_tmod]
 exact Nat.mod_lt _ (by omega)
theorem cd1 : ∀ (k m : Nat) {g n : Int}, n.natAbs < k → n.natAbs < m → euF k g n = euF m g n
 | 0, _, _, _, h, _ => by omega
 | _ + 1, 0, _, _, _, h => by omega
 | k + 1, m + 1, g, n, h1, h2 => by
  unfold euF
  by_cases h : n = 0
  ·rw [if_pos h, if_pos h]
  ·rw [if_neg h, if_neg h]
   have := Ka3 (g := g) h
   exact cd1 k m (by omega) (by omega)
theorem Fb3 (g : Int) : eu g 0 = g := by simp [eu, euF]
theorem oc1 {g n : Int} (h : n ≠ 0) : eu g n = eu n (Int.tmod g n) := by
 have := Ka3 (g := g) h
 unfold eu
 conv => lhs; unfold euF
 rw [if_neg h]
 exact cd1 _ _ (by omega) (by omega)
theorem he3 : ∀ (k : Nat) (g n : Int), n.natAbs ≤ k → (eu g n).natAbs = Int.gcd g n := by
 intro k
 induction k with
 | zero =>
  intro g n h
  have : n = 0 := by omega
  subst this
  rw [Fb3]; simp
 | succ k ih =>
  intro g n h
  by_cases h0 : n = 0
  ·subst h0; rw [Fb3]; simp
  ·have := Ka3 (g := g) h0
   rw [oc1 h0, ih n (Int.tmod g n) (by omega)]
   unfold Int.gcd
   rw [Int.natAbs_tmod, Nat.gcd_comm g.natAbs, Nat.gcd_comm n.natAbs, ← Nat.gcd_rec]
theorem Id5 (g n : Int) : (eu g n).natAbs = Int.gcd g n := he3 _ g n (Nat.le_refl _)
theorem Bd9 : ∀ (k : Nat) (g n : Int), n.natAbs ≤ k → 0 ≤ g → 0 ≤ n → 0 ≤ eu g n := by
 intro k
 induction k with
 | zero =>
  intro g n h hg _
  have : n = 0 := by omega
  subst this
  rw [Fb3]; exact hg
 | succ k ih =>
  intro g n h hg hn
  by_cases h0 : n = 0
  ·subst h0; rw [Fb3]; exact hg
  ·have := Ka3 (g := g) h0
   rw [oc1 h0]
   exact ih n _ (by omega) hn (Int.tmod_nonneg _ hg)
theorem Id6 {g n : Int} (hg : 0 ≤ g) (hn : 0 ≤ n) : eu g n = (Int.gcd g n : Int) := by
 have h1 := Bd9 _ g n (Nat.le_refl _) hg hn
 have h2 := Id5 g n
 omega
section
variable {σ : Type} {step : σ → Stp σ} {mk : Int → Int → σ}
theorem vd0 (h : ∀ g n, n ≠ 0 → step (mk g n) = .next (mk n (Int.tmod g n))) (h0 : ∀ g, step (mk g 0) = .exit 1) (g n : Int) (hn : n.natAbs ≤ 9223372036854775808) : lp step (mk g n) = (1, mk (eu g n) 0) := by
 have := zb4 (step := step) (I := fun m s => ∃ a c, s = mk a c ∧ c.natAbs ≤ m ∧ eu a c = eu g n) (Q := fun u s => (u, s) = (1, mk (eu g n) 0)) (fun m s ⟨a, c, hs, hm, he⟩ => by
  subst hs
  by_cases hc : c = 0
  ·subst hc
   rw [Fb3] at he
   subst he
   exact .inl ⟨1, h0 _, rfl⟩
  ·have ht := Ka3 (g := a) hc
   exact .inr ⟨_, m - 1, by omega, h a c hc, c, _, rfl, by omega, by rw [← he, oc1 hc]⟩) n.natAbs (mk g n) (by omega) ⟨g, n, rfl, Nat.le_refl _, rfl⟩
 exact this
theorem fc9 (h : ∀ g n, 0 < n → step (mk g n) = .next (mk n (Int.tmod g n))) (h0 : ∀ g, step (mk g 0) = .exit 1) (g n : Int) (hg : 0 ≤ g) (h1 : 0 ≤ n) (hn : n ≤ 9223372036854775808) : lp step (mk g n) = (1, mk (eu g n) 0) := by
 have := zb4 (step := step) (I := fun m s => ∃ a c, s = mk a c ∧ c.natAbs ≤ m ∧ 0 ≤ a ∧ 0 ≤ c ∧ eu a c = eu g n) (Q := fun u s => (u, s) = (1, mk (eu g n) 0)) (fun m s ⟨a, c, hs, hm, ha, hc0, he⟩ => by
  subst hs
  by_cases hc : c = 0
  ·subst hc
   rw [Fb3] at he
   subst he
   exact .inl ⟨1, h0 _, rfl⟩
  ·have ht := Ka3 (g := a) hc
   exact .inr ⟨_, m - 1, by omega, h a c (by omega), c, _, rfl, by omega, hc0, Int.tmod_nonneg _ ha, by rw [← he, oc1 hc]⟩) n.natAbs (mk g n) (by omega) ⟨g, n, rfl, Nat.le_refl _, hg, h1, rfl⟩
 exact this
end
theorem mb {a c A C : Int} (h1 : -A ≤ a) (h2 : a ≤ A) (h3 : -C ≤ c) (h4 : c ≤ C) : -(A * C) ≤ a * c ∧ a * c ≤ A * C := by
 have hA : a.natAbs ≤ A.natAbs := by omega
 have hC : c.natAbs ≤ C.natAbs := by omega
 have h5 := Nat.mul_le_mul hA hC
 rw [← Int.natAbs_mul, ← Int.natAbs_mul] at h5
 have h6 : 0 ≤ A * C := Int.mul_nonneg (by omega) (by omega)
 omega
end Go.Ev.L
namespace Go.Ev
open Go
def FW (F : Fence) : Prop := ∃ r, F = { Fence.wide with round := r }
theorem FW.wide : FW Fence.wide := ⟨none, rfl⟩
theorem FW.inRound (l : Nat) : FW (Fence.wide.inRound l) := ⟨some l, rfl⟩
section
variable {F : Fence} {n : Nat} {P : Program}
theorem FW.fn (h : FW F) (f : FuncId) : F.fn f := by obtain ⟨r, rfl⟩ := h; trivial
theorem FW.dep (h : FW F) : F.depth = none := by obtain ⟨r, rfl⟩ := h; rfl
theorem FW.depS (h : FW F) {p : Prop} : F.depth.isSome = true → p := fun hd => by rw [h.dep] at hd; cases hd
theorem FW.fenced (h : FW F) : Machine.fenced P F = Machine.fenced P Fence.wide := by obtain ⟨r, rfl⟩ := h; rfl
theorem FW.room (h : FW F) (k : Nat) : F.room k := fun d hd => by rw [h.dep] at hd; cases hd
theorem FW.calls (h : FW F) {f : FuncId} {args : Array Value} {w : World} {R : Ending → World → Prop} : CallsIn F n P f args w R ↔ Calls P f args w R := by
 refine Iff.trans ?_ (callsIn_wide (n := n))
 obtain ⟨r, rfl⟩ := h
 exact ⟨fun h => h, fun h => h⟩
theorem FW.rows (h : FW F) {row : String} {args : Array Value} {w : World} {R : Value → World → Prop} (hr : Rows P row args w R) : RowsIn F n P row args w R := fun c cs _ => by
 obtain ⟨v, w', h1, h2⟩ := hr c cs
 refine ⟨v, w', h1, ?_⟩
 rw [h.fenced]
 exact stepsIn_wide.2 h2
end
section
variable {P : Program} {o : Oper} {ac : Act} {w : World} {post : Value → World → Prop}
theorem j6.inAny (h : j6 P o { ac with defers := [] } w post) {F : Fence} (hF : FW F) (n : Nat) (next : Act → World → Prop) (Q : Exit → Act → World → Prop) (hp : ∀ x' w', post x' w' → next (ac.put o.dst x') w') : o.wpIn F n P ac w next Q := by
 have hput : ∀ v, ({ ac with defers := [] } : Act).put o.dst v = { ac.put o.dst v with defers := [] } := fun v => by cases o.dst <;> rfl
 have hinj : ∀ v x', ({ ac with defers := [] } : Act).put o.dst v = ({ ac with defers := [] } : Act).put o.dst x' → ac.put o.dst v = ac.put o.dst x' := fun v x' e => by
  rw [hput, hput] at e
  have e1 := congrArg Act.tmps e
  revert e1
  cases o.dst with
  | none => intro _; rfl
  | some d => intro e1; show ({ ac with tmps := _ } : Act) = { ac with tmps := _ }; congr 1
 have hnd : ∀ c, o.op ≠ .defer c := fun c hc => by
  have h0 := h (fun a' _ => a'.defers = []) (fun _ _ _ => False) (fun x' w' _ => by rw [hput])
  unfold Oper.wp at h0
  have e : execOp ({ ac with defers := [] } : Act).eval o = (do return .defer (← resolve ({ ac with defers := [] } : Act).eval c o.type)) := by unfold execOp; simp [hc]
  rw [e] at h0
  simp only [Sem.run_bind] at h0
  cases hr : (resolve ({ ac with defers := [] } : Act).eval c o.type).run P w with
  | ok d w1 =>
   rw [hr] at h0
   have h0 : ({ ({ ac with defers := [] } : Act) with defers := d :: [] }.put o.dst undef).defers = [] := h0
   revert h0
   cases o.dst <;> intro h0 <;> cases h0
  | halt x w1 =>
   rw [hr] at h0
   cases x <;> exact h0
 have h0 := h (fun a' w' => ∃ x', post x' w' ∧ a' = ({ ac with defers := [] } : Act).put o.dst x') (fun _ _ _ => False) (fun x' w' hx => ⟨x', hx, rfl⟩)
 unfold Oper.wp at h0
 refine ⟨fun f _ => hF.fn f, ?_⟩
 rw [Oper.semAt_eq _ _ _ hnd]
 have hev : (execOp ac.eval o) = execOp ({ ac with defers := [] } : Act).eval o := rfl
 rw [hev]
 revert h0
 generalize (execOp ({ ac with defers := [] } : Act).eval o).run P w = r
 intro h0
 have hnext : ∀ v w', (∃ x', post x' w' ∧ ({ ac with defers := [] } : Act).put o.dst v = ({ ac with defers := [] } : Act).put o.dst x') → next (ac.put o.dst v) w' := fun v w' ⟨x', h1, h2⟩ => by
  rw [hinj v x' h2]; exact hp x' w' h1
 cases r with
 | ok q w' =>
  cases q with
  | value v => exact hnext v w' h0
  | skip => exact hnext undef w' h0
  | defer d =>
   obtain ⟨x', _, h2⟩ := h0
   rw [hput] at h2
   have := congrArg Act.defers h2
   revert this
   cases o.dst <;> intro h <;> cases h
  | enter f args =>
   refine ⟨fun hd => hF.depS hd, hF.calls.2 ?_⟩
   have h0 : Calls P f args w' _ := h0
   refine h0.mono fun e w'' he => ?_
   cases e with
   | returned v => exact hnext v w'' he
   | panicked ch => exact he.elim
   | outgrown => obtain ⟨a0, w0, hq⟩ := he; exact hq.elim
  | row row args =>
   refine ⟨fun hd => hF.depS hd, hF.rows ?_⟩
   have h0 : Rows P row args w' _ := h0
   exact fun c cs => by
    obtain ⟨v, w'', h1, h2⟩ := h0 c cs
    exact ⟨v, w'', hnext v w'' h1, h2⟩
  | round l f tmps as body => exact h0.elim
  | _ => exact h0.elim
 | halt x w' =>
  cases x with
  | panic v => exact h0.elim
  | _ => exact h0.elim
end
end Go.Ev
namespace Go.Ev
open Go
section
variable {W W' WB : Nat → Prop} {ρ ρ0 ρ' : Rho} {H H0 H1 : List b8} {F F0 F' : Fz} {w w0 w' : World} {P : Program}
theorem Za4 (H : List b8) : o6 H = H.map fun b => Bool.rec (motive := fun _ => b8) b { b with dead := true } (A1 b) := by unfold o6; rw [l8]
theorem Cd0 : (o6 H).length = H.length := by rw [Za4]; simp
theorem ca6 {id : Nat} {b : b8} (hb : H[id]? = some b) (hs : A1 b = false) : (o6 H)[id]? = some b := by
 rw [Za4, List.getElem?_map, hb]; simp [hs]
theorem sc9 {id : Nat} {b : b8} (hb : H[id]? = some b) (hs : A1 b = true) : (o6 H)[id]? = some { b with dead := true } := by
 rw [Za4, List.getElem?_map, hb]; simp [hs]
theorem fa8 {id : Nat} {b : b8} (hb : (o6 H)[id]? = some b) (hd : b.dead = false) : H[id]? = some b ∧ A1 b = false := by
 rw [Za4, List.getElem?_map] at hb
 cases h : H[id]? with
 | none => rw [h] at hb; cases hb
 | some c =>
  rw [h] at hb
  cases hs : A1 c with
  | false => simp [hs] at hb; subst hb; exact ⟨rfl, hs⟩
  | true => simp [hs] at hb; subst hb; cases hd
def Sb4 (H : List b8) (id : Nat) : Prop := ∃ b, H[id]? = some b ∧ A1 b = true
noncomputable def ρsp (H : List b8) (ρ ρ' : Rho) : Rho := fun id => @ite _ (Sb4 H id) (Classical.propDecidable _) (ρ id) (ρ' id)
theorem ρsp_on {id : Nat} (h : Sb4 H id) : ρsp H ρ ρ' id = ρ id := by unfold ρsp; rw [if_pos h]
theorem ρsp_off {id : Nat} (h : ¬ Sb4 H id) : ρsp H ρ ρ' id = ρ' id := by unfold ρsp; rw [if_neg h]
theorem cd2 : ∀ (H1 : List b8), ic8 [] H1 = true → ∀ (id : Nat) c, H1[id]? = some c → A1 c = false
 | [], _, id, c, hc => by simp at hc
 | d :: r, ho, id, c, hc => by
  have ho : Bool.and (Bool.rec (motive := fun _ => Bool) true false (A1 d)) (ic8 [] r) = true := ho
  simp only [Bool.and_eq_true] at ho
  cases id with
  | zero =>
   simp at hc; subst hc
   have := ho.1
   cases h : A1 d with
   | false => rfl
   | true => rw [h] at this; cases this
  | succ id => exact cd2 r ho.2 id c (by simpa using hc)
theorem tc0 : ∀ (H H1 : List b8), H.length ≤ H1.length → ic8 H H1 = true → (z9 H H1).length = H1.length ∧
  (∀ (id : Nat) b, H[id]? = some b → A1 b = true → (z9 H H1)[id]? = some b) ∧
  (∀ (id : Nat), ¬ Sb4 H id → (z9 H H1)[id]? = H1[id]? ∧ ∀ c, H1[id]? = some c → A1 c = false)
 | [], H1, _, ho => by
  refine ⟨rfl, fun id b hb => by simp at hb, fun id _ => ⟨rfl, fun c hc => ?_⟩⟩
  exact cd2 H1 ho id c hc
 | b :: H, [], hl, _ => by simp at hl
 | b :: H, c :: H1, hl, ho => by
  have ho : Bool.and (Bool.rec (motive := fun _ => Bool) (Bool.rec true false (A1 c)) true (A1 b)) (ic8 H H1) = true := ho
  simp only [Bool.and_eq_true] at ho
  obtain ⟨h1, h2, h3⟩ := tc0 H H1 (by simpa using hl) ho.2
  have e : z9 (b :: H) (c :: H1) = Bool.rec (motive := fun _ => b8) c b (A1 b) :: z9 H H1 := rfl
  rw [e]
  refine ⟨by simp [h1], fun id d hd hs => ?_, fun id hn => ?_⟩
  ·cases id with
   | zero => simp at hd; subst hd; simp [hs]
   | succ id => simpa using h2 id d (by simpa using hd) hs
  ·cases id with
   | zero =>
    have hb : A1 b = false := by
     cases h : A1 b with
     | false => rfl
     | true => exact absurd ⟨b, rfl, h⟩ hn
    rw [hb] at ho ⊢
    refine ⟨rfl, fun d hd => ?_⟩
    simp at hd; subst hd
    have := ho.1
    cases h : A1 c with
    | false => rfl
    | true => rw [h] at this; cases this
   | succ id =>
    obtain ⟨k1, k2⟩ := h3 id fun ⟨d, hd, hs⟩ => hn ⟨d, by simpa using hd, hs⟩
    exact ⟨by simpa using k1, fun d hd => k2 d (by simpa using hd)⟩
def cd3 (b : b8) : Prop := b.es = 0 ∧ b.et = 0
def cd4 (t : Nat) (b : b8) : Prop := b.es = 0 ∧ b.et = t + 1
inductive XC (ρ : Rho) (H : List b8) (F : Fz) (w : World) : b7 → Value → Prop
 | n {x : b7} {x' : Value} (h : U2 ρ (o6 H) F w x x') : XC ρ H F w x x'
 | box (id c g : Nat) (b : b8) (hb : H[id]? = some b) (hd : b.dead = false) (he : cd3 b) : XC ρ H F w (.ptr id 0 c g) (.pointer (some ⟨(ρ id).blk, c, none⟩))
 | map (id c g : Nat) (b : b8) (t : Nat) (hb : H[id]? = some b) (hd : b.dead = false) (he : cd4 t b) : XC ρ H F w (.ptr id 0 c g) (.map (some (ρ id).blk))
inductive XW (ρ : Rho) (H : List b8) (F : Fz) (w : World) : b7 → Value → Prop
 | w {x : b7} {x' : Value} (h : z8 ρ (o6 H) F w x x') : XW ρ H F w x x'
 | c {x : b7} {x' : Value} (h : XC ρ H F w x x') : XW ρ H F w x x'
theorem Za5 {b : b8} (h : cd3 b) : A1 b = true := by unfold A1; rw [h.1]; rfl
theorem Za6 {b : b8} {t : Nat} (h : cd4 t b) : A1 b = true := by unfold A1; rw [h.1]; rfl
theorem XC.one {x : b7} {x' : Value} (h : XC ρ H F w x x') (hb : yd9 x = true) : x'.oneCell' = true := by
 cases h with
 | n h =>
  cases h with
  | mem h => exact h.one
  | v => exact (by rw [← Pb9]; exact hb)
  | ptr => rfl
  | sl => rfl
  | tptr => cases hb
  | unk => cases hb
 | box => rfl
 | map => rfl
structure he4 (ρ : Rho) (H : List b8) (F : Fz) (w : World) (b : b8) (blk : Nat) : Prop where
 et : cd3 b
 has : ∃ row vs t, b.elems = [row] ∧ w.heap[blk]? = some (.cells vs t (0, 0)) ∧ row.length = vs.size ∧ ∀ (c : Nat) x x', row[c]? = some x → vs[c]? = some x' → x'.oneCell' = true ∧ XC ρ H F w x x'
def tc1 (fl : List (Nat × CK)) (kl : Nat) (r : List b7) (e : MapEntry) : Prop := ∃ (ks : Array Value) (v : Bool), r = ks.toList.map .v ++ [.v (.bool v)] ∧ ks.size = kl ∧ e.key = .agg ks ∧ e.val = .bool v ∧ ∀ p ∈ fl, ua9 ks p
structure he5 (P : Program) (w : World) (b : b8) (blk : Nat) : Prop where
 has : ∃ t K El fl es clk, cd4 t b ∧ P.underlying t = some (.map K El) ∧ S8 P 9 K = some fl ∧ w.heap[blk]? = some (.map es clk) ∧ b.elems.length = es.size ∧
  ∀ (i : Nat) r e, b.elems[i]? = some r → es[i]? = some e → tc1 fl (szT P K) r e
structure Id7 (P : Program) (WB W' : Nat → Prop) (ρ : Rho) (H : List b8) (F : Fz) (w : World) : Prop where
 has : ∀ (id : Nat) b, H[id]? = some b → A1 b = true → b.dead = false → WB (ρ id).blk ∧ ¬ W' (ρ id).blk ∧ (∀ o, ¬ F (ρ id).blk o) ∧ (ρ id).blk < w.heap.size ∧ (he4 ρ H F w b (ρ id).blk ∨ he5 P w b (ρ id).blk)
 apart : ∀ (id id' : Nat) b b', H[id]? = some b → H[id']? = some b' → A1 b = true → A1 b' = true → b.dead = false → b'.dead = false → id ≠ id' → (ρ id).blk ≠ (ρ id').blk
theorem Adv.mono (h : Adv W ρ H F w ρ' H1 F' w') (hW : ∀ k, W k → WB k) : Adv WB ρ H F w ρ' H1 F' w' :=
 ⟨⟨h.ext.os, h.ext.tape, h.ext.output, h.ext.size, fun k hk hn => h.ext.block k hk fun hw => hn (hW k hw), h.ext.cells, h.ext.drawn⟩, h.heap, h.more, fun b o hf => (h.new b o hf).imp id (hW b), fun id b' hb' hn => hW _ (h.fresh id b' hb' hn)⟩
section
variable (hA : Adv W' ρ (o6 H) F w ρ' H1 F' w') (ho : ic8 H H1 = true)
include hA ho
theorem Id8 : H.length ≤ H1.length := by
 rcases Nat.eq_zero_or_pos H.length with h | h
 ·omega
 ·have hlt : H.length - 1 < (o6 H).length := by rw [Cd0]; omega
  obtain ⟨b', hb', _⟩ := hA.heap (H.length - 1) _ (List.getElem?_eq_getElem hlt)
  have := (List.getElem?_eq_some_iff.1 hb').1
  omega
theorem Fb4 : (z9 H H1).length = H1.length ∧
  (∀ (id : Nat) b, H[id]? = some b → A1 b = true → (z9 H H1)[id]? = some b) ∧
  (∀ (id : Nat), ¬ Sb4 H id → (z9 H H1)[id]? = H1[id]? ∧ ∀ c, H1[id]? = some c → A1 c = false) := tc0 H H1 (Id8 hA ho) ho
theorem Cd1 {id : Nat} {b : b8} (hb : (o6 (z9 H H1))[id]? = some b) (hd : b.dead = false) : H1[id]? = some b ∧ ¬ Sb4 H id := by
 obtain ⟨h1, h2, h3⟩ := Fb4 hA ho
 obtain ⟨k1, k2⟩ := fa8 hb hd
 by_cases hs : Sb4 H id
 ·obtain ⟨c, hc, hcs⟩ := hs
  rw [h2 id c hc hcs] at k1
  cases k1
  rw [hcs] at k2; cases k2
 ·rw [(h3 id hs).1] at k1
  exact ⟨k1, hs⟩
theorem Cd2 {id : Nat} {b : b8} (hb : H1[id]? = some b) (hd : b.dead = false) : (o6 (z9 H H1))[id]? = some b ∧ ρsp H ρ ρ' id = ρ' id := by
 obtain ⟨h1, h2, h3⟩ := Fb4 hA ho
 by_cases hs : Sb4 H id
 ·obtain ⟨c, hc, hcs⟩ := hs
  obtain ⟨b', hb', hd', _⟩ := hA.heap id _ (sc9 hc hcs)
  have : b' = b := Option.some.inj (hb'.symm.trans hb)
  subst this
  rw [hd] at hd'; cases hd'
 ·obtain ⟨k1, k2⟩ := h3 id hs
  exact ⟨ca6 (k1.trans hb) (k2 b hb), ρsp_off hs⟩
theorem tc2 : Kc1 ρ' H1 (ρsp H ρ ρ') (o6 (z9 H H1)) := fun id b hb hd => by
 obtain ⟨h1, h2⟩ := Cd2 hA ho hb hd
 exact ⟨b, h1, hd, Nat.le_refl _, fun _ => ⟨h2, rfl, Nat.le_refl _⟩⟩
theorem pd1 {x : b7} {x' : Value} (h : z8 ρ' H1 F' w' x x') : z8 (ρsp H ρ ρ') (o6 (z9 H H1)) F' w' x x' := h.carry (tc2 hA ho) (fun _ _ h => h) (fun _ _ _ => rfl)
theorem Cd3 (hH : s5 W' ρ' H1 F' w') : s5 W' (ρsp H ρ ρ') (o6 (z9 H H1)) F' w' :=
 hH.pull (fun i => i) (fun i b hb hd => by
  obtain ⟨h1, h2⟩ := Cd1 hA ho hb hd
  exact ⟨h1, ρsp_off h2⟩) (fun _ _ _ _ _ _ _ _ e => e)
theorem vd1 {x : b7} {x' : Value} (h : XC ρ H F w x x') : XC (ρsp H ρ ρ') (z9 H H1) F' w' x x' := by
 obtain ⟨h1, h2, h3⟩ := Fb4 hA ho
 cases h with
 | n h => exact .n ((h.adv hA).carry (tc2 hA ho) (fun _ _ h => h) (fun _ _ _ => rfl))
 | box id c g b hb hd he =>
  have e : ρsp H ρ ρ' id = ρ id := ρsp_on ⟨b, hb, Za5 he⟩
  rw [← e]
  exact .box id c g b (h2 id b hb (Za5 he)) hd he
 | map id c g b t hb hd he =>
  have e : ρsp H ρ ρ' id = ρ id := ρsp_on ⟨b, hb, Za6 he⟩
  rw [← e]
  exact .map id c g b t (h2 id b hb (Za6 he)) hd he
theorem Td4 {x : b7} {x' : Value} (h : XW ρ H F w x x') : XW (ρsp H ρ ρ') (z9 H H1) F' w' x x' := by
 cases h with
 | w h => exact .w (pd1 hA ho (h.adv hA))
 | c h => exact .c (vd1 hA ho h)
theorem Cd4 (hS : Id7 P WB W' ρ H F w) : Id7 P WB W' (ρsp H ρ ρ') (z9 H H1) F' w' := by
 obtain ⟨h1, h2, h3⟩ := Fb4 hA ho
 have hold : ∀ (id : Nat) b, (z9 H H1)[id]? = some b → A1 b = true → H[id]? = some b ∧ Sb4 H id := fun id b hb hs => by
  by_cases hsp : Sb4 H id
  ·obtain ⟨c, hc, hcs⟩ := hsp
   rw [h2 id c hc hcs] at hb
   obtain rfl : c = b := Option.some.inj hb
   exact ⟨hc, c, hc, hcs⟩
  ·obtain ⟨k1, k2⟩ := h3 id hsp
   rw [k1] at hb
   rw [k2 b hb] at hs; cases hs
 refine ⟨fun id b hb hs hd => ?_, fun id id' b b' hb hb' hs hs' hd hd' hne => ?_⟩
 ·obtain ⟨hb0, hsp⟩ := hold id b hb hs
  obtain ⟨k1, k2, k3, k4, k5⟩ := hS.has id b hb0 hs hd
  have hblk : w'.heap[(ρ id).blk]? = w.heap[(ρ id).blk]? := hA.ext.block _ k4 k2
  rw [ρsp_on hsp]
  refine ⟨k1, k2, fun o hf => ?_, Nat.lt_of_lt_of_le k4 hA.ext.size, ?_⟩
  ·rcases hA.new _ _ hf with h | h
   ·exact k3 o h
   ·exact k2 h
  ·rcases k5 with ⟨e, row, vs, t, m1, m2, m3, m4⟩ | ⟨t, K, El, fl, es, clk, m1, m2, m3, m4, m5, m6⟩
   ·exact .inl ⟨e, row, vs, t, m1, hblk.trans m2, m3, fun c x x' hx hx' => ⟨(m4 c x x' hx hx').1, vd1 hA ho (m4 c x x' hx hx').2⟩⟩
   ·exact .inr ⟨t, K, El, fl, es, clk, m1, m2, m3, hblk.trans m4, m5, m6⟩
 ·obtain ⟨hb0, hsp⟩ := hold id b hb hs
  obtain ⟨hb0', hsp'⟩ := hold id' b' hb' hs'
  rw [ρsp_on hsp, ρsp_on hsp']
  exact hS.apart id id' b b' hb0 hb0' hs hs' hd hd' hne
theorem Id9 {id : Nat} {b : b8} (hb : (z9 H H1)[id]? = some b) (hs : A1 b = true) : H[id]? = some b ∧ Sb4 H id := by
 obtain ⟨h1, h2, h3⟩ := Fb4 hA ho
 by_cases hsp : Sb4 H id
 ·obtain ⟨c, hc, hcs⟩ := hsp
  rw [h2 id c hc hcs] at hb
  obtain rfl : c = b := Option.some.inj hb
  exact ⟨hc, c, hc, hcs⟩
 ·obtain ⟨k1, k2⟩ := h3 id hsp
  rw [k1] at hb
  rw [k2 b hb] at hs; cases hs
theorem Jd0 {K : Nat → Prop} (h : ∀ (id : Nat) b, H[id]? = some b → A1 b = true → b.dead = false → ¬ K (ρ id).blk) : ∀ (id : Nat) b, (z9 H H1)[id]? = some b → A1 b = true → b.dead = false → ¬ K (ρsp H ρ ρ' id).blk := fun id b hb hs hd => by
 obtain ⟨k1, k2⟩ := Id9 hA ho hb hs
 rw [ρsp_on k2]
 exact h id b k1 hs hd
theorem Jd1 (hW : ∀ k, W' k → WB k) : Adv WB ρ H F w (ρsp H ρ ρ') (z9 H H1) F' w' := by
 obtain ⟨h1, h2, h3⟩ := Fb4 hA ho
 have hm := hA.mono hW
 refine ⟨hm.ext, fun id b hb => ?_, hm.more, hm.new, fun id b' hb' hn => ?_⟩
 ·cases hs : A1 b with
  | true => exact ⟨b, h2 id b hb hs, rfl, Nat.le_refl _, fun _ => ⟨ρsp_on ⟨b, hb, hs⟩, rfl, Nat.le_refl _⟩⟩
  | false =>
   have hnsp : ¬ Sb4 H id := fun ⟨c, hc, hcs⟩ => by
    rw [hb] at hc; cases hc
    rw [hs] at hcs; cases hcs
   obtain ⟨b', k1, k2, k3, k4⟩ := hm.heap id b (ca6 hb hs)
   exact ⟨b', (h3 id hnsp).1.trans k1, k2, k3, fun hg => by rw [ρsp_off hnsp]; exact k4 hg⟩
 ·by_cases hsp : Sb4 H id
  ·obtain ⟨c, hc, hcs⟩ := hsp
   rw [h2 id c hc hcs] at hb'
   obtain rfl : c = b' := Option.some.inj hb'
   exact absurd rfl (hn c hc)
  ·rw [ρsp_off hsp]
   rw [(h3 id hsp).1] at hb'
   refine hm.fresh id b' hb' fun b hb => ?_
   cases h : H[id]? with
   | none =>
    rw [Za4, List.getElem?_map, h] at hb; cases hb
   | some c =>
    cases hs : A1 c with
    | true => exact absurd ⟨c, h, hs⟩ hsp
    | false =>
     rw [ca6 h hs] at hb
     cases hb
     exact hn b h
end
end
end Go.Ev
namespace Go.Ev
open Go
def Jb2 (WB W' : Nat → Prop) (ds : List Deferred) (w : World) : Prop := (∀ d ∈ ds, ∃ D, d = { target := .collected D, args := #[] } ∧ w.heap[D]? = some (.deferred (some [])) ∧ ¬ W' D ∧ D < w.heap.size ∧ WB D) ∧ ds.Nodup
def VR (ρ : Rho) (H : List b8) (F : Fz) (w : World) (a : List b7) (vs : List Value) : Prop := a.length = vs.length ∧ ∀ (i : Nat) x x', a[i]? = some x → vs[i]? = some x' → XW ρ H F w x x'
structure C2 (P : Program) (WB : Nat → Prop) (K : Nat → Prop) (J : List Value → World → Prop) (ρ0 : Rho) (H0 : List b8) (F0 : Fz) (w0 : World) (H : List b8) (ds : List Deferred) (w : World) (ρ : Rho) (F : Fz) (W' : Nat → Prop) (up : List Value) : Prop where
 sub : ∀ k, W' k → WB k
 adv : Adv WB ρ0 H0 F0 w0 ρ H F w
 hrel : s5 W' ρ (o6 H) F w
 srel : Id7 P WB W' ρ H F w
 kept : ∀ k, K k → ¬ W' k ∧ k < w.heap.size
 far : ∀ (id : Nat) b, H[id]? = some b → A1 b = true → b.dead = false → ¬ K (ρ id).blk
 jot : J up w
 marks : Jb2 WB W' ds w
structure I2 (P : Program) (WB : Nat → Prop) (K : Nat → Prop) (J : List Value → World → Prop) (n : Nat) (ρ0 : Rho) (H0 : List b8) (F0 : Fz) (w0 : World) (s : St) (ac : Act) (w : World) (ρ : Rho) (F : Fz) (W' : Nat → Prop) (up : List Value) : Prop where
 core : C2 P WB K J ρ0 H0 F0 w0 s.H ac.defers w ρ F W' up
 vals : VR ρ s.H F w s.a (ac.tmps.toList ++ up)
 size : ac.tmps.size = n
def he6 (P : Program) (WB : Nat → Prop) (K : Nat → Prop) (J : List Value → World → Prop) (n : Nat) (ρ0 : Rho) (H0 : List b8) (F0 : Fz) (w0 : World) (s : St) (ac : Act) (w : World) : Prop :=
 ∃ ρ F W' up, I2 P WB K J n ρ0 H0 F0 w0 s ac w ρ F W' up
def Tr (ρ : Rho) (H : List b8) (F : Fz) (w : World) (ρ' : Rho) (H' : List b8) (F' : Fz) (w' : World) : Prop := ∀ x x', XW ρ H F w x x' → XW ρ' H' F' w' x x'
def ac0 (K : Nat → Prop) (J : List Value → World → Prop) : Prop := ∀ up w w', (∀ k, K k → w'.heap[k]? = w.heap[k]?) → J up w → J up w'
section
variable {P : Program} {WB K : Nat → Prop} {J : List Value → World → Prop} {ρ ρ0 ρ' : Rho} {H H0 H1 : List b8} {F F0 F' : Fz} {w w0 w' : World} {W' : Nat → Prop} {up : List Value} {s : St} {ac ac' : Act} {E : Env}
theorem Jb2.step {ds : List Deferred} (h : Jb2 WB W' ds w) (he : Ext W' F w w') : Jb2 WB W' ds w' := ⟨fun d hd => by
 obtain ⟨D, h1, h2, h3, h4, h5⟩ := h.1 d hd
 exact ⟨D, h1, (he.block D h4 h3).trans h2, h3, Nat.lt_of_lt_of_le h4 he.size, h5⟩, h.2⟩
theorem C2.step {ds : List Deferred} (h : C2 P WB K J ρ0 H0 F0 w0 H ds w ρ F W' up) (hJ : ac0 K J) (hA : Adv W' ρ (o6 H) F w ρ' H1 F' w') (ho : ic8 H H1 = true) (hH1 : s5 W' ρ' H1 F' w') :
  C2 P WB K J ρ0 H0 F0 w0 (z9 H H1) ds w' (ρsp H ρ ρ') F' W' up ∧ Tr ρ H F w (ρsp H ρ ρ') (z9 H H1) F' w' :=
 ⟨⟨h.sub, h.adv.trans (Jd1 hA ho h.sub), Cd3 hA ho hH1, Cd4 hA ho h.srel, fun k hk => ⟨(h.kept k hk).1, Nat.lt_of_lt_of_le (h.kept k hk).2 hA.ext.size⟩,
  Jd0 hA ho h.far, hJ up w w' (fun k hk => hA.ext.block k (h.kept k hk).2 (h.kept k hk).1) h.jot, h.marks.step hA.ext⟩, fun _ _ hx => Td4 hA ho hx⟩
structure Td5 (DS : Nat → Prop) (tm : Array Value) (ds : List Deferred) (W : Nat → Prop) (ρ0 : Rho) (H0 : List b8) (F0 : Fz) (w0 : World) (s : St) (ac : Act) (w : World) : Prop where
 defers : ac.defers = ds
 size : ac.tmps.size = tm.size
 same : ∀ t, ¬ DS t → ac.tmps[t]? = tm[t]?
 rel : ∃ ρ F, Adv W ρ0 H0 F0 w0 ρ s.H F w ∧ s5 W ρ s.H F w ∧ la1 ρ s.H F w s.a ac.tmps
theorem xa7 {ac : Act} (dst : Option Nat) (v : Value) : (ac.put dst v).tmps.size = ac.tmps.size := by cases dst <;> simp [Act.put]
theorem tc3 {ac : Act} {dst : Option Nat} {v : Value} {t : Nat} (h : dst ≠ some t) : (ac.put dst v).tmps[t]? = ac.tmps[t]? := by
 cases dst with
 | none => rfl
 | some d => exact Array.getElem?_setIfInBounds_ne fun e => h (by rw [e])
section
variable {W : Nat → Prop} {DS : Nat → Prop} {tm : Array Value} {ds : List Deferred} {Fe : Fence} {n : Nat}
variable (hF : FW Fe) (hG0 : GOk E F0 w0) (hcalls : ∀ f, i5 E.P E.G f (E.call f))
include hF hG0 hcalls
theorem piM {ops : Array Oper} {o : Oper} {g : Option (Nat × Bool)} {s s' : St} {ac : Act} {i : Nat} {rest : List Nat} {Q : Exit → Act → World → Prop} (hi : ops[i]? = some o) (hg : Z8 ops o = some g) (hDS : ∀ d, o.dst = some d → DS d)
  (hI : Td5 DS tm ds W ρ0 H0 F0 w0 s ac w) (he : (Da9 E s ⟨o.dst, g, [], ob9 E.P ops o⟩).run = some s') (hK : ∀ ac' w', Td5 DS tm ds W ρ0 H0 F0 w0 s' ac' w' → wpOpsIn Fe n E.P ops Q rest ac' w') : wpOpsIn Fe n E.P ops Q (i :: rest) ac w := by
 obtain ⟨hd, hsz, hsm, ρ, F, hAdv, hH, hA⟩ := hI
 simp only [wpOpsIn, hi]
 have hsame : ∀ v t, ¬ DS t → (ac.put o.dst v).tmps[t]? = tm[t]? := fun v t ht => (tc3 fun e => ht (hDS t e)).trans (hsm t ht)
 rcases fc5 hg hA he with ⟨hw, he⟩ | ⟨hw, he⟩
 ·rw [if_pos hw]
  unfold ic7 at he
  obtain ⟨⟨x, H'⟩, h1, h2⟩ := DT.run_bind_some he
  have h1' : (evalOp E s.a s.H (ob9 E.P ops o)).run = some (x, H') := h1
  have hop := Zb5 (ac := { ac with defers := [] }) hA hH (hG0.adv hAdv) hcalls h1'
  refine hop.inAny hF n _ _ fun x' w' hp => ?_
  obtain ⟨ρ', F', a1, a2, a3⟩ := hp
  have h2' : some (⟨putA s.a o.dst x, H'⟩ : St) = some s' := h2
  injection h2' with h2'
  subst h2'
  exact hK _ _ ⟨(y8 _ _).trans hd, (xa7 _ _).trans hsz, hsame x', ρ', F', hAdv.trans a1, a2, (hA.adv a1).putA o.dst a3⟩
 ·rw [if_neg (by simp [hw])]
  subst he
  exact ⟨fun f _ => hF.fn f, hK _ _ ⟨(y8 _ _).trans hd, (xa7 _ _).trans hsz, hsame _, ρ, F, hAdv, hH, hA.putA o.dst (.ofv _)⟩⟩
theorem ne3 {ops : Array Oper} {Q : Exit → Act → World → Prop} {rest : List Nat} : ∀ (r : List Oper) (k : Nat) (l : List PI) (s s' : St) (ac : Act) (w : World), (∃ t, ops.toList.drop k = r ++ t) → (∀ o ∈ r, ∀ d, o.dst = some d → DS d) → Hb2 E.P ops r = some l → Td5 DS tm ds W ρ0 H0 F0 w0 s ac w → (I8 E l s).run = some s' →
  (∀ ac' w', Td5 DS tm ds W ρ0 H0 F0 w0 s' ac' w' → wpOpsIn Fe n E.P ops Q rest ac' w') → wpOpsIn Fe n E.P ops Q (List.range' k r.length ++ rest) ac w
 | [], k, l, s, s', ac, w, hr, hDS, hl, hI, he, hQ => by
  simp only [Hb2] at hl
  injection hl with hl
  subst hl
  have he' : some s = some s' := he
  injection he' with he'
  subst he'
  exact hQ ac w hI
 | o :: r, k, l, s, s', ac, w, hr, hDS, hl, hI, he, hQ => by
  obtain ⟨t, hr⟩ := hr
  obtain ⟨g, l', h1, h2, rfl⟩ := Jc7 hl
  have he' : ((Da9 E s ⟨o.dst, g, [], ob9 E.P ops o⟩).bind (I8 E l')).run = some s' := he
  obtain ⟨s1, h3, h4⟩ := DT.run_bind_some he'
  have hi : ops[k]? = some o := by
   have : (ops.toList.drop k)[0]? = some o := by rw [hr]; rfl
   simpa using this
  rw [show (o :: r).length = r.length + 1 from rfl, List.range'_succ, List.cons_append]
  refine piM hF hG0 hcalls hi h1 (fun d hd => hDS o (.head _) d hd) hI h3 fun ac' w' hI' => ?_
  refine ne3 r (k + 1) l' s1 s' ac' w' ⟨t, ?_⟩ (fun o ho => hDS o (.tail _ ho)) h2 hI' h4 hQ
  rw [← List.drop_drop, hr]
  rfl
end
theorem zb5 (ds : List Nat) : ∀ (a l : List b7) (k i : Nat), (Aa1 ds a l k)[i]? = match a[i]? with
  | some x => some (Bool.rec (motive := fun _ => b7) x ((l[i]?).getD .unk) (Na0 (k + i) ds))
  | none => none
 | [], l, k, i => by simp [Aa1]
 | x :: a, l, k, i => by
  have e : Aa1 ds (x :: a) l k = Bool.rec (motive := fun _ => b7) x (hdA l) (Na0 k ds) :: Aa1 ds a (tlA l) (k + 1) := rfl
  rw [e]
  cases i with
  | zero => cases l <;> rfl
  | succ i =>
   simp only [List.getElem?_cons_succ]
   rw [zb5 ds a (tlA l) (k + 1) i, show k + 1 + i = k + (i + 1) by omega]
   cases l with
   | nil => simp [tlA]
   | cons y l => simp [tlA]
theorem zb6 (ds : List Nat) : ∀ (a l : List b7) (k : Nat), (Aa1 ds a l k).length = a.length
 | [], _, _ => rfl
 | x :: a, l, k => congrArg Nat.succ (zb6 ds a (tlA l) (k + 1))
theorem tc4 (k : Nat) (l : List Nat) : Na0 k l = true ↔ k ∈ l := by
 induction l with
 | nil => simp [Na0]
 | cons x l ih =>
  have e : Na0 k (x :: l) = Bool.rec (Na0 k l) true (Nat.beq x k) := rfl
  rw [e, List.mem_cons]
  cases h : Nat.beq x k with
  | true => have := Nat.eq_of_beq_eq_true h; simp [this]
  | false =>
   have := Nat.ne_of_beq_eq_false h
   show Na0 k l = true ↔ _
   rw [ih]
   exact ⟨.inr, fun h => h.resolve_left fun e => this e.symm⟩
theorem Kc6 {x : b7} {x' : Value} (h : XW ρ H F w x x') : z8 ρ (o6 H) F w (da3 H x) x' := by
 cases h with
 | w h =>
  unfold da3
  split
  ·rename_i id i c g
   split
   ·rename_i b hb
    cases A1 b with
    | true => exact .unk _
    | false => exact h
   ·exact .unk _
  ·exact h
 | c h =>
  cases h with
  | n h =>
   unfold da3
   split
   ·split
    ·rename_i b hb
     cases A1 b with
     | true => exact .unk _
     | false => exact .val (.cell h)
    ·exact .unk _
   ·exact .val (.cell h)
  | box id c g b hb hd he =>
   unfold da3
   simp only [y6, hb, Za5 he]
   exact .unk _
  | map id c g b t hb hd he =>
   unfold da3
   simp only [y6, hb, Za6 he]
   exact .unk _
theorem I2.arel {n : Nat} (h : I2 P WB K J n ρ0 H0 F0 w0 s ac w ρ F W' up) : la1 ρ (o6 s.H) F w (l0 (da3 s.H) (D6 s.a n)) ac.tmps := by
 have hl := h.vals.1
 have hn := h.size
 rw [List.length_append, Array.length_toList] at hl
 rw [l8, B8]
 refine ⟨by simp; omega, fun i x x' hx hx' => ?_⟩
 rw [List.getElem?_map] at hx
 have hi : i < n := hn ▸ (Array.getElem?_eq_some_iff.1 hx').1
 rw [List.getElem?_take, if_pos hi] at hx
 cases hy : s.a[i]? with
 | none => rw [hy] at hx; cases hx
 | some y =>
  rw [hy] at hx
  injection hx with hx
  subst hx
  refine Kc6 (h.vals.2 i y x' hy ?_)
  rw [List.getElem?_append_left (by rw [Array.length_toList]; omega)]
  simpa using hx'
theorem Td6 {Fe : Fence} {n m k kk : Nat} (hF : FW Fe) (hG0 : GOk E F0 w0) (hcalls : ∀ f, i5 E.P E.G f (E.call f)) (hJ : ac0 K J) {ops : Array Oper} {Q : Exit → Act → World → Prop} {rest : List Nat} {r : List Oper} {l : List PI} {dd : List Nat} {x : d7} {s s' : St}
  (hr : ∃ t, ops.toList.drop k = r ++ t) (hDS : ∀ o ∈ r, ∀ d, o.dst = some d → d ∈ dd) (hl : Hb2 E.P ops r = some l) (hI : he6 E.P WB K J n ρ0 H0 F0 w0 s ac w) (he : (K2 E kk (.mask n dd (.ops l)) s).run = some (x, s'))
  (hQ : ∀ ac' w', he6 E.P WB K J n ρ0 H0 F0 w0 s' ac' w' → ac'.defers = ac.defers → (∀ t, ¬ t ∈ dd → ac'.tmps[t]? = ac.tmps[t]?) → wpOpsIn Fe m E.P ops Q rest ac' w') : x = .normal ∧ wpOpsIn Fe m E.P ops Q (List.range' k r.length ++ rest) ac w := by
 obtain ⟨ρ, F, W', up, hI⟩ := hI
 have he' : ((K2 E kk (.ops l) ⟨l0 (da3 s.H) (D6 s.a n), o6 s.H⟩).bind fun r => .guard (ic8 s.H r.2.H) (.ret (r.1, ⟨Aa1 dd s.a r.2.a 0, z9 s.H r.2.H⟩))).run = some (x, s') := he
 obtain ⟨⟨x1, s1⟩, h1, h2⟩ := DT.run_bind_some he'
 obtain ⟨ho, h2⟩ := DT.run_guard_some h2
 have h2 : some (x1, (⟨Aa1 dd s.a s1.a 0, z9 s.H s1.H⟩ : St)) = some (x, s') := h2
 injection h2 with h2; injection h2 with e1 e2; subst e1 e2
 have h1' : ((I8 E l ⟨l0 (da3 s.H) (D6 s.a n), o6 s.H⟩).bind fun s => .ret (d7.normal, s)).run = some (x1, s1) := h1
 obtain ⟨s2, h3, h4⟩ := DT.run_bind_some h1'
 have h4 : some (d7.normal, s2) = some (x1, s1) := h4
 injection h4 with h4; injection h4 with e1 e2; subst e1 e2
 refine ⟨rfl, ?_⟩
 have hG : GOk E F w := hG0.adv hI.core.adv
 refine ne3 (DS := (· ∈ dd)) (tm := ac.tmps) (ds := ac.defers) (W := W') (ρ0 := ρ) (H0 := o6 s.H) (F0 := F) (w0 := w) hF hG hcalls r k l _ s2 ac w hr hDS hl ⟨rfl, rfl, fun _ _ => rfl, ρ, F, .refl, hI.core.hrel, hI.arel⟩ h3 fun ac' w' hM => ?_
 obtain ⟨hd, hsz, hsm, ρ', F', hA, hH, hAr⟩ := hM
 obtain ⟨c1, c2⟩ := hI.core.step hJ hA ho hH
 refine hQ ac' w' ⟨_, F', W', up, hd ▸ c1, ⟨by rw [zb6]; have := hI.vals.1; rw [List.length_append, Array.length_toList] at this ⊢; omega, fun i y y' hy hy' => ?_⟩, hsz.trans hI.size⟩ hd hsm
 have hn := hI.size
 simp only at hy
 rw [zb5] at hy
 cases hz : s.a[i]? with
 | none => rw [hz] at hy; cases hy
 | some z =>
  rw [hz] at hy
  injection hy with hy
  rw [Nat.zero_add] at hy
  rcases Nat.lt_or_ge i n with hi | hi
  ·rw [List.getElem?_append_left (by rw [Array.length_toList]; omega)] at hy'
   have hy' : ac'.tmps[i]? = some y' := by simpa using hy'
   cases hm : Na0 i dd with
   | true =>
    rw [hm] at hy
    have hy : (s2.a[i]?).getD .unk = y := hy
    cases hq : s2.a[i]? with
    | none => rw [hq] at hy; subst hy; exact .w (.unk _)
    | some q =>
     rw [hq] at hy
     have hy : q = y := hy
     subst hy
     exact .w (pd1 hA ho (hAr.2 i q y' hq hy'))
   | false =>
    rw [hm] at hy
    have hy : z = y := hy
    subst hy
    have hnm : ¬ i ∈ dd := fun h => by rw [(tc4 i dd).2 h] at hm; cases hm
    rw [hsm i hnm] at hy'
    refine c2 _ _ (hI.vals.2 i z y' hz ?_)
    rw [List.getElem?_append_left (by rw [Array.length_toList]; omega)]
    simpa using hy'
  ·have hlen : s2.a.length = n := by
    have := hAr.1
    omega
   have hnone : s2.a[i]? = none := List.getElem?_eq_none (by omega)
   rw [List.getElem?_append_right (by rw [Array.length_toList]; omega)] at hy'
   have hy0 : (ac.tmps.toList ++ up)[i]? = some y' := by
    rw [List.getElem?_append_right (by rw [Array.length_toList]; omega)]
    rw [Array.length_toList] at hy' ⊢
    rw [hsz] at hy'
    exact hy'
   rw [hnone] at hy
   cases hm : Na0 i dd with
   | true => rw [hm] at hy; have hy : b7.unk = y := hy; subst hy; exact .w (.unk _)
   | false => rw [hm] at hy; have hy : z = y := hy; subst hy; exact c2 _ _ (hI.vals.2 i z y' hz hy0)
end
end Go.Ev
namespace Go.Ev
open Go
section
variable {P : Program} {WB K : Nat → Prop} {J : List Value → World → Prop} {ρ ρ0 ρ' : Rho} {H H0 H' : List b8} {F F0 F' : Fz} {w w0 w' : World} {W' : Nat → Prop} {up up' : List Value} {ds : List Deferred}
theorem qb2 {a : Addr} (h : w'.heap[a.block]? = w.heap[a.block]?) : w'.cell? a = w.cell? a := by simp [World.cell?, h]
theorem ac4 {id : Nat} {b : b8} (hE : ∀ (id : Nat) b, H[id]? = some b → ∃ b', H'[id]? = some b' ∧ b'.et = b.et ∧ b'.dead = b.dead ∧ b'.g = b.g ∧ b'.es = b.es ∧ b.elems.length ≤ b'.elems.length ∧ (A1 b = false → b' = b)) (hl : H'.length = H.length) (hb : (o6 H')[id]? = some b) (hd : b.dead = false) : (o6 H)[id]? = some b := by
 obtain ⟨h1, h2⟩ := fa8 hb hd
 have hlt : id < H.length := hl ▸ (List.getElem?_eq_some_iff.1 h1).1
 obtain ⟨b', k1, k2, _, _, k5, _, k6⟩ := hE id _ (List.getElem?_eq_getElem hlt)
 obtain rfl : b' = b := Option.some.inj (k1.symm.trans h1)
 have hs : A1 H[id] = false := by
  unfold A1 at h2 ⊢
  rw [← k5]; exact h2
 have := k6 hs
 subst this
 exact ca6 (List.getElem?_eq_getElem hlt) hs
theorem C2.alloc (h : C2 P WB K J ρ0 H0 F0 w0 H ds w ρ F W' up) (hJ : ac0 K J) (o : Obj) :
  C2 P WB K J ρ0 H0 F0 w0 H ds (w.alloc o) ρ F (fun k => W' k ∧ k ≠ w.heap.size) up ∧ Tr ρ H F w ρ H F (w.alloc o) ∧ WB w.heap.size ∧ (∀ b, F w.heap.size b → False) := by
 have hold : ∀ k, k < w.heap.size → (w.alloc o).heap[k]? = w.heap[k]? := fun k hk => by
  simp only [World.alloc, Array.getElem?_push]; rw [if_neg (Nat.ne_of_lt hk)]
 have hsz : (w.alloc o).heap.size = w.heap.size + 1 := by simp
 have hF : ∀ b o', F b o' → b < w.heap.size := fun b o' hf => ob8 (h.hrel.frz b o' hf)
 have hcells : ∀ b o', F b o' → (w.alloc o).cell? ⟨b, o', none⟩ = w.cell? ⟨b, o', none⟩ := fun b o' hf => qb2 (a := ⟨b, o', none⟩) (hold b (hF b o' hf))
 have hxc : ∀ x x', XC ρ H F w x x' → XC ρ H F (w.alloc o) x x' := fun x x' hx => by
  cases hx with
  | n hx => exact .n (hx.carry (fun id b hb hd => ⟨b, hb, hd, Nat.le_refl _, fun _ => ⟨rfl, rfl, Nat.le_refl _⟩⟩) (fun _ _ h => h) hcells)
  | box id c g b hb hd he => exact .box id c g b hb hd he
  | map id c g b t hb hd he => exact .map id c g b t hb hd he
 refine ⟨⟨fun k hk => h.sub k hk.1, h.adv.trans ⟨⟨rfl, rfl, rfl, by omega, fun k hk _ => hold k hk, hcells, Nat.le_refl _⟩, .refl, fun _ _ h => h, fun _ _ h => .inl h, fun id b hb hn => absurd rfl (hn b hb)⟩, ?_, ?_, fun k hk => ?_, h.far, ?_, ?_⟩, fun x x' hx => ?_, h.sub _ (h.hrel.new _ (Nat.le_refl _)), fun b hf => Nat.lt_irrefl _ (hF _ _ hf)⟩
 ·refine ⟨fun id b hb hd => ?_, h.hrel.apart, fun b o' hf => by rw [hcells b o' hf]; exact h.hrel.frz b o' hf, fun k hk => ⟨h.hrel.new k (by omega), by omega⟩⟩
  obtain ⟨cc, t, fr, hB⟩ := h.hrel.blk id b hb hd
  have hk := hB.keep (w' := w.alloc o) (hold _ hB.lt) hcells
  exact ⟨cc, t, fr, hk.obj, hk.room, hk.len, hk.rows, hk.cell, fun ho => by
   obtain ⟨g1, g2, g3⟩ := hk.own ho
   exact ⟨g1, ⟨g2, Nat.ne_of_lt hB.lt⟩, g3⟩, hk.kept⟩
 ·refine ⟨fun id b hb hs hd => ?_, h.srel.apart⟩
  obtain ⟨k1, k2, k3, k4, k5⟩ := h.srel.has id b hb hs hd
  refine ⟨k1, fun hk => k2 hk.1, k3, by omega, ?_⟩
  rcases k5 with ⟨e, row, vs, t, m1, m2, m3, m4⟩ | ⟨t, K, El, fl, es, clk, m1, m2, m3, m4, m5⟩
  ·exact .inl ⟨e, row, vs, t, m1, (hold _ k4).trans m2, m3, fun c x x' hx hx' => ⟨(m4 c x x' hx hx').1, hxc _ _ (m4 c x x' hx hx').2⟩⟩
  ·exact .inr ⟨t, K, El, fl, es, clk, m1, m2, m3, (hold _ k4).trans m4, m5⟩
 ·exact ⟨fun hw => (h.kept k hk).1 hw.1, by have := (h.kept k hk).2; omega⟩
 ·exact hJ up w _ (fun k hk => hold k (h.kept k hk).2) h.jot
 ·refine ⟨fun d hd => ?_, h.marks.2⟩
  obtain ⟨D, h1, h2, h3, h4, h5⟩ := h.marks.1 d hd
  exact ⟨D, h1, (hold D h4).trans h2, fun hw => h3 hw.1, by omega, h5⟩
 ·cases hx with
  | w hx => exact .w (hx.carry (fun id b hb hd => ⟨b, hb, hd, Nat.le_refl _, fun _ => ⟨rfl, rfl, Nat.le_refl _⟩⟩) (fun _ _ h => h) hcells)
  | c hx => exact .c (hxc _ _ hx)
theorem C2.adopt (h : C2 P WB K J ρ0 H0 F0 w0 H ds w ρ F W' up) (k sz : Nat) (hk : WB k) (hkW : ¬ W' k) (hkF : ∀ o, ¬ F k o) (hks : k < w.heap.size) (hap : ∀ (id : Nat) b, H[id]? = some b → A1 b = true → b.dead = false → (ρ id).blk ≠ k)
  (hkK : ¬ K k) (b : b8) (hb : A1 b = true) (hbd : b.dead = false) (hc : he4 (ρnew ρ H ⟨k, 0, sz⟩) (H ++ [b]) F w b k ∨ he5 P w b k) :
  C2 P WB K J ρ0 H0 F0 w0 (H ++ [b]) ds w (ρnew ρ H ⟨k, 0, sz⟩) F W' up ∧ Tr ρ H F w (ρnew ρ H ⟨k, 0, sz⟩) (H ++ [b]) F w := by
 have hρ : ∀ id, id < H.length → ρnew ρ H ⟨k, 0, sz⟩ id = ρ id := fun id hid => by simp [ρnew, Nat.ne_of_lt hid]
 have hρn : ρnew ρ H ⟨k, 0, sz⟩ H.length = ⟨k, 0, sz⟩ := by simp [ρnew]
 have hlook : ∀ (id : Nat) c, (H ++ [b])[id]? = some c → (id < H.length ∧ H[id]? = some c) ∨ (id = H.length ∧ c = b) := fun id c hc => by
  rcases Nat.lt_or_ge id H.length with hh | hh
  ·rw [List.getElem?_append_left hh] at hc; exact .inl ⟨hh, hc⟩
  ·rw [List.getElem?_append_right hh] at hc
   have h0 : id - H.length = 0 := by
    rcases Nat.eq_zero_or_pos (id - H.length) with h0 | h0
    ·exact h0
    ·rw [List.getElem?_eq_none (by simp; omega)] at hc; cases hc
   rw [h0] at hc
   exact .inr ⟨by omega, by simpa using hc.symm⟩
 have hleft : ∀ {id : Nat} {c : b8}, H[id]? = some c → (H ++ [b])[id]? = some c ∧ id < H.length := fun {id c} hc => by
  have hlt := (List.getElem?_eq_some_iff.1 hc).1
  exact ⟨by rw [List.getElem?_append_left hlt]; exact hc, hlt⟩
 have hlive : ∀ (id : Nat) c, (o6 (H ++ [b]))[id]? = some c → c.dead = false → (o6 H)[id]? = some c ∧ id < H.length := fun id c hc hd => by
  obtain ⟨h1, h2⟩ := fa8 hc hd
  rcases hlook id c h1 with ⟨hh, h3⟩ | ⟨_, rfl⟩
  ·exact ⟨ca6 h3 h2, hh⟩
  ·rw [hb] at h2; cases h2
 have hcar : Kc1 ρ (o6 H) (ρnew ρ H ⟨k, 0, sz⟩) (o6 (H ++ [b])) := fun id c hc hd => by
  obtain ⟨h1, h2⟩ := fa8 hc hd
  exact ⟨c, ca6 (hleft h1).1 h2, hd, Nat.le_refl _, fun _ => ⟨hρ id (hleft h1).2, rfl, Nat.le_refl _⟩⟩
 have hxc : ∀ x x', XC ρ H F w x x' → XC (ρnew ρ H ⟨k, 0, sz⟩) (H ++ [b]) F w x x' := fun x x' hx => by
  cases hx with
  | n hx => exact .n (hx.carry hcar (fun _ _ h => h) (fun _ _ _ => rfl))
  | box id c g b' hb' hd he => rw [← hρ id (hleft hb').2]; exact .box id c g b' (hleft hb').1 hd he
  | map id c g b' t hb' hd he => rw [← hρ id (hleft hb').2]; exact .map id c g b' t (hleft hb').1 hd he
 refine ⟨⟨h.sub, h.adv.trans ⟨.refl, fun id c hc => ⟨c, (hleft hc).1, rfl, Nat.le_refl _, fun _ => ⟨hρ id (hleft hc).2, rfl, Nat.le_refl _⟩⟩, fun _ _ h => h, fun _ _ h => .inl h, fun id c hc hn => ?_⟩, ?_, ?_, h.kept, fun id c hc hs hd => ?_, h.jot, h.marks⟩, fun x x' hx => ?_⟩
 ·rcases hlook id c hc with ⟨_, h1⟩ | ⟨rfl, rfl⟩
  ·exact absurd rfl (hn c h1)
  ·rw [hρn]; exact hk
 ·exact h.hrel.pull (fun i => i) (fun i c hc hd => ⟨(hlive i c hc hd).1, hρ i (hlive i c hc hd).2⟩) (fun _ _ _ _ _ _ _ _ e => e)
 ·refine ⟨fun id c hc' hs hd => ?_, fun id id' c c' hc1 hc1' hs hs' hd hd' hne => ?_⟩
  ·rcases hlook id c hc' with ⟨hlt, h1⟩ | ⟨rfl, rfl⟩
   ·obtain ⟨k1, k2, k3, k4, k5⟩ := h.srel.has id c h1 hs hd
    rw [hρ id hlt]
    refine ⟨k1, k2, k3, k4, ?_⟩
    rcases k5 with ⟨e, row, vs, t, m1, m2, m3, m4⟩ | k5
    ·exact .inl ⟨e, row, vs, t, m1, m2, m3, fun c x x' hx hx' => ⟨(m4 c x x' hx hx').1, hxc _ _ (m4 c x x' hx hx').2⟩⟩
    ·exact .inr k5
   ·rw [hρn]
    exact ⟨hk, hkW, hkF, hks, hc⟩
  ·rcases hlook id c hc1 with ⟨hlt, h1⟩ | ⟨rfl, rfl⟩ <;> rcases hlook id' c' hc1' with ⟨hlt', h1'⟩ | ⟨rfl, rfl⟩
   ·rw [hρ id hlt, hρ id' hlt']; exact h.srel.apart id id' c c' h1 h1' hs hs' hd hd' hne
   ·rw [hρ id hlt, hρn]; exact hap id c h1 hs hd
   ·rw [hρ id' hlt', hρn]; exact (hap id' c' h1' hs' hd').symm
   ·exact absurd rfl hne
 ·rcases hlook id c hc with ⟨hlt, h1⟩ | ⟨rfl, rfl⟩
  ·rw [hρ id hlt]; exact h.far id c h1 hs hd
  ·rw [hρn]; exact hkK
 ·cases hx with
  | w hx => exact .w (hx.carry hcar (fun _ _ h => h) (fun _ _ _ => rfl))
  | c hx => exact .c (hxc _ _ hx)
theorem C2.change (h : C2 P WB K J ρ0 H0 F0 w0 H ds w ρ F W' up) (k : Nat) (hk : WB k) (hkW : ¬ W' k) (hkF : ∀ o, ¬ F k o)
  (hos : w'.os = w.os) (htape : w'.tape = w.tape) (hout : w'.output = w.output) (hdrawn : w.drawn ≤ w'.drawn) (hsize : w'.heap.size = w.heap.size) (hold : ∀ j, j ≠ k → w'.heap[j]? = w.heap[j]?)
  (hcc : ∀ cc t fr, w.heap[k]? = some (.cells cc t fr) → ∃ cc', w'.heap[k]? = some (.cells cc' t fr) ∧ cc'.size = cc.size)
  (hl : H'.length = H.length) (hE : ∀ (id : Nat) b, H[id]? = some b → ∃ b', H'[id]? = some b' ∧ b'.et = b.et ∧ b'.dead = b.dead ∧ b'.g = b.g ∧ b'.es = b.es ∧ b.elems.length ≤ b'.elems.length ∧ (A1 b = false → b' = b))
  (hsame : ∀ (id : Nat) b, H[id]? = some b → A1 b = true → b.dead = false → (ρ id).blk ≠ k → H'[id]? = some b)
  (hnew : (∀ x x', XC ρ H F w x x' → XC ρ H' F w' x x') → ∀ (id : Nat) b, H'[id]? = some b → A1 b = true → b.dead = false → (ρ id).blk = k → he4 ρ H' F w' b k ∨ he5 P w' b k)
  (hJ : J up' w') (hM : ∀ D, ({ target := .collected D, args := #[] } : Deferred) ∈ ds → w.heap[D]? = some (.deferred (some [])) → D = k → w'.heap[D]? = some (.deferred (some []))) :
  C2 P WB K J ρ0 H0 F0 w0 H' ds w' ρ F W' up' ∧ Tr ρ H F w ρ H' F w' := by
 have hne : ∀ b o, F b o → b ≠ k := fun b o hf e => hkF o (e ▸ hf)
 have hcells : ∀ b o, F b o → w'.cell? ⟨b, o, none⟩ = w.cell? ⟨b, o, none⟩ := fun b o hf => qb2 (a := ⟨b, o, none⟩) (hold b (hne b o hf))
 have hback : ∀ (id : Nat) b', H'[id]? = some b' → ∃ b, H[id]? = some b ∧ b'.et = b.et ∧ b'.dead = b.dead ∧ A1 b = A1 b' := fun id b' hb' => by
  have hlt : id < H.length := hl ▸ (List.getElem?_eq_some_iff.1 hb').1
  obtain ⟨b2, k1, k2, k3, k4, k5, _⟩ := hE id _ (List.getElem?_eq_getElem hlt)
  obtain rfl : b2 = b' := Option.some.inj (k1.symm.trans hb')
  exact ⟨_, List.getElem?_eq_getElem hlt, k2, k3, by unfold A1; rw [k5]⟩
 have hcar : Kc1 ρ (o6 H) ρ (o6 H') := fun id b hb hd => by
  obtain ⟨h1, h2⟩ := fa8 hb hd
  obtain ⟨b', k1, _, _, _, _, _, k6⟩ := hE id b h1
  have := k6 h2
  subst this
  exact ⟨b', ca6 k1 h2, hd, Nat.le_refl _, fun _ => ⟨rfl, rfl, Nat.le_refl _⟩⟩
 have hxc : ∀ x x', XC ρ H F w x x' → XC ρ H' F w' x x' := fun x x' hx => by
  cases hx with
  | n hx => exact .n (hx.carry hcar (fun _ _ h => h) hcells)
  | box id c g b hb hd he =>
   obtain ⟨b', k1, k2, k3, k4, k5, _⟩ := hE id b hb
   exact .box id c g b' k1 (k3.trans hd) ⟨k5.trans he.1, k2.trans he.2⟩
  | map id c g b t hb hd he =>
   obtain ⟨b', k1, k2, k3, k4, k5, _⟩ := hE id b hb
   exact .map id c g b' t k1 (k3.trans hd) ⟨k5.trans he.1, k2.trans he.2⟩
 refine ⟨⟨h.sub, h.adv.trans ⟨⟨hos, htape, hout, by omega, fun j _ hj => hold j fun e => hj (e ▸ hk), hcells, hdrawn⟩, fun id b hb => ?_, fun _ _ h => h, fun _ _ h => .inl h, fun id b' hb' hn => ?_⟩, ?_, ?_, fun j hj => ⟨(h.kept j hj).1, by rw [hsize]; exact (h.kept j hj).2⟩, fun id b hb hs hd => ?_, hJ, ⟨fun d hd => ?_, h.marks.2⟩⟩, fun x x' hx => ?_⟩
 ·obtain ⟨b', k1, k2, k3, k4, k5, k6, _⟩ := hE id b hb
  exact ⟨b', k1, k3, Nat.le_of_eq k4.symm, fun _ => ⟨rfl, k5, k6⟩⟩
 ·have hlt : id < H.length := hl ▸ (List.getElem?_eq_some_iff.1 hb').1
  obtain ⟨b2, k1, _, _, k4, _⟩ := hE id _ (List.getElem?_eq_getElem hlt)
  obtain rfl : b2 = b' := Option.some.inj (k1.symm.trans hb')
  exact absurd k4 (hn _ (List.getElem?_eq_getElem hlt))
 ·refine ⟨fun id b hb hd => ?_, fun id id' b b' hb hb' hd hd' ho hne' => h.hrel.apart id id' b b' (ac4 hE hl hb hd) (ac4 hE hl hb' hd') hd hd' ho hne', fun b o hf => by rw [hcells b o hf]; exact h.hrel.frz b o hf, fun j hj => h.hrel.new j (by rw [← hsize]; exact hj)⟩
  obtain ⟨cc, t, fr, hB⟩ := h.hrel.blk id b (ac4 hE hl hb hd) hd
  by_cases e : (ρ id).blk = k
  ·obtain ⟨cc', h1, h2⟩ := hcc cc t fr (e ▸ hB.obj)
   have hno : b.own = false := by
    cases ho : b.own with
    | false => rfl
    | true => exact absurd (e ▸ (hB.own ho).2.1) hkW
   have hz : b.elems.length * b.es = 0 := by
    rcases Nat.eq_zero_or_pos (b.elems.length * b.es) with h0 | h0
    ·exact h0
    ·exact absurd (e ▸ hB.kept hno 0 h0) (hkF _)
   refine ⟨cc', t, fr, e ▸ h1, by rw [h2]; exact hB.room, hB.len, hB.rows, fun i r c x hr hx => ?_, (fun ho => by rw [hno] at ho; cases ho), hB.kept⟩
   have hi := (List.getElem?_eq_some_iff.1 hr).1
   have hc := (List.getElem?_eq_some_iff.1 hx).1
   rw [hB.rows i r hr] at hc
   have := Nat.mul_pos (show 0 < b.elems.length by omega) (show 0 < b.es by omega)
   omega
  ·exact ⟨cc, t, fr, hB.keep (hold _ e) hcells⟩
 ·refine ⟨fun id b hb hs hd => ?_, fun id id' b b' hb hb' hs hs' hd hd' hne' => ?_⟩
  ·obtain ⟨b0, h1, h2, h3, h4⟩ := hback id b hb
   obtain ⟨k1, k2, k3, k4, k5⟩ := h.srel.has id b0 h1 (by rw [h4]; exact hs) (by rw [← h3]; exact hd)
   refine ⟨k1, k2, k3, by rw [hsize]; exact k4, ?_⟩
   by_cases e : (ρ id).blk = k
   ·rw [e]; exact hnew hxc id b hb hs hd e
   ·have hb0 : b0 = b := Option.some.inj ((hsame id b0 h1 (by rw [h4]; exact hs) (by rw [← h3]; exact hd) e).symm.trans hb)
    subst hb0
    rcases k5 with ⟨e', row, vs, t, m1, m2, m3, m4⟩ | ⟨t, K, El, fl, es, clk, m1, m2, m3, m4, m5⟩
    ·exact .inl ⟨e', row, vs, t, m1, (hold _ e).trans m2, m3, fun c x x' hx hx' => ⟨(m4 c x x' hx hx').1, hxc _ _ (m4 c x x' hx hx').2⟩⟩
    ·exact .inr ⟨t, K, El, fl, es, clk, m1, m2, m3, (hold _ e).trans m4, m5⟩
  ·obtain ⟨b0, h1, h2, h3, h4⟩ := hback id b hb
   obtain ⟨b0', h1', h2', h3', h4'⟩ := hback id' b' hb'
   exact h.srel.apart id id' b0 b0' h1 h1' (by rw [h4]; exact hs) (by rw [h4']; exact hs') (by rw [← h3]; exact hd) (by rw [← h3']; exact hd') hne'
 ·obtain ⟨b0, h1, h2, h3, h4⟩ := hback id b hb
  exact h.far id b0 h1 (by rw [h4]; exact hs) (by rw [← h3]; exact hd)
 ·obtain ⟨D, h1, h2, h3, h4, h5⟩ := h.marks.1 d hd
  refine ⟨D, h1, ?_, h3, by rw [hsize]; exact h4, h5⟩
  by_cases e : D = k
  ·exact hM D (h1 ▸ hd) h2 e
  ·exact (hold D e).trans h2
 ·cases hx with
  | w hx => exact .w (hx.carry hcar (fun _ _ h => h) hcells)
  | c hx => exact .c (hxc _ _ hx)
end
end Go.Ev
