/- Own work: a part of the proof. -/
import Derived.Test.YtlccibobknidjaaGreatEvSp9
import Derived.Test.YtlccibobknidjaaGreatEvRun
set_option linter.unusedVariables false
set_option linter.unusedSimpArgs false
set_option linter.unnecessarySimpa false
set_option linter.unusedSectionVars false
namespace Go.Ev
open Go
section
variable {WB K : Nat → Prop} {J : List Value → World → Prop} {DF : List Deferred → Prop} {S : List Nat} {rv : Value} {ρ ρ0 : Rho} {H H0 H' : List b8} {F F0 : Fz} {w w0 w' : World} {W' : Nat → Prop} {up : List Value} {E : Env} {a : List b7} {s s' : St} {ac : Act} {x : b7} {o : Oper} {n : Nat}
structure I3 (P : Program) (WB K : Nat → Prop) (J : List Value → World → Prop) (n : Nat) (S : List Nat) (rv : Value) (DF : List Deferred → Prop) (ρ0 : Rho) (H0 : List b8) (F0 : Fz) (w0 : World) (s : St) (ac : Act) (w : World) : Prop where
 inv : he6 P WB K J n ρ0 H0 F0 w0 s ac w
 held : ∀ t ∈ S, ac.tmps[t]? = some rv
 df : DF ac.defers
theorem Ca8 {b : Bool} {so : SP} (h : (vb2 E a H (Jb3 b so)).run = some (x, H')) : b = true ∧ Jb3 b so = so := by
 cases b with
 | true => exact ⟨rfl, rfl⟩
 | false => cases h
theorem ac7 {pr : List Nat} {y : Operand} {p : Nat} (h : Kd1 pr y = some p) : y = .tmp p := by
 unfold Kd1 at h
 split at h
 ·split at h
  ·injection h with h; rw [h]
  ·cases h
 ·cases h
theorem ac8 {P : Program} {t : TypeId} {q : ne4} (h : Kd3 P t = some q) : P.underlying t = some (.map q.kt q.el) ∧ S8 P 9 q.kt = some q.fl ∧ agT P q.kt = true ∧ zb7 q.fl (szT P q.kt) = true := by
 unfold Kd3 at h
 split at h
 ·rename_i kt el hu
  split at h
  ·rename_i fl hf
   split at h
   ·rename_i hc
    injection h with h
    subst h
    rw [Bool.and_eq_true] at hc
    exact ⟨hu, hf, hc.1, hc.2⟩
   ·cases h
  ·cases h
 ·cases h
theorem Sb8 {k : Nat} (h : (!Nat.beq k 0) = true) : k ≠ 0 := fun e => by subst e; cases h
theorem VR.arel (hv : VR ρ H F w a (ac.tmps.toList ++ up)) (hn : ac.tmps.size = n) : la1 ρ (o6 H) F w (l0 (da3 H) (D6 a n)) ac.tmps := by
 have hl := hv.1
 have hsz : ac.tmps.toList.length = ac.tmps.size := Array.length_toList
 rw [List.length_append] at hl
 rw [l8, B8]
 refine ⟨by rw [List.length_map, List.length_take]; omega, fun i x x' hx hx' => ?_⟩
 rw [List.getElem?_map] at hx
 have hi : i < n := hn ▸ (Array.getElem?_eq_some_iff.1 hx').1
 rw [List.getElem?_take, if_pos hi] at hx
 cases hy : a[i]? with
 | none => rw [hy] at hx; cases hx
 | some y =>
  rw [hy] at hx
  injection hx with hx
  subst hx
  refine Kc6 (hv.2 i y x' hy ?_)
  rw [List.getElem?_append_left (by rw [Array.length_toList]; omega)]
  simpa using hx'
theorem Kd4 {px : PO} {ds : List Deferred} (hC : C2 E.P WB K J ρ0 H0 F0 w0 H ds w ρ F W' up) (hJ : ac0 K J)
  (hop : ∀ H1, (evalOp E (l0 (da3 H) (D6 a n)) (o6 H) px).run = some (x, H1) → j6 E.P o ac w (L9 W' ρ (o6 H) F w x H1)) (he : (vb2 E a H (.old n px)).run = some (x, H')) : j6 E.P o ac w (ub3 E.P WB K J ρ0 H0 F0 w0 ρ H F w up ds x H') := by
 obtain ⟨⟨x1, H1⟩, h1, h2⟩ := DT.run_bind_some (show ((evalOp E (l0 (da3 H) (D6 a n)) (o6 H) px).bind fun r => .guard (ic8 H r.2) (.ret (r.1, z9 H r.2))).run = some (x, H') from he)
 obtain ⟨hok, h2⟩ := DT.run_guard_some h2
 have h2 : some (x1, z9 H H1) = some (x, H') := h2
 injection h2 with h2; injection h2 with e1 e2; subst e1 e2
 intro next Q hp
 refine hop H1 h1 next Q fun x' w' ⟨ρ', F', k1, k2, k3⟩ => hp x' w' ?_
 obtain ⟨c1, c2⟩ := hC.step hJ k1 hok k2
 exact ⟨_, F', W', c1, c2, .w (pd1 k1 hok k3)⟩
theorem be3 {α : Type} {l : Array α} {a b : α} (h : l.toList = [a, b]) : l = #[a, b] := by
 apply Array.ext'
 simpa using h
theorem be4 {α : Type} {l : Array α} {a : α} (h : l.toList = [a]) : l = #[a] := by
 apply Array.ext'
 simpa using h
theorem ne6 {pr : List Nat} {so : SP} {ds : List Deferred} (hC : C2 E.P WB K J ρ0 H0 F0 w0 H ds w ρ F W' up) (hJ : ac0 K J) (hv : VR ρ H F w a (ac.tmps.toList ++ up)) (hn : ac.tmps.size = n) (hG : GOk E F w)
  (hs : cSp E.P n pr o = some so) (he : (vb2 E a H so).run = some (x, H')) : j6 E.P o ac w (ub3 E.P WB K J ρ0 H0 F0 w0 ρ H F w up ds x H') := by
 unfold cSp at hs
 split at hs
 ·rename_i t ho
  split at hs
  ·split at hs
   ·rename_i z hz
    injection hs with hs; subst hs
    exact Cd5 hC hJ ho hz he
   ·injection hs with hs; subst hs; cases he
  ·cases hs
 ·rename_i t y ho
  split at hs
  ·injection hs with hs; subst hs
   obtain ⟨h1, h2⟩ := Ca8 he
   rw [h2] at he
   exact Td7 hC hJ hv hn hG ho h1 he
  ·cases hs
 ·rename_i t y ho
  split at hs
  ·rename_i p hp
   injection hs with hs; subst hs
   obtain ⟨h1, h2⟩ := Ca8 he
   rw [h2] at he
   rw [Bool.and_eq_true] at h1
   rw [ac7 hp] at ho
   exact Jd3 hC hv hn hG ho h1.1 (fun e => by rw [e] at h1; cases h1.2) he
  ·cases hs
 ·rename_i t y z ho
  split at hs
  ·rename_i p hp
   injection hs with hs; subst hs
   obtain ⟨h1, h2⟩ := Ca8 he
   rw [h2] at he
   rw [Bool.and_eq_true, Bool.and_eq_true] at h1
   rw [ac7 hp] at ho
   exact Cd6 hC hJ hv hn hG ho h1.1.1 h1.1.2 (Sb8 h1.2) he
  ·cases hs
 ·rename_i st y f ho
  split at hs
  ·rename_i p hp
   split at hs
   ·rename_i fs hu
    split at hs
    ·rename_i fd hf
     injection hs with hs; subst hs
     obtain ⟨h1, h2⟩ := Ca8 he
     rw [h2] at he
     rw [Bool.and_eq_true] at h1
     rw [ac7 hp] at ho
     exact Td9 hC hv hn hG ho h1.1 hu hf (Sb8 h1.2) he
    ·injection hs with hs; subst hs; cases he
   ·injection hs with hs; subst hs; cases he
  ·cases hs
 ·rename_i t ho
  split at hs
  ·rename_i q hq
   injection hs with hs; subst hs
   obtain ⟨h1, h2, _, _⟩ := ac8 hq
   exact Jd9 hC hJ ho h1 h2 he
  ·injection hs with hs; subst hs; cases he
 ·rename_i t m y ho
  split at hs
  ·rename_i q hq
   injection hs with hs; subst hs
   obtain ⟨h1, h2, h3, h4⟩ := ac8 hq
   obtain ⟨k1, k2⟩ := Ca8 he
   rw [k2] at he
   rw [Bool.and_eq_true, Bool.and_eq_true] at k1
   exact Kd0 hC hv hn hG ho k1.1.1 k1.1.2 h1 h3 h2 h4 k1.2 he
  ·injection hs with hs; subst hs; cases he
 ·rename_i t m y z ho
  split at hs
  ·rename_i q hq
   injection hs with hs; subst hs
   obtain ⟨h1, h2, h3, h4⟩ := ac8 hq
   obtain ⟨k1, k2⟩ := Ca8 he
   rw [k2] at he
   rw [Bool.and_eq_true, Bool.and_eq_true] at k1
   exact Ud0 hC hJ hv hn hG ho k1.1.1 k1.1.2 k1.2 h1 h3 h2 h4 he
  ·injection hs with hs; subst hs; cases he
 ·rename_i c ho
  split at hs
  ·rename_i hcb
   split at hs
   ·split at hs
    ·rename_i y z t u hargs htys
     split at hs
     ·rename_i e hu
      injection hs with hs; subst hs
      obtain ⟨k1, k2⟩ := Ca8 he
      rw [k2] at he
      rw [Bool.and_eq_true, Nat.blt_eq] at k1
      have htu := Nat.eq_of_beq_eq_true k1.2
      subst htu
      obtain ⟨ti, hi, hi0, hi1⟩ := nc6 (Nat.ne_of_gt k1.1)
      refine Kd4 hC hJ (fun H1 h1 => ?_) he
      exact pc4 (hv.arel hn) hC.hrel hG ho hcb (be3 hargs) (be3 htys) hu hi (by omega) h1
     ·injection hs with hs; subst hs; cases he
    ·injection hs with hs; subst hs; cases he
   ·cases hs
  ·rename_i hcb
   split at hs
   ·rename_i y t hargs htys
    split at hs
    ·rename_i e hu
     split at hs
     ·rename_i z hz
      injection hs with hs; subst hs
      obtain ⟨k1, k2⟩ := Ca8 he
      rw [k2] at he
      rw [Nat.blt_eq] at k1
      refine Kd4 hC hJ (fun H1 h1 => ?_) he
      exact Ic9 (hv.arel hn) hC.hrel hG ho hcb (be4 hargs) (be4 htys) hu hz k1 h1
     ·injection hs with hs; subst hs; cases he
    ·injection hs with hs; subst hs; cases he
   ·injection hs with hs; subst hs; cases he
  ·cases hs
 ·cases hs
theorem VR.putA (hv : VR ρ H F w a (ac.tmps.toList ++ up)) (hn : ac.tmps.size = n) {dst : Option Nat} (hd : dOk n dst = true) {x' : Value} (hx : XW ρ H F w x x') : VR ρ H F w (Ev.putA a dst x) ((ac.put dst x').tmps.toList ++ up) := by
 rw [Eb9]
 cases dst with
 | none => exact hv
 | some d =>
  have hd : d < n := by have := hd; unfold dOk at this; rwa [Nat.blt_eq] at this
  have e : (ac.put (some d) x').tmps.toList ++ up = (ac.tmps.toList ++ up).set d x' := by
   rw [List.set_append_left _ _ (by rw [Array.length_toList]; omega)]
   simp [Act.put]
  rw [e]
  refine ⟨by simp only [List.length_set]; exact hv.1, fun i y y' hy hy' => ?_⟩
  rw [List.getElem?_set] at hy hy'
  by_cases hi : d = i
  ·subst hi
   have hl : d < (ac.tmps.toList ++ up).length := by rw [List.length_append, Array.length_toList]; omega
   rw [if_pos rfl, if_pos (hv.1 ▸ hl)] at hy
   rw [if_pos rfl, if_pos hl] at hy'
   injection hy with hy; injection hy' with hy'
   subst hy hy'
   exact hx
  ·rw [if_neg hi] at hy hy'
   exact hv.2 i y y' hy hy'
theorem VR.tr {vs : List Value} {ρ' : Rho} {F' : Fz} (hv : VR ρ H F w a vs) (ht : Tr ρ H F w ρ' H' F' w') : VR ρ' H' F' w' a vs := ⟨hv.1, fun i x x' hx hx' => ht _ _ (hv.2 i x x' hx hx')⟩
theorem VR.at (hv : VR ρ H F w a (ac.tmps.toList ++ up)) (hn : ac.tmps.size = n) {t : Nat} (ht : t < n) : ∃ x', ac.tmps[t]? = some x' ∧ XW ρ H F w (c7 E a (.t t)) x' := by
 have hl := hv.1
 have hsz : ac.tmps.toList.length = ac.tmps.size := Array.length_toList
 rw [List.length_append] at hl
 have h1 : t < a.length := by omega
 have h2 : t < ac.tmps.size := by omega
 refine ⟨ac.tmps[t], by simp [h2], ?_⟩
 rw [Va2, List.getElem?_eq_getElem h1]
 refine hv.2 t _ _ (List.getElem?_eq_getElem h1) ?_
 rw [List.getElem?_append_left (by rw [Array.length_toList]; exact h2)]
 simp [h2]
theorem Jb4 {ops : Array Oper} {g : Option (Nat × Bool)} {d : St → DT St} (hg : Z8 ops o = some g) (hgn : gOk n g = true) (hv : VR ρ H F w s.a (ac.tmps.toList ++ up)) (hn : ac.tmps.size = n) (he : (nc0 E s o.dst g d).run = some s') :
  (Region.wanted o (yielded ops ac.tmps) = true ∧ (d s).run = some s') ∨ (Region.wanted o (yielded ops ac.tmps) = false ∧ s' = ⟨putA s.a o.dst (.v (.tuple #[])), s.H⟩) := by
 unfold Z8 at hg
 unfold Region.wanted
 cases hgo : o.guard with
 | none =>
  simp only [hgo] at hg ⊢
  injection hg with hg
  subst hg
  exact .inl ⟨trivial, he⟩
 | some jw =>
  obtain ⟨j, want⟩ := jw
  simp only [hgo] at hg ⊢
  cases hj : ops[j]? with
  | none => simp [hj] at hg
  | some oj =>
  simp only [hj] at hg
  cases hd : oj.dst with
  | none => simp [hd] at hg
  | some dd =>
  simp only [hd] at hg
  injection hg with hg
  subst hg
  have hdn : dd < n := by have := hgn; unfold gOk at this; rwa [Nat.blt_eq] at this
  obtain ⟨u', hu1, hu2⟩ := hv.at (E := E) hn hdn
  have he' : (match c7 E s.a (.t dd) with
   | .v (.bool b) => Bool.rec (motive := fun _ => DT St)
     (.ite b (.ret ⟨putA (setAt s.a dd (.v (.bool true))) o.dst (.v (.tuple #[])), s.H⟩) (d ⟨setAt s.a dd (.v (.bool false)), s.H⟩))
     (.ite b (d ⟨setAt s.a dd (.v (.bool true)), s.H⟩) (.ret ⟨putA (setAt s.a dd (.v (.bool false))) o.dst (.v (.tuple #[])), s.H⟩)) want
   | .v (.tuple _) => .ret ⟨putA s.a o.dst (.v (.tuple #[])), s.H⟩
   | _ => .fail).run = some s' := he
  have hset : ∀ b, c7 E s.a (.t dd) = .v (.bool b) → setAt s.a dd (.v (.bool b)) = s.a := fun b h => ad4 (E := E) (by simp) h
  revert he' hu2 hset
  generalize c7 E s.a (.t dd) = u
  intro hu2 he' hset
  split at he'
  ·rename_i b
   have hb := Cd7 hu2
   subst hb
   rw [pb4 hj hd hu1]
   have hs := hset b rfl
   cases want <;> cases b
   ·rw [hs] at he'; exact .inl ⟨rfl, he'⟩
   ·refine .inr ⟨rfl, ?_⟩
    rw [hs] at he'
    exact (Option.some.inj he').symm
   ·refine .inr ⟨rfl, ?_⟩
    rw [hs] at he'
    exact (Option.some.inj he').symm
   ·rw [hs] at he'; exact .inl ⟨rfl, he'⟩
  ·rename_i vs
   have hb := Cd7 hu2
   subst hb
   rw [ib7 hj hd hu1]
   exact .inr ⟨rfl, (Option.some.inj he').symm⟩
  ·cases he'
theorem mb6 {dst : Option Nat} {v : Value} (h : ∀ t ∈ S, ac.tmps[t]? = some rv) : ∀ t ∈ rmD S dst, (ac.put dst v).tmps[t]? = some rv := by
 intro t ht
 cases dst with
 | none => exact h t ht
 | some d =>
  simp only [rmD, List.mem_filter] at ht
  rw [tc3 fun e => by injection e with e; subst e; simp at ht]
  exact h t ht.1
theorem he9 {Fe : Fence} {m i : Nat} {pr : List Nat} {so : SP} {g : Option (Nat × Bool)} {ops : Array Oper} {rest : List Nat} {Q : Exit → Act → World → Prop} (hF : FW Fe) (hG0 : GOk E F0 w0) (hJ : ac0 K J) (hi : ops[i]? = some o)
  (hs : cSp E.P n pr o = some so) (hg : Z8 ops o = some g) (hgn : gOk n g = true) (hdn : dOk n o.dst = true) (hI : I3 E.P WB K J n S rv DF ρ0 H0 F0 w0 s ac w) (he : (ld3 E s o.dst g so).run = some s')
  (hQ : ∀ ac' w', I3 E.P WB K J n (rmD S o.dst) rv DF ρ0 H0 F0 w0 s' ac' w' → wpOpsIn Fe m E.P ops Q rest ac' w') : wpOpsIn Fe m E.P ops Q (i :: rest) ac w := by
 obtain ⟨⟨ρ, F, W', up, hI2⟩, hheld, hdf⟩ := hI
 simp only [wpOpsIn, hi]
 rcases Jb4 hg hgn hI2.vals hI2.size he with ⟨hw, he⟩ | ⟨hw, rfl⟩
 ·rw [if_pos hw]
  obtain ⟨⟨x, H'⟩, h1, h2⟩ := DT.run_bind_some he
  have h2 : some (⟨putA s.a o.dst x, H'⟩ : St) = some s' := h2
  injection h2 with h2
  subst h2
  have hop := ne6 (ac := { ac with defers := [] }) (ds := ac.defers) hI2.core hJ hI2.vals hI2.size (hG0.adv hI2.core.adv) hs h1
  refine hop.inAny hF m _ _ fun x' w' hp => ?_
  obtain ⟨ρ', F', W'', c1, c2, c3⟩ := hp
  exact hQ _ _ ⟨⟨ρ', F', W'', up, by rw [y8]; exact c1, (hI2.vals.tr c2).putA hI2.size hdn c3, (xa7 _ _).trans hI2.size⟩, mb6 hheld, by rw [y8]; exact hdf⟩
 ·rw [if_neg (by simp [hw])]
  refine ⟨fun f _ => hF.fn f, hQ _ _ ⟨⟨ρ, F, W', up, by rw [y8]; exact hI2.core, hI2.vals.putA hI2.size hdn (.w (.ofv _)), (xa7 _ _).trans hI2.size⟩, mb6 hheld, by rw [y8]; exact hdf⟩⟩
theorem Kd5 {Fe : Fence} {m i d k : Nat} {ops : Array Oper} {rest : List Nat} {Q : Exit → Act → World → Prop} {xx : d7} (hF : FW Fe) (hG0 : GOk E F0 w0) (hcalls : ∀ f, i5 E.P E.G f (E.call f)) (hJ : ac0 K J) (hi : ops[i]? = some o)
  (hc : tc5 S o = some d) (hdn : d < n) (hI : I3 E.P WB K J n S rv DF ρ0 H0 F0 w0 s ac w) (he : (K2 E k (.mask n [d] (.ops [⟨some d, none, [], .mv (.c .unk)⟩])) s).run = some (xx, s'))
  (hQ : xx = .normal → ∀ ac' w', I3 E.P WB K J n (d :: S) rv DF ρ0 H0 F0 w0 s' ac' w' → wpOpsIn Fe m E.P ops Q rest ac' w') : wpOpsIn Fe m E.P ops Q (i :: rest) ac w := by
 obtain ⟨⟨ρ, F, W', up, hI2⟩, hheld, hdf⟩ := hI
 unfold tc5 at hc
 split at hc
 case h_2 => cases hc
 rename_i t d' ho hg hd
 split at hc
 case isFalse => cases hc
 rename_i hS
 injection hc with hc
 subst hc
 have hS : t ∈ S := by simpa using hS
 have ht := hheld t hS
 simp only [wpOpsIn, hi]
 have hw : Region.wanted o (yielded ops ac.tmps) = true := by simp [Region.wanted, hg]
 rw [if_pos hw]
 have hop : j6 E.P o { ac with defers := [] } w (fun v w' => v = rv ∧ w' = w) := by
  have hev : ({ ac with defers := [] } : Act).eval (.tmp t) = rv := by
   show ac.tmps.getD t undef = rv
   have hlt := (Array.getElem?_eq_some_iff.1 ht).1
   have := (Array.getElem?_eq_some_iff.1 ht).2
   simp [Array.getD, hlt, this]
  exact .value (x' := rv) (w' := w) (by simp [execOp, ho, hev]) ⟨rfl, rfl⟩
 refine hop.inAny hF m _ _ fun v w' hp => ?_
 obtain ⟨rfl, rfl⟩ := hp
 have he' : ((K2 E k (.ops [⟨some d', none, [], .mv (.c .unk)⟩]) ⟨l0 (da3 s.H) (D6 s.a n), o6 s.H⟩).bind fun r => .guard (ic8 s.H r.2.H) (.ret (r.1, ⟨Aa1 [d'] s.a r.2.a 0, z9 s.H r.2.H⟩))).run = some (xx, s') := he
 obtain ⟨⟨x1, s1⟩, h1, h2⟩ := DT.run_bind_some he'
 obtain ⟨hok, h2⟩ := DT.run_guard_some h2
 have h1 : some (d7.normal, (⟨putA (l0 (da3 s.H) (D6 s.a n)) (some d') .unk, o6 s.H⟩ : St)) = some (x1, s1) := h1
 injection h1 with h1; injection h1 with e1 e2; subst e1 e2
 have h2 : some (d7.normal, (⟨Aa1 [d'] s.a (putA (l0 (da3 s.H) (D6 s.a n)) (some d') .unk) 0, z9 s.H (o6 s.H)⟩ : St)) = some (xx, s') := h2
 injection h2 with h2; injection h2 with e1 e2; subst e1 e2
 obtain ⟨c1, c2⟩ := hI2.core.step hJ .refl hok hI2.core.hrel
 refine hQ rfl _ _ ⟨⟨_, F, W', up, by rw [y8]; exact c1, ⟨by rw [zb6]; have := hI2.vals.1; rw [List.length_append, Array.length_toList] at this ⊢; rw [xa7]; exact this, fun i y y' hy hy' => ?_⟩, (xa7 _ _).trans hI2.size⟩, fun u hu => ?_, by rw [y8]; exact hdf⟩
 ·simp only at hy
  rw [zb5] at hy
  cases hz : s.a[i]? with
  | none => rw [hz] at hy; cases hy
  | some z =>
   rw [hz] at hy
   injection hy with hy
   rw [Nat.zero_add] at hy
   by_cases hid : i = d'
   ·subst hid
    have hm : Na0 i [i] = true := (tc4 _ _).2 (by simp)
    rw [hm] at hy
    have hy : ((putA (l0 (da3 s.H) (D6 s.a n)) (some i) .unk)[i]?).getD .unk = y := hy
    rw [Eb9] at hy
    simp only [List.getElem?_set] at hy
    have : y = .unk := by
     rw [← hy]
     simp only [if_true]
     split <;> rfl
    subst this
    exact .w (.unk _)
   ·have hm : Na0 i [d'] = false := by
     cases h : Na0 i [d'] with
     | false => rfl
     | true => exact absurd (by simpa using (tc4 _ _).1 h) hid
    rw [hm] at hy
    have hy : z = y := hy
    subst hy
    refine c2 _ _ (hI2.vals.2 i z y' hz ?_)
    rw [hd] at hy'
    simpa [Act.put, List.getElem?_append, Array.getElem?_setIfInBounds_ne, Ne.symm hid] using hy'
 ·by_cases hud : u = d'
  ·subst hud
   rw [hd]
   have hlt : u < ac.tmps.size := by have := hI2.size; omega
   simp [Act.put, hlt]
  ·rw [tc3 (fun e => hud (by rw [hd] at e; injection e with e; exact e.symm))]
   have : u ∈ S := by simpa [hud] using hu
   exact hheld u this
end
end Go.Ev
namespace Go.Ev
open Go
section
variable {P : Program} {k : Nat} {WB K : Nat → Prop} {J : List Value → World → Prop} {DF : List Deferred → Prop} {S : List Nat} {rv : Value} {ρ ρ0 : Rho} {H H0 H2 : List b8} {F F0 : Fz} {w w0 : World} {W' : Nat → Prop} {up : List Value} {E : Env} {R : List Nat} {n : Nat}
noncomputable def Kd6 (H : List b8) (x : b7) (r : List Nat) : List Nat := match x with
 | .ptr id _ _ g => match blkAt H id g with
  | some _ => (qa8 r id).2
  | none => r
 | .sl id _ _ g => match blkAt H id g with
  | some _ => (qa8 r id).2
  | none => r
 | _ => r
theorem Kd7 (H : List b8) (x : b7) (r : List Nat) (hr : TOk k r) : TOk k (Kd6 H x r) ∧ TLe r (Kd6 H x r) := by
 have step : ∀ id, TOk k (qa8 r id).2 ∧ TLe r (qa8 r id).2 := fun id => by
  obtain ⟨h1, h2, _⟩ := hr.idx (id := id) (j := (qa8 r id).1) (r := (qa8 r id).2) rfl
  exact ⟨h1, h2⟩
 unfold Kd6
 split
 ·split
  ·exact step _
  ·exact ⟨hr, .refl _⟩
 ·split
  ·exact step _
  ·exact ⟨hr, .refl _⟩
 ·exact ⟨hr, .refl _⟩
theorem dd1 (H : List b8) : ∀ (cs : List b7) (r : List Nat), TOk k r → TOk k (td2 H cs r) ∧ TLe r (td2 H cs r)
 | [], r, hr => ⟨hr, .refl _⟩
 | x :: cs, r, hr => by
  have hx := Kd7 H x r hr
  obtain ⟨h1, h2⟩ := dd1 H cs _ hx.1
  exact ⟨h1, hx.2.trans h2⟩
noncomputable def Kd8 (H : List b8) (id : Nat) (r : List Nat) : List Nat := match nth H id with
 | some b => match A1 b && Nat.beq b.et 0 with
  | true => td2 H (d9 b.elems 0) r
  | false => r
 | none => r
theorem Kd9 (H : List b8) (id : Nat) (r : List Nat) (hr : TOk k r) : TOk k (Kd8 H id r) ∧ TLe r (Kd8 H id r) := by
 unfold Kd8
 split
 ·split
  ·exact dd1 H _ r hr
  ·exact ⟨hr, .refl _⟩
 ·exact ⟨hr, .refl _⟩
theorem dd2 (H : List b8) : ∀ (ids : List Nat) (r : List Nat), TOk k r → TOk k (Ic1 H ids r) ∧ TLe r (Ic1 H ids r)
 | [], r, hr => ⟨hr, .refl _⟩
 | id :: ids, r, hr => by
  have hx := Kd9 H id r hr
  obtain ⟨h1, h2⟩ := dd2 H ids _ hx.1
  exact ⟨h1, hx.2.trans h2⟩
noncomputable def vd2 (b : b8) : b8 := Bool.rec (motive := fun _ => b8) b { b with dead := true } (A1 b)
theorem ac9 (H : List b8) : o6 H = H.map vd2 := Za4 H
theorem qb3 : ∀ {R : List Nat} {j : Nat} {H2 : List b8}, xa4 k H j R = some H2 → xa4 k (o6 H) j R = some (o6 H2)
 | [], j, H2, h => by
  simp only [xa4] at h ⊢
  injection h with h
  subst h
  rfl
 | id :: R, j, H2, h => by
  simp only [xa4, y6] at h ⊢
  cases hb : H[id]? with
  | none => simp [hb] at h
  | some b =>
  simp only [hb] at h
  cases hr : xa4 k H (j + 1) R with
  | none => simp [hr] at h
  | some l =>
  simp only [hr] at h
  injection h with h
  subst h
  have e : (o6 H)[id]? = some (vd2 b) := by rw [ac9, List.getElem?_map, hb]; rfl
  rw [e, qb3 hr]
  simp only [ac9, List.map_cons]
  congr 2
  unfold vd2
  cases Nat.blt j k <;> cases hs : A1 b <;> simp [A1] at hs ⊢ <;> simp [hs]
theorem Ud2 (x : b7) : TC k H R x (Fd6 k H R x) := by
 unfold Fd6
 split
 ·rename_i id i c g
  split
  ·rename_i b hb
   split
   ·rename_i j hj
    have := (Va3 R 0 id j hj).2
    exact .ptr id i c g j b hb (by simpa using this)
   ·exact .unk _
  ·exact .unk _
 ·rename_i id off n g
  split
  ·rename_i b hb
   split
   ·rename_i j hj
    have := (Va3 R 0 id j hj).2
    exact .sl id off n g j b hb (by simpa using this)
   ·exact .unk _
  ·exact .unk _
 ·rename_i h1 h2
  refine .same x ?_
  cases x <;> first | exact trivial | (exact (h1 _ _ _ _ rfl).elim) | (exact (h2 _ _ _ _ rfl).elim)
theorem oc2 {x z : b7} {x' : Value} (h : TC k H R x z) (hx : U2 ρ (o6 H) F w x x') : TC k (o6 H) R x z := by
 cases h with
 | unk => exact .unk _
 | ptr id i c g j b hb hj =>
  obtain ⟨hb1, hd1, hg1⟩ := r9 hb
  obtain ⟨ad, b2, e, m1, m2, m3, m4⟩ := Ea3 (.val (.cell hx))
  obtain ⟨n1, n2⟩ := fa8 m1 m2
  have : b2 = b := Option.some.inj (n1.symm.trans hb1)
  subst this
  exact .ptr id i c g j b2 (by unfold blkAt; simp only [y6, m1, m2, hg1]; simp) hj
 | sl id off n g j b hb hj =>
  obtain ⟨hb1, hd1, hg1⟩ := r9 hb
  obtain ⟨ad, cap, b2, e, m1, m2, m3, _⟩ := Ba7 (.val (.cell hx))
  obtain ⟨n1, n2⟩ := fa8 m1 m2
  have : b2 = b := Option.some.inj (n1.symm.trans hb1)
  subst this
  exact .sl id off n g j b2 (by unfold blkAt; simp only [y6, m1, m2, hg1]; simp) hj
 | same x h => exact .same x h
theorem vd3 {x z : b7} {x' : Value} (h : TV k H R x z) (hx : W0 ρ (o6 H) F w x x') : TV k (o6 H) R x z := by
 cases h with
 | cell hb h =>
  cases hx with
  | cell hx => exact .cell hb (oc2 h hx)
  | _ => cases hb
 | agg cs ds hl h =>
  obtain ⟨vs, e, hl2, h2⟩ := Aa2 (.val hx)
  refine .agg cs ds hl fun i x z hx hz => ?_
  have hi : i < vs.size := hl2 ▸ (List.getElem?_eq_some_iff.1 hx).1
  exact oc2 (h i x z hx hz) (h2 i x _ hx (Array.getElem?_eq_getElem hi))
 | fn f cs ds hl h =>
  obtain ⟨vs, e, hl2, h2⟩ := pb1 (.val hx)
  refine .fn f cs ds hl fun i x z hx hz => ?_
  have hi : i < vs.size := hl2 ▸ (List.getElem?_eq_some_iff.1 hx).1
  exact oc2 (h i x z hx hz) (h2 i x _ hx (Array.getElem?_eq_getElem hi))
 | tup l => exact .tup l
theorem Ud3 {x z : b7} {x' : Value} (h : TW k H R x z) (hx : z8 ρ (o6 H) F w x x') : TW k (o6 H) R x z := by
 cases h with
 | val hn h =>
  cases hx with
  | val hx => exact .val hn (vd3 h hx)
  | tup cs vs hl h2 => exact absurd rfl (hn cs)
 | tup cs ds hl h =>
  obtain ⟨vs, e, hl2, h2⟩ := Oc6 hx
  refine .tup cs ds hl fun i x z hx hz => ?_
  have hi : i < vs.size := hl2 ▸ (List.getElem?_eq_some_iff.1 hx).1
  exact vd3 (h i x z hx hz) (h2 i x _ hx (Array.getElem?_eq_getElem hi))
theorem Kc9 {b : b8} (h : A1 b = false) : Ea1 k H R b = b := by unfold Ea1; rw [h]; rfl
theorem qb4 (b : b8) : (Ea1 k H R b).et = b.et ∧ (Ea1 k H R b).es = b.es ∧ (Ea1 k H R b).dead = b.dead ∧ (Ea1 k H R b).g = b.g ∧ (Ea1 k H R b).elems.length = b.elems.length ∧ A1 (Ea1 k H R b) = A1 b := by
 unfold Ea1
 cases A1 b && Nat.beq b.et 0
 ·exact ⟨rfl, rfl, rfl, rfl, rfl, rfl⟩
 ·refine ⟨rfl, rfl, rfl, rfl, by simp [l8], rfl⟩
section
variable (hR : TOk k R) (hb : xa4 k H 0 R = some H2)
include hR hb
theorem Rc5 {j : Nat} {c : b8} (hc : (l0 (Ea1 k H R) H2)[j]? = some c) : ∃ id b, R[j]? = some id ∧ (R[j]?).getD 0 = id ∧ H[id]? = some b ∧ c = Ea1 k H R (reG k j b) := by
 rw [l8, List.getElem?_map] at hc
 cases h : H2[j]? with
 | none => rw [h] at hc; cases hc
 | some c2 =>
  rw [h] at hc
  injection hc with hc
  obtain ⟨id, b, h1, h2, h3, h4⟩ := Qb6 hb h
  exact ⟨id, b, h1, h2, h3, by rw [← hc, h4]⟩
theorem Ld0 {j id : Nat} {b : b8} (hj : R[j]? = some id) (hid : H[id]? = some b) : (l0 (Ea1 k H R) H2)[j]? = some (Ea1 k H R (reG k j b)) := by
 obtain ⟨_, hat⟩ := xb8 hb
 obtain ⟨b', h1, h2⟩ := hat j id hj
 have : b' = b := Option.some.inj (h1.symm.trans hid)
 subst this
 rw [Nat.zero_add] at h2
 rw [l8, List.getElem?_map, h2]
 rfl
theorem tc6 (j : Nat) (b : b8) : A1 (reG k j b) = A1 b := by unfold A1; rw [Ya8]
theorem Lc0 : Kc1 (fun j => ρ ((R[j]?).getD 0)) (o6 H2) (fun j => ρ ((R[j]?).getD 0)) (o6 (l0 (Ea1 k H R) H2)) := fun j b hb' hd => by
 obtain ⟨h1, h2⟩ := fa8 hb' hd
 refine ⟨b, ca6 ?_ h2, hd, Nat.le_refl _, fun _ => ⟨rfl, rfl, Nat.le_refl _⟩⟩
 rw [l8, List.getElem?_map, h1]
 simp [Kc9 h2]
theorem ne7 {x z : b7} {x' : Value} (h : TC k H R x z) (hx : U2 ρ (o6 H) F w x x') : U2 (fun j => ρ ((R[j]?).getD 0)) (o6 (l0 (Ea1 k H R) H2)) F w z x' :=
 (Eb8 (qb3 hb) (oc2 h hx) hx).carry (Lc0 hR hb) (fun _ _ h => h) (fun _ _ _ => rfl)
theorem be5 {x z : b7} {x' : Value} (h : TW k H R x z) (hx : z8 ρ (o6 H) F w x x') : z8 (fun j => ρ ((R[j]?).getD 0)) (o6 (l0 (Ea1 k H R) H2)) F w z x' :=
 (Pc5 (qb3 hb) (Ud3 h hx) hx).carry (Lc0 hR hb) (fun _ _ h => h) (fun _ _ _ => rfl)
theorem pd4 {x z : b7} {x' : Value} (h : TC k H R x z) (hx : XC ρ H F w x x') : XW (fun j => ρ ((R[j]?).getD 0)) (l0 (Ea1 k H R) H2) F w z x' ∧ (XC (fun j => ρ ((R[j]?).getD 0)) (l0 (Ea1 k H R) H2) F w z x') := by
 have main : XC (fun j => ρ ((R[j]?).getD 0)) (l0 (Ea1 k H R) H2) F w z x' := by
  cases hx with
  | n hx => exact .n (ne7 hR hb h hx)
  | box id c g b hb1 hd he =>
   cases h with
   | unk => exact .n (.unk _)
   | ptr _ _ _ _ j b2 hb2 hj =>
    have e : ρ id = (fun j => ρ ((R[j]?).getD 0)) j := by simp [hj]
    rw [e]
    obtain ⟨q1, q2, q3, q4, q5, q6⟩ := qb4 (k := k) (H := H) (R := R) (reG k j b)
    exact .box j c _ _ (Ld0 hR hb hj hb1) (by rw [q3, xa5]; exact hd) ⟨by rw [q2, Ya8]; exact he.1, by rw [q1, Lb8]; exact he.2⟩
   | same _ hs => exact hs.elim
  | map id c g b t hb1 hd he =>
   cases h with
   | unk => exact .n (.unk _)
   | ptr _ _ _ _ j b2 hb2 hj =>
    have e : ρ id = (fun j => ρ ((R[j]?).getD 0)) j := by simp [hj]
    rw [e]
    obtain ⟨q1, q2, q3, q4, q5, q6⟩ := qb4 (k := k) (H := H) (R := R) (reG k j b)
    exact .map j c _ _ t (Ld0 hR hb hj hb1) (by rw [q3, xa5]; exact hd) ⟨by rw [q2, Ya8]; exact he.1, by rw [q1, Lb8]; exact he.2⟩
   | same _ hs => exact hs.elim
 exact ⟨.c main, main⟩
theorem ie0 {x z : b7} {x' : Value} (h : TW k H R x z) (hx : XW ρ H F w x x') : XW (fun j => ρ ((R[j]?).getD 0)) (l0 (Ea1 k H R) H2) F w z x' := by
 cases hx with
 | w hx => exact .w (be5 hR hb h hx)
 | c hx =>
  have hx0 := hx
  cases hx with
  | n hx => exact .w (be5 hR hb h (.val (.cell hx)))
  | box =>
   cases h with
   | val _ h => cases h with
    | cell _ h => exact (pd4 hR hb h hx0).1
  | map =>
   cases h with
   | val _ h => cases h with
    | cell _ h => exact (pd4 hR hb h hx0).1
theorem Ld1 (h : Id7 P WB W' ρ H F w) : Id7 P WB W' (fun j => ρ ((R[j]?).getD 0)) (l0 (Ea1 k H R) H2) F w := by
 refine ⟨fun j c hc hs hd => ?_, fun j j' c c' hc hc' hs hs' hd hd' hne => ?_⟩
 ·obtain ⟨id, b, h1, h2, h3, h4⟩ := Rc5 hR hb hc
  subst h4
  obtain ⟨q1, q2, q3, q4, q5, q6⟩ := qb4 (k := k) (H := H) (R := R) (reG k j b)
  rw [q6, tc6 hR hb] at hs
  rw [q3, xa5] at hd
  obtain ⟨k1, k2, k3, k4, k5⟩ := h.has id b h3 hs hd
  simp only [h2]
  refine ⟨k1, k2, k3, k4, ?_⟩
  rcases k5 with ⟨e, row, vs, t, m1, m2, m3, m4⟩ | ⟨t, K, El, fl, es, clk, m1, m2, m3, m4, m5, m6⟩
  ·refine .inl ⟨⟨by rw [q2, Ya8]; exact e.1, by rw [q1, Lb8]; exact e.2⟩, row.map (Fd6 k H R), vs, t, ?_, m2, by simpa using m3, fun i z x' hz hx' => ?_⟩
   ·unfold Ea1
    have : (A1 (reG k j b) && Nat.beq (reG k j b).et 0) = true := by rw [tc6 hR hb, hs, Lb8, e.2]; rfl
    rw [this]
    show l0 (l0 (Fd6 k H R)) (reG k j b).elems = _
    rw [Ca6, m1, l8]
    simp [l8]
   ·rw [List.getElem?_map] at hz
    cases hq : row[i]? with
    | none => rw [hq] at hz; cases hz
    | some q =>
     rw [hq] at hz
     injection hz with hz
     subst hz
     obtain ⟨g1, g2⟩ := m4 i q x' hq hx'
     exact ⟨g1, (pd4 hR hb (Ud2 q) g2).2⟩
  ·have hnb : Ea1 k H R (reG k j b) = reG k j b := by
    unfold Ea1
    have : (A1 (reG k j b) && Nat.beq (reG k j b).et 0) = false := by
     rw [Lb8, m1.2, Bool.and_eq_false_iff]; exact .inr rfl
    rw [this]
   rw [hnb]
   exact .inr ⟨t, K, El, fl, es, clk, ⟨by rw [Ya8]; exact m1.1, by rw [Lb8]; exact m1.2⟩, m2, m3, m4, by rw [Ca6]; exact m5, by rw [Ca6]; exact m6⟩
 ·obtain ⟨id, b, h1, h2, h3, h4⟩ := Rc5 hR hb hc
  obtain ⟨id', b', h1', h2', h3', h4'⟩ := Rc5 hR hb hc'
  subst h4 h4'
  obtain ⟨_, _, q3, _, _, q6⟩ := qb4 (k := k) (H := H) (R := R) (reG k j b)
  obtain ⟨_, _, q3', _, _, q6'⟩ := qb4 (k := k) (H := H) (R := R) (reG k j' b')
  rw [q6, tc6 hR hb] at hs
  rw [q6', tc6 hR hb] at hs'
  rw [q3, xa5] at hd
  rw [q3', xa5] at hd'
  simp only [h2, h2']
  refine h.apart id id' b b' h3 h3' hs hs' hd hd' fun e => hne ?_
  subst e
  obtain ⟨a1, a2⟩ := List.getElem?_eq_some_iff.1 h1
  obtain ⟨b1, b2⟩ := List.getElem?_eq_some_iff.1 h1'
  exact (List.getElem_inj hR.nodup).1 (a2.trans b2.symm)
end
theorem ie1 {ds : List Deferred} (hR : TOk H0.length R) (hb : xa4 H0.length H 0 R = some H2) (h : C2 P WB K J ρ0 H0 F0 w0 H ds w ρ F W' up) : C2 P WB K J ρ0 H0 F0 w0 (l0 (Ea1 H0.length H R) H2) ds w (fun j => ρ ((R[j]?).getD 0)) F W' up := by
 have hAd := Qb7 hR hb h.adv
 have hat : ∀ (j : Nat) c, H2[j]? = some c → (l0 (Ea1 H0.length H R) H2)[j]? = some (Ea1 H0.length H R c) := fun j c hc => by rw [l8, List.getElem?_map, hc]; rfl
 refine ⟨h.sub, ⟨hAd.ext, fun id b hid => ?_, hAd.more, hAd.new, fun id b' hb' hn => ?_⟩, ?_, Ld1 hR hb h.srel, h.kept, fun j c hc hs hd => ?_, h.jot, h.marks⟩
 ·obtain ⟨b', k1, k2, k3, k4⟩ := hAd.heap id b hid
  obtain ⟨q1, q2, q3, q4, q5, q6⟩ := qb4 (k := H0.length) (H := H) (R := R) b'
  exact ⟨_, hat id b' k1, q3.trans k2, by rw [q4]; exact k3, fun hg => by rw [q2, q5]; exact k4 (q4 ▸ hg)⟩
 ·rw [l8, List.getElem?_map] at hb'
  cases hq : H2[id]? with
  | none => rw [hq] at hb'; cases hb'
  | some c =>
   rw [hq] at hb'
   injection hb' with hb'
   subst hb'
   obtain ⟨_, _, _, q4, _, _⟩ := qb4 (k := H0.length) (H := H) (R := R) c
   exact hAd.fresh id c hq fun b hb1 => by rw [← q4]; exact hn b hb1
 ·refine (Eb7 hR h.hrel (qb3 hb)).pull (fun i => i) (fun i b hb1 hd => ?_) (fun _ _ _ _ _ _ _ _ e => e)
  obtain ⟨h1, h2⟩ := fa8 hb1 hd
  rw [l8, List.getElem?_map] at h1
  cases hq : H2[i]? with
  | none => rw [hq] at h1; cases h1
  | some c =>
   rw [hq] at h1
   injection h1 with h1
   have hsc : A1 c = false := by
    obtain ⟨_, _, _, _, _, q6⟩ := qb4 (k := H0.length) (H := H) (R := R) c
    rw [← q6, h1]; exact h2
   rw [Kc9 hsc] at h1
   subst h1
   exact ⟨ca6 hq hsc, rfl⟩
 ·obtain ⟨id, b, h1, h2, h3, h4⟩ := Rc5 hR hb hc
  subst h4
  obtain ⟨_, _, q3, _, _, q6⟩ := qb4 (k := H0.length) (H := H) (R := R) (reG H0.length j b)
  rw [q6, tc6 hR hb] at hs
  rw [q3, xa5] at hd
  simp only [h2]
  exact h.far id b h3 hs hd
theorem I3.tidyM {s s' : St} {ac : Act} {keep : List Nat} (h : I3 P WB K J n S rv DF ρ0 H0 F0 w0 s ac w) (he : (Ev.tidyM H0.length ⟨I4 keep s.a 0, s.H⟩).run = some s') : I3 P WB K J n S rv DF ρ0 H0 F0 w0 s' ac w := by
 obtain ⟨⟨ρ, F, W', up, hI⟩, hheld, hdf⟩ := h
 unfold Ev.tidyM at he
 cases ht : Pb2 H0.length s.H (I4 keep s.a 0) (List.range H0.length) with
 | mk a roots =>
 simp only [ht] at he
 cases hb : xa4 H0.length s.H 0 (Ic1 s.H roots roots) with
 | none => simp [hb] at he
 | some H2 =>
 simp only [hb] at he
 have he' : some (⟨a, l0 (Ea1 H0.length s.H (Ic1 s.H roots roots)) H2⟩ : St) = some s' := he
 injection he' with he'
 subst he'
 obtain ⟨k1, _, k3, k4⟩ := qc4 (TOk.start _) ht
 obtain ⟨m1, m2⟩ := dd2 s.H roots roots k1
 obtain ⟨g1, g2⟩ := xb9 keep s.a 0
 refine ⟨⟨_, F, W', up, ie1 m1 hb hI.core, ⟨(k3.trans g1).trans hI.vals.1, fun i x x' hx hx' => ?_⟩, hI.size⟩, hheld, hdf⟩
 have hi : i < (I4 keep s.a 0).length := k3 ▸ (List.getElem?_eq_some_iff.1 hx).1
 have hk := k4 i _ x (List.getElem?_eq_getElem hi) hx
 refine ie0 m1 hb (hk.le m2) ?_
 rcases g2 i _ (List.getElem?_eq_getElem hi) with e | e
 ·rw [e]; exact .w (.unk _)
 ·exact hI.vals.2 i _ x' e hx'
end
end Go.Ev
namespace Go.Ev
open Go
section
variable {WB K : Nat → Prop} {J : List Value → World → Prop} {DF : List Deferred → Prop} {S S0 : List Nat} {rv : Value} {ρ ρ0 : Rho} {H H0 H' : List b8} {F F0 : Fz} {w w0 w' : World} {W' : Nat → Prop} {up : List Value} {E : Env} {n m : Nat} {Fe : Fence} {pr : List Nat} {yl : Option Rd} {kp : Nat → List Nat} {rf : Operand → Array Tmp → Code → Code → PC}
def YOk (E : Env) (Fe : Fence) (m n k : Nat) (rd : Rd) (I : List Nat → St → Act → World → Prop) : Prop :=
 ∀ (ops : Array Oper) (i : Nat) (o : Oper) (S : List Nat) (args : List Operand) (g : Option (Nat × Bool)) (s s' : St) (xx : d7) (ac : Act) (w : World) (rest : List Nat) (Q : Exit → Act → World → Prop),
  ops[i]? = some o → Sb5 S o = some args → Z8 ops o = some g → gOk n g = true → dOk n o.dst = true → args.all (ltO n) = true → args.length = rd.ps.length → I S s ac w →
  (K2 E k (.round o.dst g (args.map g8) n rd.nOut rd.ps rd.as rd.body) s).run = some (xx, s') → (xx = .normal → ∀ ac' w', I (rmD S o.dst) s' ac' w' → wpOpsIn Fe m E.P ops Q rest ac' w') → wpOpsIn Fe m E.P ops Q (i :: rest) ac w
def ne8 (E : Env) (Fe : Fence) (m k : Nat) (rf : Operand → Array Tmp → Code → Code → PC) (I : St → Act → World → Prop) : Prop :=
 ∀ (g : Operand) (ps : Array Tmp) (as body : Code) (s s' : St) (x : d7) (ac : Act) (w : World) (Q : Exit → Act → World → Prop), (K2 E k (rf g ps as body) s).run = some (x, s') → I s ac w →
  (∀ ac' w', I s' ac' w' → Q (toX x) ac' w') → (Code.rangeFunc g ps as body).wpIn Fe m E.P Q ac w
theorem I3.less {P : Program} {s : St} {ac : Act} (h : I3 P WB K J n S rv DF ρ0 H0 F0 w0 s ac w) (hs : Ud1 S0 S = true) : I3 P WB K J n S0 rv DF ρ0 H0 F0 w0 s ac w := by
 refine ⟨h.inv, fun t ht => h.held t ?_, h.df⟩
 unfold Ud1 at hs
 rw [List.all_eq_true] at hs
 simpa using hs t ht
theorem dd3 {k : Nat} {l : List PI} {dd : List Nat} {s s' : St} {x : d7} (he : (K2 E k (.mask n dd (.ops l)) s).run = some (x, s')) : x = .normal := by
 have he' : ((K2 E k (.ops l) ⟨l0 (da3 s.H) (D6 s.a n), o6 s.H⟩).bind fun r => .guard (ic8 s.H r.2.H) (.ret (r.1, ⟨Aa1 dd s.a r.2.a 0, z9 s.H r.2.H⟩))).run = some (x, s') := he
 obtain ⟨⟨x1, s1⟩, h1, h2⟩ := DT.run_bind_some he'
 obtain ⟨_, h2⟩ := DT.run_guard_some h2
 have h2 : some (x1, (⟨Aa1 dd s.a s1.a 0, z9 s.H s1.H⟩ : St)) = some (x, s') := h2
 injection h2 with h2; injection h2 with e1 _; subst e1
 obtain ⟨s2, _, h4⟩ := DT.run_bind_some (show ((I8 E l ⟨l0 (da3 s.H) (D6 s.a n), o6 s.H⟩).bind fun s => .ret (d7.normal, s)).run = some (x1, s1) from h1)
 have h4 : some (d7.normal, s2) = some (x1, s1) := h4
 injection h4 with h4; injection h4 with e1 _
 exact e1.symm
theorem Sb9 {k : Nat} {a b : PC} {s s' : St} {x : d7} (he : (K2 E k (.seq a b) s).run = some (x, s')) : ∃ x1 s1, (K2 E k a s).run = some (x1, s1) ∧ (x1 = .normal → (K2 E k b s1).run = some (x, s')) ∧ (x1 ≠ .normal → x1 = x ∧ s1 = s') := by
 obtain ⟨⟨x1, s1⟩, h1, h2⟩ := DT.run_bind_some (show ((K2 E k a s).bind fun r => d7.rec (motive := fun _ => DT (d7 × St)) (K2 E k b r.2) (fun id => .ret (.exit id, r.2)) (.ret (.ret, r.2)) r.1).run = some (x, s') from he)
 refine ⟨x1, s1, h1, fun e => by subst e; exact h2, fun e => ?_⟩
 cases x1 with
 | normal => exact absurd rfl e
 | exit id =>
  have h2 : some (d7.exit id, s1) = some (x, s') := h2
  injection h2 with h2; injection h2 with e1 e2; exact ⟨e1, e2⟩
 | ret =>
  have h2 : some (d7.ret, s1) = some (x, s') := h2
  injection h2 with h2; injection h2 with e1 e2; exact ⟨e1, e2⟩
section
variable (hF : FW Fe) (hG0 : GOk E F0 w0) (hcalls : ∀ f, i5 E.P E.G f (E.call f)) (hJ : ac0 K J) (hyl : ∀ rd, yl = some rd → YOk E Fe m n H0.length rd fun S => I3 E.P WB K J n S rv DF ρ0 H0 F0 w0)
include hF hG0 hcalls hJ hyl
theorem mb7 {ops : Array Oper} {Q : Exit → Act → World → Prop} : ∀ (f : Nat) (r : List Oper) (S : List Nat) (k : Nat) (s : St) (x : d7) (s' : St) (ac : Act) (w : World), ops.toList.drop k = r → I3 E.P WB K J n S rv DF ρ0 H0 F0 w0 s ac w →
  (K2 E H0.length (cd9 E.P n pr yl S0 ops f r S) s).run = some (x, s') → (∀ ac' w', I3 E.P WB K J n S0 rv DF ρ0 H0 F0 w0 s' ac' w' → Q (toX x) ac' w') → wpOpsIn Fe m E.P ops Q (List.range' k r.length) ac w
 | 0, r, S, k, s, x, s', ac, w, hr, hI, he, hQ => by cases he
 | f + 1, [], S, k, s, x, s', ac, w, hr, hI, he, hQ => by
  simp only [cd9] at he
  cases hs : Ud1 S0 S with
  | false => rw [hs] at he; cases he
  | true =>
   rw [hs] at he
   have he : some (d7.normal, s) = some (x, s') := he
   injection he with he; injection he with e1 e2; subst e1 e2
   exact hQ ac w (hI.less hs)
 | f + 1, o :: r, S, k, s, x, s', ac, w, hr, hI, he, hQ => by
  have hi : ops[k]? = some o := by
   have : (ops.toList.drop k)[0]? = some o := by rw [hr]; rfl
   simpa using this
  have hr1 : ops.toList.drop (k + 1) = r := by rw [← List.drop_drop, hr]; rfl
  have hrange : List.range' k (o :: r).length = k :: List.range' (k + 1) r.length := by
   rw [show (o :: r).length = r.length + 1 from rfl, List.range'_succ]
  simp only [cd9] at he
  cases hy : Sb5 S o with
  | some args =>
   rw [hy] at he
   simp only at he
   cases hyl' : yl with
   | none => rw [hyl'] at he; cases he
   | some rd =>
   cases hg : Z8 ops o with
   | none => rw [hyl', hg] at he; cases he
   | some g =>
   rw [hyl', hg] at he
   simp only at he
   split at he
   case h_2 => cases he
   rename_i hc
   simp only [Bool.and_eq_true] at hc
   obtain ⟨x1, s1, h1, h2, h3⟩ := Sb9 he
   rw [hrange]
   refine hyl rd hyl' ops k o S args g s s1 x1 ac w _ Q hi hy hg hc.1.1.1 hc.1.1.2 hc.1.2 (Nat.eq_of_beq_eq_true hc.2) hI h1 fun hx ac' w' hI' => ?_
   have h4 := h2 hx
   rw [← hyl'] at h4
   exact mb7 f r _ (k + 1) s1 x s' ac' w' hr1 hI' h4 hQ
  | none =>
  rw [hy] at he
  simp only at he
  cases hcp : tc5 S o with
  | some d =>
   rw [hcp] at he
   simp only at he
   split at he
   case h_2 => cases he
   rename_i hd
   rw [Nat.blt_eq] at hd
   obtain ⟨x1, s1, h1, h2, h3⟩ := Sb9 he
   rw [hrange]
   refine Kd5 hF hG0 hcalls hJ hi hcp hd hI h1 fun hx ac' w' hI' => ?_
   exact mb7 f r _ (k + 1) s1 x s' ac' w' hr1 hI' (h2 hx) hQ
  | none =>
  rw [hcp] at he
  simp only at he
  cases hsp : cSp E.P n pr o with
  | some so =>
   rw [hsp] at he
   simp only at he
   cases hg : Z8 ops o with
   | none => rw [hg] at he; cases he
   | some g =>
   rw [hg] at he
   simp only at he
   split at he
   case h_2 => cases he
   rename_i hc
   rw [Bool.and_eq_true] at hc
   obtain ⟨x1, s1, h1, h2, h3⟩ := Sb9 he
   obtain ⟨s2, k1, k2⟩ := DT.run_bind_some (show ((ld3 E s o.dst g so).bind fun s => .ret (d7.normal, s)).run = some (x1, s1) from h1)
   have k2 : some (d7.normal, s2) = some (x1, s1) := k2
   injection k2 with k2; injection k2 with e1 e2; subst e1 e2
   rw [hrange]
   refine he9 hF hG0 hJ hi hsp hg hc.1 hc.2 hI k1 fun ac' w' hI' => ?_
   exact mb7 f r _ (k + 1) s2 x s' ac' w' hr1 hI' (h2 rfl) hQ
  | none =>
  rw [hsp] at he
  simp only at he
  generalize hm : ac6 (cd8 E.P n pr S) r = q at he
  cases hl : Hb2 E.P ops (o :: r.take q) with
  | none => rw [hl] at he; cases he
  | some l =>
  rw [hl] at he
  simp only at he
  obtain ⟨x1, s1, h1, h2, h3⟩ := Sb9 he
  have hx1 := dd3 h1
  subst hx1
  have hsplit : o :: r = (o :: r.take q) ++ r.drop q := by rw [List.cons_append, List.take_append_drop]
  have hlen : (o :: r).length = (o :: r.take q).length + (r.drop q).length := by rw [← List.length_append, ← hsplit]
  have hrange2 : List.range' k (o :: r).length = List.range' k (o :: r.take q).length ++ List.range' (k + (o :: r.take q).length) (r.drop q).length := by
   rw [hlen, ← List.range'_append_1]
  rw [hrange2]
  obtain ⟨hinv, hheld, hdf⟩ := hI
  refine (Td6 (x := .normal) (s' := s1) hF hG0 hcalls hJ (r := o :: r.take q) (l := l) (dd := Rc3 (o :: r.take q)) ⟨r.drop q, by rw [hr]; exact hsplit⟩ (fun o' ho' d hd => ?_) hl hinv h1 fun ac' w' hI' hd' hsm => ?_).2
  ·unfold Rc3
   exact List.mem_filterMap.2 ⟨o', ho', hd⟩
  ·refine mb7 f (r.drop q) _ (k + (o :: r.take q).length) s1 x s' ac' w' ?_ ⟨hI', fun t ht => ?_, by rw [hd']; exact hdf⟩ (h2 rfl) hQ
   ·rw [← List.drop_drop, hr, hsplit, List.drop_left]
   ·rw [List.mem_filter] at ht
    rw [hsm t (by simpa using ht.2)]
    exact hheld t ht.1
theorem gc1 {c : Code} {y : PC} {keep : List Nat} (ih : ∀ (s : St) (x : d7) (s' : St), (K2 E H0.length y s).run = some (x, s') → ∀ (ac : Act) (w : World) (Q : Exit → Act → World → Prop), I3 E.P WB K J n S0 rv DF ρ0 H0 F0 w0 s ac w →
  (∀ ac' w', I3 E.P WB K J n S0 rv DF ρ0 H0 F0 w0 s' ac' w' → Q (toX x) ac' w') → c.wpIn Fe m E.P Q ac w) :
  ∀ (nn : Nat) (s : St) (x : d7) (s' : St), (vb1 (fun s => tidyM H0.length ⟨I4 keep s.a 0, s.H⟩) (K2 E H0.length y) nn s).run = some (x, s') → ∀ (ac : Act) (w : World) (Q : Exit → Act → World → Prop), I3 E.P WB K J n S0 rv DF ρ0 H0 F0 w0 s ac w →
  (∀ ac' w', I3 E.P WB K J n S0 rv DF ρ0 H0 F0 w0 s' ac' w' → Q (toX x) ac' w') → Code.roundsIn Fe m E.P c Q nn ac w
 | 0, s, x, s', he, ac, w, Q, hI, hQ => by cases he
 | nn + 1, s, x, s', he, ac, w, Q, hI, hQ => by
  have he' : ((tidyM H0.length ⟨I4 keep s.a 0, s.H⟩).bind fun s => (K2 E H0.length y s).bind fun r =>
   d7.rec (motive := fun _ => DT (d7 × St)) (vb1 (fun s => tidyM H0.length ⟨I4 keep s.a 0, s.H⟩) (K2 E H0.length y) nn r.2) (fun id => .ret (.exit id, r.2)) (.ret (.ret, r.2)) r.1).run = some (x, s') := he
  obtain ⟨s1, h1, h2⟩ := DT.run_bind_some he'
  obtain ⟨⟨x2, s2⟩, h3, h4⟩ := DT.run_bind_some h2
  have hI1 := hI.tidyM h1
  rw [roundsIn_succ]
  refine ih s1 x2 s2 h3 ac w _ hI1 fun ac' w' hI2 => ?_
  cases x2 with
  | normal => exact gc1 ih nn s2 x s' h4 ac' w' Q hI2 hQ
  | exit id =>
   have h4' : some (d7.exit id, s2) = some (x, s') := h4
   injection h4' with h4'; injection h4' with e1 e2; subst e1 e2
   exact hQ _ _ hI2
  | ret =>
   have h4' : some (d7.ret, s2) = some (x, s') := h4
   injection h4' with h4'; injection h4' with e1 e2; subst e1 e2
   exact hQ _ _ hI2
theorem Mb4 (hrf : ne8 E Fe m H0.length rf (I3 E.P WB K J n S0 rv DF ρ0 H0 F0 w0)) : ∀ (c : Code) (cur : Nat) (s : St) (x : d7) (s' : St), (K2 E H0.length (ra3 E.P n pr yl S0 kp rf cur c) s).run = some (x, s') → ∀ (ac : Act) (w : World) (Q : Exit → Act → World → Prop), I3 E.P WB K J n S0 rv DF ρ0 H0 F0 w0 s ac w →
  (∀ ac' w', I3 E.P WB K J n S0 rv DF ρ0 H0 F0 w0 s' ac' w' → Q (toX x) ac' w') → c.wpIn Fe m E.P Q ac w := by
 intro c
 induction c with
 | skip =>
  intro cur s x s' he ac w Q hI hQ
  have he' : some (d7.normal, s) = some (x, s') := he
  injection he' with he'; injection he' with e1 e2; subst e1 e2
  exact wpIn_skip (hQ _ _ hI)
 | region id ops d =>
  intro cur s x s' he ac w Q hI hQ
  cases d with
  | true => cases he
  | false =>
   refine wpIn_region ?_
   rw [List.range_eq_range']
   have := mb7 (Q := Q) hF hG0 hcalls hJ hyl (ops.size + 1) ops.toList S0 0 s x s' ac w rfl hI he hQ
   simpa using this
 | seq a b iha ihb =>
  intro cur s x s' he ac w Q hI hQ
  obtain ⟨x1, s1, h1, h2, h3⟩ := Sb9 he
  refine wpIn_seq (iha cur s x1 s1 h1 ac w _ hI fun ac' w' hI' => ?_)
  cases x1 with
  | normal => exact ihb cur s1 x s' (h2 rfl) ac' w' Q hI' hQ
  | exit id =>
   obtain ⟨rfl, rfl⟩ := h3 (by simp)
   exact hQ _ _ hI'
  | ret =>
   obtain ⟨rfl, rfl⟩ := h3 (by simp)
   exact hQ _ _ hI'
 | cond c a b iha ihb =>
  intro cur s x s' he ac w Q hI hQ
  simp only [ra3] at he
  split at he
  case h_2 => cases he
  rename_i hc
  have he' : (match c7 E s.a (g8 c) with
   | .v (.bool t) => DT.ite t (K2 E H0.length (ra3 E.P n pr yl S0 kp rf cur a) s) (K2 E H0.length (ra3 E.P n pr yl S0 kp rf cur b) s)
   | _ => DT.fail).run = some (x, s') := he
  obtain ⟨ρ, F, W', up, hI2⟩ := hI.inv
  have hr := mb5 hI2.vals hI2.size (hG0.adv hI2.core.adv) c hc
  revert he' hr
  generalize c7 E s.a (g8 c) = u
  intro he' hr
  split at he'
  ·rename_i t
   have ht := Cd7 hr
   rcases DT.run_ite_some he' with ⟨rfl, h⟩ | ⟨rfl, h⟩
   ·exact wpIn_cond_true ht (iha cur s x s' h ac w Q hI hQ)
   ·exact wpIn_cond_false ht (ihb cur s x s' h ac w Q hI hQ)
  ·cases he'
 | block id a ih =>
  intro cur s x s' he ac w Q hI hQ
  obtain ⟨⟨x1, s1⟩, h1, h2⟩ := DT.run_bind_some (show ((K2 E H0.length (ra3 E.P n pr yl S0 kp rf id a) s).bind fun r => d7.rec (motive := fun _ => DT (d7 × St)) (.ret (.normal, r.2))
   (fun id' => Bool.rec (.ret (.exit id', r.2)) (.ret (.normal, r.2)) (Nat.beq id' id)) (.ret (.ret, r.2)) r.1).run = some (x, s') from he)
  refine wpIn_block (ih id s x1 s1 h1 ac w _ hI fun ac' w' hI' => ?_)
  cases x1 with
  | normal =>
   have h2' : some (d7.normal, s1) = some (x, s') := h2
   injection h2' with h2'; injection h2' with e1 e2; subst e1 e2
   exact hQ _ _ hI'
  | ret =>
   have h2' : some (d7.ret, s1) = some (x, s') := h2
   injection h2' with h2'; injection h2' with e1 e2; subst e1 e2
   exact hQ _ _ hI'
  | exit id' =>
   have h2' : (Bool.rec (motive := fun _ => DT (d7 × St)) (.ret (.exit id', s1)) (.ret (.normal, s1)) (Nat.beq id' id)).run = some (x, s') := h2
   show if id' = id then Q .normal ac' w' else Q (.exit id') ac' w'
   cases hb : Nat.beq id' id with
   | true =>
    rw [hb] at h2'
    have h3 : some (d7.normal, s1) = some (x, s') := h2'
    injection h3 with h3; injection h3 with e1 e2; subst e1 e2
    rw [if_pos (Nat.eq_of_beq_eq_true hb)]
    exact hQ _ _ hI'
   | false =>
    rw [hb] at h2'
    have h3 : some (d7.exit id', s1) = some (x, s') := h2'
    injection h3 with h3; injection h3 with e1 e2; subst e1 e2
    rw [if_neg (Nat.ne_of_beq_eq_false hb)]
    exact hQ _ _ hI'
 | loop a ih =>
  intro cur s x s' he ac w Q hI hQ
  exact wpIn_loop_rounds E.N (gc1 hF hG0 hcalls hJ hyl (ih cur) E.N s x s' he ac w Q hI hQ)
 | rangeFunc g ps as body _ _ =>
  intro cur s x s' he ac w Q hI hQ
  exact hrf g ps as body s s' x ac w Q he hI hQ
 | exit id =>
  intro cur s x s' he ac w Q hI hQ
  have he' : some (d7.exit id, s) = some (x, s') := he
  injection he' with he'; injection he' with e1 e2; subst e1 e2
  exact wpIn_exit (hQ _ _ hI)
 | ret =>
  intro cur s x s' he ac w Q hI hQ
  have he' : some (d7.ret, s) = some (x, s') := he
  injection he' with he'; injection he' with e1 e2; subst e1 e2
  exact wpIn_ret (hQ _ _ hI)
 | label l =>
  intro cur s x s' he ac w Q hI hQ
  have he' : some (d7.normal, s) = some (x, s') := he
  injection he' with he'; injection he' with e1 e2; subst e1 e2
  exact wpIn_label (hQ _ _ hI)
 | _ =>
  intro cur s x s' he
  cases he
end
end
end Go.Ev
namespace Go.Ev
open Go
def Ab1 (st : LoopState) (pe : Option Code) (fn : FuncId) (tm : List Value) (ps : Array Tmp) (as body : Code) (D : Nat) : Obj :=
 .loop { state := st, pending := pe, fn, tmps := tm.toArray, params := ps, assign := as, body, defers := D }
def bc0 : Option Code → Option Value
 | none => some (.int .i64 (.ofNat 0))
 | some .ret => some (.int .i64 (.ofNat 1))
 | some (.exit id) => some (.int .i64 (.ofNat (id + 2)))
 | _ => none
def KR (l : Nat) (Ds : List Nat) : Nat → Prop := fun k => k = l ∨ k ∈ Ds
def Dd1 (Ds : List Nat) (w : World) : Prop := ∀ d ∈ Ds, w.heap[d]? = some (.deferred (some []))
def JI (l D : Nat) (Ds : List Nat) (fn : FuncId) (tm : List Value) (ps : Array Tmp) (as body : Code) (up : List Value) (w : World) : Prop :=
 ∃ pe v, bc0 pe = some v ∧ up = v :: tm ∧ w.heap[l]? = some (Ab1 (if pe.isNone then .ready else .done) pe fn tm ps as body D) ∧ Dd1 Ds w
def JR (l D : Nat) (Ds : List Nat) (fn : FuncId) (tm : List Value) (ps : Array Tmp) (as body : Code) (st : LoopState) (inn : List Value) (up : List Value) (w : World) : Prop :=
 up = inn ++ Value.int .i64 (.ofNat 0) :: tm ∧ w.heap[l]? = some (Ab1 st none fn tm ps as body D) ∧ Dd1 Ds w
def noD : List Deferred → Prop := fun ds => ds = []
theorem Ud4 (l D : Nat) (Ds : List Nat) (fn : FuncId) (tm : List Value) (ps : Array Tmp) (as body : Code) : ac0 (KR l Ds) (JI l D Ds fn tm ps as body) := fun up w w' h ⟨pe, v, h1, h2, h3, h4⟩ =>
 ⟨pe, v, h1, h2, (h l (.inl rfl)).trans h3, fun d hd => (h d (.inr hd)).trans (h4 d hd)⟩
theorem Ud5 (l D : Nat) (Ds : List Nat) (fn : FuncId) (tm : List Value) (ps : Array Tmp) (as body : Code) (st : LoopState) (inn : List Value) : ac0 (KR l Ds) (JR l D Ds fn tm ps as body st inn) := fun up w w' h ⟨h1, h2, h3⟩ =>
 ⟨h1, (h l (.inl rfl)).trans h2, fun d hd => (h d (.inr hd)).trans (h3 d hd)⟩
section
variable {P : Program} {WB K : Nat → Prop} {J J' : List Value → World → Prop} {DF : List Deferred → Prop} {S S0 : List Nat} {rv : Value} {ρ ρ0 : Rho} {H H0 H' : List b8} {F F0 : Fz} {w w0 w' : World} {W' : Nat → Prop} {up up' : List Value} {E : Env} {n m : Nat} {Fe : Fence} {a : List b7} {ac : Act} {ds ds' : List Deferred}
theorem C2.re (h : C2 P WB K J ρ0 H0 F0 w0 H ds w ρ F W' up) (hJ : J' up' w) (hM : Jb2 WB W' ds' w) : C2 P WB K J' ρ0 H0 F0 w0 H ds' w ρ F W' up' :=
 ⟨h.sub, h.adv, h.hrel, h.srel, h.kept, h.far, hJ, hM⟩
theorem Dd1.turn {w : World} {l : Nat} {r : Loop} {Ds : List Nat} (h : Dd1 Ds w) (hl : w.heap[l]? = some (.loop r)) (o : Obj) : Dd1 Ds (w.putObj l o) := fun d hd => by
 have hne : d ≠ l := fun e => by
  have := h d hd
  rw [e, hl] at this
  cases this
 rw [World.putObj_heap_other hne]
 exact h d hd
theorem Fb6 : Jb2 WB W' [] w := ⟨fun d hd => by simp at hd, List.nodup_nil⟩
theorem Dd2 {k : Nat} {o : Obj} (hk : w.heap[k]? = some o) (ho : ∀ cc t fr, o ≠ .cells cc t fr) (b : Nat) : w.cell? ⟨k, b, none⟩ = none := by
 cases o with
 | cells => exact (ho _ _ _ rfl).elim
 | _ => simp [World.cell?, hk]
theorem C2.turn (h : C2 P WB K J ρ0 H0 F0 w0 H ds w ρ F W' up) (k : Nat) (o o' : Obj) (hk : w.heap[k]? = some o) (ho : ∀ cc t fr, o ≠ .cells cc t fr) (hm : ∀ es clk, o ≠ .map es clk) (hWB : WB k) (hnW : ¬ W' k)
  (hJ : J' up' (w.putObj k o')) (hM : Jb2 WB W' ds' (w.putObj k o')) : C2 P WB K J' ρ0 H0 F0 w0 H ds' (w.putObj k o') ρ F W' up' ∧ Tr ρ H F w ρ H F (w.putObj k o') := by
 have hlt := (Array.getElem?_eq_some_iff.1 hk).1
 have hnF : ∀ b, ¬ F k b := fun b hf => by
  have := h.hrel.frz k b hf
  rw [Dd2 hk ho b] at this
  cases this
 have hbase : C2 P WB K (fun _ _ => True) ρ0 H0 F0 w0 H [] w ρ F W' up' := h.re trivial Fb6
 obtain ⟨c1, c2⟩ := hbase.change (w' := w.putObj k o') (H' := H) (up' := up') k hWB hnW hnF rfl rfl rfl (Nat.le_refl _) (by simp) (fun j hj => World.putObj_heap_other hj)
  (fun cc t fr hc => by rw [hk] at hc; injection hc with hc; exact (ho _ _ _ hc).elim) rfl (fun id b hb => ⟨b, hb, rfl, rfl, rfl, rfl, Nat.le_refl _, fun _ => rfl⟩) (fun id b hb _ _ _ => hb)
  (fun _ id b hb hs hd e => by
   obtain ⟨_, _, _, _, hc⟩ := h.srel.has id b hb hs hd
   rw [e] at hc
   rcases hc with ⟨_, row, vs, t, _, m2, _⟩ | ⟨t, Kt, El, fl, es, clk, _, _, _, m4, _⟩
   ·rw [hk] at m2; injection m2 with m2; exact (ho _ _ _ m2).elim
   ·rw [hk] at m4; injection m4 with m4; exact (hm _ _ m4).elim)
  trivial (fun D hD => by simp at hD)
 exact ⟨c1.re hJ hM, c2⟩
end
end Go.Ev
