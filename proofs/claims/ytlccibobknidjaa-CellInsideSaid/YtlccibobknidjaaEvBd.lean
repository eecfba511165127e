/- Own work: a part of the proof. -/
import Derived.Test.YtlccibobknidjaaEvSpF
import Derived.Test.YtlccibobknidjaaEvMono
import Derived.Test.YtlccibobknidjaaEvFz
set_option linter.unusedVariables false
set_option linter.unusedSimpArgs false
set_option linter.unnecessarySimpa false
set_option linter.unusedSectionVars false
namespace Go.Ev
open Go
section
variable {P : Program} {W WB : Nat → Prop} {ρ ρ0 : Rho} {H H0 : List a8} {F F0 : Fz} {w w0 : World} {W' : Nat → Prop} {E : Env} {n : Nat} {ds : List Deferred}
theorem yb0 : ∀ {H : List a8}, uc0 H = true → ∀ (id : Nat) b, H[id]? = some b → A1 b = false
 | [], _, id, b, hb => by simp at hb
 | c :: H, h, id, b, hb => by
  have h : Bool.rec (motive := fun _ => Bool) (uc0 H) false (A1 c) = true := h
  cases hc : A1 c with
  | true => rw [hc] at h; cases h
  | false =>
   rw [hc] at h
   cases id with
   | zero => simp at hb; subst hb; exact hc
   | succ id => exact yb0 h id b (by simpa using hb)
theorem Ec3 (h : uc0 H = true) : l8 H = H := by
 refine List.ext_getElem? fun id => ?_
 cases hb : H[id]? with
 | none => rw [Ja2, List.getElem?_map, hb]; rfl
 | some b => exact Z2 hb (yb0 h id b hb)
theorem s5.more (h : s5 W' ρ H F w) (hs : ∀ k, W' k → W k) : s5 W ρ H F w :=
 ⟨fun id b hb hd => by
  obtain ⟨cc, t, fr, hB⟩ := h.blk id b hb hd
  exact ⟨cc, t, fr, hB.obj, hB.room, hB.len, hB.rows, hB.cell, fun ho => ⟨(hB.own ho).1, hs _ (hB.own ho).2.1, (hB.own ho).2.2⟩, hB.kept⟩, h.apart, h.frz, fun k hk => hs k (h.new k hk)⟩
theorem yb1 {Fe : Fence} {m : Nat} {fn : Func} {tmps : Array Value} {R : Ending → World → Prop} : ∀ (ds : List Deferred) (w : World), C2 P WB id6 Qc8 ρ0 H0 F0 w0 H ds w ρ F W' [] →
  (∀ w'', C2 P WB id6 Qc8 ρ0 H0 F0 w0 H [] w'' ρ F W' [] → Tr ρ H F w ρ H F w'' → LeavesIn Fe m P fn tmps R [] .returning w'') → LeavesInM Fe m P fn tmps R ds .returning w
 | [], w, hC, hR => hR w hC fun _ _ h => h
 | d :: ds, w, hC, hR => by
  obtain ⟨D, rfl, h2, h3, h4, h5⟩ := hC.marks.1 d (.head _)
  have hnd := List.nodup_cons.1 hC.marks.2
  obtain ⟨c1, c2⟩ := hC.turn (J' := Qc8) (up' := []) (ds' := ds) D _ (.deferred none) h2 (fun _ _ _ e => by cases e) (fun _ _ e => by cases e) h5 h3 rfl
   ⟨fun d' hd' => by
    obtain ⟨D', rfl, k2, k3, k4, k5⟩ := hC.marks.1 d' (.tail _ hd')
    have hne : D' ≠ D := fun e => hnd.1 (e ▸ hd')
    exact ⟨D', rfl, by rw [World.putObj_heap_other hne]; exact k2, k3, by rw [World.putObj_size]; exact k4, k5⟩, hnd.2⟩
  refine ⟨by simp, .inl ⟨D, _, rfl, run_takeDeferred h2, yb1 ds _ c1 fun w'' hC' ht => hR w'' hC' fun x x' hx => ht _ _ (c2 _ _ hx)⟩⟩
theorem Qc9 (hmx : E.P.follows .mixedOrders = true) {f : FuncId} {fn fnI : Func} {pf : PFn} {h : kc5} (hf : E.P.funcs[f]? = some fn) (hname : fn.name ≠ "runtime.NumGoroutine") (hfI : E.P.funcs[h.fi]? = some fnI) (hnameI : fnI.name ≠ "runtime.NumGoroutine")
  (hc : Ta5 E.P h fnI fn = some pf) (hcalls : ∀ f, i6 E.P E.G f (E.call f)) : i6 E.P E.G f (hb5 E pf) := by
 intro args blks r out he W ρ F w args' hH hlen hargs hG
 unfold Ta5 at hc
 cases hb : fn.body with
 | none => simp [hb] at hc
 | some c =>
 cases hbI : fnI.body with
 | none => simp [hb, hbI] at hc
 | some cI =>
 simp only [hb, hbI] at hc
 split at hc
 case isFalse => cases hc
 rename_i hres
 injection hc with hc
 subst hc
 refine ⟨⟨fn, hf, by simp [hb], hname⟩, ?_⟩
 unfold hb5 at he
 obtain ⟨hns, he⟩ := DT.run_guard_some he
 rw [Bool.and_eq_true, j6] at hns
 obtain ⟨hns, hle⟩ := hns
 have hle : args.length ≤ fn.ntmps := Nat.le_of_ble_eq_true hle
 rw [j6, B9, j6] at he
 obtain ⟨⟨x, s1⟩, h1, h2⟩ := DT.run_bind_some he
 simp only at h2 h1
 refine (callsIn_wide (n := 2)).1 (callsIn_of_wp_marks hf hb trivial ?_)
 have hmb := Ec3 hns
 have hI : id7 E.P W fn.ntmps ρ blks F w ⟨args ++ List.replicate (fn.ntmps - args.length) (.v (.tuple #[])), blks⟩ { tmps := args'.toArray ++ Array.replicate (fn.ntmps - args'.toArray.size) undef, defers := [] } w := by
  refine ⟨⟨ρ, F, W, [], ⟨fun _ h => h, .refl, by rw [hmb]; exact hH, ⟨fun id b hb hs => (by rw [yb0 hns id b hb] at hs; cases hs), fun id id' b b' hb hb' hs => (by rw [yb0 hns id b hb] at hs; cases hs)⟩, fun k hk => hk.elim, fun _ _ _ _ _ hk => hk.elim, rfl, mb8⟩, ⟨by simp [hlen], fun i y y' hy hy' => ?_⟩, ?_⟩, fun t ht => by simp at ht, trivial⟩
  ·simp only at hy hy'
   rw [List.append_nil] at hy'
   have hy' : (args'.toArray ++ Array.replicate (fn.ntmps - args'.toArray.size) undef)[i]? = some y' := by rw [← Array.getElem?_toList]; exact hy'
   rcases Nat.lt_or_ge i args.length with hi | hi
   ·rw [List.getElem?_append_left hi] at hy
    rw [Array.getElem?_append_left (by simpa [← hlen] using hi)] at hy'
    exact .w (by rw [hmb]; exact hargs i y y' hy (by simpa using hy'))
   ·rw [List.getElem?_append_right hi] at hy
    rw [Array.getElem?_append_right (by simpa [← hlen] using hi)] at hy'
    rw [List.getElem?_replicate] at hy
    rw [Array.getElem?_replicate] at hy'
    split at hy
    ·split at hy'
     ·injection hy with hy; injection hy' with hy'
      subst hy hy'
      exact .w (.ofv _)
     ·cases hy'
    ·cases hy
  ·simp only [Array.size_append, Array.size_replicate, List.size_toArray]; omega
 have hfin : ∀ (ac' : Act) (w' : World), id7 E.P W fn.ntmps ρ blks F w s1 ac' w' → (match za9 (Ca3 (o9 (V8 s1.H) s1.a) (l8 s1.H)) (fn.results.toList.map (Nb8 E.P)) with
    | some l => .guard (uc0 (F4 s1.H blks.length)) (db7 blks.length (l8 s1.H) (Qa0 l))
    | none => .fail : DT (a7 × List a8)).run = some (r, out) → LeavesInM Fence.wide 2 E.P fn ac'.tmps (fun e w' => ∃ r', e = .returned r' ∧ K2 W ρ blks F w r out r' w') ac'.defers .returning w' := fun ac' w' hI' hr => by
  obtain ⟨⟨ρ1, F1, W1, up, hI2⟩, _, _⟩ := hI'
  have hup : up = [] := hI2.core.jot
  subst hup
  refine yb1 _ _ hI2.core fun w'' hC ht => ?_
  cases hm : za9 (Ca3 (o9 (V8 s1.H) s1.a) (l8 s1.H)) (fn.results.toList.map (Nb8 E.P)) with
  | none => rw [hm] at hr; cases hr
  | some l =>
  rw [hm] at hr
  obtain ⟨hfirst, hr⟩ := DT.run_guard_some hr
  have hI3 : I2 E.P W id6 Qc8 fn.ntmps ρ blks F w s1 { ac' with defers := [] } w'' ρ1 F1 W1 [] := ⟨hC, hI2.vals.tr ht, hI2.size⟩
  have hA := hI3.arel
  have hla : F4 s1.a fn.ntmps = s1.a := by
   have := hI2.vals.1
   rw [List.append_nil, Array.length_toList, hI2.size] at this
   rw [F5, ← this, List.take_length]
  rw [hla] at hA
  obtain ⟨v, k1, k2⟩ := Pb4 hC.hrel hA hres hm
  have hadv : Adv W ρ blks F w ρ1 (l8 s1.H) F1 w'' := by
   refine ⟨hC.adv.ext, fun id b hid => ?_, hC.adv.more, hC.adv.new, fun id b' hb' hn => ?_⟩
   ·obtain ⟨b', g1, g2, g3, g4⟩ := hC.adv.heap id b hid
    have hlt := (List.getElem?_eq_some_iff.1 hid).1
    have hs : A1 b' = false := yb0 hfirst id b' (by rw [F5, List.getElem?_take, if_pos hlt]; exact g1)
    exact ⟨b', Z2 g1 hs, g2, g3, g4⟩
   ·rw [Db9, List.getElem?_map] at hb'
    cases hq : s1.H[id]? with
    | none => rw [hq] at hb'; cases hb'
    | some q =>
     rw [hq] at hb'
     injection hb' with hb'
     have hg : b'.g = q.g := by
      rw [← hb']
      unfold Jc2
      cases A1 q <;> rfl
     exact hC.adv.fresh id q hq fun b hb => by rw [← hg]; exact hn b hb
  refine ⟨v, k1, v, rfl, ?_⟩
  simp only [db7] at hr
  cases ht : Nb5 blks.length (l8 s1.H) (List.range blks.length) (Qa0 l) with
  | mk z roots =>
  simp only [ht] at hr
  cases hb2 : oa0 blks.length (l8 s1.H) 0 roots with
  | none => simp [hb2] at hr
  | some H2 =>
  simp only [hb2] at hr
  have hr' : some (z, H2) = some (r, out) := hr
  injection hr' with hr'; injection hr' with e1 e2; subst e1 e2
  obtain ⟨m1, _, m3⟩ := Pb0 (TOk.start _) ht
  exact ⟨_, F1, vb9 m1 hb2 hadv, (lb4 m1 hC.hrel hb2).more hC.sub, jc1 hb2 m3 k2⟩
 refine sb2 FW.wide hG hcalls (fun _ _ _ _ h => h) (fun rd hrd => by cases hrd) hmx (vc0 hmx hG hcalls hfI hbI hnameI) c 0 _ x s1 h1 _ w _ hI fun ac' w' hI' => ?_
 cases x with
 | normal => exact hfin ac' w' hI' h2
 | ret => exact hfin ac' w' hI' h2
 | exit id => cases h2
end
end Go.Ev
namespace Go.Ev
open Go
theorem i6.body2 {E : Env} {P : Program} {f : FuncId} {h : kc5} {fn fnI : Func} {pf : PFn} (hP : E.P = P) (hm : P.follows .mixedOrders = true) (hf : P.funcs[f]? = some fn) (hn : fn.name ≠ "runtime.NumGoroutine") (hfI : P.funcs[h.fi]? = some fnI) (hnI : fnI.name ≠ "runtime.NumGoroutine")
  (hc : Ta5 P h fnI fn = some pf) (hcalls : ∀ g, i6 E.P E.G g (E.call g)) : i6 E.P E.G f (hb5 E pf) := by
 subst hP
 exact Qc9 hm hf hn hfI hnI hc hcalls
inductive PS2 where
 | pc (c : PC)
 | seq (a b : PS2)
 | cond (c : Arg) (x y : PS2)
 | block (id : Nat) (c : PS2)
 | sum (S : St → DT (c7 × St))
 | inner (f : Nat) (x : Arg) (nIn : Nat) (c : PS2)
noncomputable def Eb2 (E : Env) (k : Nat) (c : PS2) : St → DT (c7 × St) :=
 PS2.rec (motive := fun _ => St → DT (c7 × St))
  (fun c => H5 E k c)
  (fun _ _ x y s => (x s).bind fun r => c7.rec (motive := fun _ => DT (c7 × St)) (y r.2) (fun id => .ret (.exit id, r.2)) (.ret (.ret, r.2)) r.1)
  (fun c _ _ x y s => match a9 E s.a c with
   | .v (.bool b) => .ite b (x s) (y s)
   | _ => .fail)
  (fun id _ x s => (x s).bind fun r => c7.rec (motive := fun _ => DT (c7 × St)) (.ret (.normal, r.2))
   (fun id' => Bool.rec (.ret (.exit id', r.2)) (.ret (.normal, r.2)) (Nat.beq id' id)) (.ret (.ret, r.2)) r.1)
  (fun S => S)
  (fun f x nIn _ c s => match a9 E s.a x with
   | .fn f' caps => match Nat.beq f f' && Nat.ble (len caps + 1) nIn with
    | true => (c (Va7 caps nIn s)).bind fun r =>
      c7.rec (motive := fun _ => DT (c7 × St)) (db6 (hdA (j7 r.2.a nIn)) ⟨j7 r.2.a (nIn + 1), r.2.H⟩) (fun _ => .fail) (db6 (hdA (j7 r.2.a nIn)) ⟨j7 r.2.a (nIn + 1), r.2.H⟩) r.1
    | false => .fail
   | _ => .fail) c
inductive Y0 (E : Env) (k : Nat) : PS2 → PC → Prop
 | pc (c : PC) : Y0 E k (.pc c) c
 | seq {a b : PS2} {a' b' : PC} (h : Y0 E k a a') (h' : Y0 E k b b') : Y0 E k (.seq a b) (.seq a' b')
 | cond (c : Arg) {a b : PS2} {a' b' : PC} (h : Y0 E k a a') (h' : Y0 E k b b') : Y0 E k (.cond c a b) (.cond c a' b')
 | block (id : Nat) {a : PS2} {a' : PC} (h : Y0 E k a a') : Y0 E k (.block id a) (.block id a')
 | sum {S : St → DT (c7 × St)} {c : PC} (h : ∀ s, O7 (S s) (H5 E k c s)) : Y0 E k (.sum S) c
 | inner (f : Nat) (x : Arg) (nIn : Nat) {a : PS2} {a' : PC} (h : Y0 E k a a') : Y0 E k (.inner f x nIn a) (.inner f x nIn a')
noncomputable def Ec4 (E : Env) (f : Nat) (x : Arg) (nIn : Nat) (c : St → DT (c7 × St)) (s : St) : DT (c7 × St) := match a9 E s.a x with
   | .fn f' caps => match Nat.beq f f' && Nat.ble (len caps + 1) nIn with
    | true => (c (Va7 caps nIn s)).bind fun r =>
      c7.rec (motive := fun _ => DT (c7 × St)) (db6 (hdA (j7 r.2.a nIn)) ⟨j7 r.2.a (nIn + 1), r.2.H⟩) (fun _ => .fail) (db6 (hdA (j7 r.2.a nIn)) ⟨j7 r.2.a (nIn + 1), r.2.H⟩) r.1
    | false => .fail
   | _ => .fail
theorem kc8 {E : Env} {f : Nat} {x : Arg} {nIn : Nat} {c c' : St → DT (c7 × St)} (h : ∀ s, O7 (c s) (c' s)) (s : St) : O7 (Ec4 E f x nIn c s) (Ec4 E f x nIn c' s) := by
 unfold Ec4
 cases a9 E s.a x with
 | fn f' caps =>
  simp only
  cases Nat.beq f f' && Nat.ble (len caps + 1) nIn with
  | true => exact (h _).bind fun r => .refl _
  | false => exact .fail _
 | _ => exact .fail _
theorem Y0.le {E : Env} {k : Nat} {a : PS2} {c : PC} (h : Y0 E k a c) : ∀ s, O7 (Eb2 E k a s) (H5 E k c s) := by
 induction h with
 | pc c => exact fun s => .refl _
 | seq h h' ih ih' =>
  intro s
  refine (ih s).bind fun r => ?_
  rcases r with ⟨x, s'⟩
  cases x with
  | normal => exact ih' s'
  | exit id => exact .refl _
  | ret => exact .refl _
 | cond c h h' ih ih' =>
  intro s
  show O7 (match a9 E s.a c with | .v (.bool b) => _ | _ => _) (match a9 E s.a c with | .v (.bool b) => _ | _ => _)
  split
  ·exact .ite (ih s) (ih' s)
  ·exact .fail _
 | block id h ih => exact fun s => (ih s).bind fun r => .refl _
 | sum h => exact h
 | inner f x nIn h ih =>
  intro s
  exact kc8 (E := E) (f := f) (x := x) (nIn := nIn) ih s
noncomputable def nd9 (E : Env) (fn : PFn) (body : PS2) (args : List a7) (blks : List a8) : DT (a7 × List a8) :=
 .guard (Bool.and (uc0 blks) (Nat.ble (len args) fn.ntmps)) ((Eb2 E (len blks) body ⟨app args (List.replicate (fn.ntmps - len args) (.v (.tuple #[]))), blks⟩).bind fun r =>
  match r.1 with
  | .exit _ => .fail
  | _ => match za9 (Ca3 (o9 (V8 r.2.H) r.2.a) (l8 r.2.H)) fn.res with
   | some l => .guard (uc0 (F4 r.2.H (len blks))) (db7 (len blks) (l8 r.2.H) (Qa0 l))
   | none => .fail)
theorem vc1 {E : Env} {fn : PFn} {body : PS2} {args : List a7} {blks : List a8} (h : Y0 E (len blks) body fn.body) : O7 (nd9 E fn body args blks) (hb5 E fn args blks) :=
 O7.ite (O7.bind (h.le _) fun _ => .refl _) (.refl _)
@[reducible] noncomputable def vc2 (k : Nat) (keep : List Nat) (s : St) : DT St := tidyM k ⟨H7 keep s.a 0, s.H⟩
theorem Ec5 (E : Env) (k : Nat) (keep : List Nat) (c : PC) (s : St) : H5 E k (.loopM keep c) s = bb7 (vc2 k keep) (H5 E k c) E.N s := rfl
end Go.Ev
namespace Go.Ev
open Go
noncomputable def got (x : Option PFn) : PFn := Option.rec (motive := fun _ => PFn) ⟨0, [], .skip⟩ (fun y => y) x
theorem i8 {x : Option PFn} (h : Option.isSome x = true) : x = some (got x) := by cases x with
 | none => cases h
 | some y => rfl
def E0 (P : Program) (f : FuncId) (R : Env → Sum) : Prop := ∀ {E : Env}, E.P = P → (∀ g, i6 E.P E.G g (E.call g)) → i6 E.P E.G f (R E)
theorem G2 {P : Program} {f : FuncId} {fn : Func} {pf : PFn} (hm : P.follows .mixedOrders = true) (hf : P.funcs[f]? = some fn) (hn : decide (fn.name ≠ "runtime.NumGoroutine") = true) (hc : c9 P fn = some pf) : E0 P f fun E => n8 E pf :=
 fun hP hcalls => i6.body hP hm hf (of_decide_eq_true hn) hc hcalls
theorem od0 {P : Program} {f : FuncId} {h : kc5} {fn fnI : Func} {pf : PFn} (hm : P.follows .mixedOrders = true) (hf : P.funcs[f]? = some fn) (hn : decide (fn.name ≠ "runtime.NumGoroutine") = true) (hfI : P.funcs[h.fi]? = some fnI) (hnI : decide (fnI.name ≠ "runtime.NumGoroutine") = true)
  (hc : Ta5 P h fnI fn = some pf) : E0 P f fun E => hb5 E pf :=
 fun hP hcalls => i6.body2 hP hm hf (of_decide_eq_true hn) hfI (of_decide_eq_true hnI) hc hcalls
end Go.Ev
