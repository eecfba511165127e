/- Own work: a part of the proof. -/
import Derived.Test.YtlccibobknidjaaEvSpF
import Derived.Test.YtlccibobknidjaaEvMono
import Derived.Test.YtlccibobknidjaaEvFz
set_option linter.unusedVariables false
set_option linter.unusedSimpArgs false
set_option linter.unnecessarySimpa false
set_option linter.unusedSectionVars false
namespace Go.Ev
open Go
section
variable {P : Program} {W WB : Nat → Prop} {ρ ρ0 : Rho} {H H0 : List a8} {F F0 : Fz} {w w0 : World} {W' : Nat → Prop} {E : Env} {n : Nat} {ds : List Deferred}
theorem qb2 : ∀ {H : List a8}, jc5 H = true → ∀ (id : Nat) b, H[id]? = some b → z7 b = false
 | [], _, id, b, hb => by simp at hb
 | c :: H, h, id, b, hb => by
  have h : Bool.rec (motive := fun _ => Bool) (jc5 H) false (z7 c) = true := h
  cases hc : z7 c with
  | true => rw [hc] at h; cases h
  | false =>
   rw [hc] at h
   cases id with
   | zero => simp at hb; subst hb; exact hc
   | succ id => exact qb2 h id b (by simpa using hb)
theorem tc2 (h : jc5 H = true) : l8 H = H := by
 refine List.ext_getElem? fun id => ?_
 cases hb : H[id]? with
 | none => rw [Fa0, List.getElem?_map, hb]; rfl
 | some b => exact X0 hb (qb2 h id b hb)
theorem r8.more (h : r8 W' ρ H F w) (hs : ∀ k, W' k → W k) : r8 W ρ H F w :=
 ⟨fun id b hb hd => by
  obtain ⟨cc, t, fr, hB⟩ := h.blk id b hb hd
  exact ⟨cc, t, fr, hB.obj, hB.room, hB.len, hB.rows, hB.cell, fun ho => ⟨(hB.own ho).1, hs _ (hB.own ho).2.1, (hB.own ho).2.2⟩, hB.kept⟩, h.apart, h.frz, fun k hk => hs k (h.new k hk)⟩
theorem qb3 {Fe : Fence} {m : Nat} {fn : Func} {tmps : Array Value} {R : Ending → World → Prop} : ∀ (ds : List Deferred) (w : World), C2 P WB Wc2 Ec8 ρ0 H0 F0 w0 H ds w ρ F W' [] →
  (∀ w'', C2 P WB Wc2 Ec8 ρ0 H0 F0 w0 H [] w'' ρ F W' [] → Tr ρ H F w ρ H F w'' → LeavesIn Fe m P fn tmps R [] .returning w'') → LeavesInM Fe m P fn tmps R ds .returning w
 | [], w, hC, hR => hR w hC fun _ _ h => h
 | d :: ds, w, hC, hR => by
  obtain ⟨D, rfl, h2, h3, h4, h5⟩ := hC.marks.1 d (.head _)
  have hnd := List.nodup_cons.1 hC.marks.2
  obtain ⟨c1, c2⟩ := hC.turn (J' := Ec8) (up' := []) (ds' := ds) D _ (.deferred none) h2 (fun _ _ _ e => by cases e) (fun _ _ e => by cases e) h5 h3 rfl
   ⟨fun d' hd' => by
    obtain ⟨D', rfl, k2, k3, k4, k5⟩ := hC.marks.1 d' (.tail _ hd')
    have hne : D' ≠ D := fun e => hnd.1 (e ▸ hd')
    exact ⟨D', rfl, by rw [World.putObj_heap_other hne]; exact k2, k3, by rw [World.putObj_size]; exact k4, k5⟩, hnd.2⟩
  refine ⟨by simp, .inl ⟨D, _, rfl, run_takeDeferred h2, qb3 ds _ c1 fun w'' hC' ht => hR w'' hC' fun x x' hx => ht _ _ (c2 _ _ hx)⟩⟩
theorem Ec9 (hmx : E.P.follows .mixedOrders = true) {f : FuncId} {fn fnI : Func} {pf : PFn} {h : Zb3} (hf : E.P.funcs[f]? = some fn) (hname : fn.name ≠ "runtime.NumGoroutine") (hfI : E.P.funcs[h.fi]? = some fnI) (hnameI : fnI.name ≠ "runtime.NumGoroutine")
  (hc : Oa4 E.P h fnI fn = some pf) (hcalls : ∀ f, j6 E.P E.G f (E.call f)) : j6 E.P E.G f (ab6 E pf) := by
 intro args blks r out he W ρ F w args' hH hlen hargs hG
 unfold Oa4 at hc
 cases hb : fn.body with
 | none => simp [hb] at hc
 | some c =>
 cases hbI : fnI.body with
 | none => simp [hb, hbI] at hc
 | some cI =>
 simp only [hb, hbI] at hc
 split at hc
 case isFalse => cases hc
 rename_i hres
 injection hc with hc
 subst hc
 refine ⟨⟨fn, hf, by simp [hb], hname⟩, ?_⟩
 unfold ab6 at he
 obtain ⟨hns, he⟩ := DT.run_guard_some he
 rw [Bool.and_eq_true, j7] at hns
 obtain ⟨hns, hle⟩ := hns
 have hle : args.length ≤ fn.ntmps := Nat.le_of_ble_eq_true hle
 rw [j7, B4, j7] at he
 obtain ⟨⟨x, s1⟩, h1, h2⟩ := DT.run_bind_some he
 simp only at h2 h1
 refine (callsIn_wide (n := 2)).1 (callsIn_of_wp_marks hf hb trivial ?_)
 have hmb := tc2 hns
 have hI : Wc3 E.P W fn.ntmps ρ blks F w ⟨args ++ List.replicate (fn.ntmps - args.length) (.v (.tuple #[])), blks⟩ { tmps := args'.toArray ++ Array.replicate (fn.ntmps - args'.toArray.size) undef, defers := [] } w := by
  refine ⟨⟨ρ, F, W, [], ⟨fun _ h => h, .refl, by rw [hmb]; exact hH, ⟨fun id b hb hs => (by rw [qb2 hns id b hb] at hs; cases hs), fun id id' b b' hb hb' hs => (by rw [qb2 hns id b hb] at hs; cases hs)⟩, fun k hk => hk.elim, fun _ _ _ _ _ hk => hk.elim, rfl, eb8⟩, ⟨by simp [hlen], fun i y y' hy hy' => ?_⟩, ?_⟩, fun t ht => by simp at ht, trivial⟩
  ·simp only at hy hy'
   rw [List.append_nil] at hy'
   have hy' : (args'.toArray ++ Array.replicate (fn.ntmps - args'.toArray.size) undef)[i]? = some y' := by rw [← Array.getElem?_toList]; exact hy'
   rcases Nat.lt_or_ge i args.length with hi | hi
   ·rw [List.getElem?_append_left hi] at hy
    rw [Array.getElem?_append_left (by simpa [← hlen] using hi)] at hy'
    exact .w (by rw [hmb]; exact hargs i y y' hy (by simpa using hy'))
   ·rw [List.getElem?_append_right hi] at hy
    rw [Array.getElem?_append_right (by simpa [← hlen] using hi)] at hy'
    rw [List.getElem?_replicate] at hy
    rw [Array.getElem?_replicate] at hy'
    split at hy
    ·split at hy'
     ·injection hy with hy; injection hy' with hy'
      subst hy hy'
      exact .w (.ofv _)
     ·cases hy'
    ·cases hy
  ·simp only [Array.size_append, Array.size_replicate, List.size_toArray]; omega
 have hfin : ∀ (ac' : Act) (w' : World), Wc3 E.P W fn.ntmps ρ blks F w s1 ac' w' → (match va6 (ya3 (o3 (T5 s1.H) s1.a) (l8 s1.H)) (fn.results.toList.map (Fb1 E.P)) with
    | some l => .guard (jc5 (E2 s1.H blks.length)) (Xa4 blks.length (l8 s1.H) (La2 l))
    | none => .fail : DT (a7 × List a8)).run = some (r, out) → LeavesInM Fence.wide 2 E.P fn ac'.tmps (fun e w' => ∃ r', e = .returned r' ∧ J3 W ρ blks F w r out r' w') ac'.defers .returning w' := fun ac' w' hI' hr => by
  obtain ⟨⟨ρ1, F1, W1, up, hI2⟩, _, _⟩ := hI'
  have hup : up = [] := hI2.core.jot
  subst hup
  refine qb3 _ _ hI2.core fun w'' hC ht => ?_
  cases hm : va6 (ya3 (o3 (T5 s1.H) s1.a) (l8 s1.H)) (fn.results.toList.map (Fb1 E.P)) with
  | none => rw [hm] at hr; cases hr
  | some l =>
  rw [hm] at hr
  obtain ⟨hfirst, hr⟩ := DT.run_guard_some hr
  have hI3 : I2 E.P W Wc2 Ec8 fn.ntmps ρ blks F w s1 { ac' with defers := [] } w'' ρ1 F1 W1 [] := ⟨hC, hI2.vals.tr ht, hI2.size⟩
  have hA := hI3.arel
  have hla : E2 s1.a fn.ntmps = s1.a := by
   have := hI2.vals.1
   rw [List.append_nil, Array.length_toList, hI2.size] at this
   rw [E3, ← this, List.take_length]
  rw [hla] at hA
  obtain ⟨v, k1, k2⟩ := Gb7 hC.hrel hA hres hm
  have hadv : Adv W ρ blks F w ρ1 (l8 s1.H) F1 w'' := by
   refine ⟨hC.adv.ext, fun id b hid => ?_, hC.adv.more, hC.adv.new, fun id b' hb' hn => ?_⟩
   ·obtain ⟨b', g1, g2, g3, g4⟩ := hC.adv.heap id b hid
    have hlt := (List.getElem?_eq_some_iff.1 hid).1
    have hs : z7 b' = false := qb2 hfirst id b' (by rw [E3, List.getElem?_take, if_pos hlt]; exact g1)
    exact ⟨b', X0 g1 hs, g2, g3, g4⟩
   ·rw [wb0, List.getElem?_map] at hb'
    cases hq : s1.H[id]? with
    | none => rw [hq] at hb'; cases hb'
    | some q =>
     rw [hq] at hb'
     injection hb' with hb'
     have hg : b'.g = q.g := by
      rw [← hb']
      unfold xc5
      cases z7 q <;> rfl
     exact hC.adv.fresh id q hq fun b hb => by rw [← hg]; exact hn b hb
  refine ⟨v, k1, v, rfl, ?_⟩
  simp only [Xa4] at hr
  cases ht : Eb8 blks.length (l8 s1.H) (List.range blks.length) (La2 l) with
  | mk z roots =>
  simp only [ht] at hr
  cases hb2 : la2 blks.length (l8 s1.H) 0 roots with
  | none => simp [hb2] at hr
  | some H2 =>
  simp only [hb2] at hr
  have hr' : some (z, H2) = some (r, out) := hr
  injection hr' with hr'; injection hr' with e1 e2; subst e1 e2
  obtain ⟨m1, _, m3⟩ := Gb3 (TOk.start _) ht
  exact ⟨_, F1, ob3 m1 hb2 hadv, (db3 m1 hC.hrel hb2).more hC.sub, Yb1 hb2 m3 k2⟩
 refine lb1 FW.wide hG hcalls (fun _ _ _ _ h => h) (fun rd hrd => by cases hrd) hmx (kc5 hmx hG hcalls hfI hbI hnameI) c 0 _ x s1 h1 _ w _ hI fun ac' w' hI' => ?_
 cases x with
 | normal => exact hfin ac' w' hI' h2
 | ret => exact hfin ac' w' hI' h2
 | exit id => cases h2
end
end Go.Ev
namespace Go.Ev
open Go
theorem j6.body2 {E : Env} {P : Program} {f : FuncId} {h : Zb3} {fn fnI : Func} {pf : PFn} (hP : E.P = P) (hm : P.follows .mixedOrders = true) (hf : P.funcs[f]? = some fn) (hn : fn.name ≠ "runtime.NumGoroutine") (hfI : P.funcs[h.fi]? = some fnI) (hnI : fnI.name ≠ "runtime.NumGoroutine")
  (hc : Oa4 P h fnI fn = some pf) (hcalls : ∀ g, j6 E.P E.G g (E.call g)) : j6 E.P E.G f (ab6 E pf) := by
 subst hP
 exact Ec9 hm hf hn hfI hnI hc hcalls
inductive PS2 where
 | pc (c : PC)
 | seq (a b : PS2)
 | cond (c : Arg) (x y : PS2)
 | block (id : Nat) (c : PS2)
 | sum (S : St → DT (c8 × St))
 | inner (f : Nat) (x : Arg) (nIn : Nat) (c : PS2)
noncomputable def wb3 (E : Env) (k : Nat) (c : PS2) : St → DT (c8 × St) :=
 PS2.rec (motive := fun _ => St → DT (c8 × St))
  (fun c => G2 E k c)
  (fun _ _ x y s => (x s).bind fun r => c8.rec (motive := fun _ => DT (c8 × St)) (y r.2) (fun id => .ret (.exit id, r.2)) (.ret (.ret, r.2)) r.1)
  (fun c _ _ x y s => match a9 E s.a c with
   | .v (.bool b) => .ite b (x s) (y s)
   | _ => .fail)
  (fun id _ x s => (x s).bind fun r => c8.rec (motive := fun _ => DT (c8 × St)) (.ret (.normal, r.2))
   (fun id' => Bool.rec (.ret (.exit id', r.2)) (.ret (.normal, r.2)) (Nat.beq id' id)) (.ret (.ret, r.2)) r.1)
  (fun S => S)
  (fun f x nIn _ c s => match a9 E s.a x with
   | .fn f' caps => match Nat.beq f f' && Nat.ble (len caps + 1) nIn with
    | true => (c (Qa0 caps nIn s)).bind fun r =>
      c8.rec (motive := fun _ => DT (c8 × St)) (Xa3 (hdA (j8 r.2.a nIn)) ⟨j8 r.2.a (nIn + 1), r.2.H⟩) (fun _ => .fail) (Xa3 (hdA (j8 r.2.a nIn)) ⟨j8 r.2.a (nIn + 1), r.2.H⟩) r.1
    | false => .fail
   | _ => .fail) c
inductive V8 (E : Env) (k : Nat) : PS2 → PC → Prop
 | pc (c : PC) : V8 E k (.pc c) c
 | seq {a b : PS2} {a' b' : PC} (h : V8 E k a a') (h' : V8 E k b b') : V8 E k (.seq a b) (.seq a' b')
 | cond (c : Arg) {a b : PS2} {a' b' : PC} (h : V8 E k a a') (h' : V8 E k b b') : V8 E k (.cond c a b) (.cond c a' b')
 | block (id : Nat) {a : PS2} {a' : PC} (h : V8 E k a a') : V8 E k (.block id a) (.block id a')
 | sum {S : St → DT (c8 × St)} {c : PC} (h : ∀ s, N0 (S s) (G2 E k c s)) : V8 E k (.sum S) c
 | inner (f : Nat) (x : Arg) (nIn : Nat) {a : PS2} {a' : PC} (h : V8 E k a a') : V8 E k (.inner f x nIn a) (.inner f x nIn a')
noncomputable def tc3 (E : Env) (f : Nat) (x : Arg) (nIn : Nat) (c : St → DT (c8 × St)) (s : St) : DT (c8 × St) := match a9 E s.a x with
   | .fn f' caps => match Nat.beq f f' && Nat.ble (len caps + 1) nIn with
    | true => (c (Qa0 caps nIn s)).bind fun r =>
      c8.rec (motive := fun _ => DT (c8 × St)) (Xa3 (hdA (j8 r.2.a nIn)) ⟨j8 r.2.a (nIn + 1), r.2.H⟩) (fun _ => .fail) (Xa3 (hdA (j8 r.2.a nIn)) ⟨j8 r.2.a (nIn + 1), r.2.H⟩) r.1
    | false => .fail
   | _ => .fail
theorem Zb6 {E : Env} {f : Nat} {x : Arg} {nIn : Nat} {c c' : St → DT (c8 × St)} (h : ∀ s, N0 (c s) (c' s)) (s : St) : N0 (tc3 E f x nIn c s) (tc3 E f x nIn c' s) := by
 unfold tc3
 cases a9 E s.a x with
 | fn f' caps =>
  simp only
  cases Nat.beq f f' && Nat.ble (len caps + 1) nIn with
  | true => exact (h _).bind fun r => .refl _
  | false => exact .fail _
 | _ => exact .fail _
theorem V8.le {E : Env} {k : Nat} {a : PS2} {c : PC} (h : V8 E k a c) : ∀ s, N0 (wb3 E k a s) (G2 E k c s) := by
 induction h with
 | pc c => exact fun s => .refl _
 | seq h h' ih ih' =>
  intro s
  refine (ih s).bind fun r => ?_
  rcases r with ⟨x, s'⟩
  cases x with
  | normal => exact ih' s'
  | exit id => exact .refl _
  | ret => exact .refl _
 | cond c h h' ih ih' =>
  intro s
  show N0 (match a9 E s.a c with | .v (.bool b) => _ | _ => _) (match a9 E s.a c with | .v (.bool b) => _ | _ => _)
  split
  ·exact .ite (ih s) (ih' s)
  ·exact .fail _
 | block id h ih => exact fun s => (ih s).bind fun r => .refl _
 | sum h => exact h
 | inner f x nIn h ih =>
  intro s
  exact Zb6 (E := E) (f := f) (x := x) (nIn := nIn) ih s
noncomputable def bd1 (E : Env) (fn : PFn) (body : PS2) (args : List a7) (blks : List a8) : DT (a7 × List a8) :=
 .guard (Bool.and (jc5 blks) (Nat.ble (len args) fn.ntmps)) ((wb3 E (len blks) body ⟨app args (List.replicate (fn.ntmps - len args) (.v (.tuple #[]))), blks⟩).bind fun r =>
  match r.1 with
  | .exit _ => .fail
  | _ => match va6 (ya3 (o3 (T5 r.2.H) r.2.a) (l8 r.2.H)) fn.res with
   | some l => .guard (jc5 (E2 r.2.H (len blks))) (Xa4 (len blks) (l8 r.2.H) (La2 l))
   | none => .fail)
theorem kc6 {E : Env} {fn : PFn} {body : PS2} {args : List a7} {blks : List a8} (h : V8 E (len blks) body fn.body) : N0 (bd1 E fn body args blks) (ab6 E fn args blks) :=
 N0.ite (N0.bind (h.le _) fun _ => .refl _) (.refl _)
@[reducible] noncomputable def kc7 (k : Nat) (keep : List Nat) (s : St) : DT St := tidyM k ⟨G4 keep s.a 0, s.H⟩
theorem tc4 (E : Env) (k : Nat) (keep : List Nat) (c : PC) (s : St) : G2 E k (.loopM keep c) s = Va8 (kc7 k keep) (G2 E k c) E.N s := rfl
end Go.Ev
namespace Go.Ev
open Go
noncomputable def got (x : Option PFn) : PFn := Option.rec (motive := fun _ => PFn) ⟨0, [], .skip⟩ (fun y => y) x
theorem m8 {x : Option PFn} (h : Option.isSome x = true) : x = some (got x) := by cases x with
 | none => cases h
 | some y => rfl
def J5 (P : Program) (f : FuncId) (R : Env → Sum) : Prop := ∀ {E : Env}, E.P = P → (∀ g, j6 E.P E.G g (E.call g)) → j6 E.P E.G f (R E)
theorem M6 {P : Program} {f : FuncId} {fn : Func} {pf : PFn} (hm : P.follows .mixedOrders = true) (hf : P.funcs[f]? = some fn) (hn : decide (fn.name ≠ "runtime.NumGoroutine") = true) (hc : i9 P fn = some pf) : J5 P f fun E => p9 E pf :=
 fun hP hcalls => j6.body hP hm hf (of_decide_eq_true hn) hc hcalls
theorem bd2 {P : Program} {f : FuncId} {h : Zb3} {fn fnI : Func} {pf : PFn} (hm : P.follows .mixedOrders = true) (hf : P.funcs[f]? = some fn) (hn : decide (fn.name ≠ "runtime.NumGoroutine") = true) (hfI : P.funcs[h.fi]? = some fnI) (hnI : decide (fnI.name ≠ "runtime.NumGoroutine") = true)
  (hc : Oa4 P h fnI fn = some pf) : J5 P f fun E => ab6 E pf :=
 fun hP hcalls => j6.body2 hP hm hf (of_decide_eq_true hn) hfI (of_decide_eq_true hnI) hc hcalls
end Go.Ev
