/- Own work: a part of the proof. -/
import Derived.Test.YtlccibobknidjaaEvSp7
import Derived.Test.YtlccibobknidjaaEvEq
import Derived.Test.YtlccibobknidjaaEvFz
import Derived.OrdersIn
set_option linter.unusedVariables false
set_option linter.unusedSimpArgs false
set_option linter.unnecessarySimpa false
set_option linter.unusedSectionVars false
namespace Go.Ev
open Go
def ab3 (fl : List (Nat × CK)) (kl : Nat) : Bool := (List.range kl).all fun i => fl.any fun p => Nat.beq p.1 i
def Kc9 (P : Program) (t : TypeId) : Bool := match P.info? t with
 | some i => match i.zero with
  | some (.bool b) => !b
  | _ => false
 | none => false
theorem Ub4 {fl : List (Nat × CK)} {kl i : Nat} (h : ab3 fl kl = true) (hi : i < kl) : ∃ p ∈ fl, p.1 = i := by
 unfold ab3 at h
 rw [List.all_eq_true] at h
 have := h i (List.mem_range.2 hi)
 rw [List.any_eq_true] at this
 obtain ⟨p, h1, h2⟩ := this
 exact ⟨p, h1, Nat.eq_of_beq_eq_true h2⟩
section
variable {WB K : Nat → Prop} {J : List Value → World → Prop} {ρ ρ0 : Rho} {H H0 H' : List a8} {F F0 : Fz} {w w0 w' : World} {W' : Nat → Prop} {up : List Value} {E : Env} {a : List a7} {ac : Act} {x : a7} {o : Oper}
theorem Ec1 {x x' : Value} (h : XW ρ H F w (.v x) x') : x' = x := by
 cases h with
 | w h => exact Q6 h
 | c h => cases h with
  | n h => exact Q6 (.val (.cell h))
theorem Lc0 {fl : List (Nat × CK)} {kl : Nat} {ks : List a7} {v : Value} (hcov : ab3 fl kl = true) (hk : ∀ p ∈ fl, (∃ i, p.2 = .int i) ∨ p.2 = .bool) (hx : XW ρ H F w (.agg ks) v) (hlen : ks.length = kl) (hok : oc9 fl ks = true) :
  ∃ vs : Array Value, v = .agg vs ∧ ks = vs.toList.map .v ∧ vs.size = kl ∧ ∀ p ∈ fl, ja1 vs p := by
 have hx' : y8 ρ (l8 H) F w (.agg ks) v := by
  cases hx with
  | w h => exact h
  | c h => cases h with
   | n h => exact .val (.cell h)
 obtain ⟨vs, rfl, hl, hr⟩ := ja0 hx'
 have h1 := Fb7 hok
 have k1 : ∀ p ∈ fl, ja1 vs p := fun p hp => (Ya1 hl hr (hk p hp) (h1 p hp)).1
 refine ⟨vs, rfl, List.ext_getElem (by simpa using hl) fun i hi hi' => ?_, by rw [← hl]; exact hlen, k1⟩
 obtain ⟨p, hp, rfl⟩ := Ub4 hcov (hlen ▸ hi)
 have h2 := h1 p hp
 rw [nb9, List.getElem?_eq_getElem hi] at h2
 simp only [Option.getD_some] at h2
 have hi2 : p.1 < vs.size := hl ▸ hi
 have hrel := hr p.1 _ _ (List.getElem?_eq_getElem hi) (Array.getElem?_eq_getElem hi2)
 have hv : ∃ u, ks[p.1] = .v u := by
  rcases hk p hp with ⟨q, e⟩ | e <;> rw [e] at h2 <;> revert h2 <;> cases ks[p.1] <;> intro h2 <;> first | exact ⟨_, rfl⟩ | cases h2
 obtain ⟨u, hu⟩ := hv
 rw [hu] at hrel ⊢
 have := Q6 (.val (.cell hrel))
 simp [this]
theorem Lc1 (m : Nat) (k : IntKind) (a : Int) : Instr.sameBits m (.int k a) (.int k a) = true := by cases m <;> simp [Instr.sameBits]
theorem Ec2 (m : Nat) (a : Bool) : Instr.sameBits m (.bool a) (.bool a) = true := by cases m <;> simp [Instr.sameBits]
theorem Ec3 {fl : List (Nat × CK)} {kl m : Nat} {ks us : Array Value} (hcov : ab3 fl kl = true) (hk : ∀ p ∈ fl, (∃ i, p.2 = .int i) ∨ p.2 = .bool) (h1 : ks.size = kl) (h2 : us.size = kl) (a1 : ∀ p ∈ fl, ja1 ks p) (a2 : ∀ p ∈ fl, ja1 us p) (he : fl.all (ya5 ks us) = true) :
  Instr.sameBits (m + 1) (.agg us) (.agg ks) = true := by
 rw [Instr.sameBits]
 rw [Bool.and_eq_true]
 refine ⟨by simp [h1, h2], ?_⟩
 rw [List.all_eq_true]
 intro q hq
 obtain ⟨i, hi, hq⟩ := List.mem_iff_getElem.1 hq
 rw [List.getElem_zip] at hq
 have hi' : i < kl := by rw [List.length_zip, Array.length_toList, Array.length_toList] at hi; omega
 obtain ⟨p, hp, rfl⟩ := Ub4 hcov hi'
 have e := List.all_eq_true.1 he p hp
 have b1 := a1 p hp
 have b2 := a2 p hp
 have g1 : ks[p.1]? = some (ks[p.1]'(by omega)) := Array.getElem?_eq_getElem _
 have g2 : us[p.1]? = some (us[p.1]'(by omega)) := Array.getElem?_eq_getElem _
 rw [← hq]
 simp only [Array.getElem_toList]
 unfold ja1 at b1 b2
 unfold ya5 at e
 rcases hk p hp with ⟨k, hkk⟩ | hkk
 ·rw [hkk] at b1 b2
  obtain ⟨n, b1⟩ := b1
  obtain ⟨n', b2⟩ := b2
  rw [b1, b2] at e
  have e : n = n' := by simpa using e
  subst e
  rw [g1] at b1; rw [g2] at b2
  rw [Option.some.inj b1, Option.some.inj b2]
  exact Lc1 _ _ _
 ·rw [hkk] at b1 b2
  obtain ⟨n, b1⟩ := b1
  obtain ⟨n', b2⟩ := b2
  rw [b1, b2] at e
  have e : n = n' := by simpa using e
  subst e
  rw [g1] at b1; rw [g2] at b2
  rw [Option.some.inj b1, Option.some.inj b2]
  exact Ec2 _ _
theorem ab4 {k : Nat} {es : Array MapEntry} {clk : Nat} (P : Program) (h : w.heap[k]? = some (.map es clk)) : (getObj k).run P w = .ok (.map es clk) w := by simp [getObj, Sem.run, h]
theorem ab5 {k : Nat} {es : Array MapEntry} {clk : Nat} (P : Program) (o : Obj) (h : w.heap[k]? = some (.map es clk)) : (setObj k o).run P w = .ok () (w.putObj k o) := by simp [setObj, Sem.run, h, World.putObj]
theorem zb6 {P : Program} {t : TypeId} {fl : List (Nat × CK)} {kl : Nat} (hag : agT P t = true) (hf : Q5 P 9 t = some fl) {ks : Array Value} (h1 : ∀ p ∈ fl, ja1 ks p) (es : List MapEntry) (rows : List (List a7)) (hl : es.length = rows.length) (hr : ∀ (j : Nat) r e, rows[j]? = some r → es[j]? = some e → Jb3 fl kl r e) :
  ((Instr.findKey t (.agg ks) es).run P w = .ok none w ∧ yb8 fl (ks.toList.map .v) rows = none ∧ ∀ new, La1 fl (ks.toList.map .v) new rows = rows ++ [new]) ∨
  (∃ j e r, (Instr.findKey t (.agg ks) es).run P w = .ok (some (j, e.val)) w ∧ es[j]? = some e ∧ rows[j]? = some r ∧ yb8 fl (ks.toList.map .v) rows = some r ∧ (∀ new, La1 fl (ks.toList.map .v) new rows = rows.set j new) ∧ ∃ us, e.key = .agg us ∧ fl.all (ya5 ks us) = true) := by
 have hu : ∃ d, P.underlying t = some d ∧ ∀ e es i, Instr.findNow d (.agg ks) (e :: es) i = none := by
  unfold agT at hag
  split at hag
  ·rename_i fs h; exact ⟨_, h, fun e es i => rfl⟩
  ·rename_i n e h; exact ⟨_, h, fun e es i => rfl⟩
  ·cases hag
 obtain ⟨d, hd, hnow⟩ := hu
 have := jc2 (w := w) (kl := kl) hag hf h1 es rows 0 hl hr
 have e0 : (Instr.findKey t (.agg ks) es).run P w = (Instr.findAsking t (.agg ks) es 0).run P w := by
  unfold Instr.findKey
  simp only [Sem.run_bind, run_underlying hd, Result.andThen_ok]
  cases es with
  | nil => simp [Instr.findNow, Instr.findAsking]
  | cons e es => rw [hnow]
 rw [e0]
 simpa using this
section
variable {ds : List Deferred} {n : Nat} (hC : C2 E.P WB K J ρ0 H0 F0 w0 H ds w ρ F W' up) (hJ : kb9 K J)
include hC hJ
theorem Lc2 {t : TypeId} {kt el : TypeId} {fl : List (Nat × CK)} (ho : o.op = .makeMap t none) (hu : E.P.underlying t = some (.map kt el)) (hf : Q5 E.P 9 kt = some fl) (he : (Va9 E a H (.mmake t)).run = some (x, H')) :
  i5 E.P o ac w (Ua8 E.P WB K J ρ0 H0 F0 w0 ρ H F w up ds x H') := by
 have he' : some (a7.ptr (len H) 0 0 0, nb1 H (t + 1) []) = some (x, H') := he
 injection he' with he'; injection he' with e1 e2; subst e1 e2
 rw [j7]
 obtain ⟨c1, c2, c3, c4⟩ := hC.alloc hJ (.map #[] 0)
 have hap : ∀ (id : Nat) b, H[id]? = some b → z7 b = true → b.dead = false → (ρ id).blk ≠ w.heap.size := fun id b hb hs hd => Nat.ne_of_lt (hC.srel.has id b hb hs hd).2.2.2.1
 rw [jc0]
 have hnew : (w.alloc (.map #[] 0)).heap[w.heap.size]? = some (.map #[] 0) := World.alloc_heap_new w _
 refine .value (x' := .map (some w.heap.size)) (w' := w.alloc (.map #[] 0)) (by simp [execOp, ho, Instr.makeMap, run_newObj_alloc]) ?_
 obtain ⟨d1, d2⟩ := c1.adopt w.heap.size 0 c3 (fun h => h.2 rfl) (fun o hf => c4 o hf) (by simp) hap (fun hk => Nat.lt_irrefl _ (hC.kept _ hk).2) { et := t + 1, es := 0, elems := [], own := true, dead := false, g := 0 } (Fa2 (t := t) ⟨rfl, rfl⟩) rfl
  (.inr ⟨t, kt, el, fl, #[], 0, ⟨rfl, rfl⟩, hu, hf, hnew, rfl, fun i r e hr => by simp at hr⟩)
 refine ⟨_, F, _, d1, fun x x' hx => d2 _ _ (c2 _ _ hx), .c ?_⟩
 have hρn : (ρnew ρ H ⟨w.heap.size, 0, 0⟩ H.length).blk = w.heap.size := by simp [ρnew]
 have := XC.map (ρ := ρnew ρ H ⟨w.heap.size, 0, 0⟩) (F := F) (w := w.alloc (.map #[] 0)) H.length 0 0 { et := t + 1, es := 0, elems := [], own := true, dead := false, g := 0 } t (H := H ++ [{ et := t + 1, es := 0, elems := [], own := true, dead := false, g := 0 }]) (by simp) rfl ⟨rfl, rfl⟩
 rwa [hρn] at this
variable (hv : VR ρ H F w a (ac.tmps.toList ++ up)) (hn : ac.tmps.size = n) (hG : GOk E F w)
include hv hn hG
omit hJ in
theorem Lc3 {t : TypeId} {kt el : TypeId} {fl : List (Nat × CK)} {m : Nat} {y : Operand} (ho : o.op = .lookup t (.tmp m) y false) (hm : Nat.blt m n = true) (hy : ltO n y = true) (hu : E.P.underlying t = some (.map kt el)) (hag : agT E.P kt = true) (hf : Q5 E.P 9 kt = some fl) (hcov : ab3 fl (szT E.P kt) = true) (hz : Kc9 E.P el = true)
  (he : (Va9 E a H (.mlook t (szT E.P kt) fl m (f0 y))).run = some (x, H')) :
  i5 E.P o ac w (Ua8 E.P WB K J ρ0 H0 F0 w0 ρ H F w up ds x H') := by
 have hmr := Oa3 hv hn hG (.tmp m) hm
 have hyr := Oa3 hv hn hG y hy
 have hev : (ac.eval (.tmp m)) = ac.tmps.getD m undef := rfl
 simp only [Va9] at he
 have hcA : f0 (.tmp m) = .t m := rfl
 rw [hcA] at hmr
 cases hs : nb0 (t + 1) H (a9 E a (.t m)) with
 | none => rw [hs] at he; cases he
 | some q =>
 obtain ⟨id, c, g, b⟩ := q
 rw [hs] at he
 simp only at he
 obtain ⟨h1, h2, h3, h4, h5⟩ := Ub3 hs hmr
 revert he hyr
 generalize a9 E a (f0 y) = ya
 intro hyr he
 split at he
 case h_2 => cases he
 ·rename_i ks
  obtain ⟨hgd, he⟩ := DT.run_guard_some he
  have he : some (a7.v (.bool (nb2 (szT E.P kt) fl ks b.elems)), H) = some (x, H') := he
  rw [Bool.and_eq_true, j7] at hgd
  obtain ⟨vs, e1, e2, e3, e4⟩ := Lc0 hcov (Ea5 9 kt fl hf) hyr (Nat.eq_of_beq_eq_true hgd.1) hgd.2
  obtain ⟨rfl, rfl⟩ : x = a7.v (.bool (nb2 (szT E.P kt) fl ks b.elems)) ∧ H = H' := by injection he with he; injection he with e1 e2; exact ⟨e1.symm, e2⟩
  subst e2
  obtain ⟨_, _, _, _, hcont⟩ := hC.srel.has id b h2 (Fa2 h4) h3
  rcases hcont with ⟨hb, _⟩ | ⟨t', K', El, fl', es, clk, m1, m2, m3, m4, m5, m6⟩
  ·exact (eb6 hb h4).elim
  have ht : t' = t := Nat.succ.inj (m1.2.symm.trans h4.2)
  subst ht
  rw [hu] at m2
  injection m2 with m2; injection m2 with q1 q2; subst q1 q2
  rw [hf] at m3
  injection m3 with m3; subst m3
  have hlen : es.toList.length = b.elems.length := by rw [Array.length_toList]; exact m5.symm
  have hrow : ∀ (j : Nat) r e, b.elems[j]? = some r → es.toList[j]? = some e → Jb3 fl (szT E.P kt) r e := fun j r e hr he => m6 j r e hr (by simpa using he)
  have hfind := zb6 (w := w) (kl := szT E.P kt) hag hf e4 es.toList b.elems hlen hrow
  have hck : (Instr.checkKey es.isEmpty 10000 kt (.agg vs)).run E.P w = .ok () w := Zb2 es.isEmpty 9 kt fl hf 10000 (by decide) (.agg vs) (fun _ => rfl) (fun h => by rw [hag] at h; cases h) e4
  have hgo : (getObj (ρ id).blk).run E.P w = .ok (.map es clk) w := ab4 E.P m4
  rcases hfind with ⟨k1, k2, _⟩ | ⟨j, e, r, k1, k2, k3, k4, _, _⟩
  ·have hz' : (zeroValue el).run E.P w = .ok (.bool false) w := by
    unfold Kc9 at hz
    split at hz
    ·rename_i i hi
     split at hz
     ·rename_i bb hbb
      cases bb with
      | true => cases hz
      | false => simp [zeroValue, typeInfo, hi, hbb]
     ·cases hz
    ·cases hz
   refine .value (x' := .bool false) (w' := w) ?_ ⟨ρ, F, W', hC, fun _ _ h => h, ?_⟩
   ·simp [execOp, ho, Instr.lookup, run_underlying hu, h5, e1, hgo, hck, k1, hz']
   ·unfold nb2
    rw [k2]
    exact .w (.val (.cell (.v _)))
  ·obtain ⟨us, bb, g1, g2, g3, g4, g5⟩ := hrow j r e k3 k2
   refine .value (x' := .bool bb) (w' := w) ?_ ⟨ρ, F, W', hC, fun _ _ h => h, ?_⟩
   ·simp [execOp, ho, Instr.lookup, run_underlying hu, h5, e1, hgo, hck, k1, g4]
   ·unfold nb2
    rw [k4]
    have : toB (hdA (j8 r (szT E.P kt))) = bb := by
     rw [nb9, g1, ← g2]
     rw [List.getElem?_append_right (by simp)]
     simp [toB]
    show XW ρ H F w (.v (.bool (toB (hdA (j8 r (szT E.P kt)))))) _
    rw [this]
    exact .w (.val (.cell (.v _)))
theorem Vc5 {t : TypeId} {kt el : TypeId} {fl : List (Nat × CK)} {m : Nat} {y z : Operand} (ho : o.op = .mapUpdate t (.tmp m) y z) (hm : Nat.blt m n = true) (hy : ltO n y = true) (hz : ltO n z = true) (hu : E.P.underlying t = some (.map kt el)) (hag : agT E.P kt = true) (hf : Q5 E.P 9 kt = some fl) (hcov : ab3 fl (szT E.P kt) = true)
  (he : (Va9 E a H (.mupd t (szT E.P kt) fl m (f0 y) (f0 z))).run = some (x, H')) :
  i5 E.P o ac w (Ua8 E.P WB K J ρ0 H0 F0 w0 ρ H F w up ds x H') := by
 have hmr := Oa3 hv hn hG (.tmp m) hm
 have hyr := Oa3 hv hn hG y hy
 have hzr := Oa3 hv hn hG z hz
 simp only [Va9] at he
 have hcA : f0 (.tmp m) = .t m := rfl
 rw [hcA] at hmr
 cases hs : nb0 (t + 1) H (a9 E a (.t m)) with
 | none => rw [hs] at he; cases he
 | some q =>
 obtain ⟨id, c, g, b⟩ := q
 rw [hs] at he
 simp only at he
 obtain ⟨h1, h2, h3, h4, h5⟩ := Ub3 hs hmr
 revert he hyr hzr
 generalize a9 E a (f0 y) = ya
 generalize a9 E a (f0 z) = za
 intro hyr hzr he
 split at he
 case h_2 => cases he
 rename_i ks bv
 obtain ⟨hgd, he⟩ := DT.run_guard_some he
 have he : some (a7.v (.tuple #[]), setAt H id { b with elems := La1 fl ks (app ks [.v (.bool bv)]) b.elems }) = some (x, H') := he
 rw [Bool.and_eq_true, j7] at hgd
 have hkinds := Ea5 9 kt fl hf
 obtain ⟨vs, e1, e2, e3, e4⟩ := Lc0 hcov hkinds hyr (Nat.eq_of_beq_eq_true hgd.1) hgd.2
 have e5 := Ec1 hzr
 injection he with he; injection he with q1 q2
 subst q1 q2 e2
 obtain ⟨hWB, hnW, hnF, hlt, hcont⟩ := hC.srel.has id b h2 (Fa2 h4) h3
 rcases hcont with ⟨hb, _⟩ | ⟨t', K', El, fl', es, clk, m1, m2, m3, m4, m5, m6⟩
 ·exact (eb6 hb h4).elim
 have ht : t' = t := Nat.succ.inj (m1.2.symm.trans h4.2)
 subst ht
 rw [hu] at m2
 injection m2 with m2; injection m2 with q1 q2; subst q1 q2
 rw [hf] at m3
 injection m3 with m3; subst m3
 have hlen : es.toList.length = b.elems.length := by rw [Array.length_toList]; exact m5.symm
 have hrow : ∀ (j : Nat) r e, b.elems[j]? = some r → es.toList[j]? = some e → Jb3 fl (szT E.P kt) r e := fun j r e hr he => m6 j r e hr (by simpa using he)
 have hfind := zb6 (w := w) (kl := szT E.P kt) hag hf e4 es.toList b.elems hlen hrow
 have hck : (Instr.checkKey false 10000 kt (.agg vs)).run E.P w = .ok () w := Zb2 false 9 kt fl hf 10000 (by decide) (.agg vs) (fun _ => rfl) (fun h => by rw [hag] at h; cases h) e4
 have hgo : (getObj (ρ id).blk).run E.P w = .ok (.map es clk) w := ab4 E.P m4
 have hnK : ∀ k, K k → k ≠ (ρ id).blk := fun k hk e => hC.far id b h2 (Fa2 h4) h3 (e ▸ hk)
 have hid := (List.getElem?_eq_some_iff.1 h2).1
 have hnewrow : ∀ us : MapEntry, Jb3 fl (szT E.P kt) (app (vs.toList.map .v) [.v (.bool bv)]) { us with key := .agg vs, val := .bool bv } := fun us => ⟨vs, bv, by rw [B4], e3, rfl, rfl, e4⟩
 have hfin : ∀ (es' : Array MapEntry) (clk' : Nat), (La1 fl (vs.toList.map .v) (app (vs.toList.map .v) [.v (.bool bv)]) b.elems).length = es'.size → b.elems.length ≤ es'.size → (∀ (i : Nat) r e, (La1 fl (vs.toList.map .v) (app (vs.toList.map .v) [.v (.bool bv)]) b.elems)[i]? = some r → es'[i]? = some e → Jb3 fl (szT E.P kt) r e) →
   Ua8 E.P WB K J ρ0 H0 F0 w0 ρ H F w up ds (.v (.tuple #[])) (H.set id { b with elems := La1 fl (vs.toList.map .v) (app (vs.toList.map .v) [.v (.bool bv)]) b.elems }) (.tuple #[]) (w.putObj (ρ id).blk (.map es' clk')) := fun es' clk' hl1 hl2 hrows => by
  obtain ⟨c1, c2⟩ := hC.change (w' := w.putObj (ρ id).blk (.map es' clk')) (H' := H.set id { b with elems := La1 fl (vs.toList.map .v) (app (vs.toList.map .v) [.v (.bool bv)]) b.elems }) (up' := up) (ρ id).blk hWB hnW hnF rfl rfl rfl (Nat.le_refl _) (by simp) (fun j hj => World.putObj_heap_other hj)
   (fun cc t' fr hcc => by rw [m4] at hcc; cases hcc) (by simp)
   (fun id' b' hb' => by
    by_cases e : id = id'
    ·subst e
     obtain rfl : b' = b := Option.some.inj (hb'.symm.trans h2)
     exact ⟨{ b' with elems := La1 fl (vs.toList.map .v) (app (vs.toList.map .v) [.v (.bool bv)]) b'.elems }, by simp [hid], rfl, rfl, rfl, rfl, by simp only; rw [hl1]; exact hl2, fun hs0 => by rw [Fa2 h4] at hs0; cases hs0⟩
    ·exact ⟨b', by rw [List.getElem?_set_ne e]; exact hb', rfl, rfl, rfl, rfl, Nat.le_refl _, fun _ => rfl⟩)
   (fun id' b' hb' hs' hd' hne => by
    have e : id ≠ id' := fun e => hne (by rw [e])
    rw [List.getElem?_set_ne e]; exact hb')
   (fun hx id' b' hb' hs' hd' hblk => by
    have e : id = id' := Classical.byContradiction fun hne => by
     rw [List.getElem?_set_ne hne] at hb'
     exact hC.srel.apart id id' b b' h2 hb' (Fa2 h4) hs' h3 hd' hne hblk.symm
    subst e
    have : b' = { b with elems := La1 fl (vs.toList.map .v) (app (vs.toList.map .v) [.v (.bool bv)]) b.elems } := by simpa [hid] using hb'.symm
    subst this
    exact .inr ⟨t', kt, el, fl, es', clk', h4, hu, hf, World.putObj_heap_same hlt, hl1, hrows⟩)
   (hJ up w _ (fun k hk => World.putObj_heap_other (hnK k hk)) hC.jot)
   (fun D _ hD e => by rw [e, m4] at hD; cases hD)
  exact ⟨ρ, F, W', c1, c2, .w (.ofv _)⟩
 rw [y7]
 rcases hfind with ⟨k1, _, k3⟩ | ⟨j, e, r, k1, k2, k3, k4, k5, us, k6, k7⟩
 ·have hso := ab5 E.P (.map (es.push { key := .agg vs, val := .bool bv, born := clk }) (clk + 1)) m4
  refine .skip (w' := w.putObj (ρ id).blk (.map (es.push { key := .agg vs, val := .bool bv, born := clk }) (clk + 1))) ?_ (hfin _ _ ?_ ?_ ?_)
  ·simp [execOp, ho, Instr.mapUpdate, run_underlying hu, h5, e1, e5, hgo, hck, k1, hso]
  ·rw [k3]; simp [m5]
  ·simp [m5]
  ·intro i r e hr he
   rw [k3] at hr
   by_cases hi : i < b.elems.length
   ·rw [List.getElem?_append_left hi] at hr
    rw [Array.getElem?_push, if_neg (by omega)] at he
    exact m6 i r e hr he
   ·rw [List.getElem?_append_right (by omega)] at hr
    have hi0 : i - b.elems.length = 0 := by
     rcases Nat.eq_zero_or_pos (i - b.elems.length) with h | h
     ·exact h
     ·rw [List.getElem?_eq_none (by simp; omega)] at hr; cases hr
    rw [hi0] at hr
    rw [Array.getElem?_push, if_pos (by omega)] at he
    simp at hr he
    subst hr he
    exact hnewrow { key := .agg vs, val := .bool bv, born := clk }
 ·have k2' : es[j]? = some e := by simpa using k2
  obtain ⟨us', bb, g1, g2, g3, g4, g5⟩ := hrow j r e k3 k2
  rw [k6] at g3
  injection g3 with g3
  subst g3
  have hsame : Instr.sameBits 10000 (.agg us) (.agg vs) = true := Ec3 (m := 9999) hcov hkinds e3 g2 e4 g5 k7
  have hso := ab5 E.P (.map (es.modify j fun e => { e with key := .agg vs, val := .bool bv }) clk) m4
  refine .skip (w' := w.putObj (ρ id).blk (.map (es.modify j fun e => { e with key := .agg vs, val := .bool bv }) clk)) ?_ (hfin _ _ ?_ ?_ ?_)
  ·simp [execOp, ho, Instr.mapUpdate, run_underlying hu, h5, e1, e5, hgo, hck, k1, k2', k6, Instr.keyThatStays, hsame, hso]
  ·rw [k5]; simp [m5]
  ·simp [m5]
  ·intro i r' e' hr he
   rw [k5] at hr
   rw [Array.getElem?_modify] at he
   by_cases hi : j = i
   ·subst hi
    rw [if_pos rfl, k2'] at he
    have hj := (List.getElem?_eq_some_iff.1 k3).1
    rw [List.getElem?_set_self hj] at hr
    simp at hr he
    subst hr he
    exact hnewrow e
   ·rw [if_neg hi] at he
    rw [List.getElem?_set_ne hi] at hr
    exact m6 i r' e' hr he
end
end
end Go.Ev
namespace Go.Ev
open Go
def Lc4 (pr : List Nat) : Operand → Option Nat
 | .tmp p => if pr.contains p then some p else none
 | _ => none
def Lc5 (pr : List Nat) (o : Oper) : Bool := match o.dst with
 | some d => pr.contains d
 | none => false
def ib2 (b : Bool) (x : SP) : SP := match b with
 | true => x
 | false => .bad
structure ld9 where
 kt : TypeId
 el : TypeId
 fl : List (Nat × CK)
def Lc6 (P : Program) (t : TypeId) : Option ld9 := match P.underlying t with
 | some (.map kt el) => match Q5 P 9 kt with
  | some fl => match agT P kt && ab3 fl (szT P kt) with
   | true => some ⟨kt, el, fl⟩
   | false => none
  | none => none
 | _ => none
def cSp (P : Program) (n : Nat) (pr : List Nat) (o : Oper) : Option SP :=
 match o.op with
 | .alloc t => match Lc5 pr o with
  | true => match zeT P t with
   | some z => some (.balloc z)
   | none => some .bad
  | false => none
 | .box _ x => match Lc5 pr o with
  | true => some (ib2 (ltO n x) (.bbox (f0 x)))
  | false => none
 | .load t x => match Lc4 pr x with
  | some p => some (ib2 (Nat.blt p n && (P.underlying t).isSome) (.bload (szT P t) (agT P t) p))
  | none => none
 | .store t x y => match Lc4 pr x with
  | some p => some (ib2 (Nat.blt p n && ltO n y && !Nat.beq (szT P t) 0) (.bstore (szT P t) p (f0 y)))
  | none => none
 | .fieldAddr s x f => match Lc4 pr x with
  | some p => match P.underlying s with
   | some (.struct fs) => match fs[f]? with
    | some fd => some (ib2 (Nat.blt p n && !Nat.beq (szT P fd.type) 0) (.bfld fd.offset p))
    | none => some .bad
   | _ => some .bad
  | none => none
 | .makeMap t none => match Lc6 P t with
  | some _ => some (.mmake t)
  | none => some .bad
 | .lookup t (.tmp m) y false => match Lc6 P t with
  | some q => some (ib2 (Nat.blt m n && ltO n y && Kc9 P q.el) (.mlook t (szT P q.kt) q.fl m (f0 y)))
  | none => some .bad
 | .mapUpdate t (.tmp m) y z => match Lc6 P t with
  | some q => some (ib2 (Nat.blt m n && ltO n y && ltO n z) (.mupd t (szT P q.kt) q.fl m (f0 y) (f0 z)))
  | none => some .bad
 | .call c => match c.callee with
  | .builtin .append => match Lc5 pr o with
   | true => match c.args.toList, c.argTypes.toList with
    | [s, x], [t, u] => match P.underlying t with
     | some (.slice e) => some (ib2 (Nat.blt 0 (szT P e) && Nat.beq t u) (.old n (.apre (szT P e) (f0 s) (f0 x))))
     | _ => some .bad
    | _, _ => some .bad
   | false => none
  | .builtin .clear => match c.args.toList, c.argTypes.toList with
   | [x], [t] => match P.underlying t with
    | some (.slice e) => match zeT P e with
     | some z => some (ib2 (Nat.blt 0 (szT P e)) (.old n (.clr (szT P e) z (f0 x))))
     | none => some .bad
    | _ => some .bad
   | _, _ => some .bad
  | _ => none
 | _ => none
structure Rd where
 nOut : Nat
 ps : List Nat
 as : PC
 body : PC
abbrev HL := List (Nat × Option (Nat × Bool))
def Lc7 : Option (Nat × Bool) → Option (Nat × Bool) → Bool
 | none, _ => true
 | some (d, b), some (d', b') => Nat.beq d d' && (b == b')
 | some _, none => false
def Lc8 (S : HL) (t : Nat) (g : Option (Nat × Bool)) : Bool := S.any fun p => Nat.beq p.1 t && Lc7 p.2 g
def pb8 (ops : Array Oper) (S : HL) (o : Oper) : Option (List Operand) := match o.op with
 | .call c => match c.callee with
  | .value (.tmp t) => match M4 ops o with
   | some g => if Lc8 S t g then some c.args.toList else none
   | none => none
  | _ => none
 | _ => none
def Jb6 (ops : Array Oper) (S : HL) (o : Oper) : Option (Nat × Option (Nat × Bool)) := match o.op, o.dst with
 | .move (.tmp t), some d => match M4 ops o with
  | some g => if Lc8 S t g then some (d, g) else none
  | none => none
 | _, _ => none
def gOk (n : Nat) : Option (Nat × Bool) → Bool
 | none => true
 | some (d, _) => Nat.blt d n
def dOk (n : Nat) : Option Nat → Bool
 | none => true
 | some d => Nat.blt d n
def rmL (S : HL) (dd : List Nat) : HL := S.filter fun p => !dd.contains p.1 && match p.2 with
 | none => true
 | some (d, _) => !dd.contains d
def rmD (S : HL) : Option Nat → HL
 | none => S
 | some d => rmL S [d]
def lb0 (l : List Oper) : List Nat := l.filterMap (·.dst)
def vb6 (p : Oper → Bool) : List Oper → Nat
 | [] => 0
 | o :: r => match p o with
  | true => vb6 p r + 1
  | false => 0
def jc3 (P : Program) (n : Nat) (pr : List Nat) (ops : Array Oper) (S : HL) (o : Oper) : Bool := (cSp P n pr o).isNone && (pb8 ops S o).isNone && (Jb6 ops S o).isNone
def Lc9 (l r : HL) : Bool := l.all fun p => Lc8 r p.1 p.2
def jc4 (P : Program) (n : Nat) (pr : List Nat) (yl : Option Rd) (S0 : HL) (ops : Array Oper) : Nat → List Oper → HL → PC
 | 0, _, _ => .bad
 | _ + 1, [], S => match Lc9 S0 S with
  | true => .skip
  | false => .bad
 | f + 1, o :: r, S => match pb8 ops S o with
  | some args => match yl, M4 ops o with
   | some rd, some g => match gOk n g && dOk n o.dst && args.all (ltO n) && Nat.beq args.length rd.ps.length with
    | true => .seq (.round o.dst g (args.map f0) n rd.nOut rd.ps rd.as rd.body) (jc4 P n pr yl S0 ops f r (rmD S o.dst))
    | false => .bad
   | _, _ => .bad
  | none => match Jb6 ops S o with
   | some (d, g) => match Nat.blt d n with
    | true => .seq (.mask n [d] (.ops [⟨some d, none, [], .mv (.c .unk)⟩])) (jc4 P n pr yl S0 ops f r ((d, g) :: rmL S [d]))
    | false => .bad
   | none => match cSp P n pr o with
    | some so => match M4 ops o with
     | some g => match gOk n g && dOk n o.dst with
      | true => .seq (.sp o.dst g so) (jc4 P n pr yl S0 ops f r (rmD S o.dst))
      | false => .bad
     | none => .bad
    | none => match fb8 P ops (o :: r.take (vb6 (jc3 P n pr ops S) r)) with
     | some l => .seq (.mask n (lb0 (o :: r.take (vb6 (jc3 P n pr ops S) r))) (.ops l)) (jc4 P n pr yl S0 ops f (r.drop (vb6 (jc3 P n pr ops S) r)) (rmL S (lb0 (o :: r.take (vb6 (jc3 P n pr ops S) r)))))
     | none => .bad
def fa8 (P : Program) (n : Nat) (pr : List Nat) (yl : Option Rd) (S0 : HL) (kp : Nat → List Nat) (rf : Operand → Array Tmp → Code → Code → PC) (cur : Nat) : Code → PC
 | .skip => .skip
 | .region _ ops d => match d with
  | false => jc4 P n pr yl S0 ops (ops.size + 1) ops.toList S0
  | true => match Lc9 S0 (rmL S0 (lb0 ops.toList)) with
   | true => .mask n (lb0 ops.toList) (Ea2 P ops)
   | false => .bad
 | .seq a b => .seq (fa8 P n pr yl S0 kp rf cur a) (fa8 P n pr yl S0 kp rf cur b)
 | .cond c x y => match ltO n c with
  | true => .cond (f0 c) (fa8 P n pr yl S0 kp rf cur x) (fa8 P n pr yl S0 kp rf cur y)
  | false => .bad
 | .block id c => .block id (fa8 P n pr yl S0 kp rf id c)
 | .loop c => .loopM (kp cur) (fa8 P n pr yl S0 kp rf cur c)
 | .label _ => .skip
 | .exit id => .exit id
 | .ret => .ret
 | .rangeFunc g ps as body => rf g ps as body
 | _ => .bad
structure Zb3 where
 pr : List Nat
 kp : List (Nat × List Nat)
 fi : FuncId
 ki : List (Nat × List Nat)
def Ec4 (l : List (Nat × List Nat)) (id : Nat) : List Nat := match l.find? fun p => Nat.beq p.1 id with
 | some p => p.2
 | none => []
def pb9 (_ : Operand) (_ : Array Tmp) (_ _ : Code) : PC := .bad
def md0 (P : Program) (h : Zb3) (n : Nat) (ps : Array Tmp) (as body : Code) : Rd :=
 ⟨n, ps.toList, fa8 P n h.pr none [] (Ec4 h.kp) pb9 0 as, fa8 P n h.pr none [] (Ec4 h.kp) pb9 0 body⟩
def sc7 (P : Program) (h : Zb3) (fnI : Func) (cI : Code) (n : Nat) (g : Operand) (ps : Array Tmp) (as body : Code) : PC :=
 match ltO n g && Nat.beq fnI.results.size 0 && ps.toList.all (fun p => Nat.blt p n) with
 | true => .inner h.fi (f0 g) fnI.ntmps (fa8 P fnI.ntmps [] (some (md0 P h n ps as body)) [(0, none)] (Ec4 h.ki) pb9 0 cI)
 | false => .bad
def Oa4 (P : Program) (h : Zb3) (fnI fn : Func) : Option PFn :=
 match fn.body, fnI.body with
 | some c, some cI =>
  if fn.results.toList.all (ec0 P) then some ⟨fn.ntmps, fn.results.toList.map (Fb1 P), fa8 P fn.ntmps h.pr none [] (Ec4 h.kp) (sc7 P h fnI cI fn.ntmps) 0 c⟩ else none
 | _, _ => none
noncomputable def jc5 (H : List a8) : Bool := List.rec (motive := fun _ => Bool) true (fun b _ ih => Bool.rec (motive := fun _ => Bool) ih false (z7 b)) H
noncomputable def ab6 (E : Env) (fn : PFn) (args : List a7) (blks : List a8) : DT (a7 × List a8) :=
 .guard (Bool.and (jc5 blks) (Nat.ble (len args) fn.ntmps)) ((G2 E (len blks) fn.body ⟨app args (List.replicate (fn.ntmps - len args) (.v (.tuple #[]))), blks⟩).bind fun r =>
  match r.1 with
  | .exit _ => .fail
  | _ => match va6 (ya3 (o3 (T5 r.2.H) r.2.a) (l8 r.2.H)) fn.res with
   | some l => .guard (jc5 (E2 r.2.H (len blks))) (Xa4 (len blks) (l8 r.2.H) (La2 l))
   | none => .fail)
end Go.Ev
namespace Go.Ev
open Go
section
variable {WB K : Nat → Prop} {J : List Value → World → Prop} {DF : List Deferred → Prop} {S : HL} {rv : Value} {ρ ρ0 : Rho} {H H0 H' : List a8} {F F0 : Fz} {w w0 w' : World} {W' : Nat → Prop} {up : List Value} {E : Env} {a : List a7} {s s' : St} {ac : Act} {x : a7} {o : Oper} {n : Nat}
def Ua9 (tmps : Array Value) : Option (Nat × Bool) → Prop
 | none => True
 | some (d, b) => tmps[d]? = some (.bool b)
structure I3 (P : Program) (WB K : Nat → Prop) (J : List Value → World → Prop) (n : Nat) (S : HL) (rv : Value) (DF : List Deferred → Prop) (ρ0 : Rho) (H0 : List a8) (F0 : Fz) (w0 : World) (s : St) (ac : Act) (w : World) : Prop where
 inv : Dc8 P WB K J n ρ0 H0 F0 w0 s ac w
 held : ∀ p ∈ S, Ua9 ac.tmps p.2 → ac.tmps[p.1]? = some rv
 df : DF ac.defers
theorem oa3 {b : Bool} {so : SP} (h : (Va9 E a H (ib2 b so)).run = some (x, H')) : b = true ∧ ib2 b so = so := by
 cases b with
 | true => exact ⟨rfl, rfl⟩
 | false => cases h
theorem vb7 {pr : List Nat} {y : Operand} {p : Nat} (h : Lc4 pr y = some p) : y = .tmp p := by
 unfold Lc4 at h
 split at h
 ·split at h
  ·injection h with h; rw [h]
  ·cases h
 ·cases h
theorem vb8 {P : Program} {t : TypeId} {q : ld9} (h : Lc6 P t = some q) : P.underlying t = some (.map q.kt q.el) ∧ Q5 P 9 q.kt = some q.fl ∧ agT P q.kt = true ∧ ab3 q.fl (szT P q.kt) = true := by
 unfold Lc6 at h
 split at h
 ·rename_i kt el hu
  split at h
  ·rename_i fl hf
   split at h
   ·rename_i hc
    injection h with h
    subst h
    rw [Bool.and_eq_true] at hc
    exact ⟨hu, hf, hc.1, hc.2⟩
   ·cases h
  ·cases h
 ·cases h
theorem qb0 {k : Nat} (h : (!Nat.beq k 0) = true) : k ≠ 0 := fun e => by subst e; cases h
theorem VR.arel (hv : VR ρ H F w a (ac.tmps.toList ++ up)) (hn : ac.tmps.size = n) : ca7 ρ (l8 H) F w (o3 (T5 H) (E2 a n)) ac.tmps := by
 have hl := hv.1
 have hsz : ac.tmps.toList.length = ac.tmps.size := Array.length_toList
 rw [List.length_append] at hl
 rw [n7, E3]
 refine ⟨by rw [List.length_map, List.length_take]; omega, fun i x x' hx hx' => ?_⟩
 rw [List.getElem?_map] at hx
 have hi : i < n := hn ▸ (Array.getElem?_eq_some_iff.1 hx').1
 rw [List.getElem?_take, if_pos hi] at hx
 cases hy : a[i]? with
 | none => rw [hy] at hx; cases hx
 | some y =>
  rw [hy] at hx
  injection hx with hx
  subst hx
  refine Ub1 (hv.2 i y x' hy ?_)
  rw [List.getElem?_append_left (by rw [Array.length_toList]; omega)]
  simpa using hx'
theorem Mc0 {px : PO} {ds : List Deferred} (hC : C2 E.P WB K J ρ0 H0 F0 w0 H ds w ρ F W' up) (hJ : kb9 K J)
  (hop : ∀ H1, (evalOp E (o3 (T5 H) (E2 a n)) (l8 H) px).run = some (x, H1) → i5 E.P o ac w (J3 W' ρ (l8 H) F w x H1)) (he : (Va9 E a H (.old n px)).run = some (x, H')) : i5 E.P o ac w (Ua8 E.P WB K J ρ0 H0 F0 w0 ρ H F w up ds x H') := by
 obtain ⟨⟨x1, H1⟩, h1, h2⟩ := DT.run_bind_some (show ((evalOp E (o3 (T5 H) (E2 a n)) (l8 H) px).bind fun r => .guard (mb9 H r.2) (.ret (r.1, r9 H r.2))).run = some (x, H') from he)
 obtain ⟨hok, h2⟩ := DT.run_guard_some h2
 have h2 : some (x1, r9 H H1) = some (x, H') := h2
 injection h2 with h2; injection h2 with e1 e2; subst e1 e2
 intro next Q hp
 refine hop H1 h1 next Q fun x' w' ⟨ρ', F', k1, k2, k3⟩ => hp x' w' ?_
 obtain ⟨c1, c2⟩ := hC.step hJ k1 hok k2
 exact ⟨_, F', W', c1, c2, .w (sc5 k1 hok k3)⟩
theorem ad8 {α : Type} {l : Array α} {a b : α} (h : l.toList = [a, b]) : l = #[a, b] := by
 apply Array.ext'
 simpa using h
theorem ad9 {α : Type} {l : Array α} {a : α} (h : l.toList = [a]) : l = #[a] := by
 apply Array.ext'
 simpa using h
theorem md1 {pr : List Nat} {so : SP} {ds : List Deferred} (hC : C2 E.P WB K J ρ0 H0 F0 w0 H ds w ρ F W' up) (hJ : kb9 K J) (hv : VR ρ H F w a (ac.tmps.toList ++ up)) (hn : ac.tmps.size = n) (hG : GOk E F w)
  (hs : cSp E.P n pr o = some so) (he : (Va9 E a H so).run = some (x, H')) : i5 E.P o ac w (Ua8 E.P WB K J ρ0 H0 F0 w0 ρ H F w up ds x H') := by
 unfold cSp at hs
 split at hs
 ·rename_i t ho
  split at hs
  ·split at hs
   ·rename_i z hz
    injection hs with hs; subst hs
    exact Dc9 hC hJ ho hz he
   ·injection hs with hs; subst hs; cases he
  ·cases hs
 ·rename_i t y ho
  split at hs
  ·injection hs with hs; subst hs
   obtain ⟨h1, h2⟩ := oa3 he
   rw [h2] at he
   exact Vc2 hC hJ hv hn hG ho h1 he
  ·cases hs
 ·rename_i t y ho
  split at hs
  ·rename_i p hp
   injection hs with hs; subst hs
   obtain ⟨h1, h2⟩ := oa3 he
   rw [h2] at he
   rw [Bool.and_eq_true] at h1
   rw [vb7 hp] at ho
   exact Kc6 hC hv hn hG ho h1.1 (fun e => by rw [e] at h1; cases h1.2) he
  ·cases hs
 ·rename_i t y z ho
  split at hs
  ·rename_i p hp
   injection hs with hs; subst hs
   obtain ⟨h1, h2⟩ := oa3 he
   rw [h2] at he
   rw [Bool.and_eq_true, Bool.and_eq_true] at h1
   rw [vb7 hp] at ho
   exact Ec0 hC hJ hv hn hG ho h1.1.1 h1.1.2 (qb0 h1.2) he
  ·cases hs
 ·rename_i st y f ho
  split at hs
  ·rename_i p hp
   split at hs
   ·rename_i fs hu
    split at hs
    ·rename_i fd hf
     injection hs with hs; subst hs
     obtain ⟨h1, h2⟩ := oa3 he
     rw [h2] at he
     rw [Bool.and_eq_true] at h1
     rw [vb7 hp] at ho
     exact Vc4 hC hv hn hG ho h1.1 hu hf (qb0 h1.2) he
    ·injection hs with hs; subst hs; cases he
   ·injection hs with hs; subst hs; cases he
  ·cases hs
 ·rename_i t ho
  split at hs
  ·rename_i q hq
   injection hs with hs; subst hs
   obtain ⟨h1, h2, _, _⟩ := vb8 hq
   exact Lc2 hC hJ ho h1 h2 he
  ·injection hs with hs; subst hs; cases he
 ·rename_i t m y ho
  split at hs
  ·rename_i q hq
   injection hs with hs; subst hs
   obtain ⟨h1, h2, h3, h4⟩ := vb8 hq
   obtain ⟨k1, k2⟩ := oa3 he
   rw [k2] at he
   rw [Bool.and_eq_true, Bool.and_eq_true] at k1
   exact Lc3 hC hv hn hG ho k1.1.1 k1.1.2 h1 h3 h2 h4 k1.2 he
  ·injection hs with hs; subst hs; cases he
 ·rename_i t m y z ho
  split at hs
  ·rename_i q hq
   injection hs with hs; subst hs
   obtain ⟨h1, h2, h3, h4⟩ := vb8 hq
   obtain ⟨k1, k2⟩ := oa3 he
   rw [k2] at he
   rw [Bool.and_eq_true, Bool.and_eq_true] at k1
   exact Vc5 hC hJ hv hn hG ho k1.1.1 k1.1.2 k1.2 h1 h3 h2 h4 he
  ·injection hs with hs; subst hs; cases he
 ·rename_i c ho
  split at hs
  ·rename_i hcb
   split at hs
   ·split at hs
    ·rename_i y z t u hargs htys
     split at hs
     ·rename_i e hu
      injection hs with hs; subst hs
      obtain ⟨k1, k2⟩ := oa3 he
      rw [k2] at he
      rw [Bool.and_eq_true, Nat.blt_eq] at k1
      have htu := Nat.eq_of_beq_eq_true k1.2
      subst htu
      obtain ⟨ti, hi, hi0, hi1⟩ := Db1 (Nat.ne_of_gt k1.1)
      refine Mc0 hC hJ (fun H1 h1 => ?_) he
      exact Fb4 (hv.arel hn) hC.hrel hG ho hcb (ad8 hargs) (ad8 htys) hu hi (by omega) h1
     ·injection hs with hs; subst hs; cases he
    ·injection hs with hs; subst hs; cases he
   ·cases hs
  ·rename_i hcb
   split at hs
   ·rename_i y t hargs htys
    split at hs
    ·rename_i e hu
     split at hs
     ·rename_i z hz
      injection hs with hs; subst hs
      obtain ⟨k1, k2⟩ := oa3 he
      rw [k2] at he
      rw [Nat.blt_eq] at k1
      refine Mc0 hC hJ (fun H1 h1 => ?_) he
      exact Sb2 (hv.arel hn) hC.hrel hG ho hcb (ad9 hargs) (ad9 htys) hu hz k1 h1
     ·injection hs with hs; subst hs; cases he
    ·injection hs with hs; subst hs; cases he
   ·injection hs with hs; subst hs; cases he
  ·cases hs
 ·cases hs
theorem VR.putA (hv : VR ρ H F w a (ac.tmps.toList ++ up)) (hn : ac.tmps.size = n) {dst : Option Nat} (hd : dOk n dst = true) {x' : Value} (hx : XW ρ H F w x x') : VR ρ H F w (Ev.putA a dst x) ((ac.put dst x').tmps.toList ++ up) := by
 rw [db5]
 cases dst with
 | none => exact hv
 | some d =>
  have hd : d < n := by have := hd; unfold dOk at this; rwa [Nat.blt_eq] at this
  have e : (ac.put (some d) x').tmps.toList ++ up = (ac.tmps.toList ++ up).set d x' := by
   rw [List.set_append_left _ _ (by rw [Array.length_toList]; omega)]
   simp [Act.put]
  rw [e]
  refine ⟨by simp only [List.length_set]; exact hv.1, fun i y y' hy hy' => ?_⟩
  rw [List.getElem?_set] at hy hy'
  by_cases hi : d = i
  ·subst hi
   have hl : d < (ac.tmps.toList ++ up).length := by rw [List.length_append, Array.length_toList]; omega
   rw [if_pos rfl, if_pos (hv.1 ▸ hl)] at hy
   rw [if_pos rfl, if_pos hl] at hy'
   injection hy with hy; injection hy' with hy'
   subst hy hy'
   exact hx
  ·rw [if_neg hi] at hy hy'
   exact hv.2 i y y' hy hy'
theorem VR.tr {vs : List Value} {ρ' : Rho} {F' : Fz} (hv : VR ρ H F w a vs) (ht : Tr ρ H F w ρ' H' F' w') : VR ρ' H' F' w' a vs := ⟨hv.1, fun i x x' hx hx' => ht _ _ (hv.2 i x x' hx hx')⟩
theorem VR.at (hv : VR ρ H F w a (ac.tmps.toList ++ up)) (hn : ac.tmps.size = n) {t : Nat} (ht : t < n) : ∃ x', ac.tmps[t]? = some x' ∧ XW ρ H F w (a9 E a (.t t)) x' := by
 have hl := hv.1
 have hsz : ac.tmps.toList.length = ac.tmps.size := Array.length_toList
 rw [List.length_append] at hl
 have h1 : t < a.length := by omega
 have h2 : t < ac.tmps.size := by omega
 refine ⟨ac.tmps[t], by simp [h2], ?_⟩
 rw [ua8, List.getElem?_eq_getElem h1]
 refine hv.2 t _ _ (List.getElem?_eq_getElem h1) ?_
 rw [List.getElem?_append_left (by rw [Array.length_toList]; exact h2)]
 simp [h2]
theorem ib3 {ops : Array Oper} {g : Option (Nat × Bool)} {d : St → DT St} (hg : M4 ops o = some g) (hgn : gOk n g = true) (hv : VR ρ H F w s.a (ac.tmps.toList ++ up)) (hn : ac.tmps.size = n) (he : (Cb7 E s o.dst g d).run = some s') :
  (Region.wanted o (yielded ops ac.tmps) = true ∧ (d s).run = some s') ∨ (Region.wanted o (yielded ops ac.tmps) = false ∧ s' = ⟨putA s.a o.dst (.v (.tuple #[])), s.H⟩) := by
 unfold M4 at hg
 unfold Region.wanted
 cases hgo : o.guard with
 | none =>
  simp only [hgo] at hg ⊢
  injection hg with hg
  subst hg
  exact .inl ⟨trivial, he⟩
 | some jw =>
  obtain ⟨j, want⟩ := jw
  simp only [hgo] at hg ⊢
  cases hj : ops[j]? with
  | none => simp [hj] at hg
  | some oj =>
  simp only [hj] at hg
  cases hd : oj.dst with
  | none => simp [hd] at hg
  | some dd =>
  simp only [hd] at hg
  injection hg with hg
  subst hg
  have hdn : dd < n := by have := hgn; unfold gOk at this; rwa [Nat.blt_eq] at this
  obtain ⟨u', hu1, hu2⟩ := hv.at (E := E) hn hdn
  have he' : (match a9 E s.a (.t dd) with
   | .v (.bool b) => Bool.rec (motive := fun _ => DT St)
     (.ite b (.ret ⟨putA (setAt s.a dd (.v (.bool true))) o.dst (.v (.tuple #[])), s.H⟩) (d ⟨setAt s.a dd (.v (.bool false)), s.H⟩))
     (.ite b (d ⟨setAt s.a dd (.v (.bool true)), s.H⟩) (.ret ⟨putA (setAt s.a dd (.v (.bool false))) o.dst (.v (.tuple #[])), s.H⟩)) want
   | .v (.tuple _) => .ret ⟨putA s.a o.dst (.v (.tuple #[])), s.H⟩
   | _ => .fail).run = some s' := he
  have hset : ∀ b, a9 E s.a (.t dd) = .v (.bool b) → setAt s.a dd (.v (.bool b)) = s.a := fun b h => gc2 (E := E) (by simp) h
  revert he' hu2 hset
  generalize a9 E s.a (.t dd) = u
  intro hu2 he' hset
  split at he'
  ·rename_i b
   have hb := Ec1 hu2
   subst hb
   rw [Qa7 hj hd hu1]
   have hs := hset b rfl
   cases want <;> cases b
   ·rw [hs] at he'; exact .inl ⟨rfl, he'⟩
   ·refine .inr ⟨rfl, ?_⟩
    rw [hs] at he'
    exact (Option.some.inj he').symm
   ·refine .inr ⟨rfl, ?_⟩
    rw [hs] at he'
    exact (Option.some.inj he').symm
   ·rw [hs] at he'; exact .inl ⟨rfl, he'⟩
  ·rename_i vs
   have hb := Ec1 hu2
   subst hb
   rw [La4 hj hd hu1]
   exact .inr ⟨rfl, (Option.some.inj he').symm⟩
  ·cases he'
theorem Jb7 {a a' : Array Value} {dd : List Nat} (h : ∀ p ∈ S, Ua9 a p.2 → a[p.1]? = some rv) (hs : ∀ t, ¬ t ∈ dd → a'[t]? = a[t]?) : ∀ p ∈ rmL S dd, Ua9 a' p.2 → a'[p.1]? = some rv := by
 intro p hp hg
 simp only [rmL, List.mem_filter, Bool.and_eq_true] at hp
 obtain ⟨h1, h2, h3⟩ := hp
 rw [hs p.1 (by simpa using h2)]
 refine h p h1 ?_
 obtain ⟨t, g⟩ := p
 cases g with
 | none => trivial
 | some q =>
  obtain ⟨d, b⟩ := q
  have h3 : ¬ d ∈ dd := by simpa using h3
  exact (hs d h3).symm.trans hg
theorem Fa3 {dst : Option Nat} {v : Value} (h : ∀ p ∈ S, Ua9 ac.tmps p.2 → ac.tmps[p.1]? = some rv) : ∀ p ∈ rmD S dst, Ua9 (ac.put dst v).tmps p.2 → (ac.put dst v).tmps[p.1]? = some rv := by
 cases dst with
 | none => exact h
 | some d => exact Jb7 h fun t ht => pb7 fun e => by injection e with e; subst e; simp at ht
theorem sc8 {tmps : Array Value} {g g' : Option (Nat × Bool)} (h : Lc7 g g' = true) (hg : Ua9 tmps g') : Ua9 tmps g := by
 cases g with
 | none => trivial
 | some q =>
  obtain ⟨d, b⟩ := q
  cases g' with
  | none => cases h
  | some q' =>
   obtain ⟨d', b'⟩ := q'
   simp only [Lc7, Bool.and_eq_true, beq_iff_eq] at h
   have h1 := Nat.eq_of_beq_eq_true h.1
   obtain ⟨_, h2⟩ := h
   subst h1 h2
   exact hg
theorem vb9 {tmps : Array Value} {t : Nat} {g : Option (Nat × Bool)} (h : ∀ p ∈ S, Ua9 tmps p.2 → tmps[p.1]? = some rv) (hs : Lc8 S t g = true) (hg : Ua9 tmps g) : tmps[t]? = some rv := by
 simp only [Lc8, List.any_eq_true, Bool.and_eq_true] at hs
 obtain ⟨p, h1, h2, h3⟩ := hs
 have := h p h1 (sc8 h3 hg)
 rwa [Nat.eq_of_beq_eq_true h2] at this
theorem ab7 {ops : Array Oper} {o : Oper} {g : Option (Nat × Bool)} {tmps : Array Value} (hg : M4 ops o = some g) : Region.wanted o (yielded ops tmps) = true ↔ Ua9 tmps g := by
 unfold M4 at hg
 unfold Region.wanted
 cases hgo : o.guard with
 | none =>
  simp only [hgo] at hg ⊢
  injection hg with hg
  subst hg
  exact ⟨fun _ => trivial, fun _ => trivial⟩
 | some jw =>
  obtain ⟨j, want⟩ := jw
  simp only [hgo] at hg ⊢
  cases hj : ops[j]? with
  | none => simp [hj] at hg
  | some oj =>
  simp only [hj] at hg
  cases hd : oj.dst with
  | none => simp [hd] at hg
  | some d =>
  simp only [hd] at hg
  injection hg with hg
  subst hg
  simp only [yielded, hj, Option.bind_some, hd, Ua9]
  cases tmps[d]? with
  | none => simp
  | some v => cases v <;> simp
theorem fd7 {Fe : Fence} {m i : Nat} {pr : List Nat} {so : SP} {g : Option (Nat × Bool)} {ops : Array Oper} {rest : List Nat} {Q : Exit → Act → World → Prop} (hF : FW Fe) (hG0 : GOk E F0 w0) (hJ : kb9 K J) (hi : ops[i]? = some o)
  (hs : cSp E.P n pr o = some so) (hg : M4 ops o = some g) (hgn : gOk n g = true) (hdn : dOk n o.dst = true) (hI : I3 E.P WB K J n S rv DF ρ0 H0 F0 w0 s ac w) (he : (pc0 E s o.dst g so).run = some s')
  (hQ : ∀ ac' w', I3 E.P WB K J n (rmD S o.dst) rv DF ρ0 H0 F0 w0 s' ac' w' → wpOpsIn Fe m E.P ops Q rest ac' w') : wpOpsIn Fe m E.P ops Q (i :: rest) ac w := by
 obtain ⟨⟨ρ, F, W', up, hI2⟩, hheld, hdf⟩ := hI
 simp only [wpOpsIn, hi]
 rcases ib3 hg hgn hI2.vals hI2.size he with ⟨hw, he⟩ | ⟨hw, rfl⟩
 ·rw [if_pos hw]
  obtain ⟨⟨x, H'⟩, h1, h2⟩ := DT.run_bind_some he
  have h2 : some (⟨putA s.a o.dst x, H'⟩ : St) = some s' := h2
  injection h2 with h2
  subst h2
  have hop := md1 (ac := { ac with defers := [] }) (ds := ac.defers) hI2.core hJ hI2.vals hI2.size (hG0.adv hI2.core.adv) hs h1
  refine hop.inAny hF m _ _ fun x' w' hp => ?_
  obtain ⟨ρ', F', W'', c1, c2, c3⟩ := hp
  exact hQ _ _ ⟨⟨ρ', F', W'', up, by rw [o6]; exact c1, (hI2.vals.tr c2).putA hI2.size hdn c3, (aa8 _ _).trans hI2.size⟩, Fa3 hheld, by rw [o6]; exact hdf⟩
 ·rw [if_neg (by simp [hw])]
  refine ⟨fun f _ => hF.fn f, hQ _ _ ⟨⟨ρ, F, W', up, by rw [o6]; exact hI2.core, hI2.vals.putA hI2.size hdn (.w (.ofv _)), (aa8 _ _).trans hI2.size⟩, Fa3 hheld, by rw [o6]; exact hdf⟩⟩
theorem Mc1 {Fe : Fence} {m i d k : Nat} {g : Option (Nat × Bool)} {ops : Array Oper} {rest : List Nat} {Q : Exit → Act → World → Prop} {xx : c8} (hF : FW Fe) (hG0 : GOk E F0 w0) (hcalls : ∀ f, j6 E.P E.G f (E.call f)) (hJ : kb9 K J) (hi : ops[i]? = some o)
  (hc : Jb6 ops S o = some (d, g)) (hdn : d < n) (hI : I3 E.P WB K J n S rv DF ρ0 H0 F0 w0 s ac w) (he : (G2 E k (.mask n [d] (.ops [⟨some d, none, [], .mv (.c .unk)⟩])) s).run = some (xx, s'))
  (hQ : xx = .normal → ∀ ac' w', I3 E.P WB K J n ((d, g) :: rmL S [d]) rv DF ρ0 H0 F0 w0 s' ac' w' → wpOpsIn Fe m E.P ops Q rest ac' w') : wpOpsIn Fe m E.P ops Q (i :: rest) ac w := by
 obtain ⟨⟨ρ, F, W', up, hI2⟩, hheld, hdf⟩ := hI
 unfold Jb6 at hc
 split at hc
 case h_2 => cases hc
 rename_i t d' ho hd
 split at hc
 case h_2 => cases hc
 rename_i g' hg
 split at hc
 case isFalse => cases hc
 rename_i hS
 injection hc with hc
 injection hc with e1 e2
 subst e1 e2
 simp only [wpOpsIn, hi]
 have he' : ((G2 E k (.ops [⟨some d', none, [], .mv (.c .unk)⟩]) ⟨o3 (T5 s.H) (E2 s.a n), l8 s.H⟩).bind fun r => .guard (mb9 s.H r.2.H) (.ret (r.1, ⟨Z8 [d'] s.a r.2.a 0, r9 s.H r.2.H⟩))).run = some (xx, s') := he
 obtain ⟨⟨x1, s1⟩, h1, h2⟩ := DT.run_bind_some he'
 obtain ⟨hok, h2⟩ := DT.run_guard_some h2
 have h1 : some (c8.normal, (⟨putA (o3 (T5 s.H) (E2 s.a n)) (some d') .unk, l8 s.H⟩ : St)) = some (x1, s1) := h1
 injection h1 with h1; injection h1 with e1 e2; subst e1 e2
 have h2 : some (c8.normal, (⟨Z8 [d'] s.a (putA (o3 (T5 s.H) (E2 s.a n)) (some d') .unk) 0, r9 s.H (l8 s.H)⟩ : St)) = some (xx, s') := h2
 injection h2 with h2; injection h2 with e1 e2; subst e1 e2
 obtain ⟨c1, c2⟩ := hI2.core.step hJ .refl hok hI2.core.hrel
 have hvr : ∀ v, VR (ρsp s.H ρ ρ) (r9 s.H (l8 s.H)) F w (Z8 [d'] s.a (putA (o3 (T5 s.H) (E2 s.a n)) (some d') .unk) 0) ((ac.put o.dst v).tmps.toList ++ up) := fun v => by
  refine ⟨by rw [ab2]; have := hI2.vals.1; rw [List.length_append, Array.length_toList] at this ⊢; rw [aa8]; exact this, fun i y y' hy hy' => ?_⟩
  rw [ab1] at hy
  cases hz : s.a[i]? with
  | none => rw [hz] at hy; cases hy
  | some z =>
   rw [hz] at hy
   injection hy with hy
   rw [Nat.zero_add] at hy
   by_cases hid : i = d'
   ·subst hid
    have hm : va7 i [i] = true := (Jb5 _ _).2 (by simp)
    rw [hm] at hy
    have hy : ((putA (o3 (T5 s.H) (E2 s.a n)) (some i) .unk)[i]?).getD .unk = y := hy
    rw [db5] at hy
    simp only [List.getElem?_set] at hy
    have : y = .unk := by
     rw [← hy]
     simp only [if_true]
     split <;> rfl
    subst this
    exact .w (.unk _)
   ·have hm : va7 i [d'] = false := by
     cases h : va7 i [d'] with
     | false => rfl
     | true => exact absurd (by simpa using (Jb5 _ _).1 h) hid
    rw [hm] at hy
    have hy : z = y := hy
    subst hy
    refine c2 _ _ (hI2.vals.2 i z y' hz ?_)
    rw [hd] at hy'
    simpa [Act.put, List.getElem?_append, Array.getElem?_setIfInBounds_ne, Ne.symm hid] using hy'
 have hfin : ∀ v, (Region.wanted o (yielded ops ac.tmps) = true → v = rv) → (Region.wanted o (yielded ops ac.tmps) = false → v = undef) → wpOpsIn Fe m E.P ops Q rest (ac.put o.dst v) w := fun v hv1 hv2 => by
  refine hQ rfl _ _ ⟨⟨_, F, W', up, by rw [o6]; exact c1, hvr v, (aa8 _ _).trans hI2.size⟩, fun p hp hgp => ?_, by rw [o6]; exact hdf⟩
  have hlt : d' < ac.tmps.size := Nat.lt_of_lt_of_eq hdn hI2.size.symm
  have hset : (ac.put (some d') v).tmps[d']? = some v := by
   show (ac.tmps.setIfInBounds d' v)[d']? = some v
   exact Array.getElem?_setIfInBounds_self_of_lt hlt
  rcases List.mem_cons.1 hp with rfl | hp
  ·cases hw : Region.wanted o (yielded ops ac.tmps) with
   | true => rw [hd, ← hv1 hw]; exact hset
   | false =>
    exfalso
    have hng : ¬ Ua9 ac.tmps g' := fun h => by rw [(ab7 hg).2 h] at hw; cases hw
    cases g' with
    | none => exact hng trivial
    | some q =>
     obtain ⟨dg, b⟩ := q
     have hgq : (ac.put o.dst v).tmps[dg]? = some (.bool b) := hgp
     by_cases he : dg = d'
     ·subst he
      rw [hd, hset, hv2 hw] at hgq
      injection hgq with hgq
      cases hgq
     ·rw [pb7 (fun e => he (by rw [hd] at e; injection e with e; exact e.symm))] at hgq
      exact hng hgq
  ·have := Fa3 (dst := some d') (v := v) hheld p hp
   rw [hd] at hgp ⊢
   exact this hgp
 by_cases hw : Region.wanted o (yielded ops ac.tmps) = true
 ·rw [if_pos hw]
  have ht := vb9 hheld hS ((ab7 hg).1 hw)
  have hop : i5 E.P o { ac with defers := [] } w (fun v w' => v = rv ∧ w' = w) := by
   have hev : ({ ac with defers := [] } : Act).eval (.tmp t) = rv := by
    show ac.tmps.getD t undef = rv
    have hlt := (Array.getElem?_eq_some_iff.1 ht).1
    have := (Array.getElem?_eq_some_iff.1 ht).2
    simp [Array.getD, hlt, this]
   exact .value (x' := rv) (w' := w) (by simp [execOp, ho, hev]) ⟨rfl, rfl⟩
  refine hop.inAny hF m _ _ fun v w' hp => ?_
  obtain ⟨rfl, rfl⟩ := hp
  exact hfin _ (fun _ => rfl) fun h => by rw [hw] at h; cases h
 ·rw [if_neg hw]
  exact ⟨fun f _ => hF.fn f, hfin _ (fun h => absurd h hw) fun _ => rfl⟩
end
end Go.Ev
namespace Go.Ev
open Go
section
variable {P : Program} {k : Nat} {WB K : Nat → Prop} {J : List Value → World → Prop} {DF : List Deferred → Prop} {S : HL} {rv : Value} {ρ ρ0 : Rho} {H H0 H2 : List a8} {F F0 : Fz} {w w0 : World} {W' : Nat → Prop} {up : List Value} {E : Env} {R : List Nat} {n : Nat}
noncomputable def Mc2 (H : List a8) (x : a7) (r : List Nat) : List Nat := match x with
 | .ptr id _ _ g => match blkAt H id g with
  | some _ => (ga7 r id).2
  | none => r
 | .sl id _ _ g => match blkAt H id g with
  | some _ => (ga7 r id).2
  | none => r
 | _ => r
theorem Mc3 (H : List a8) (x : a7) (r : List Nat) (hr : TOk k r) : TOk k (Mc2 H x r) ∧ TLe r (Mc2 H x r) := by
 have step : ∀ id, TOk k (ga7 r id).2 ∧ TLe r (ga7 r id).2 := fun id => by
  obtain ⟨h1, h2, _⟩ := hr.idx (id := id) (j := (ga7 r id).1) (r := (ga7 r id).2) rfl
  exact ⟨h1, h2⟩
 unfold Mc2
 split
 ·split
  ·exact step _
  ·exact ⟨hr, .refl _⟩
 ·split
  ·exact step _
  ·exact ⟨hr, .refl _⟩
 ·exact ⟨hr, .refl _⟩
theorem jc6 (H : List a8) : ∀ (cs : List a7) (r : List Nat), TOk k r → TOk k (vc4 H cs r) ∧ TLe r (vc4 H cs r)
 | [], r, hr => ⟨hr, .refl _⟩
 | x :: cs, r, hr => by
  have hx := Mc3 H x r hr
  obtain ⟨h1, h2⟩ := jc6 H cs _ hx.1
  exact ⟨h1, hx.2.trans h2⟩
noncomputable def Mc4 (H : List a8) (id : Nat) (r : List Nat) : List Nat := match nth H id with
 | some b => match z7 b && Nat.beq b.et 0 with
  | true => vc4 H (r7 b.elems 0) r
  | false => r
 | none => r
theorem Mc5 (H : List a8) (id : Nat) (r : List Nat) (hr : TOk k r) : TOk k (Mc4 H id r) ∧ TLe r (Mc4 H id r) := by
 unfold Mc4
 split
 ·split
  ·exact jc6 H _ r hr
  ·exact ⟨hr, .refl _⟩
 ·exact ⟨hr, .refl _⟩
theorem jc7 (H : List a8) : ∀ (ids : List Nat) (r : List Nat), TOk k r → TOk k (Rb4 H ids r) ∧ TLe r (Rb4 H ids r)
 | [], r, hr => ⟨hr, .refl _⟩
 | id :: ids, r, hr => by
  have hx := Mc5 H id r hr
  obtain ⟨h1, h2⟩ := jc7 H ids _ hx.1
  exact ⟨h1, hx.2.trans h2⟩
noncomputable def xc5 (b : a8) : a8 := Bool.rec (motive := fun _ => a8) b { b with dead := true } (z7 b)
theorem wb0 (H : List a8) : l8 H = H.map xc5 := Fa0 H
theorem Sa0 : ∀ {R : List Nat} {j : Nat} {H2 : List a8}, la2 k H j R = some H2 → la2 k (l8 H) j R = some (l8 H2)
 | [], j, H2, h => by
  simp only [la2] at h ⊢
  injection h with h
  subst h
  rfl
 | id :: R, j, H2, h => by
  simp only [la2, w6] at h ⊢
  cases hb : H[id]? with
  | none => simp [hb] at h
  | some b =>
  simp only [hb] at h
  cases hr : la2 k H (j + 1) R with
  | none => simp [hr] at h
  | some l =>
  simp only [hr] at h
  injection h with h
  subst h
  have e : (l8 H)[id]? = some (xc5 b) := by rw [wb0, List.getElem?_map, hb]; rfl
  rw [e, Sa0 hr]
  simp only [wb0, List.map_cons]
  congr 2
  unfold xc5
  cases Nat.blt j k <;> cases hs : z7 b <;> simp [z7] at hs ⊢ <;> simp [hs]
theorem Vc6 (x : a7) : TC k H R x (Gc8 k H R x) := by
 unfold Gc8
 split
 ·rename_i id i c g
  split
  ·rename_i b hb
   split
   ·rename_i j hj
    have := (Ba7 R 0 id j hj).2
    exact .ptr id i c g j b hb (by simpa using this)
   ·exact .unk _
  ·exact .unk _
 ·rename_i id off n g
  split
  ·rename_i b hb
   split
   ·rename_i j hj
    have := (Ba7 R 0 id j hj).2
    exact .sl id off n g j b hb (by simpa using this)
   ·exact .unk _
  ·exact .unk _
 ·rename_i h1 h2
  refine .same x ?_
  cases x <;> first | exact trivial | (exact (h1 _ _ _ _ rfl).elim) | (exact (h2 _ _ _ _ rfl).elim)
theorem Eb0 {x z : a7} {x' : Value} (h : TC k H R x z) (hx : P6 ρ (l8 H) F w x x') : TC k (l8 H) R x z := by
 cases h with
 | unk => exact .unk _
 | ptr id i c g j b hb hj =>
  obtain ⟨hb1, hd1, hg1⟩ := q7 hb
  obtain ⟨ad, b2, e, m1, m2, m3, m4⟩ := ia9 (.val (.cell hx))
  obtain ⟨n1, n2⟩ := Y8 m1 m2
  have : b2 = b := Option.some.inj (n1.symm.trans hb1)
  subst this
  exact .ptr id i c g j b2 (by unfold blkAt; simp only [w6, m1, m2, hg1]; simp) hj
 | sl id off n g j b hb hj =>
  obtain ⟨hb1, hd1, hg1⟩ := q7 hb
  obtain ⟨ad, cap, b2, e, m1, m2, m3, _⟩ := ka8 (.val (.cell hx))
  obtain ⟨n1, n2⟩ := Y8 m1 m2
  have : b2 = b := Option.some.inj (n1.symm.trans hb1)
  subst this
  exact .sl id off n g j b2 (by unfold blkAt; simp only [w6, m1, m2, hg1]; simp) hj
 | same x h => exact .same x h
theorem xc6 {x z : a7} {x' : Value} (h : TV k H R x z) (hx : R3 ρ (l8 H) F w x x') : TV k (l8 H) R x z := by
 cases h with
 | cell hb h =>
  cases hx with
  | cell hx => exact .cell hb (Eb0 h hx)
  | _ => cases hb
 | agg cs ds hl h =>
  obtain ⟨vs, e, hl2, h2⟩ := ja0 (.val hx)
  refine .agg cs ds hl fun i x z hx hz => ?_
  have hi : i < vs.size := hl2 ▸ (List.getElem?_eq_some_iff.1 hx).1
  exact Eb0 (h i x z hx hz) (h2 i x _ hx (Array.getElem?_eq_getElem hi))
 | fn f cs ds hl h =>
  obtain ⟨vs, e, hl2, h2⟩ := Qa4 (.val hx)
  refine .fn f cs ds hl fun i x z hx hz => ?_
  have hi : i < vs.size := hl2 ▸ (List.getElem?_eq_some_iff.1 hx).1
  exact Eb0 (h i x z hx hz) (h2 i x _ hx (Array.getElem?_eq_getElem hi))
 | tup l => exact .tup l
theorem Vc7 {x z : a7} {x' : Value} (h : TW k H R x z) (hx : y8 ρ (l8 H) F w x x') : TW k (l8 H) R x z := by
 cases h with
 | val hn h =>
  cases hx with
  | val hx => exact .val hn (xc6 h hx)
  | tup cs vs hl h2 => exact absurd rfl (hn cs)
 | tup cs ds hl h =>
  obtain ⟨vs, e, hl2, h2⟩ := Xb2 hx
  refine .tup cs ds hl fun i x z hx hz => ?_
  have hi : i < vs.size := hl2 ▸ (List.getElem?_eq_some_iff.1 hx).1
  exact xc6 (h i x z hx hz) (h2 i x _ hx (Array.getElem?_eq_getElem hi))
theorem Ub5 {b : a8} (h : z7 b = false) : pa2 k H R b = b := by unfold pa2; rw [h]; rfl
theorem Sa1 (b : a8) : (pa2 k H R b).et = b.et ∧ (pa2 k H R b).es = b.es ∧ (pa2 k H R b).dead = b.dead ∧ (pa2 k H R b).g = b.g ∧ (pa2 k H R b).elems.length = b.elems.length ∧ z7 (pa2 k H R b) = z7 b := by
 unfold pa2
 cases z7 b && Nat.beq b.et 0
 ·exact ⟨rfl, rfl, rfl, rfl, rfl, rfl⟩
 ·refine ⟨rfl, rfl, rfl, rfl, by simp [n7], rfl⟩
section
variable (hR : TOk k R) (hb : la2 k H 0 R = some H2)
include hR hb
theorem Zb4 {j : Nat} {c : a8} (hc : (o3 (pa2 k H R) H2)[j]? = some c) : ∃ id b, R[j]? = some id ∧ (R[j]?).getD 0 = id ∧ H[id]? = some b ∧ c = pa2 k H R (reG k j b) := by
 rw [n7, List.getElem?_map] at hc
 cases h : H2[j]? with
 | none => rw [h] at hc; cases hc
 | some c2 =>
  rw [h] at hc
  injection hc with hc
  obtain ⟨id, b, h1, h2, h3, h4⟩ := ob2 hb h
  exact ⟨id, b, h1, h2, h3, by rw [← hc, h4]⟩
theorem Mc6 {j id : Nat} {b : a8} (hj : R[j]? = some id) (hid : H[id]? = some b) : (o3 (pa2 k H R) H2)[j]? = some (pa2 k H R (reG k j b)) := by
 obtain ⟨_, hat⟩ := Ya5 hb
 obtain ⟨b', h1, h2⟩ := hat j id hj
 have : b' = b := Option.some.inj (h1.symm.trans hid)
 subst this
 rw [Nat.zero_add] at h2
 rw [n7, List.getElem?_map, h2]
 rfl
theorem Jb8 (j : Nat) (b : a8) : z7 (reG k j b) = z7 b := by unfold z7; rw [Ea7]
theorem Ub6 : Ib1 (fun j => ρ ((R[j]?).getD 0)) (l8 H2) (fun j => ρ ((R[j]?).getD 0)) (l8 (o3 (pa2 k H R) H2)) := fun j b hb' hd => by
 obtain ⟨h1, h2⟩ := Y8 hb' hd
 refine ⟨b, X0 ?_ h2, hd, Nat.le_refl _, fun _ => ⟨rfl, rfl, Nat.le_refl _⟩⟩
 rw [n7, List.getElem?_map, h1]
 simp [Ub5 h2]
theorem md2 {x z : a7} {x' : Value} (h : TC k H R x z) (hx : P6 ρ (l8 H) F w x x') : P6 (fun j => ρ ((R[j]?).getD 0)) (l8 (o3 (pa2 k H R) H2)) F w z x' :=
 (db4 (Sa0 hb) (Eb0 h hx) hx).carry (Ub6 hR hb) (fun _ _ h => h) (fun _ _ _ => rfl)
theorem bd0 {x z : a7} {x' : Value} (h : TW k H R x z) (hx : y8 ρ (l8 H) F w x x') : y8 (fun j => ρ ((R[j]?).getD 0)) (l8 (o3 (pa2 k H R) H2)) F w z x' :=
 (Yb1 (Sa0 hb) (Vc7 h hx) hx).carry (Ub6 hR hb) (fun _ _ h => h) (fun _ _ _ => rfl)
theorem sc9 {x z : a7} {x' : Value} (h : TC k H R x z) (hx : XC ρ H F w x x') : XW (fun j => ρ ((R[j]?).getD 0)) (o3 (pa2 k H R) H2) F w z x' ∧ (XC (fun j => ρ ((R[j]?).getD 0)) (o3 (pa2 k H R) H2) F w z x') := by
 have main : XC (fun j => ρ ((R[j]?).getD 0)) (o3 (pa2 k H R) H2) F w z x' := by
  cases hx with
  | n hx => exact .n (md2 hR hb h hx)
  | box id c g b hb1 hd he =>
   cases h with
   | unk => exact .n (.unk _)
   | ptr _ _ _ _ j b2 hb2 hj =>
    have e : ρ id = (fun j => ρ ((R[j]?).getD 0)) j := by simp [hj]
    rw [e]
    obtain ⟨q1, q2, q3, q4, q5, q6⟩ := Sa1 (k := k) (H := H) (R := R) (reG k j b)
    exact .box j c _ _ (Mc6 hR hb hj hb1) (by rw [q3, la3]; exact hd) ⟨by rw [q2, Ea7]; exact he.1, by rw [q1, kb1]; exact he.2⟩
   | same _ hs => exact hs.elim
  | map id c g b t hb1 hd he =>
   cases h with
   | unk => exact .n (.unk _)
   | ptr _ _ _ _ j b2 hb2 hj =>
    have e : ρ id = (fun j => ρ ((R[j]?).getD 0)) j := by simp [hj]
    rw [e]
    obtain ⟨q1, q2, q3, q4, q5, q6⟩ := Sa1 (k := k) (H := H) (R := R) (reG k j b)
    exact .map j c _ _ t (Mc6 hR hb hj hb1) (by rw [q3, la3]; exact hd) ⟨by rw [q2, Ea7]; exact he.1, by rw [q1, kb1]; exact he.2⟩
   | same _ hs => exact hs.elim
 exact ⟨.c main, main⟩
theorem fd8 {x z : a7} {x' : Value} (h : TW k H R x z) (hx : XW ρ H F w x x') : XW (fun j => ρ ((R[j]?).getD 0)) (o3 (pa2 k H R) H2) F w z x' := by
 cases hx with
 | w hx => exact .w (bd0 hR hb h hx)
 | c hx =>
  have hx0 := hx
  cases hx with
  | n hx => exact .w (bd0 hR hb h (.val (.cell hx)))
  | box =>
   cases h with
   | val _ h => cases h with
    | cell _ h => exact (sc9 hR hb h hx0).1
  | map =>
   cases h with
   | val _ h => cases h with
    | cell _ h => exact (sc9 hR hb h hx0).1
theorem Mc7 (h : Kc0 P WB W' ρ H F w) : Kc0 P WB W' (fun j => ρ ((R[j]?).getD 0)) (o3 (pa2 k H R) H2) F w := by
 refine ⟨fun j c hc hs hd => ?_, fun j j' c c' hc hc' hs hs' hd hd' hne => ?_⟩
 ·obtain ⟨id, b, h1, h2, h3, h4⟩ := Zb4 hR hb hc
  subst h4
  obtain ⟨q1, q2, q3, q4, q5, q6⟩ := Sa1 (k := k) (H := H) (R := R) (reG k j b)
  rw [q6, Jb8 hR hb] at hs
  rw [q3, la3] at hd
  obtain ⟨k1, k2, k3, k4, k5⟩ := h.has id b h3 hs hd
  simp only [h2]
  refine ⟨k1, k2, k3, k4, ?_⟩
  rcases k5 with ⟨e, row, vs, t, m1, m2, m3, m4⟩ | ⟨t, K, El, fl, es, clk, m1, m2, m3, m4, m5, m6⟩
  ·refine .inl ⟨⟨by rw [q2, Ea7]; exact e.1, by rw [q1, kb1]; exact e.2⟩, row.map (Gc8 k H R), vs, t, ?_, m2, by simpa using m3, fun i z x' hz hx' => ?_⟩
   ·unfold pa2
    have : (z7 (reG k j b) && Nat.beq (reG k j b).et 0) = true := by rw [Jb8 hR hb, hs, kb1, e.2]; rfl
    rw [this]
    show o3 (o3 (Gc8 k H R)) (reG k j b).elems = _
    rw [oa2, m1, n7]
    simp [n7]
   ·rw [List.getElem?_map] at hz
    cases hq : row[i]? with
    | none => rw [hq] at hz; cases hz
    | some q =>
     rw [hq] at hz
     injection hz with hz
     subst hz
     obtain ⟨g1, g2⟩ := m4 i q x' hq hx'
     exact ⟨g1, (sc9 hR hb (Vc6 q) g2).2⟩
  ·have hnb : pa2 k H R (reG k j b) = reG k j b := by
    unfold pa2
    have : (z7 (reG k j b) && Nat.beq (reG k j b).et 0) = false := by
     rw [kb1, m1.2, Bool.and_eq_false_iff]; exact .inr rfl
    rw [this]
   rw [hnb]
   exact .inr ⟨t, K, El, fl, es, clk, ⟨by rw [Ea7]; exact m1.1, by rw [kb1]; exact m1.2⟩, m2, m3, m4, by rw [oa2]; exact m5, by rw [oa2]; exact m6⟩
 ·obtain ⟨id, b, h1, h2, h3, h4⟩ := Zb4 hR hb hc
  obtain ⟨id', b', h1', h2', h3', h4'⟩ := Zb4 hR hb hc'
  subst h4 h4'
  obtain ⟨_, _, q3, _, _, q6⟩ := Sa1 (k := k) (H := H) (R := R) (reG k j b)
  obtain ⟨_, _, q3', _, _, q6'⟩ := Sa1 (k := k) (H := H) (R := R) (reG k j' b')
  rw [q6, Jb8 hR hb] at hs
  rw [q6', Jb8 hR hb] at hs'
  rw [q3, la3] at hd
  rw [q3', la3] at hd'
  simp only [h2, h2']
  refine h.apart id id' b b' h3 h3' hs hs' hd hd' fun e => hne ?_
  subst e
  obtain ⟨a1, a2⟩ := List.getElem?_eq_some_iff.1 h1
  obtain ⟨b1, b2⟩ := List.getElem?_eq_some_iff.1 h1'
  exact (List.getElem_inj hR.nodup).1 (a2.trans b2.symm)
end
theorem fd9 {ds : List Deferred} (hR : TOk H0.length R) (hb : la2 H0.length H 0 R = some H2) (h : C2 P WB K J ρ0 H0 F0 w0 H ds w ρ F W' up) : C2 P WB K J ρ0 H0 F0 w0 (o3 (pa2 H0.length H R) H2) ds w (fun j => ρ ((R[j]?).getD 0)) F W' up := by
 have hAd := ob3 hR hb h.adv
 have hat : ∀ (j : Nat) c, H2[j]? = some c → (o3 (pa2 H0.length H R) H2)[j]? = some (pa2 H0.length H R c) := fun j c hc => by rw [n7, List.getElem?_map, hc]; rfl
 refine ⟨h.sub, ⟨hAd.ext, fun id b hid => ?_, hAd.more, hAd.new, fun id b' hb' hn => ?_⟩, ?_, Mc7 hR hb h.srel, h.kept, fun j c hc hs hd => ?_, h.jot, h.marks⟩
 ·obtain ⟨b', k1, k2, k3, k4⟩ := hAd.heap id b hid
  obtain ⟨q1, q2, q3, q4, q5, q6⟩ := Sa1 (k := H0.length) (H := H) (R := R) b'
  exact ⟨_, hat id b' k1, q3.trans k2, by rw [q4]; exact k3, fun hg => by rw [q2, q5]; exact k4 (q4 ▸ hg)⟩
 ·rw [n7, List.getElem?_map] at hb'
  cases hq : H2[id]? with
  | none => rw [hq] at hb'; cases hb'
  | some c =>
   rw [hq] at hb'
   injection hb' with hb'
   subst hb'
   obtain ⟨_, _, _, q4, _, _⟩ := Sa1 (k := H0.length) (H := H) (R := R) c
   exact hAd.fresh id c hq fun b hb1 => by rw [← q4]; exact hn b hb1
 ·refine (db3 hR h.hrel (Sa0 hb)).pull (fun i => i) (fun i b hb1 hd => ?_) (fun _ _ _ _ _ _ _ _ e => e)
  obtain ⟨h1, h2⟩ := Y8 hb1 hd
  rw [n7, List.getElem?_map] at h1
  cases hq : H2[i]? with
  | none => rw [hq] at h1; cases h1
  | some c =>
   rw [hq] at h1
   injection h1 with h1
   have hsc : z7 c = false := by
    obtain ⟨_, _, _, _, _, q6⟩ := Sa1 (k := H0.length) (H := H) (R := R) c
    rw [← q6, h1]; exact h2
   rw [Ub5 hsc] at h1
   subst h1
   exact ⟨X0 hq hsc, rfl⟩
 ·obtain ⟨id, b, h1, h2, h3, h4⟩ := Zb4 hR hb hc
  subst h4
  obtain ⟨_, _, q3, _, _, q6⟩ := Sa1 (k := H0.length) (H := H) (R := R) (reG H0.length j b)
  rw [q6, Jb8 hR hb] at hs
  rw [q3, la3] at hd
  simp only [h2]
  exact h.far id b h3 hs hd
theorem I3.tidyM {s s' : St} {ac : Act} {keep : List Nat} (h : I3 P WB K J n S rv DF ρ0 H0 F0 w0 s ac w) (he : (Ev.tidyM H0.length ⟨G4 keep s.a 0, s.H⟩).run = some s') : I3 P WB K J n S rv DF ρ0 H0 F0 w0 s' ac w := by
 obtain ⟨⟨ρ, F, W', up, hI⟩, hheld, hdf⟩ := h
 unfold Ev.tidyM at he
 cases ht : mb8 H0.length s.H (G4 keep s.a 0) (List.range H0.length) with
 | mk a roots =>
 simp only [ht] at he
 cases hb : la2 H0.length s.H 0 (Rb4 s.H roots roots) with
 | none => simp [hb] at he
 | some H2 =>
 simp only [hb] at he
 have he' : some (⟨a, o3 (pa2 H0.length s.H (Rb4 s.H roots roots)) H2⟩ : St) = some s' := he
 injection he' with he'
 subst he'
 obtain ⟨k1, _, k3, k4⟩ := Gb4 (TOk.start _) ht
 obtain ⟨m1, m2⟩ := jc7 s.H roots roots k1
 obtain ⟨g1, g2⟩ := Ya6 keep s.a 0
 refine ⟨⟨_, F, W', up, fd9 m1 hb hI.core, ⟨(k3.trans g1).trans hI.vals.1, fun i x x' hx hx' => ?_⟩, hI.size⟩, hheld, hdf⟩
 have hi : i < (G4 keep s.a 0).length := k3 ▸ (List.getElem?_eq_some_iff.1 hx).1
 have hk := k4 i _ x (List.getElem?_eq_getElem hi) hx
 refine fd8 m1 hb (hk.le m2) ?_
 rcases g2 i _ (List.getElem?_eq_getElem hi) with e | e
 ·rw [e]; exact .w (.unk _)
 ·exact hI.vals.2 i _ x' e hx'
end
end Go.Ev
namespace Go.Ev
open Go
section
variable {DS : Nat → Prop} {tm : Array Value} {ds : List Deferred} {Fe : Fence} {nn : Nat}
variable {W : Nat → Prop} {ρ0 : Rho} {H0 : List a8} {F0 : Fz} {w0 w : World}
variable {tr : Nat} {E : Env} {ops : Array Oper} {M : List Nat} {ks : List (Nat × PI)} {s : St} {U T : Nat → St}
structure ab8 (DS : Nat → Prop) (tm : Array Value) (ds : List Deferred) (W : Nat → Prop) (ρ0 : Rho) (H0 : List a8) (F0 : Fz) (w0 : World) (tr : Nat) (E : Env) (ops : Array Oper) (a0 : List a7) (U T : Nat → St) (m : Nat) (listed : Array Bool) (ac : Act) (w : World) : Prop where
 size : listed.size = ops.size
 closed : ∀ j, j < ops.size → I6 listed j → ∀ i ∈ P7 (Z6 ops j), I6 listed i
 hm : m ≤ ops.size
 heavy : ∀ j, j < ops.size → z4 tr E.P ops j = 2 → (I6 listed j ↔ j < m)
 inv : Ra8 DS tm ds W ρ0 H0 F0 w0 ⟨aa6 (T ops.size).a a0 (q9 ops listed), D1 (T m).H (k8 tr E.P ops U listed)⟩ ac w
variable (hD : DC tr E.P ops M ks) (hT : Ob6 E ops ks s U T) (hin : ∀ j, j < ops.size → z4 tr E.P ops j = 0 → ∀ d, M0 ops j = some d → d < s.a.length)
include hD
theorem na7 {m : Nat} {listed : Array Bool} {ac : Act} (hR : ab8 DS tm ds W ρ0 H0 F0 w0 tr E ops s.a U T m listed ac w) {j : Nat} (hj : j < ops.size) (hd : ∀ i ∈ P7 (Z6 ops j), I6 listed i) {i : Nat} (hi : i < ops.size) (hb : j9 M i j = true) : I6 listed i :=
 Za1 hD.rows (I6 listed) (fun j' o ho hx i hi => by
  have hj' := (Array.getElem?_eq_some_iff.1 ho).1
  have : o = Z6 ops j' := Option.some.inj (ho.symm.trans (P3 hj'))
  subst this
  exact hR.closed j' hj' hx i hi) j _ (P3 hj) hd i hi hb
include hT
theorem Jb9 {m : Nat} {listed : Array Bool} {ac : Act} (hR : ab8 DS tm ds W ρ0 H0 F0 w0 tr E ops s.a U T m listed ac w) {j : Nat} (hj : j < ops.size) (hnx : ¬ I6 listed j) (hd : ∀ i ∈ P7 (Z6 ops j), I6 listed i) :
  Agr (T j).a (aa6 (T ops.size).a s.a (q9 ops listed)) (Xa7 (Wa0 ops j) ++ Ba6 (Z7 tr E.P ops j)) := fun t ht => by
 have huniq : ∀ {i i' : Nat}, i < ops.size → i' < ops.size → M0 ops i = some t → M0 ops i' = some t → i = i' := fun {i i'} h1 h2 e1 e2 => ((hD.slots h1 h2 e1).2).resolve_right fun h => h e2
 have hend : (∀ i, j ≤ i → i < ops.size → M0 ops i ≠ some t) → (T j).a[t]? = (T ops.size).a[t]? := fun h => by
  have := La6 hD hT (t := t) (ops.size - j) j (by omega) fun i h1 h2 _ => h i h1 (by omega)
  rw [show j + (ops.size - j) = ops.size by omega] at this
  exact this.symm
 by_cases hw : ∃ i, i < ops.size ∧ M0 ops i = some t
 ·obtain ⟨i, hi, hdi⟩ := hw
  rcases (hD.slots hi hj hdi).1 ht with hb | ⟨_, hna, hb⟩
  ·have hxi := na7 hD hR hj hd hi hb
   rw [ea8]
   ·refine hend fun k h1 h2 he => ?_
    have := huniq hi h2 hdi he
    have := ja3 hD hj hi hb
    omega
   ·rintro ⟨k, h1, h2, h3⟩
    have := huniq hi h1 hdi h2
    subst this
    exact h3 hxi
  ·have hxi : ¬ I6 listed i := fun hx => by
    rcases hb with hb | hb
    ·exact hnx (na7 hD hR hi (hR.closed i hi hx) hj hb)
    ·subst hb; exact hnx hx
   have hji : j ≤ i := by
    rcases hb with hb | hb
    ·have := ja3 hD hi hj hb; omega
    ·omega
   have h1 := La6 hD hT (t := t) j 0 (by omega) fun k _ h2 _ he => by
    have := huniq hi (by omega) hdi he
    omega
   have h2 := vb1 hD hT (t := t) ops.size 0 (by omega) fun k _ h2 hk he => by
    have := huniq hi (by omega) hdi he
    subst this
    have := ob7 hk
    rw [hna] at this
    cases this
   rw [Nat.zero_add] at h1 h2
   rw [h1, hT.t0, h2, hT.u0]
   rcases Nat.lt_or_ge t (T ops.size).a.length with hlt | hge
   ·rw [Oa1 ⟨i, hi, hdi, hxi⟩ hlt]
    rw [(la4 hD hT ops.size (Nat.le_refl _)).2] at hlt
    rw [List.getElem?_eq_getElem hlt]
    rfl
   ·rw [List.getElem?_eq_none (by rw [← (la4 hD hT ops.size (Nat.le_refl _)).2]; exact hge), List.getElem?_eq_none (by rw [ea7]; exact hge)]
 ·rw [ea8]
  ·exact hend fun k _ h2 he => hw ⟨k, h2, he⟩
  ·rintro ⟨k, h1, h2, _⟩
   exact hw ⟨k, h1, h2⟩
end
section
variable {DS : Nat → Prop} {tm : Array Value} {ds : List Deferred} {Fe : Fence} {nn : Nat}
variable {W : Nat → Prop} {ρ0 : Rho} {H0 : List a8} {F0 : Fz} {w0 w : World}
variable {tr : Nat} {E : Env} {ops : Array Oper} {M : List Nat} {ks : List (Nat × PI)} {s : St} {U T : Nat → St}
variable (hD : DC tr E.P ops M ks) (hT : Ob6 E ops ks s U T) (hin : ∀ j, j < ops.size → z4 tr E.P ops j = 0 → ∀ d, M0 ops j = some d → d < s.a.length)
variable (hpairs : ma6 E (T ops.size).a (ia8 ops.size M ks) = true)
variable (hF : FW Fe) (hDS : ∀ j d, j < ops.size → M0 ops j = some d → DS d)
variable (hG0 : GOk E F0 w0) (hcalls : ∀ f, j6 E.P E.G f (E.call f))
include hD
theorem ab8.next {m m' : Nat} {listed : Array Bool} {ac ac' : Act} {w' : World} (hR : ab8 DS tm ds W ρ0 H0 F0 w0 tr E ops s.a U T m listed ac w) {i : Nat} (hi : i < ops.size) (hdi : ∀ j ∈ P7 (Z6 ops i), I6 listed j)
  (hm' : m' ≤ ops.size) (hheavy : ∀ j, j < ops.size → z4 tr E.P ops j = 2 → (I6 (listed.setIfInBounds i true) j ↔ j < m'))
  {x : a7} (hx : ∀ d, M0 ops i = some d → d < (T ops.size).a.length → (T ops.size).a[d]? = some x)
  (hI : Ra8 DS tm ds W ρ0 H0 F0 w0 ⟨putA (aa6 (T ops.size).a s.a (q9 ops listed)) (M0 ops i) x, D1 (T m').H (k8 tr E.P ops U (listed.setIfInBounds i true))⟩ ac' w') :
  ab8 DS tm ds W ρ0 H0 F0 w0 tr E ops s.a U T m' (listed.setIfInBounds i true) ac' w' := by
 refine ⟨by simpa using hR.size, fun j hj hx k hk => ?_, hm', hheavy, by rw [Tb5 hD hR.size hi hx]; exact hI⟩
 have his : i < listed.size := by rw [hR.size]; exact hi
 rcases (T7 his).1 hx with h | h
 ·exact (T7 his).2 (.inl (hR.closed j hj h k hk))
 ·subst h; exact (T7 his).2 (.inl (hdi k hk))
omit hD in
theorem Ra8.puts {ac : Act} {j : Nat} (hDS : ∀ j d, j < ops.size → M0 ops j = some d → DS d) (hj : j < ops.size) (hsm : ∀ t, ¬ DS t → ac.tmps[t]? = tm[t]?) (v : Value) (t : Nat) (ht : ¬ DS t) : (ac.put (M0 ops j) v).tmps[t]? = tm[t]? := (pb7 fun e => ht (hDS j t hj e)).trans (hsm t ht)
include hG0 hcalls hF hDS in
theorem wb1 {ac : Act} {i : Nat} {a : List a7} {H H' : List a8} {b : Bool} {x : a7} {Q : Exit → Act → World → Prop} {K : Act → World → Prop} (hi : i < ops.size)
  (hI : Ra8 DS tm ds W ρ0 H0 F0 w0 ⟨a, H⟩ ac w) (hg : ob6 E a (Wa0 ops i) = some b)
  (h1 : b = true → (evalOp E a H (Z7 tr E.P ops i)).run = some (x, H')) (h2 : b = false → x = .v (.tuple #[]) ∧ H' = H)
  (hK : ∀ ac' w', Ra8 DS tm ds W ρ0 H0 F0 w0 ⟨putA a (M0 ops i) x, H'⟩ ac' w' → K ac' w') : wpOpIn Fe nn E.P ops Q i K ac w := by
 obtain ⟨hd, hsz, hsm, ρ, F, hAdv, hH, hA⟩ := hI
 have hw := zb4 (hD.guard i hi) hA hg
 unfold wpOpIn
 simp only [P3 hi, hw]
 cases b with
 | true =>
  rw [if_pos rfl]
  refine (Sb8 (ac := { ac with defers := [] }) tr hA hH (hG0.adv hAdv) hcalls (h1 rfl)).inAny hF nn _ _ fun x' w' hp => ?_
  obtain ⟨ρ', F', a1, a2, a3⟩ := hp
  exact hK _ _ ⟨(o6 _ _).trans hd, (aa8 _ _).trans hsz, Ra8.puts hDS hi hsm _, ρ', F', hAdv.trans a1, a2, (hA.adv a1).putA _ a3⟩
 | false =>
  rw [if_neg (by simp)]
  obtain ⟨e1, e2⟩ := h2 rfl
  subst e1 e2
  exact ⟨fun f _ => hF.fn f, hK _ _ ⟨(o6 _ _).trans hd, (aa8 _ _).trans hsz, Ra8.puts hDS hi hsm _, ρ, F, hAdv, hH, hA.putA _ (.ofv _)⟩⟩
include hT hin hpairs hG0 hcalls hF hDS
theorem jc8 {m : Nat} {listed : Array Bool} {ac : Act} (hR : ab8 DS tm ds W ρ0 H0 F0 w0 tr E ops s.a U T m listed ac w) {i : Nat} (hi : i < ops.size) (hk : z4 tr E.P ops i = 1) (hnx : ¬ I6 listed i) (hdi : ∀ j ∈ P7 (Z6 ops i), I6 listed j)
  {Q : Exit → Act → World → Prop} {K : Act → World → Prop} (hK : ∀ ac' w', ab8 DS tm ds W ρ0 H0 F0 w0 tr E ops s.a U T m (listed.setIfInBounds i true) ac' w' → K ac' w') : wpOpIn Fe nn E.P ops Q i K ac w := by
 obtain ⟨b, x, g1, g2, g3, g4⟩ := pb2 hD hT hi hk
 have hread := Jb9 hD hT hR hi hnx hdi
 have hne : z4 tr E.P ops i ≠ 0 := by omega
 refine wb1 hD hF hDS hG0 hcalls (H' := D1 (T m).H (k8 tr E.P ops U listed)) hi hR.inv ((ta0 hread.left).symm.trans g1) (fun hb => ?_) (fun hb => ⟨g4 hb, rfl⟩) fun ac' w' hI' => hK ac' w' ?_
 ·have he := g3 hb
  rw [Ba9 _ hread.right] at he
  refine (Qa9 (Hb5 hk) he).2 _ fun id hid => ?_
  -- the block that is looked at stands in the heap at hand
  have hlive : ∃ b', (D1 (T m).H (k8 tr E.P ops U listed))[id]? = some b' ∧ b'.dead = false := by
   obtain ⟨hd0, _, _, ρ, F, hAdv, hH, hA⟩ := hR.inv
   have harg : ∀ (y : Arg), nb3 y = true → id ∈ P1 (a9 E (aa6 (T ops.size).a s.a (q9 ops listed)) y) → ∃ b', (D1 (T m).H (k8 tr E.P ops U listed))[id]? = some b' ∧ b'.dead = false := fun y hy hm => by
    cases y with
    | c z =>
     exfalso
     have hm' : id ∈ P1 z := hm
     cases z <;> first | (cases hm'; done) | (cases hy; done)
    | g n =>
     exfalso
     have hm' : id ∈ P1 (.tptr (o3 .v (E.G n))) := hm
     cases hm'
    | t n =>
     rw [ua8] at hm
     cases hn : (aa6 (T ops.size).a s.a (q9 ops listed))[n]? with
     | none => rw [hn] at hm; cases hm
     | some u =>
     rw [hn] at hm
     simp only [Option.getD_some] at hm
     have hlt : n < ac.tmps.size := hA.1 ▸ (List.getElem?_eq_some_iff.1 hn).1
     have hW := hA.2 n u _ hn (Array.getElem?_eq_getElem hlt)
     cases u with
     | ptr id' i c g =>
      have : id = id' := by simpa [P1] using hm
      subst this
      obtain ⟨_, b', _, h1, h2, _⟩ := ia9 hW
      exact ⟨b', h1, h2⟩
     | sl id' off n g =>
      have : id = id' := by simpa [P1] using hm
      subst this
      obtain ⟨_, _, b', _, h1, h2, _⟩ := ka8 hW
      exact ⟨b', h1, h2⟩
     | _ => cases hm
   have hbare := hD.bare hi
   revert hbare hid
   generalize Z7 tr E.P ops i = q
   intro hid hbare
   cases q with
   | load ks n agg y => exact harg y hbare hid
   | idxS es y z => exact harg y hbare hid
   | slice es y lo hi => exact harg y hbare hid
   | _ => cases hid
  obtain ⟨b', hb1, hb2⟩ := hlive
  obtain ⟨hnD, hb3⟩ := Hb0 hb1 hb2
  have huse : id ∈ ka7 E (T ops.size).a (Z7 tr E.P ops i) := by
   rw [← gc7 hD hT hi, Ra2 hread.right]; exact hid
  -- nobody between touches it
  have hbetween : ∀ j, j < ops.size → z4 tr E.P ops j = 2 → j9 M i j = false → j9 M j i = false → id ∉ G7 E (T ops.size).a (Z7 tr E.P ops j) := fun j hj hkj h1 h2 =>
   kb3 hpairs (hD.pair hj hi hk hkj h2 h1) id huse
  have hlike : G5 (T i).H (T m).H id := by
   rcases Nat.lt_or_ge i m with him | him
   ·have := Ib0 hD hT hin (id := id) (m - i) i (by have := hR.hm; omega) fun j h1 h2 hkj => by
     have hj : j < ops.size := by have := hR.hm; omega
     have hxj := (hR.heavy j hj hkj).2 (by omega)
     refine hbetween j hj hkj ?_ ?_
     ·cases hc : j9 M i j with
      | false => rfl
      | true => exact absurd (na7 hD hR hj (hR.closed j hj hxj) hi hc) hnx
     ·cases hc : j9 M j i with
      | false => rfl
      | true => have := ja3 hD hi hj hc; omega
    rwa [show i + (m - i) = m by omega] at this
   ·have := Ib0 hD hT hin (id := id) (i - m) m (by omega) fun j h1 h2 hkj => by
     have hj : j < ops.size := by omega
     have hxj : ¬ I6 listed j := fun h => by have := (hR.heavy j hj hkj).1 h; omega
     refine hbetween j hj hkj ?_ ?_
     ·cases hc : j9 M i j with
      | false => rfl
      | true => have := ja3 hD hj hi hc; omega
     ·cases hc : j9 M j i with
      | false => rfl
      | true => exact absurd (na7 hD hR hi hdi hj hc) hxj
    rw [show m + (i - m) = i by omega] at this
    intro b0 hb0
    obtain ⟨b2, h3, h4⟩ := this b' hb3
    have : b2 = b0 := Option.some.inj (h3.symm.trans hb0)
    subst this
    exact ⟨b', hb3, h4.1.symm, h4.2.1.symm, h4.2.2.1.symm, h4.2.2.2.1.symm, h4.2.2.2.2.symm⟩
  refine hlike.trans fun b0 hb0 => ⟨b0, ?_, .refl b0⟩
  rw [p8 hnD]; exact hb0
 ·refine ab8.next hD hR hi hdi hR.hm (fun j hj hkj => ?_) (x := x) (fun d hd hlt => ?_) ?_
  ·rw [T7 (hR.size ▸ hi)]
   rw [← hR.heavy j hj hkj]
   exact ⟨fun h => h.resolve_right fun e => by subst e; omega, .inl⟩
  ·rw [wc0 hD hT hi hd, g2, hd]
   refine db9 ?_
   rw [(la4 hD hT i (by omega)).2, ← (la4 hD hT ops.size (Nat.le_refl _)).2]
   exact hlt
  ·rw [eb0 hR.size hi hne]; exact hI'
omit hpairs in
theorem jc9 {m : Nat} {listed : Array Bool} {ac : Act} (hR : ab8 DS tm ds W ρ0 H0 F0 w0 tr E ops s.a U T m listed ac w) {i : Nat} (hi : i < ops.size) (hk : z4 tr E.P ops i = 2) (hnx : ¬ I6 listed i) (hdi : ∀ j ∈ P7 (Z6 ops i), I6 listed j)
  {Q : Exit → Act → World → Prop} {K : Act → World → Prop} (hK : ∀ ac' w', ab8 DS tm ds W ρ0 H0 F0 w0 tr E ops s.a U T (i + 1) (listed.setIfInBounds i true) ac' w' → K ac' w') : wpOpIn Fe nn E.P ops Q i K ac w := by
 obtain ⟨b, x, g1, g2, g3, g4⟩ := Db4 hD hT hin hi hk
 have hread := Jb9 hD hT hR hi hnx hdi
 have hne : z4 tr E.P ops i ≠ 0 := by omega
 have hmi : m ≤ i := by
  rcases Nat.lt_or_ge i m with h | h
  ·exact absurd ((hR.heavy i hi hk).2 h) hnx
  ·exact h
 have hno : ∀ j, m ≤ j → j < i → z4 tr E.P ops j ≠ 2 := fun j h1 h2 hkj => by
  have hj : j < ops.size := by omega
  have := (hR.heavy j hj hkj).1 (na7 hD hR hi hdi hj (hD.chain h2 hi hkj hk).1)
  omega
 have hsame : (T m).H = (T i).H := by
  have := Hb8 hD hT (i - m) m (by omega) fun j h1 h2 => hno j h1 (by omega)
  rw [show m + (i - m) = i by omega] at this
  exact this.symm
 have hfin : ∀ {H' : List a8} {ac' : Act} {w' : World}, H' = D1 (T (i + 1)).H (k8 tr E.P ops U listed) → Ra8 DS tm ds W ρ0 H0 F0 w0 ⟨putA (aa6 (T ops.size).a s.a (q9 ops listed)) (M0 ops i) x, H'⟩ ac' w' → K ac' w' := fun {H' ac' w'} e hI' => by
  refine hK ac' w' (ab8.next hD hR hi hdi (by omega) (fun j hj hkj => ?_) (x := x) (fun d hd hlt => ?_) ?_)
  ·rw [T7 (hR.size ▸ hi)]
   constructor
   ·rintro (h | h)
    ·have := (hR.heavy j hj hkj).1 h; omega
    ·omega
   ·intro h
    by_cases e : j = i
    ·exact .inr e
    ·refine .inl ((hR.heavy j hj hkj).2 ?_)
     rcases Nat.lt_or_ge j m with h' | h'
     ·exact h'
     ·exact absurd hkj (hno j h' (by omega))
  ·rw [wc0 hD hT hi hd, g2, hd]
   refine db9 ?_
   rw [(la4 hD hT i (by omega)).2, ← (la4 hD hT ops.size (Nat.le_refl _)).2]
   exact hlt
  ·rw [eb0 hR.size hi hne, ← e]; exact hI'
 cases b with
 | false =>
  obtain ⟨h1, h2⟩ := g4 rfl
  exact wb1 hD hF hDS hG0 hcalls (x := x) (H' := D1 (T m).H (k8 tr E.P ops U listed)) hi hR.inv ((ta0 hread.left).symm.trans g1) (fun h => by cases h) (fun _ => ⟨h1, rfl⟩) fun ac' w' hI' => hfin (by rw [h2, hsame]) hI'
 | true =>
  obtain ⟨hid, H', h5, h6, h7⟩ := g3 rfl
  rw [Ba9 _ hread.right] at h6
  have hall : ∀ id ∈ hid, id < (T i).H.length := fun id hid' => by
   obtain ⟨b', k1, k2, k3, rfl⟩ := (h5 id).1 hid'
   exact rc1 hD hT hin hi hk k1 k2 k3
  have hsub : ∀ id, k8 tr E.P ops U listed id → id ∈ hid := fun id ⟨b', k1, k2, k3, k4⟩ => by
   refine (h5 id).2 ⟨b', k1, k2, ?_, k4⟩
   cases hc : j9 M b' i with
   | false => rfl
   | true => exact absurd (na7 hD hR hi hdi k1 hc) k3
  have hMono : B8 (· ∈ hid) (D1 (T i).H (· ∈ hid)) (D1 (T i).H (k8 tr E.P ops U listed)) (D1 (T i).H (· ∈ hid)) (D1 (T i).H (k8 tr E.P ops U listed)) := by
   refine ⟨by rw [aa7, aa7], fun id hn => ?_, fun id b hm hb => ?_, fun _ _ => rfl, fun _ _ => rfl, fun id h => by rw [aa7]; exact hall id h⟩
   ·rw [p8 (D := (· ∈ hid)) hn, p8 fun h => hn (hsub id h)]
   ·rw [I5 (D := (· ∈ hid)) hm] at hb
    simp only [Option.map_eq_some_iff] at hb
    obtain ⟨c, _, rfl⟩ := hb
    rfl
  obtain ⟨H2', h8, h9⟩ := hMono.evalOp (Za3 hk) h6
  refine wb1 hD hF hDS hG0 hcalls (x := x) (H' := H2') hi hR.inv ((ta0 hread.left).symm.trans g1) (fun _ => by rw [hsame]; exact h8) (fun h => by cases h) fun ac' w' hI' => hfin ?_ hI'
  refine List.ext_getElem? fun id => ?_
  rw [h7]
  by_cases hm : id ∈ hid
  ·rw [h9.at2 id hm]
   have hr := db7 (H0 := (T i).H) (H := H') hm (hall id hm) (h9.bound id hm)
   by_cases hd : k8 tr E.P ops U listed id
   ·rw [I5 hd, I5 hd, hr]
   ·rw [p8 hd, p8 hd, hr]
  ·rw [← h9.same id hm, p8 fun h => hm (hsub id h), kb2 hm]
end
end Go.Ev
namespace Go.Ev
open Go
section
variable {DS : Nat → Prop} {tm : Array Value} {ds : List Deferred} {Fe : Fence} {nn : Nat}
variable {W : Nat → Prop} {ρ0 : Rho} {H0 : List a8} {F0 : Fz} {w0 w : World}
variable {tr : Nat} {E : Env} {ops : Array Oper} {M : List Nat} {ks : List (Nat × PI)} {s : St} {U T : Nat → St}
variable (hD : DC tr E.P ops M ks) (hT : Ob6 E ops ks s U T) (hin : ∀ j, j < ops.size → z4 tr E.P ops j = 0 → ∀ d, M0 ops j = some d → d < s.a.length) (hlen : H0.length ≤ s.H.length)
variable (hF : FW Fe) (hDS : ∀ j d, j < ops.size → M0 ops j = some d → DS d)
include hD hT hin hlen
include hF hDS in
theorem kc0 {m : Nat} {listed : Array Bool} {ac : Act} (hR : ab8 DS tm ds W ρ0 H0 F0 w0 tr E ops s.a U T m listed ac w) {i : Nat} (hi : i < ops.size) (hk : z4 tr E.P ops i = 0) (hnx : ¬ I6 listed i) (hdi : ∀ j ∈ P7 (Z6 ops i), I6 listed j)
  {Q : Exit → Act → World → Prop} {K : Act → World → Prop} (hK : ∀ ac' w', ab8 DS tm ds W ρ0 H0 F0 w0 tr E ops s.a U T m (listed.setIfInBounds i true) ac' w' → K ac' w') : wpOpIn Fe nn E.P ops Q i K ac w := by
 obtain ⟨t, z, d, ho, hgn, hz, hd, hU⟩ := Ca0 hD hT hi hk
 obtain ⟨hd0, hsz, hsm, ρ, F, hAdv, hH, hA⟩ := hR.inv
 simp only at hAdv hH hA
 generalize hHS : D1 (T m).H (k8 tr E.P ops U listed) = HS at hAdv hH hA
 have hHSlen : HS.length = (T m).H.length := by rw [← hHS, aa7]
 have his : i < listed.size := by rw [hR.size]; exact hi
 -- the block stands in the text's heap, as it was made
 have hblk : (T m).H[(U i).H.length]? = some (N1 z) := by
  have h1 := Hb9 hD hT hin hi hk m hR.hm fun h h1 h2 => by
   cases hc : j9 M i h with
   | false => rfl
   | true =>
    have hh : h < ops.size := by have := hR.hm; omega
    exact absurd (na7 hD hR hh (hR.closed h hh ((hR.heavy h hh h2).2 h1)) hi hc) hnx
  obtain ⟨t', z', h2, h3, h4⟩ := Yb7 hD hT hi hk
  have : t' = t := by rw [ho] at h2; injection h2 with h2; exact h2.symm
  subst this
  have : z' = z := Option.some.inj (h3.symm.trans hz)
  subst this
  rw [h1, h4]
 have hidlt : (U i).H.length < HS.length := by rw [hHSlen]; exact (List.getElem?_eq_some_iff.1 hblk).1
 have hidge : s.H.length ≤ (U i).H.length := (vb2 hD hT (by omega)).1
 have hdead : k8 tr E.P ops U listed (U i).H.length := ⟨i, hi, hk, hnx, rfl⟩
 have hinj : ∀ b, b < ops.size → z4 tr E.P ops b = 0 → (U i).H.length = (U b).H.length → b = i := fun b hb hkb he => by
  rcases Nat.lt_trichotomy b i with h | h | h
  ·have := Tc4 hD hT h (by omega) hkb; omega
  ·exact h
  ·have := Tc4 hD hT h (by omega) hk; omega
 have hdead' : ∀ id, k8 tr E.P ops U (listed.setIfInBounds i true) id ↔ k8 tr E.P ops U listed id ∧ id ≠ (U i).H.length := fun id => by
  constructor
  ·rintro ⟨b, h1, h2, h3, h4⟩
   refine ⟨⟨b, h1, h2, fun h => h3 ((T7 his).2 (.inl h)), h4⟩, fun e => h3 ((T7 his).2 (.inr ?_))⟩
   exact hinj b h1 h2 (e.symm.trans h4)
  ·rintro ⟨⟨b, h1, h2, h3, h4⟩, h5⟩
   refine ⟨b, h1, h2, fun h => ?_, h4⟩
   rcases (T7 his).1 h with h | h
   ·exact h3 h
   ·subst h; exact h5 h4
 generalize hHS' : D1 (T m).H (k8 tr E.P ops U (listed.setIfInBounds i true)) = HS'
 have hoff : ∀ id, id ≠ (U i).H.length → HS'[id]? = HS[id]? := fun id hne => by
  rw [← hHS', ← hHS]
  by_cases h : k8 tr E.P ops U listed id
  ·rw [I5 h, I5 ((hdead' id).2 ⟨h, hne⟩)]
  ·rw [p8 h, p8 fun h' => h ((hdead' id).1 h').1]
 have hon : HS'[(U i).H.length]? = some (N1 z) := by
  rw [← hHS', p8 fun h' => ((hdead' _).1 h').2 rfl]
  exact hblk
 have hHSdead : ∀ b, HS[(U i).H.length]? = some b → b.dead = true := fun b hb => by
  rw [← hHS, I5 hdead] at hb
  simp only [Option.map_eq_some_iff] at hb
  obtain ⟨c, _, rfl⟩ := hb
  rfl
 -- the operation
 have hev : (evalOp E (aa6 (T ops.size).a s.a (q9 ops listed)) HS (.alloc z)).run = some (.ptr HS.length 0 0 0, HS ++ [N1 z]) := by
  simp only [evalOp, DT.run_ret, j7, aa5, B4, N1]
 unfold wpOpIn
 have hw : Region.wanted (Z6 ops i) (yielded ops ac.tmps) = true := by simp [Region.wanted, hgn]
 simp only [P3 hi, hw]
 rw [if_pos trivial]
 refine (Ya0 (ac := { ac with defers := [] }) hH ho hz hev).inAny hF nn _ _ (fun x' w' hp => hK _ _ (ab8.next hD hR hi hdi hR.hm (fun j hj hkj => ?_) (x := .ptr (U i).H.length 0 0 0) (fun d' hd' hlt => ?_) ?_))
 ·rw [T7 his, ← hR.heavy j hj hkj]
  exact ⟨fun h => h.resolve_right fun e => by subst e; omega, .inl⟩
 ·refine Db3 hD hT hi hk hd' ?_ (Nat.le_refl _)
  rw [← (la4 hD hT ops.size (Nat.le_refl _)).2]
  exact hlt
 ·obtain ⟨ρ', F', a1, a2, a3⟩ := hp
  rw [hHS']
  have hadv := hAdv.trans a1
  let ρ2 : Rho := fun id => if id = (U i).H.length then ρ' HS.length else ρ' id
  have hρ2 : ∀ id, id ≠ (U i).H.length → ρ2 id = ρ' id := fun id h => if_neg h
  have hρ2' : ρ2 (U i).H.length = ρ' HS.length := if_pos rfl
  have hold : ∀ id b, HS'[id]? = some b → id ≠ (U i).H.length → (HS ++ [N1 z])[id]? = some b := fun id b hb hne => by
   rw [hoff id hne] at hb
   rw [List.getElem?_append_left (List.getElem?_eq_some_iff.1 hb).1]
   exact hb
  have hN : (HS ++ [N1 z])[HS.length]? = some (N1 z) := by simp
  refine ⟨(o6 _ _).trans hd0, (aa8 _ _).trans hsz, Ra8.puts hDS hi hsm _, ρ2, F', ⟨hadv.ext, fun id b hb => ?_, hadv.more, hadv.new, fun id b' hb' hn => ?_⟩, ?_, ?_⟩
  ·have hidH : id < s.H.length := by have := (List.getElem?_eq_some_iff.1 hb).1; omega
   have hne : id ≠ (U i).H.length := by omega
   obtain ⟨b', h1, h2⟩ := hadv.heap id b hb
   rw [List.getElem?_append_left (by omega)] at h1
   refine ⟨b', by rw [hoff id hne]; exact h1, ?_⟩
   rw [hρ2 id hne]
   exact h2
  ·by_cases he : id = (U i).H.length
   ·subst he
    rw [hρ2']
    exact hadv.fresh HS.length _ hN fun b hb => by have := (List.getElem?_eq_some_iff.1 hb).1; omega
   ·rw [hρ2 id he]
    exact hadv.fresh id b' (hold id b' hb' he) hn
  ·refine a2.pull (fun id => if id = (U i).H.length then HS.length else id) (fun id b hb hdd => ?_) fun id id' b b' hb hdd hb' hdd' he => ?_
   ·by_cases e : id = (U i).H.length
    ·subst e
     simp only [if_true]
     have : b = N1 z := Option.some.inj (hb.symm.trans hon)
     subst this
     exact ⟨hN, hρ2'⟩
    ·simp only [if_neg e]
     exact ⟨hold id b hb e, hρ2 id e⟩
   ·have hlt : ∀ id b, HS'[id]? = some b → id ≠ (U i).H.length → id < HS.length := fun id b hb hne => by
     rw [hoff id hne] at hb
     exact (List.getElem?_eq_some_iff.1 hb).1
    by_cases e : id = (U i).H.length
    ·by_cases e' : id' = (U i).H.length
     ·rw [e, e']
     ·simp only [if_pos e, if_neg e'] at he
      have := hlt id' b' hb' e'
      omega
    ·by_cases e' : id' = (U i).H.length
     ·simp only [if_neg e, if_pos e'] at he
      have := hlt id b hb e
      omega
     ·simpa only [if_neg e, if_neg e'] using he
  ·have hA2 : ca7 ρ2 HS' F' w' (aa6 (T ops.size).a s.a (q9 ops listed)) ac.tmps := by
    refine hA.carry (fun id b hb hdd => ?_) a1.more a1.ext.cells
    have hne : id ≠ (U i).H.length := fun e => by
     subst e
     rw [hHSdead b hb] at hdd
     cases hdd
    obtain ⟨b', h1, h2, h3, h4⟩ := a1.heap id b hb
    rw [List.getElem?_append_left (List.getElem?_eq_some_iff.1 hb).1] at h1
    refine ⟨b', by rw [hoff id hne]; exact h1, h2.trans hdd, h3, fun hg => ?_⟩
    rw [hρ2 id hne]
    exact h4 hg
   have hW : y8 ρ2 HS' F' w' (.ptr (U i).H.length 0 0 0) x' := by
    obtain ⟨ad, b, e, h1, h2, h3, h4⟩ := ia9 a3
    have : b = N1 z := Option.some.inj (h1.symm.trans hN)
    subst this
    rw [e]
    refine .val (.cell (.ptr _ 0 0 0 ad _ hon rfl (Nat.le_refl _) fun _ => ?_))
    rw [hρ2']
    exact h4 rfl
   exact hA2.putA (M0 ops i) hW
omit hin in
theorem kc1 {ac : Act} (hI : Ra8 DS tm ds W ρ0 H0 F0 w0 s ac w) :
  ab8 DS tm ds W ρ0 H0 F0 w0 tr E ops s.a U T 0 (Array.replicate ops.size false) ac { w with drawn := w.drawn + 1 } := by
 have hnx : ∀ j, j < ops.size → ¬ I6 (Array.replicate ops.size false) j := fun j hj h => by
  unfold I6 at h
  simp [Array.getD, hj] at h
 obtain ⟨hd0, hsz, hsm, ρ, F, hAdv, hH, hA⟩ := hI
 have hdead : ∀ id, k8 tr E.P ops U (Array.replicate ops.size false) id → s.H.length ≤ id := fun id ⟨b, h1, _, _, h4⟩ => by
  have := (vb2 hD hT (j := b) (by omega)).1
  omega
 have hlow : ∀ id, id < s.H.length → (D1 (T 0).H (k8 tr E.P ops U (Array.replicate ops.size false)))[id]? = s.H[id]? := fun id hid => by
  rw [p8 fun h => by have := hdead id h; omega, hT.t0]
  exact (vb2 hD hT (Nat.le_refl _)).2 id hid
 have hhigh : ∀ id b, (D1 (T 0).H (k8 tr E.P ops U (Array.replicate ops.size false)))[id]? = some b → s.H.length ≤ id → b.dead = true := fun id b hb hge => by
  have hlt : id < (T 0).H.length := by
   have := (List.getElem?_eq_some_iff.1 hb).1
   rwa [aa7] at this
  rw [hT.t0] at hlt
  obtain ⟨j, h1, h2, h3⟩ := wc1 hD hT ops.size (Nat.le_refl _) id hge hlt
  rw [I5 (show k8 tr E.P ops U (Array.replicate ops.size false) id from ⟨j, h1, h2, hnx j h1, h3⟩)] at hb
  simp only [Option.map_eq_some_iff] at hb
  obtain ⟨c, _, rfl⟩ := hb
  rfl
 have hH' : r8 W ρ s.H F { w with drawn := w.drawn + 1 } := hH.same rfl
 have hAdv' : Adv W ρ0 H0 F0 w0 ρ s.H F { w with drawn := w.drawn + 1 } := hAdv.trans (.same rfl rfl rfl rfl (Nat.le_succ _))
 let ρ1 : Rho := fun id => if id < s.H.length then ρ id else ⟨w.heap.size, 0, 0⟩
 have hρ1 : ∀ id, id < s.H.length → ρ1 id = ρ id := fun id h => if_pos h
 have hlive : ∀ id b, (D1 (T 0).H (k8 tr E.P ops U (Array.replicate ops.size false)))[id]? = some b → b.dead = false → id < s.H.length := fun id b hb hd => by
  rcases Nat.lt_or_ge id s.H.length with h | h
  ·exact h
  ·rw [hhigh id b hb h] at hd; cases hd
 refine ⟨by simp, fun j hj hx => absurd hx (hnx j hj), Nat.zero_le _, fun j hj _ => ⟨fun h => absurd h (hnx j hj), fun h => by omega⟩, hd0, hsz, hsm, ρ1, F, ⟨hAdv'.ext, fun id b hb => ?_, hAdv'.more, hAdv'.new, fun id b hb hn => ?_⟩, ?_, ?_⟩
 ·have hid : id < s.H.length := by have := (List.getElem?_eq_some_iff.1 hb).1; omega
  obtain ⟨b', h1, h2⟩ := hAdv'.heap id b hb
  refine ⟨b', (hlow id hid).trans h1, ?_⟩
  rw [hρ1 id hid]
  exact h2
 ·simp only at hb
  by_cases hid : id < s.H.length
  ·rw [hlow id hid] at hb
   rw [hρ1 id hid]
   exact hAdv'.fresh id b hb hn
  ·show W (if id < s.H.length then ρ id else ⟨w.heap.size, 0, 0⟩).blk
   rw [if_neg hid]
   exact hH.new _ (Nat.le_refl _)
 ·refine hH'.pull (fun id => id) (fun id b hb hd => ?_) fun _ _ _ _ _ _ _ _ h => h
  have hid := hlive id b hb hd
  rw [← hlow id hid]
  exact ⟨hb, hρ1 id hid⟩
 ·have hcarry : Ib1 ρ s.H ρ1 (D1 (T 0).H (k8 tr E.P ops U (Array.replicate ops.size false))) := fun id b hb hd => by
   have hid := (List.getElem?_eq_some_iff.1 hb).1
   exact ⟨b, (hlow id hid).trans hb, hd, Nat.le_refl _, fun _ => ⟨hρ1 id hid, rfl, Nat.le_refl _⟩⟩
  refine ⟨by rw [ea7, (la4 hD hT ops.size (Nat.le_refl _)).2]; exact hA.1, fun t x x' hx hx' => ?_⟩
  simp only at hx
  by_cases ht : q9 ops (Array.replicate ops.size false) t
  ·have hlt : t < (T ops.size).a.length := by
    have := (List.getElem?_eq_some_iff.1 hx).1
    rwa [ea7] at this
   rw [Oa1 ht hlt] at hx
   injection hx with hx
   rw [(la4 hD hT ops.size (Nat.le_refl _)).2] at hlt
   rw [List.getElem?_eq_getElem hlt, Option.getD_some] at hx
   exact y8.carry (w := w) (w' := { w with drawn := w.drawn + 1 }) hcarry (fun _ _ h => h) (fun _ _ _ => rfl) (hA.2 t x x' (by rw [← hx]; exact List.getElem?_eq_getElem hlt) hx')
  ·rw [ea8 ht] at hx
   have hno : ∀ j, j < ops.size → M0 ops j ≠ some t := fun j hj he => ht ⟨j, hj, he, hnx j hj⟩
   have h1 := La6 hD hT (t := t) ops.size 0 (by omega) fun j _ h2 _ => hno j (by omega)
   have h2 := vb1 hD hT (t := t) ops.size 0 (by omega) fun j _ h2 _ => hno j (by omega)
   rw [Nat.zero_add] at h1 h2
   rw [h1, hT.t0, h2, hT.u0] at hx
   exact y8.carry (w := w) (w' := { w with drawn := w.drawn + 1 }) hcarry (fun _ _ h => h) (fun _ _ _ => rfl) (hA.2 t x x' hx hx')
omit hin hlen in
theorem Ub7 {m : Nat} {listed : Array Bool} {ac : Act} (hR : ab8 DS tm ds W ρ0 H0 F0 w0 tr E ops s.a U T m listed ac w) (hall : ∀ j, j < ops.size → I6 listed j) : Ra8 DS tm ds W ρ0 H0 F0 w0 (T ops.size) ac w := by
 have h1 : aa6 (T ops.size).a s.a (q9 ops listed) = (T ops.size).a := Hb1 fun t ⟨j, h1, _, h3⟩ => h3 (hall j h1)
 have h2 : D1 (T m).H (k8 tr E.P ops U listed) = (T ops.size).H := by
  rw [Hb2 fun id ⟨b, h1, _, h3, _⟩ => h3 (hall b h1)]
  have := Hb8 hD hT (ops.size - m) m (by have := hR.hm; omega) fun j h3 h4 hk => by
   have hj : j < ops.size := by have := hR.hm; omega
   have := (hR.heavy j hj hk).1 (hall j hj)
   omega
  rw [show m + (ops.size - m) = ops.size by have := hR.hm; omega] at this
  exact this.symm
 have h3 := hR.inv
 rw [h1, h2] at h3
 exact h3
variable (hpairs : ma6 E (T ops.size).a (ia8 ops.size M ks) = true) (hG0 : GOk E F0 w0) (hcalls : ∀ f, j6 E.P E.G f (E.call f))
include hpairs hG0 hcalls hF hDS
theorem eb7 {Q : Exit → Act → World → Prop} (hQ : ∀ ac' w', Ra8 DS tm ds W ρ0 H0 F0 w0 (T ops.size) ac' w' → Q .normal ac' w') : ∀ (fuel m : Nat) (listed : Array Bool) (ac : Act) (w : World), ab8 DS tm ds W ρ0 H0 F0 w0 tr E ops s.a U T m listed ac w → ea9 listed ≤ fuel → wpAnyIn Fe nn E.P .any ops Q fuel listed ac w
 | 0, m, listed, ac, w, hR, hc => by
  have hall : ∀ j, I6 listed j := Za5 (by omega)
  refine ⟨?_, hQ _ _ (Ub7 hD hT hR fun j _ => hall j)⟩
  rw [List.eq_nil_iff_forall_not_mem]
  intro i hi
  exact (Ra3 hi).2.1 (hall i)
 | fuel + 1, m, listed, ac, w, hR, hc => by
  refine ⟨fun h => hQ _ _ (Ub7 hD hT hR (Tb7 hD hR.size h)), fun i hi => ?_⟩
  obtain ⟨h1, h2, h3⟩ := Ra3 hi
  have hdi : ∀ j ∈ P7 (Z6 ops i), I6 listed j := fun j hj => h3 hR.size j hj (by have := db8 hD.rows (P3 h1) hj; omega)
  have hcount : ea9 (listed.setIfInBounds i true) ≤ fuel := by
   have his : i < listed.size := by rw [hR.size]; exact h1
   have hf : listed.toList[i]? = some false := by
    have : listed.getD i true = false := by unfold I6 at h2; simpa using h2
    simp only [Array.getD, his, dite_true] at this
    rw [List.getElem?_eq_getElem (by simpa using his)]
    congr 1
   have := La7 listed.toList i hf
   unfold ea9 at hc ⊢
   rw [Array.toList_setIfInBounds]
   omega
  rcases Oa2 (tr := tr) (P := E.P) (ops := ops) i with hk | hk | hk
  ·exact kc0 hD hT hin hlen hF hDS hR h1 hk h2 hdi fun ac' w' hR' => eb7 hQ fuel m _ ac' w' hR' hcount
  ·exact jc8 hD hT hin hpairs hF hDS hG0 hcalls hR h1 hk h2 hdi fun ac' w' hR' => eb7 hQ fuel m _ ac' w' hR' hcount
  ·exact jc9 hD hT hin hF hDS hG0 hcalls hR h1 hk h2 hdi fun ac' w' hR' => eb7 hQ fuel (i + 1) _ ac' w' hR' hcount
end
end Go.Ev
namespace Go.Ev
open Go
section
variable {DS : Nat → Prop} {tm : Array Value} {ds : List Deferred} {Fe : Fence} {nn : Nat} {E : Env}
theorem Vc8 (hF : FW Fe) (hm : E.P.follows .mixedOrders = true) (hcalls : ∀ f, j6 E.P E.G f (E.call f)) {W : Nat → Prop} {ρ0 : Rho} {H0 : List a8} {F0 : Fz} {w0 : World} {k : Nat} (hG0 : GOk E F0 w0)
  {id : Nat} {ops : Array Oper} {s : St} {x : c8} {s' : St} (hDS : ∀ j d, j < ops.size → M0 ops j = some d → DS d) (hlen : H0.length ≤ s.H.length)
  (he : (G2 E k (Ea2 E.P ops) s).run = some (x, s')) {ac : Act} {w : World} {Q : Exit → Act → World → Prop} (hI : Ra8 DS tm ds W ρ0 H0 F0 w0 s ac w)
  (hQ : ∀ ac' w', Ra8 DS tm ds W ρ0 H0 F0 w0 s' ac' w' → Q (toX x) ac' w') : (Code.region id ops true).wpIn Fe nn E.P Q ac w := by
 have hdr : ∃ dsts as l ps, Ea2 E.P ops = .draw dsts as l ps := by
  unfold Ea2 at he ⊢
  have hT : ∀ tr, (∃ a b c d, Ea1 tr E.P ops = .draw a b c d) ∨ Ea1 tr E.P ops = .bad := fun tr => by
   unfold Ea1
   simp only
   cases pc4 tr E.P ops (Region.before ops).toList 0 ops.toList with
   | none => exact .inr rfl
   | some ks =>
    simp only [Xb0]
    split
    ·exact .inl ⟨_, _, _, _, rfl⟩
    ·exact .inr rfl
  revert he
  rcases hT 0 with ⟨a, b, c, d, h0⟩ | h0 <;> rw [h0] <;> intro he
  ·exact ⟨_, _, _, _, rfl⟩
  ·revert he
   rcases hT 1 with ⟨a, b, c, d, h1⟩ | h1 <;> rw [h1] <;> intro he
   ·exact ⟨_, _, _, _, rfl⟩
   ·revert he
    rcases hT 2 with ⟨a, b, c, d, h2⟩ | h2 <;> rw [h2] <;> intro he
    ·exact ⟨_, _, _, _, rfl⟩
    ·cases he
 obtain ⟨dsts, as, l, ps, hc⟩ := hdr
 rw [hc] at he
 obtain ⟨tr, M, ks, hD, rfl, rfl, rfl, rfl⟩ := gc6 hc
 have he' : ((E8 E ((List.range ops.size).filterMap (Ka4 ks)) s).bind fun s => (E8 E ((List.range ops.size).filterMap (hb5 ks)) s).bind fun s =>
   Bool.rec (motive := fun _ => DT (c8 × St)) .fail (Bool.rec (motive := fun _ => DT (c8 × St)) .fail (.ret (.normal, s)) (Ka1 s.a ((List.range ops.size).filterMap (Ka4 ks)))) (ma6 E s.a (ia8 ops.size M ks))).run = some (x, s') := he
 obtain ⟨s1, h1, h2⟩ := DT.run_bind_some he'
 obtain ⟨s2, h3, h4⟩ := DT.run_bind_some h2
 obtain ⟨U, u0, u1, u2⟩ := pa5 _ _ _ _ h1
 obtain ⟨T, t0, t1, t2⟩ := pa5 _ _ _ _ h3
 have hT : Ob6 E ops ks s U T := ⟨u0, u2, t0.trans u1.symm, t2⟩
 cases hp : ma6 E s2.a (ia8 ops.size M ks) with
 | false => rw [hp] at h4; cases h4
 | true =>
 rw [hp] at h4
 simp only at h4
 cases hs : Ka1 s2.a ((List.range ops.size).filterMap (Ka4 ks)) with
 | false => rw [hs] at h4; cases h4
 | true =>
 rw [hs] at h4
 have h4' : some (c8.normal, s2) = some (x, s') := h4
 injection h4' with h4'; injection h4' with e1 e2; subst e1 e2
 rw [← t1] at hp hs hQ
 have hin : ∀ j, j < ops.size → z4 tr E.P ops j = 0 → ∀ d, M0 ops j = some d → d < s.a.length := fun j hj hk d hd => by
  rw [← (la4 hD hT ops.size (Nat.le_refl _)).2]
  refine kb4 hs (Za2 tr E.P ops M j) ?_ d hd
  rw [List.mem_filterMap]
  exact ⟨j, List.mem_range.2 hj, (Yb3 hD hj hk).1⟩
 refine wpIn_region_any hm (eb7 hD hT hin hlen hF hDS hp hG0 hcalls hQ ops.size 0 _ ac _ (kc1 hD hT hlen hI) ?_)
 unfold ea9
 simp
end
section
variable {P : Program} {WB K : Nat → Prop} {J : List Value → World → Prop} {ρ0 : Rho} {H0 : List a8} {F0 : Fz} {w w0 : World} {s : St} {ac : Act} {E : Env}
theorem Mc8 {Fe : Fence} {n m kk id : Nat} (hm : E.P.follows .mixedOrders = true) (hF : FW Fe) (hG0 : GOk E F0 w0) (hcalls : ∀ f, j6 E.P E.G f (E.call f)) (hJ : kb9 K J) {ops : Array Oper} {Q : Exit → Act → World → Prop} {x : c8} {s' : St}
  (hI : Dc8 E.P WB K J n ρ0 H0 F0 w0 s ac w) (he : (G2 E kk (.mask n (ops.toList.filterMap (·.dst)) (Ea2 E.P ops)) s).run = some (x, s'))
  (hQ : ∀ ac' w', Dc8 E.P WB K J n ρ0 H0 F0 w0 s' ac' w' → ac'.defers = ac.defers → (∀ t, ¬ t ∈ ops.toList.filterMap (·.dst) → ac'.tmps[t]? = ac.tmps[t]?) → Q (toX x) ac' w') : (Code.region id ops true).wpIn Fe m E.P Q ac w := by
 obtain ⟨ρ, F, W', up, hI⟩ := hI
 have he' : ((G2 E kk (Ea2 E.P ops) ⟨o3 (T5 s.H) (E2 s.a n), l8 s.H⟩).bind fun r => .guard (mb9 s.H r.2.H) (.ret (r.1, ⟨Z8 (ops.toList.filterMap (·.dst)) s.a r.2.a 0, r9 s.H r.2.H⟩))).run = some (x, s') := he
 obtain ⟨⟨x1, s1⟩, h1, h2⟩ := DT.run_bind_some he'
 obtain ⟨ho, h2⟩ := DT.run_guard_some h2
 have h2 : some (x1, (⟨Z8 (ops.toList.filterMap (·.dst)) s.a s1.a 0, r9 s.H s1.H⟩ : St)) = some (x, s') := h2
 injection h2 with h2; injection h2 with e1 e2; subst e1 e2
 have hG : GOk E F w := hG0.adv hI.core.adv
 refine Vc8 (DS := (· ∈ ops.toList.filterMap (·.dst))) (tm := ac.tmps) (ds := ac.defers) (W := W') (ρ0 := ρ) (H0 := l8 s.H) (F0 := F) (w0 := w) hF hm hcalls hG (fun j d hj hd => ?_) (Nat.le_refl _) h1 ⟨rfl, rfl, fun _ _ => rfl, ρ, F, .refl, hI.core.hrel, hI.arel⟩ fun ac' w' hM => ?_
 ·refine List.mem_filterMap.2 ⟨Z6 ops j, ?_, hd⟩
  have := P3 hj
  exact Array.mem_toList_iff.2 (Array.mem_of_getElem? this)
 ·obtain ⟨k1, k2, k3⟩ := Ub2 hJ hI ho hM
  exact hQ ac' w' k1 k2 k3
end
end Go.Ev
namespace Go.Ev
open Go
section
variable {WB K : Nat → Prop} {J : List Value → World → Prop} {DF : List Deferred → Prop} {S S0 : HL} {rv : Value} {ρ ρ0 : Rho} {H H0 H' : List a8} {F F0 : Fz} {w w0 w' : World} {W' : Nat → Prop} {up : List Value} {E : Env} {n m : Nat} {Fe : Fence} {pr : List Nat} {yl : Option Rd} {kp : Nat → List Nat} {rf : Operand → Array Tmp → Code → Code → PC}
def YOk (E : Env) (Fe : Fence) (m n k : Nat) (rd : Rd) (I : HL → St → Act → World → Prop) : Prop :=
 ∀ (ops : Array Oper) (i : Nat) (o : Oper) (S : HL) (args : List Operand) (g : Option (Nat × Bool)) (s s' : St) (xx : c8) (ac : Act) (w : World) (rest : List Nat) (Q : Exit → Act → World → Prop),
  ops[i]? = some o → pb8 ops S o = some args → M4 ops o = some g → gOk n g = true → dOk n o.dst = true → args.all (ltO n) = true → args.length = rd.ps.length → I S s ac w →
  (G2 E k (.round o.dst g (args.map f0) n rd.nOut rd.ps rd.as rd.body) s).run = some (xx, s') → (xx = .normal → ∀ ac' w', I (rmD S o.dst) s' ac' w' → wpOpsIn Fe m E.P ops Q rest ac' w') → wpOpsIn Fe m E.P ops Q (i :: rest) ac w
def md3 (E : Env) (Fe : Fence) (m k : Nat) (rf : Operand → Array Tmp → Code → Code → PC) (I : St → Act → World → Prop) : Prop :=
 ∀ (g : Operand) (ps : Array Tmp) (as body : Code) (s s' : St) (x : c8) (ac : Act) (w : World) (Q : Exit → Act → World → Prop), (G2 E k (rf g ps as body) s).run = some (x, s') → I s ac w →
  (∀ ac' w', I s' ac' w' → Q (toX x) ac' w') → (Code.rangeFunc g ps as body).wpIn Fe m E.P Q ac w
theorem I3.less {P : Program} {s : St} {ac : Act} (h : I3 P WB K J n S rv DF ρ0 H0 F0 w0 s ac w) (hs : Lc9 S0 S = true) : I3 P WB K J n S0 rv DF ρ0 H0 F0 w0 s ac w := by
 refine ⟨h.inv, fun p hp hg => ?_, h.df⟩
 unfold Lc9 at hs
 rw [List.all_eq_true] at hs
 exact vb9 h.held (hs p hp) hg
theorem kc2 {k : Nat} {l : List PI} {dd : List Nat} {s s' : St} {x : c8} (he : (G2 E k (.mask n dd (.ops l)) s).run = some (x, s')) : x = .normal := by
 have he' : ((G2 E k (.ops l) ⟨o3 (T5 s.H) (E2 s.a n), l8 s.H⟩).bind fun r => .guard (mb9 s.H r.2.H) (.ret (r.1, ⟨Z8 dd s.a r.2.a 0, r9 s.H r.2.H⟩))).run = some (x, s') := he
 obtain ⟨⟨x1, s1⟩, h1, h2⟩ := DT.run_bind_some he'
 obtain ⟨_, h2⟩ := DT.run_guard_some h2
 have h2 : some (x1, (⟨Z8 dd s.a s1.a 0, r9 s.H s1.H⟩ : St)) = some (x, s') := h2
 injection h2 with h2; injection h2 with e1 _; subst e1
 obtain ⟨s2, _, h4⟩ := DT.run_bind_some (show ((E8 E l ⟨o3 (T5 s.H) (E2 s.a n), l8 s.H⟩).bind fun s => .ret (c8.normal, s)).run = some (x1, s1) from h1)
 have h4 : some (c8.normal, s2) = some (x1, s1) := h4
 injection h4 with h4; injection h4 with e1 _
 exact e1.symm
theorem qb1 {k : Nat} {a b : PC} {s s' : St} {x : c8} (he : (G2 E k (.seq a b) s).run = some (x, s')) : ∃ x1 s1, (G2 E k a s).run = some (x1, s1) ∧ (x1 = .normal → (G2 E k b s1).run = some (x, s')) ∧ (x1 ≠ .normal → x1 = x ∧ s1 = s') := by
 obtain ⟨⟨x1, s1⟩, h1, h2⟩ := DT.run_bind_some (show ((G2 E k a s).bind fun r => c8.rec (motive := fun _ => DT (c8 × St)) (G2 E k b r.2) (fun id => .ret (.exit id, r.2)) (.ret (.ret, r.2)) r.1).run = some (x, s') from he)
 refine ⟨x1, s1, h1, fun e => by subst e; exact h2, fun e => ?_⟩
 cases x1 with
 | normal => exact absurd rfl e
 | exit id =>
  have h2 : some (c8.exit id, s1) = some (x, s') := h2
  injection h2 with h2; injection h2 with e1 e2; exact ⟨e1, e2⟩
 | ret =>
  have h2 : some (c8.ret, s1) = some (x, s') := h2
  injection h2 with h2; injection h2 with e1 e2; exact ⟨e1, e2⟩
section
variable (hF : FW Fe) (hG0 : GOk E F0 w0) (hcalls : ∀ f, j6 E.P E.G f (E.call f)) (hJ : kb9 K J) (hyl : ∀ rd, yl = some rd → YOk E Fe m n H0.length rd fun S => I3 E.P WB K J n S rv DF ρ0 H0 F0 w0)
include hF hG0 hcalls hJ hyl
theorem Oa5 {ops : Array Oper} {Q : Exit → Act → World → Prop} : ∀ (f : Nat) (r : List Oper) (S : HL) (k : Nat) (s : St) (x : c8) (s' : St) (ac : Act) (w : World), ops.toList.drop k = r → I3 E.P WB K J n S rv DF ρ0 H0 F0 w0 s ac w →
  (G2 E H0.length (jc4 E.P n pr yl S0 ops f r S) s).run = some (x, s') → (∀ ac' w', I3 E.P WB K J n S0 rv DF ρ0 H0 F0 w0 s' ac' w' → Q (toX x) ac' w') → wpOpsIn Fe m E.P ops Q (List.range' k r.length) ac w
 | 0, r, S, k, s, x, s', ac, w, hr, hI, he, hQ => by cases he
 | f + 1, [], S, k, s, x, s', ac, w, hr, hI, he, hQ => by
  simp only [jc4] at he
  cases hs : Lc9 S0 S with
  | false => rw [hs] at he; cases he
  | true =>
   rw [hs] at he
   have he : some (c8.normal, s) = some (x, s') := he
   injection he with he; injection he with e1 e2; subst e1 e2
   exact hQ ac w (hI.less hs)
 | f + 1, o :: r, S, k, s, x, s', ac, w, hr, hI, he, hQ => by
  have hi : ops[k]? = some o := by
   have : (ops.toList.drop k)[0]? = some o := by rw [hr]; rfl
   simpa using this
  have hr1 : ops.toList.drop (k + 1) = r := by rw [← List.drop_drop, hr]; rfl
  have hrange : List.range' k (o :: r).length = k :: List.range' (k + 1) r.length := by
   rw [show (o :: r).length = r.length + 1 from rfl, List.range'_succ]
  simp only [jc4] at he
  cases hy : pb8 ops S o with
  | some args =>
   rw [hy] at he
   simp only at he
   cases hyl' : yl with
   | none => rw [hyl'] at he; cases he
   | some rd =>
   cases hg : M4 ops o with
   | none => rw [hyl', hg] at he; cases he
   | some g =>
   rw [hyl', hg] at he
   simp only at he
   split at he
   case h_2 => cases he
   rename_i hc
   simp only [Bool.and_eq_true] at hc
   obtain ⟨x1, s1, h1, h2, h3⟩ := qb1 he
   rw [hrange]
   refine hyl rd hyl' ops k o S args g s s1 x1 ac w _ Q hi hy hg hc.1.1.1 hc.1.1.2 hc.1.2 (Nat.eq_of_beq_eq_true hc.2) hI h1 fun hx ac' w' hI' => ?_
   have h4 := h2 hx
   rw [← hyl'] at h4
   exact Oa5 f r _ (k + 1) s1 x s' ac' w' hr1 hI' h4 hQ
  | none =>
  rw [hy] at he
  simp only at he
  cases hcp : Jb6 ops S o with
  | some dg =>
   obtain ⟨d, g⟩ := dg
   rw [hcp] at he
   simp only at he
   split at he
   case h_2 => cases he
   rename_i hd
   rw [Nat.blt_eq] at hd
   obtain ⟨x1, s1, h1, h2, h3⟩ := qb1 he
   rw [hrange]
   refine Mc1 hF hG0 hcalls hJ hi hcp hd hI h1 fun hx ac' w' hI' => ?_
   exact Oa5 f r _ (k + 1) s1 x s' ac' w' hr1 hI' (h2 hx) hQ
  | none =>
  rw [hcp] at he
  simp only at he
  cases hsp : cSp E.P n pr o with
  | some so =>
   rw [hsp] at he
   simp only at he
   cases hg : M4 ops o with
   | none => rw [hg] at he; cases he
   | some g =>
   rw [hg] at he
   simp only at he
   split at he
   case h_2 => cases he
   rename_i hc
   rw [Bool.and_eq_true] at hc
   obtain ⟨x1, s1, h1, h2, h3⟩ := qb1 he
   obtain ⟨s2, k1, k2⟩ := DT.run_bind_some (show ((pc0 E s o.dst g so).bind fun s => .ret (c8.normal, s)).run = some (x1, s1) from h1)
   have k2 : some (c8.normal, s2) = some (x1, s1) := k2
   injection k2 with k2; injection k2 with e1 e2; subst e1 e2
   rw [hrange]
   refine fd7 hF hG0 hJ hi hsp hg hc.1 hc.2 hI k1 fun ac' w' hI' => ?_
   exact Oa5 f r _ (k + 1) s2 x s' ac' w' hr1 hI' (h2 rfl) hQ
  | none =>
  rw [hsp] at he
  simp only at he
  generalize hm : vb6 (jc3 E.P n pr ops S) r = q at he
  cases hl : fb8 E.P ops (o :: r.take q) with
  | none => rw [hl] at he; cases he
  | some l =>
  rw [hl] at he
  simp only at he
  obtain ⟨x1, s1, h1, h2, h3⟩ := qb1 he
  have hx1 := kc2 h1
  subst hx1
  have hsplit : o :: r = (o :: r.take q) ++ r.drop q := by rw [List.cons_append, List.take_append_drop]
  have hlen : (o :: r).length = (o :: r.take q).length + (r.drop q).length := by rw [← List.length_append, ← hsplit]
  have hrange2 : List.range' k (o :: r).length = List.range' k (o :: r.take q).length ++ List.range' (k + (o :: r.take q).length) (r.drop q).length := by
   rw [hlen, ← List.range'_append_1]
  rw [hrange2]
  obtain ⟨hinv, hheld, hdf⟩ := hI
  refine (Vc1 (x := .normal) (s' := s1) hF hG0 hcalls hJ (r := o :: r.take q) (l := l) (dd := lb0 (o :: r.take q)) ⟨r.drop q, by rw [hr]; exact hsplit⟩ (fun o' ho' d hd => ?_) hl hinv h1 fun ac' w' hI' hd' hsm => ?_).2
  ·unfold lb0
   exact List.mem_filterMap.2 ⟨o', ho', hd⟩
  ·refine Oa5 f (r.drop q) _ (k + (o :: r.take q).length) s1 x s' ac' w' ?_ ⟨hI', Jb7 hheld hsm, by rw [hd']; exact hdf⟩ (h2 rfl) hQ
   ·rw [← List.drop_drop, hr, hsplit, List.drop_left]
theorem zb7 {c : Code} {y : PC} {keep : List Nat} (ih : ∀ (s : St) (x : c8) (s' : St), (G2 E H0.length y s).run = some (x, s') → ∀ (ac : Act) (w : World) (Q : Exit → Act → World → Prop), I3 E.P WB K J n S0 rv DF ρ0 H0 F0 w0 s ac w →
  (∀ ac' w', I3 E.P WB K J n S0 rv DF ρ0 H0 F0 w0 s' ac' w' → Q (toX x) ac' w') → c.wpIn Fe m E.P Q ac w) :
  ∀ (nn : Nat) (s : St) (x : c8) (s' : St), (Va8 (fun s => tidyM H0.length ⟨G4 keep s.a 0, s.H⟩) (G2 E H0.length y) nn s).run = some (x, s') → ∀ (ac : Act) (w : World) (Q : Exit → Act → World → Prop), I3 E.P WB K J n S0 rv DF ρ0 H0 F0 w0 s ac w →
  (∀ ac' w', I3 E.P WB K J n S0 rv DF ρ0 H0 F0 w0 s' ac' w' → Q (toX x) ac' w') → Code.roundsIn Fe m E.P c Q nn ac w
 | 0, s, x, s', he, ac, w, Q, hI, hQ => by cases he
 | nn + 1, s, x, s', he, ac, w, Q, hI, hQ => by
  have he' : ((tidyM H0.length ⟨G4 keep s.a 0, s.H⟩).bind fun s => (G2 E H0.length y s).bind fun r =>
   c8.rec (motive := fun _ => DT (c8 × St)) (Va8 (fun s => tidyM H0.length ⟨G4 keep s.a 0, s.H⟩) (G2 E H0.length y) nn r.2) (fun id => .ret (.exit id, r.2)) (.ret (.ret, r.2)) r.1).run = some (x, s') := he
  obtain ⟨s1, h1, h2⟩ := DT.run_bind_some he'
  obtain ⟨⟨x2, s2⟩, h3, h4⟩ := DT.run_bind_some h2
  have hI1 := hI.tidyM h1
  rw [roundsIn_succ]
  refine ih s1 x2 s2 h3 ac w _ hI1 fun ac' w' hI2 => ?_
  cases x2 with
  | normal => exact zb7 ih nn s2 x s' h4 ac' w' Q hI2 hQ
  | exit id =>
   have h4' : some (c8.exit id, s2) = some (x, s') := h4
   injection h4' with h4'; injection h4' with e1 e2; subst e1 e2
   exact hQ _ _ hI2
  | ret =>
   have h4' : some (c8.ret, s2) = some (x, s') := h4
   injection h4' with h4'; injection h4' with e1 e2; subst e1 e2
   exact hQ _ _ hI2
theorem lb1 (hm : E.P.follows .mixedOrders = true) (hrf : md3 E Fe m H0.length rf (I3 E.P WB K J n S0 rv DF ρ0 H0 F0 w0)) : ∀ (c : Code) (cur : Nat) (s : St) (x : c8) (s' : St), (G2 E H0.length (fa8 E.P n pr yl S0 kp rf cur c) s).run = some (x, s') → ∀ (ac : Act) (w : World) (Q : Exit → Act → World → Prop), I3 E.P WB K J n S0 rv DF ρ0 H0 F0 w0 s ac w →
  (∀ ac' w', I3 E.P WB K J n S0 rv DF ρ0 H0 F0 w0 s' ac' w' → Q (toX x) ac' w') → c.wpIn Fe m E.P Q ac w := by
 intro c
 induction c with
 | skip =>
  intro cur s x s' he ac w Q hI hQ
  have he' : some (c8.normal, s) = some (x, s') := he
  injection he' with he'; injection he' with e1 e2; subst e1 e2
  exact wpIn_skip (hQ _ _ hI)
 | region id ops d =>
  intro cur s x s' he ac w Q hI hQ
  cases d with
  | true =>
   simp only [fa8] at he
   split at he
   case h_2 => cases he
   rename_i hc
   obtain ⟨hinv, hheld, hdf⟩ := hI
   exact Mc8 hm hF hG0 hcalls hJ hinv he fun ac' w' hI' hd' hsm => hQ ac' w' (I3.less (S := rmL S0 (lb0 ops.toList)) ⟨hI', Jb7 hheld hsm, by rw [hd']; exact hdf⟩ hc)
  | false =>
   refine wpIn_region ?_
   rw [List.range_eq_range']
   have := Oa5 (Q := Q) hF hG0 hcalls hJ hyl (ops.size + 1) ops.toList S0 0 s x s' ac w rfl hI he hQ
   simpa using this
 | seq a b iha ihb =>
  intro cur s x s' he ac w Q hI hQ
  obtain ⟨x1, s1, h1, h2, h3⟩ := qb1 he
  refine wpIn_seq (iha cur s x1 s1 h1 ac w _ hI fun ac' w' hI' => ?_)
  cases x1 with
  | normal => exact ihb cur s1 x s' (h2 rfl) ac' w' Q hI' hQ
  | exit id =>
   obtain ⟨rfl, rfl⟩ := h3 (by simp)
   exact hQ _ _ hI'
  | ret =>
   obtain ⟨rfl, rfl⟩ := h3 (by simp)
   exact hQ _ _ hI'
 | cond c a b iha ihb =>
  intro cur s x s' he ac w Q hI hQ
  simp only [fa8] at he
  split at he
  case h_2 => cases he
  rename_i hc
  have he' : (match a9 E s.a (f0 c) with
   | .v (.bool t) => DT.ite t (G2 E H0.length (fa8 E.P n pr yl S0 kp rf cur a) s) (G2 E H0.length (fa8 E.P n pr yl S0 kp rf cur b) s)
   | _ => DT.fail).run = some (x, s') := he
  obtain ⟨ρ, F, W', up, hI2⟩ := hI.inv
  have hr := Oa3 hI2.vals hI2.size (hG0.adv hI2.core.adv) c hc
  revert he' hr
  generalize a9 E s.a (f0 c) = u
  intro he' hr
  split at he'
  ·rename_i t
   have ht := Ec1 hr
   rcases DT.run_ite_some he' with ⟨rfl, h⟩ | ⟨rfl, h⟩
   ·exact wpIn_cond_true ht (iha cur s x s' h ac w Q hI hQ)
   ·exact wpIn_cond_false ht (ihb cur s x s' h ac w Q hI hQ)
  ·cases he'
 | block id a ih =>
  intro cur s x s' he ac w Q hI hQ
  obtain ⟨⟨x1, s1⟩, h1, h2⟩ := DT.run_bind_some (show ((G2 E H0.length (fa8 E.P n pr yl S0 kp rf id a) s).bind fun r => c8.rec (motive := fun _ => DT (c8 × St)) (.ret (.normal, r.2))
   (fun id' => Bool.rec (.ret (.exit id', r.2)) (.ret (.normal, r.2)) (Nat.beq id' id)) (.ret (.ret, r.2)) r.1).run = some (x, s') from he)
  refine wpIn_block (ih id s x1 s1 h1 ac w _ hI fun ac' w' hI' => ?_)
  cases x1 with
  | normal =>
   have h2' : some (c8.normal, s1) = some (x, s') := h2
   injection h2' with h2'; injection h2' with e1 e2; subst e1 e2
   exact hQ _ _ hI'
  | ret =>
   have h2' : some (c8.ret, s1) = some (x, s') := h2
   injection h2' with h2'; injection h2' with e1 e2; subst e1 e2
   exact hQ _ _ hI'
  | exit id' =>
   have h2' : (Bool.rec (motive := fun _ => DT (c8 × St)) (.ret (.exit id', s1)) (.ret (.normal, s1)) (Nat.beq id' id)).run = some (x, s') := h2
   show if id' = id then Q .normal ac' w' else Q (.exit id') ac' w'
   cases hb : Nat.beq id' id with
   | true =>
    rw [hb] at h2'
    have h3 : some (c8.normal, s1) = some (x, s') := h2'
    injection h3 with h3; injection h3 with e1 e2; subst e1 e2
    rw [if_pos (Nat.eq_of_beq_eq_true hb)]
    exact hQ _ _ hI'
   | false =>
    rw [hb] at h2'
    have h3 : some (c8.exit id', s1) = some (x, s') := h2'
    injection h3 with h3; injection h3 with e1 e2; subst e1 e2
    rw [if_neg (Nat.ne_of_beq_eq_false hb)]
    exact hQ _ _ hI'
 | loop a ih =>
  intro cur s x s' he ac w Q hI hQ
  exact wpIn_loop_rounds E.N (zb7 hF hG0 hcalls hJ hyl (ih cur) E.N s x s' he ac w Q hI hQ)
 | rangeFunc g ps as body _ _ =>
  intro cur s x s' he ac w Q hI hQ
  exact hrf g ps as body s s' x ac w Q he hI hQ
 | exit id =>
  intro cur s x s' he ac w Q hI hQ
  have he' : some (c8.exit id, s) = some (x, s') := he
  injection he' with he'; injection he' with e1 e2; subst e1 e2
  exact wpIn_exit (hQ _ _ hI)
 | ret =>
  intro cur s x s' he ac w Q hI hQ
  have he' : some (c8.ret, s) = some (x, s') := he
  injection he' with he'; injection he' with e1 e2; subst e1 e2
  exact wpIn_ret (hQ _ _ hI)
 | label l =>
  intro cur s x s' he ac w Q hI hQ
  have he' : some (c8.normal, s) = some (x, s') := he
  injection he' with he'; injection he' with e1 e2; subst e1 e2
  exact wpIn_label (hQ _ _ hI)
 | _ =>
  intro cur s x s' he
  cases he
end
end
end Go.Ev
namespace Go.Ev
open Go
def ab9 (st : LoopState) (pe : Option Code) (fn : FuncId) (tm : List Value) (ps : Array Tmp) (as body : Code) (D : Nat) : Obj :=
 .loop { state := st, pending := pe, fn, tmps := tm.toArray, params := ps, assign := as, body, defers := D }
def wb2 : Option Code → Option Value
 | none => some (.int .i64 (.ofNat 0))
 | some .ret => some (.int .i64 (.ofNat 1))
 | some (.exit id) => some (.int .i64 (.ofNat (id + 2)))
 | _ => none
def KR (l : Nat) (Ds : List Nat) : Nat → Prop := fun k => k = l ∨ k ∈ Ds
def Ec5 (Ds : List Nat) (w : World) : Prop := ∀ d ∈ Ds, w.heap[d]? = some (.deferred (some []))
def JI (l D : Nat) (Ds : List Nat) (fn : FuncId) (tm : List Value) (ps : Array Tmp) (as body : Code) (up : List Value) (w : World) : Prop :=
 ∃ pe v, wb2 pe = some v ∧ up = v :: tm ∧ w.heap[l]? = some (ab9 (if pe.isNone then .ready else .done) pe fn tm ps as body D) ∧ Ec5 Ds w
def JR (l D : Nat) (Ds : List Nat) (fn : FuncId) (tm : List Value) (ps : Array Tmp) (as body : Code) (st : LoopState) (inn : List Value) (up : List Value) (w : World) : Prop :=
 up = inn ++ Value.int .i64 (.ofNat 0) :: tm ∧ w.heap[l]? = some (ab9 st none fn tm ps as body D) ∧ Ec5 Ds w
def noD : List Deferred → Prop := fun ds => ds = []
theorem Vc9 (l D : Nat) (Ds : List Nat) (fn : FuncId) (tm : List Value) (ps : Array Tmp) (as body : Code) : kb9 (KR l Ds) (JI l D Ds fn tm ps as body) := fun up w w' h ⟨pe, v, h1, h2, h3, h4⟩ =>
 ⟨pe, v, h1, h2, (h l (.inl rfl)).trans h3, fun d hd => (h d (.inr hd)).trans (h4 d hd)⟩
theorem Wc0 (l D : Nat) (Ds : List Nat) (fn : FuncId) (tm : List Value) (ps : Array Tmp) (as body : Code) (st : LoopState) (inn : List Value) : kb9 (KR l Ds) (JR l D Ds fn tm ps as body st inn) := fun up w w' h ⟨h1, h2, h3⟩ =>
 ⟨h1, (h l (.inl rfl)).trans h2, fun d hd => (h d (.inr hd)).trans (h3 d hd)⟩
section
variable {P : Program} {WB K : Nat → Prop} {J J' : List Value → World → Prop} {DF : List Deferred → Prop} {S S0 : HL} {rv : Value} {ρ ρ0 : Rho} {H H0 H' : List a8} {F F0 : Fz} {w w0 w' : World} {W' : Nat → Prop} {up up' : List Value} {E : Env} {n m : Nat} {Fe : Fence} {a : List a7} {ac : Act} {ds ds' : List Deferred}
theorem C2.re (h : C2 P WB K J ρ0 H0 F0 w0 H ds w ρ F W' up) (hJ : J' up' w) (hM : ib1 WB W' ds' w) : C2 P WB K J' ρ0 H0 F0 w0 H ds' w ρ F W' up' :=
 ⟨h.sub, h.adv, h.hrel, h.srel, h.kept, h.far, hJ, hM⟩
theorem Ec5.turn {w : World} {l : Nat} {r : Loop} {Ds : List Nat} (h : Ec5 Ds w) (hl : w.heap[l]? = some (.loop r)) (o : Obj) : Ec5 Ds (w.putObj l o) := fun d hd => by
 have hne : d ≠ l := fun e => by
  have := h d hd
  rw [e, hl] at this
  cases this
 rw [World.putObj_heap_other hne]
 exact h d hd
theorem eb8 : ib1 WB W' [] w := ⟨fun d hd => by simp at hd, List.nodup_nil⟩
theorem Ec6 {k : Nat} {o : Obj} (hk : w.heap[k]? = some o) (ho : ∀ cc t fr, o ≠ .cells cc t fr) (b : Nat) : w.cell? ⟨k, b, none⟩ = none := by
 cases o with
 | cells => exact (ho _ _ _ rfl).elim
 | _ => simp [World.cell?, hk]
theorem C2.turn (h : C2 P WB K J ρ0 H0 F0 w0 H ds w ρ F W' up) (k : Nat) (o o' : Obj) (hk : w.heap[k]? = some o) (ho : ∀ cc t fr, o ≠ .cells cc t fr) (hm : ∀ es clk, o ≠ .map es clk) (hWB : WB k) (hnW : ¬ W' k)
  (hJ : J' up' (w.putObj k o')) (hM : ib1 WB W' ds' (w.putObj k o')) : C2 P WB K J' ρ0 H0 F0 w0 H ds' (w.putObj k o') ρ F W' up' ∧ Tr ρ H F w ρ H F (w.putObj k o') := by
 have hlt := (Array.getElem?_eq_some_iff.1 hk).1
 have hnF : ∀ b, ¬ F k b := fun b hf => by
  have := h.hrel.frz k b hf
  rw [Ec6 hk ho b] at this
  cases this
 have hbase : C2 P WB K (fun _ _ => True) ρ0 H0 F0 w0 H [] w ρ F W' up' := h.re trivial eb8
 obtain ⟨c1, c2⟩ := hbase.change (w' := w.putObj k o') (H' := H) (up' := up') k hWB hnW hnF rfl rfl rfl (Nat.le_refl _) (by simp) (fun j hj => World.putObj_heap_other hj)
  (fun cc t fr hc => by rw [hk] at hc; injection hc with hc; exact (ho _ _ _ hc).elim) rfl (fun id b hb => ⟨b, hb, rfl, rfl, rfl, rfl, Nat.le_refl _, fun _ => rfl⟩) (fun id b hb _ _ _ => hb)
  (fun _ id b hb hs hd e => by
   obtain ⟨_, _, _, _, hc⟩ := h.srel.has id b hb hs hd
   rw [e] at hc
   rcases hc with ⟨_, row, vs, t, _, m2, _⟩ | ⟨t, Kt, El, fl, es, clk, _, _, _, m4, _⟩
   ·rw [hk] at m2; injection m2 with m2; exact (ho _ _ _ m2).elim
   ·rw [hk] at m4; injection m4 with m4; exact (hm _ _ m4).elim)
  trivial (fun D hD => by simp at hD)
 exact ⟨c1.re hJ hM, c2⟩
end
end Go.Ev
namespace Go.Ev
open Go
section
variable {P : Program} {WB K : Nat → Prop} {J J' : List Value → World → Prop} {DF : List Deferred → Prop} {S S0 : HL} {rv : Value} {ρ ρ0 : Rho} {H H0 H' : List a8} {F F0 : Fz} {w w0 w' : World} {W' : Nat → Prop} {up up' : List Value} {E : Env} {n m : Nat} {Fe : Fence} {a b : List a7} {ac : Act} {ds ds' : List Deferred} {vs us : List Value}
theorem VR.drop (h : VR ρ H F w a (vs ++ us)) {k : Nat} (hk : vs.length = k) : VR ρ H F w (j8 a k) us := by
 have hl := h.1
 rw [List.length_append] at hl
 rw [E4]
 refine ⟨by rw [List.length_drop]; omega, fun i x x' hx hx' => ?_⟩
 rw [List.getElem?_drop] at hx
 refine h.2 (k + i) x x' hx ?_
 rw [List.getElem?_append_right (by omega), hk, Nat.add_sub_cancel_left]
 exact hx'
theorem VR.take (h : VR ρ H F w a (vs ++ us)) {k : Nat} (hk : vs.length = k) : VR ρ H F w (E2 a k) vs := by
 have hl := h.1
 rw [List.length_append] at hl
 rw [E3]
 refine ⟨by rw [List.length_take]; omega, fun i x x' hx hx' => ?_⟩
 have hi := (List.getElem?_eq_some_iff.1 hx').1
 rw [List.getElem?_take, if_pos (by omega)] at hx
 exact h.2 i x x' hx (by rw [List.getElem?_append_left hi]; exact hx')
theorem VR.app (h : VR ρ H F w a vs) (h' : VR ρ H F w b us) : VR ρ H F w (Ev.app a b) (vs ++ us) := by
 rw [B4]
 refine ⟨by rw [List.length_append, List.length_append, h.1, h'.1], fun i x x' hx hx' => ?_⟩
 rcases Nat.lt_or_ge i a.length with hi | hi
 ·rw [List.getElem?_append_left hi] at hx
  rw [List.getElem?_append_left (h.1 ▸ hi)] at hx'
  exact h.2 i x x' hx hx'
 ·rw [List.getElem?_append_right hi] at hx
  rw [List.getElem?_append_right (h.1 ▸ hi)] at hx'
  rw [h.1] at hx
  exact h'.2 _ x x' hx hx'
theorem VR.cons {x : a7} {x' : Value} (hx : XW ρ H F w x x') (h : VR ρ H F w a vs) : VR ρ H F w (x :: a) (x' :: vs) := by
 refine ⟨by simp [h.1], fun i y y' hy hy' => ?_⟩
 cases i with
 | zero => simp at hy hy'; subst hy hy'; exact hx
 | succ i => exact h.2 i y y' (by simpa using hy) (by simpa using hy')
theorem VR.head {v : Value} (h : VR ρ H F w a (v :: vs)) : XW ρ H F w (hdA a) v := by
 cases a with
 | nil => exact .w (.unk _)
 | cons x a => exact h.2 0 x v rfl rfl
theorem VR.set (h : VR ρ H F w a vs) {x : a7} {x' : Value} (hx : XW ρ H F w x x') (k : Nat) : VR ρ H F w (setAt a k x) (vs.set k x') := by
 rw [y7]
 refine ⟨by simp [h.1], fun i y y' hy hy' => ?_⟩
 rw [List.getElem?_set] at hy hy'
 by_cases hi : k = i
 ·subst hi
  rw [if_pos rfl] at hy hy'
  split at hy
  ·split at hy'
   ·injection hy with hy; injection hy' with hy'; subst hy hy'; exact hx
   ·cases hy'
  ·cases hy
 ·rw [if_neg hi] at hy hy'
  exact h.2 i y y' hy hy'
theorem VR.setUp {v0 v : Value} {x : a7} (h : VR ρ H F w a (vs ++ v0 :: us)) {k : Nat} (hk : vs.length = k) (hx : XW ρ H F w x v) : VR ρ H F w (setAt a k x) (vs ++ v :: us) := by
 have := h.set hx k
 rwa [List.set_append_right _ _ (by omega), hk, Nat.sub_self] at this
theorem xc7 : ∀ (ps : List Nat) (vals : List a7) (avs : List Value) (base : List a7) (arr : List Value), vals.length = ps.length → avs.length = ps.length → (∀ (i : Nat) x x', vals[i]? = some x → avs[i]? = some x' → XW ρ H F w x x') → VR ρ H F w base arr →
  VR ρ H F w (cd8 ps vals base) ((ps.zip avs).foldl (fun t pv => t.set pv.1 pv.2) arr)
 | [], vals, avs, base, arr, h1, h2, h3, h4 => h4
 | p :: ps, [], avs, base, arr, h1, h2, h3, h4 => by simp at h1
 | p :: ps, v :: vals, [], base, arr, h1, h2, h3, h4 => by simp at h2
 | p :: ps, v :: vals, u :: avs, base, arr, h1, h2, h3, h4 =>
  xc7 ps vals avs (setAt base p v) (arr.set p u) (by simpa using h1) (by simpa using h2) (fun i x x' hx hx' => h3 (i + 1) x x' (by simpa using hx) (by simpa using hx')) (h4.set (h3 0 v u rfl rfl) p)
theorem Ub8 : ∀ (l : List (Nat × Value)) (t : Array Value), (l.foldl (fun t pv => t.setIfInBounds pv.1 pv.2) t).toList = l.foldl (fun t pv => t.set pv.1 pv.2) t.toList
 | [], t => rfl
 | (p, v) :: l, t => by
  simp only [List.foldl_cons]
  rw [Ub8 l, Array.toList_setIfInBounds]
theorem Kb0 (ps : Array Nat) (args : Array Value) (t : Array Value) : ((ps.zip args).foldl (fun tmps (t, a) => tmps.setIfInBounds t a) t).toList = (ps.toList.zip args.toList).foldl (fun t pv => t.set pv.1 pv.2) t.toList := by
 rw [← Array.foldl_toList, Array.toList_zip]
 exact Ub8 _ t
theorem kc3 (ps : Array Nat) (args : Array Value) (t : Array Value) : ((ps.zip args).foldl (fun tmps (t, a) => tmps.setIfInBounds t a) t).size = t.size := by
 rw [← Array.length_toList, Kb0, ← Array.length_toList]
 generalize ps.toList.zip args.toList = l
 generalize t.toList = tl
 induction l generalizing tl with
 | nil => rfl
 | cons p l ih => rw [List.foldl_cons, ih]; simp
theorem Zb5 {x : a7} (h : Cb8 x = true) : x = .v (.int .i64 (.ofNat 0)) := by
 unfold Cb8 at h
 split at h
 ·split at h
  ·rfl
  ·cases h
 ·cases h
theorem Ec7 {pe : Option Code} (h : wb2 pe = some (.int .i64 (.ofNat 0))) : pe = none := by
 unfold wb2 at h
 split at h
 ·rfl
 ·cases h
 ·injection h with h; injection h with _ h; injection h with h; omega
 ·cases h
variable {l D : Nat} {Ds : List Nat} {fnO : FuncId} {tm : List Value} {ps : Array Tmp} {asC bodyC : Code} {rd : Rd} {k : Nat}
def tc0 (E : Env) (WB : Nat → Prop) (l D : Nat) (Ds : List Nat) (fnO : FuncId) (tm : List Value) (ps : Array Tmp) (asC bodyC : Code) (nOut : Nat) (ρ0 : Rho) (H0 : List a8) (F0 : Fz) (w0 : World) (Fe : Fence) (m k : Nat) (st : LoopState) (c : Code) (pc : PC) : Prop :=
 ∀ (inn : List Value) (s : St) (x : c8) (s' : St), (G2 E k pc s).run = some (x, s') → ∀ (ac : Act) (w : World) (Q : Exit → Act → World → Prop),
  I3 E.P WB (KR l Ds) (JR l D Ds fnO tm ps asC bodyC st inn) nOut [] undef noD ρ0 H0 F0 w0 s ac w →
  (∀ ac' w', I3 E.P WB (KR l Ds) (JR l D Ds fnO tm ps asC bodyC st inn) nOut [] undef noD ρ0 H0 F0 w0 s' ac' w' → Q (toX x) ac' w') → c.wpIn (Fe.inRound l) m E.P Q ac w
theorem Wc1 (hF : FW Fe) (hG0 : GOk E F0 w0) (hps : rd.ps = ps.toList) (hnO : tm.length = rd.nOut) (hWl : WB l)
  (hAs : tc0 E WB l D Ds fnO tm ps asC bodyC rd.nOut ρ0 H0 F0 w0 Fe (m - 1) k .ready asC rd.as) (hBo : tc0 E WB l D Ds fnO tm ps asC bodyC rd.nOut ρ0 H0 F0 w0 Fe (m - 1) k .busy bodyC rd.body) :
  YOk E Fe m n k rd fun S => I3 E.P WB (KR l Ds) (JI l D Ds fnO tm ps asC bodyC) n S (.func (.yield l) #[] #[]) noD ρ0 H0 F0 w0 := by
 intro ops i o S args g s s' xx ac w rest Q hi hy hg hgn hdn hlt hlen hI he hQ
 obtain ⟨⟨ρ, F, W', up, hI2⟩, hheld, hdf⟩ := hI
 obtain ⟨pe, v, hpe, rfl, hrec, hdd⟩ := hI2.core.jot
 obtain ⟨s1, h1, h2⟩ := DT.run_bind_some (show ((Cb7 E s o.dst g fun s => match Cb8 (hdA (j8 s.a n)) with
   | true => (G2 E k rd.as (Wb5 E s (args.map f0) n rd.nOut rd.ps)).bind fun r0 =>
    c8.rec (motive := fun _ => DT St) ((G2 E k rd.body r0.2).bind fun r => .ret (Eb9 o.dst n rd.nOut r)) (fun _ => .fail) .fail r0.1
   | false => .fail).bind fun s => .ret (c8.normal, s)).run = some (xx, s') from he)
 have h2 : some (c8.normal, s1) = some (xx, s') := h2
 injection h2 with h2; injection h2 with e1 e2; subst e1 e2
 have hQ := hQ rfl
 simp only [wpOpsIn, hi]
 rcases ib3 hg hgn hI2.vals hI2.size h1 with ⟨hw, hd⟩ | ⟨hw, rfl⟩
 case inr =>
  rw [if_neg (by simp [hw])]
  exact ⟨fun f _ => hF.fn f, hQ _ _ ⟨⟨ρ, F, W', _, by rw [o6]; exact hI2.core, hI2.vals.putA hI2.size hdn (.w (.ofv _)), (aa8 _ _).trans hI2.size⟩, Fa3 hheld, by rw [o6]; exact hdf⟩⟩
 rw [if_pos hw]
 have htl : ac.tmps.toList.length = n := by rw [Array.length_toList]; exact hI2.size
 have hup : VR ρ s.H F w (j8 s.a n) (v :: tm) := hI2.vals.drop htl
 split at hd
 case h_2 => cases hd
 rename_i hnd
 have hv0 : v = .int .i64 (.ofNat 0) := by
  have := hup.head
  rw [Zb5 hnd] at this
  exact Ec1 this
 subst hv0
 have hpe0 := Ec7 hpe
 subst hpe0
 have hrec : w.heap[l]? = some (ab9 .ready none fnO tm ps asC bodyC D) := hrec
 obtain ⟨⟨x0, s2⟩, h3, h4⟩ := DT.run_bind_some hd
 cases x0 with
 | exit id => cases h4
 | ret => cases h4
 | normal =>
 obtain ⟨⟨x2, s3⟩, h5, h6⟩ := DT.run_bind_some h4
 have h6 : some (Eb9 o.dst n rd.nOut (x2, s3)) = some s1 := h6
 injection h6 with h6
 subst h6
 -- the operation asks for a round
 unfold pb8 at hy
 split at hy
 case h_2 => cases hy
 rename_i c ho
 split at hy
 case h_2 => cases hy
 rename_i t hcal
 rw [hg] at hy
 simp only at hy
 split at hy
 case isFalse => cases hy
 rename_i hS
 injection hy with hy
 have hev : ac.eval (.tmp t) = .func (.yield l) #[] #[] := by
  have ht := vb9 hheld hS ((ab7 hg).1 hw)
  show ac.tmps.getD t undef = _
  have hlt := (Array.getElem?_eq_some_iff.1 ht).1
  have := (Array.getElem?_eq_some_iff.1 ht).2
  simp [Array.getD, hlt, this]
 have hnd' : ∀ c', o.op ≠ .defer c' := fun c' e => by rw [ho] at e; cases e
 have hasz : (c.args.map ac.eval).size = ps.size := by
  rw [Array.size_map]
  have : c.args.toList.length = ps.toList.length := by rw [hy, ← hps]; exact hlen
  simpa using this
 have hyield := run_yield (P := E.P) (args := c.args.map ac.eval) hrec hasz
 have hsem : (o.semAt Fe.round ac.eval).run E.P w = .ok (.round l fnO ((ps.zip (c.args.map ac.eval)).foldl (fun tmps (t, a) => tmps.setIfInBounds t a) tm.toArray) asC bodyC) w := by
  rw [Oper.semAt_eq _ _ _ hnd']
  have e : (execOp ac.eval o).run E.P w = (Instr.yield l (c.args.map ac.eval)).run E.P w := by
   have hres : resolve ac.eval c o.type = pure { target := .fn (.yield l) #[], args := c.args.map ac.eval } := by
    unfold resolve
    rw [hcal]
    simp only
    rw [hev]
    simp [Deferred.ofValue]
   have e1 : execOp ac.eval o = (do let d ← resolve ac.eval c o.type; invoke d.target d.args) := by
    unfold execOp
    rw [ho]
   rw [e1, hres]
   rfl
  rw [e]
  exact hyield
 refine ⟨fun f _ => hF.fn f, ?_⟩
 rw [hsem, Oper.uponIn_round]
 refine ⟨fun hd => hF.depS hd, roundIn_of_wpIn (hF.fn _) ?_⟩
 -- the round's frame
 have hm0 : C2 E.P WB (KR l Ds) (JR l D Ds fnO tm ps asC bodyC .ready ac.tmps.toList) ρ0 H0 F0 w0 s.H [] w ρ F W' (ac.tmps.toList ++ Value.int .i64 (.ofNat 0) :: tm) := hI2.core.re ⟨rfl, hrec, hdd⟩ eb8
 have hbase : VR ρ s.H F w (E2 (j8 s.a (n + 1)) rd.nOut) tm := by
  have h0 : VR ρ s.H F w s.a ((ac.tmps.toList ++ [Value.int .i64 (.ofNat 0)]) ++ (tm ++ [])) := by simpa using hI2.vals
  exact (h0.drop (by simp [htl])).take hnO
 have hargs : ∀ (j : Nat) x x', (o3 (a9 E s.a) (args.map f0))[j]? = some x → (c.args.map ac.eval).toList[j]? = some x' → XW ρ s.H F w x x' := fun j x x' hx hx' => by
  rw [n7, List.map_map, List.getElem?_map] at hx
  rw [Array.toList_map, hy, List.getElem?_map] at hx'
  cases hq : args[j]? with
  | none => rw [hq] at hx; cases hx
  | some q =>
   rw [hq] at hx hx'
   injection hx with hx; injection hx' with hx'
   subst hx hx'
   rw [List.all_eq_true] at hlt
   exact Oa3 hI2.vals hI2.size (hG0.adv hI2.core.adv) q (hlt q (List.mem_of_getElem? hq))
 have hfr : I3 E.P WB (KR l Ds) (JR l D Ds fnO tm ps asC bodyC .ready ac.tmps.toList) rd.nOut [] undef noD ρ0 H0 F0 w0 (Wb5 E s (args.map f0) n rd.nOut rd.ps)
   { tmps := (ps.zip (c.args.map ac.eval)).foldl (fun tmps (t, a) => tmps.setIfInBounds t a) tm.toArray, defers := [] } w := by
  refine ⟨⟨ρ, F, W', _, hm0, ?_, ?_⟩, fun t ht => by simp at ht, rfl⟩
  ·show VR ρ s.H F w (app (cd8 rd.ps (o3 (a9 E s.a) (args.map f0)) (E2 (j8 s.a (n + 1)) rd.nOut)) s.a) _
   refine VR.app ?_ hI2.vals
   rw [Kb0, hps]
   have := xc7 (ρ := ρ) (H := s.H) (F := F) (w := w) ps.toList (o3 (a9 E s.a) (args.map f0)) (c.args.map ac.eval).toList _ tm (by rw [n7]; simp [hlen, hps]) (by rw [Array.length_toList, hasz, Array.length_toList]) hargs hbase
   simpa using this
  ·rw [kc3]; simpa using hnO
 refine hAs ac.tmps.toList _ .normal s2 h3 _ w _ hfr fun ac1 w1 hI1 => ?_
 obtain ⟨⟨ρ1, F1, W1, up1, hI1⟩, _, hdf1⟩ := hI1
 obtain ⟨rfl, hrec1, hdd1⟩ := hI1.core.jot
 refine ⟨_, run_beginRound hrec1 rfl, ?_⟩
 have hKl : KR l Ds l := .inl rfl
 obtain ⟨b1, b2⟩ := hI1.core.turn (J' := JR l D Ds fnO tm ps asC bodyC .busy ac.tmps.toList) (up' := ac.tmps.toList ++ Value.int .i64 (.ofNat 0) :: tm) (ds' := ac1.defers) l _ (ab9 .busy none fnO tm ps asC bodyC D) hrec1 (fun _ _ _ e => by cases e) (fun _ _ e => by cases e) hWl (hI1.core.kept l hKl).1
  ⟨rfl, World.putObj_heap_same (hI1.core.kept l hKl).2, hdd1.turn hrec1 _⟩ (by have : ac1.defers = [] := hdf1; rw [this]; exact eb8)
 refine hBo ac.tmps.toList s2 x2 s3 h5 ac1 _ _ ⟨⟨ρ1, F1, W1, _, b1, hI1.vals.tr b2, hI1.size⟩, fun t ht => by simp at ht, hdf1⟩ fun ac2 w2 hI3 => ?_
 obtain ⟨⟨ρ2, F2, W2, up2, hI3⟩, _, hdf3⟩ := hI3
 obtain ⟨rfl, hrec2, hdd2⟩ := hI3.core.jot
 have hdefs : ac.defers = [] := hdf
 have hkl := (hI3.core.kept l hKl)
 have hdrop : VR ρ2 s3.H F2 w2 (j8 s3.a rd.nOut) (ac.tmps.toList ++ Value.int .i64 (.ofNat 0) :: tm) := hI3.vals.drop (by rw [Array.length_toList]; exact hI3.size)
 have hfin : ∀ (pe : Option Code) (v : Value), wb2 pe = some v → C2 E.P WB (KR l Ds) (JI l D Ds fnO tm ps asC bodyC) ρ0 H0 F0 w0 s3.H [] (w2.putObj l (ab9 (if pe.isNone then .ready else .done) pe fnO tm ps asC bodyC D)) ρ2 F2 W2 (v :: tm) ∧ Tr ρ2 s3.H F2 w2 ρ2 s3.H F2 (w2.putObj l (ab9 (if pe.isNone then .ready else .done) pe fnO tm ps asC bodyC D)) := fun pe v hpe =>
  hI3.core.turn l _ _ hrec2 (fun _ _ _ e => by cases e) (fun _ _ e => by cases e) hWl hkl.1 ⟨pe, v, hpe, rfl, World.putObj_heap_same hkl.2, hdd2.turn hrec2 _⟩ eb8
 cases x2 with
 | normal =>
  refine ⟨_, _, run_endRound none hrec2, hQ _ _ ?_⟩
  obtain ⟨c1, c2⟩ := hfin none _ rfl
  exact ⟨⟨ρ2, F2, W2, _, by rw [o6, hdefs]; exact c1, (hdrop.tr c2).putA hI2.size hdn (.w (.val (.cell (.v _)))), (aa8 _ _).trans hI2.size⟩, Fa3 hheld, by rw [o6]; exact hdf⟩
 | ret =>
  refine ⟨_, _, run_endRound (some .ret) hrec2, hQ _ _ ?_⟩
  obtain ⟨c1, c2⟩ := hfin (some .ret) _ rfl
  exact ⟨⟨ρ2, F2, W2, _, by rw [o6, hdefs]; exact c1, ((hdrop.tr c2).setUp htl (.w (.val (.cell (.v _))))).putA hI2.size hdn (.w (.val (.cell (.v _)))), (aa8 _ _).trans hI2.size⟩, Fa3 hheld, by rw [o6]; exact hdf⟩
 | exit id =>
  refine ⟨_, _, run_endRound (some (.exit id)) hrec2, hQ _ _ ?_⟩
  obtain ⟨c1, c2⟩ := hfin (some (.exit id)) _ rfl
  exact ⟨⟨ρ2, F2, W2, _, by rw [o6, hdefs]; exact c1, ((hdrop.tr c2).setUp htl (.w (.val (.cell (.v _))))).putA hI2.size hdn (.w (.val (.cell (.v _)))), (aa8 _ _).trans hI2.size⟩, Fa3 hheld, by rw [o6]; exact hdf⟩
end
end Go.Ev
namespace Go.Ev
open Go
section
variable {P : Program} {WB K K' : Nat → Prop} {J J' : List Value → World → Prop} {ρ ρ0 : Rho} {H H0 H' : List a8} {F F0 : Fz} {w w0 w' : World} {W' : Nat → Prop} {up up' : List Value} {E : Env} {n m : Nat} {a b : List a7} {ac : Act} {ds ds' : List Deferred} {vs us : List Value}
theorem C2.reK (h : C2 P WB K J ρ0 H0 F0 w0 H ds w ρ F W' up) (hk : ∀ k, K' k → ¬ W' k ∧ k < w.heap.size) (hf : ∀ (id : Nat) b, H[id]? = some b → z7 b = true → b.dead = false → ¬ K' (ρ id).blk) : C2 P WB K' J ρ0 H0 F0 w0 H ds w ρ F W' up :=
 ⟨h.sub, h.adv, h.hrel, h.srel, hk, hf, h.jot, h.marks⟩
def Ka7 (d : Deferred) : Nat := match d.target with
 | .collected r => r
 | _ => 0
def Ub9 (D : Nat) : Deferred := { target := .collected D, args := #[] }
def Ec8 : List Value → World → Prop := fun up _ => up = []
def Wc2 : Nat → Prop := fun _ => False
def qd1 : List Deferred → Prop := fun _ => True
theorem ib1.at (h : ib1 WB W' ds w) {D : Nat} (hD : D ∈ ds.map Ka7) : Ub9 D ∈ ds ∧ w.heap[D]? = some (.deferred (some [])) ∧ ¬ W' D ∧ D < w.heap.size ∧ WB D := by
 obtain ⟨d, hd, rfl⟩ := List.mem_map.1 hD
 obtain ⟨D, rfl, h2, h3, h4, h5⟩ := h.1 d hd
 exact ⟨hd, h2, h3, h4, h5⟩
abbrev Wc3 (P : Program) (WB : Nat → Prop) (n : Nat) (ρ0 : Rho) (H0 : List a8) (F0 : Fz) (w0 : World) : St → Act → World → Prop := I3 P WB Wc2 Ec8 n [] undef qd1 ρ0 H0 F0 w0
theorem tc1 {x : a7} {s s' : St} {xx : c8} {v : Value} {pe : Option Code} (h : (Xa3 x s).run = some (xx, s')) (hx : XW ρ H F w x v) (hp : wb2 pe = some v) :
  s' = s ∧ ((pe = none ∧ xx = .normal) ∨ (pe = some .ret ∧ xx = .ret) ∨ ∃ id, pe = some (.exit id) ∧ xx = .exit id) := by
 unfold Xa3 at h
 split at h
 case h_2 => cases h
 rename_i n
 have hv := Ec1 hx
 subst hv
 have hn : ∀ c, wb2 pe = some (.int .i64 (.ofNat c)) → (c = 0 ∧ pe = none) ∨ (c = 1 ∧ pe = some .ret) ∨ ∃ id, c = id + 2 ∧ pe = some (.exit id) := fun c hc => by
  unfold wb2 at hc
  split at hc
  ·injection hc with hc; injection hc with _ hc; injection hc with hc; exact .inl ⟨hc.symm, rfl⟩
  ·injection hc with hc; injection hc with _ hc; injection hc with hc; exact .inr (.inl ⟨hc.symm, rfl⟩)
  ·rename_i id; injection hc with hc; injection hc with _ hc; injection hc with hc; exact .inr (.inr ⟨id, hc.symm, rfl⟩)
  ·cases hc
 rcases hn n hp with ⟨rfl, rfl⟩ | ⟨rfl, rfl⟩ | ⟨id, rfl, rfl⟩
 ·have h : some (c8.normal, s) = some (xx, s') := h
  injection h with h; injection h with e1 e2; subst e1 e2
  exact ⟨rfl, .inl ⟨rfl, rfl⟩⟩
 ·have h : some (c8.ret, s) = some (xx, s') := h
  injection h with h; injection h with e1 e2; subst e1 e2
  exact ⟨rfl, .inr (.inl ⟨rfl, rfl⟩)⟩
 ·have h : some (c8.exit id, s) = some (xx, s') := h
  injection h with h; injection h with e1 e2; subst e1 e2
  exact ⟨rfl, .inr (.inr ⟨id, rfl, rfl⟩)⟩
theorem kc4 {caps : List a7} {cv : Array Value} {nIn l : Nat} {s : St} {tm : List Value} (hl : caps.length = cv.size) (hc : ∀ (i : Nat) x x', caps[i]? = some x → cv[i]? = some x' → XW ρ H F w x x') (hs : VR ρ H F w s.a tm) (hle : caps.length + 1 ≤ nIn) :
  VR ρ H F w (Qa0 caps nIn s).a ((#[Value.func (.yield l) #[] #[]] ++ cv ++ Array.replicate (nIn - (#[Value.func (.yield l) #[] #[]] ++ cv).size) undef).toList ++ Value.int .i64 (.ofNat 0) :: tm) := by
 have e : (#[Value.func (.yield l) #[] #[]] ++ cv ++ Array.replicate (nIn - (#[Value.func (.yield l) #[] #[]] ++ cv).size) undef).toList ++ Value.int .i64 (.ofNat 0) :: tm = (Value.func (.yield l) #[] #[] :: cv.toList) ++ (List.replicate (nIn - (caps.length + 1)) undef ++ (Value.int .i64 (.ofNat 0) :: tm)) := by
  simp [hl, Nat.add_comm]
 rw [e]
 unfold Qa0
 simp only [j7]
 have hrep : ∀ j, VR ρ H F w (List.replicate j (.v (.tuple #[]))) (List.replicate j undef) := fun j => ⟨by simp, fun i x x' hx hx' => by
  rw [List.getElem?_replicate] at hx hx'
  split at hx
  ·split at hx'
   ·injection hx with hx; injection hx' with hx'; subst hx hx'; exact .w (.ofv _)
   ·contradiction
  ·cases hx⟩
 have hcv : VR ρ H F w caps cv.toList := ⟨by simpa using hl, fun i x x' hx hx' => hc i x x' hx (by simpa using hx')⟩
 exact VR.app (VR.cons (.w (.unk _)) hcv) (VR.app (hrep _) (VR.cons (.w (.val (.cell (.v _)))) hs))
theorem kc5 (hmx : E.P.follows .mixedOrders = true) {h : Zb3} {fnI : Func} {cI : Code} (hG0 : GOk E F0 w0) (hcalls : ∀ f, j6 E.P E.G f (E.call f)) (hfI : E.P.funcs[h.fi]? = some fnI) (hbI : fnI.body = some cI) (hname : fnI.name ≠ "runtime.NumGoroutine") :
  md3 E Fence.wide m H0.length (sc7 E.P h fnI cI n) (Wc3 E.P WB n ρ0 H0 F0 w0) := by
 intro g ps as body s s' x ac w Q he hI hQ
 obtain ⟨⟨ρ, F, W', up, hI2⟩, _, _⟩ := hI
 have hup : up = [] := hI2.core.jot
 subst hup
 unfold sc7 at he
 split at he
 case h_2 => cases he
 rename_i hc
 simp only [Bool.and_eq_true] at hc
 obtain ⟨⟨hg, hres⟩, hpsn⟩ := hc
 have he' : (match a9 E s.a (f0 g) with
   | .fn f' caps => match Nat.beq h.fi f' && Nat.ble (len caps + 1) fnI.ntmps with
    | true => (G2 E H0.length (fa8 E.P fnI.ntmps [] (some (md0 E.P h n ps as body)) [(0, none)] (Ec4 h.ki) pb9 0 cI) (Qa0 caps fnI.ntmps s)).bind fun r =>
      c8.rec (motive := fun _ => DT (c8 × St)) (Xa3 (hdA (j8 r.2.a fnI.ntmps)) ⟨j8 r.2.a (fnI.ntmps + 1), r.2.H⟩) (fun _ => .fail) (Xa3 (hdA (j8 r.2.a fnI.ntmps)) ⟨j8 r.2.a (fnI.ntmps + 1), r.2.H⟩) r.1
    | false => .fail
   | _ => .fail).run = some (x, s') := he
 have hgr := Oa3 hI2.vals hI2.size (hG0.adv hI2.core.adv) g hg
 revert he' hgr
 generalize a9 E s.a (f0 g) = gv
 intro he' hgr
 split at he'
 case h_2 => cases he'
 rename_i f' caps
 split at he'
 case h_2 => cases he'
 rename_i hck
 rw [Bool.and_eq_true, j7] at hck
 obtain ⟨hf', hle⟩ := hck
 have hf' := Nat.eq_of_beq_eq_true hf'
 have hle := Nat.le_of_ble_eq_true hle
 subst hf'
 obtain ⟨⟨x1, s1⟩, h1, h2⟩ := DT.run_bind_some he'
 have hgw : y8 ρ (l8 s.H) F w (.fn h.fi caps) (ac.eval g) := by
  cases hgr with
  | w h => exact h
  | c h => cases h with
   | n h => exact .val (.cell h)
 obtain ⟨cv, hgv, hcl, hcr⟩ := Qa4 hgw
 -- the blocks that are laid
 obtain ⟨a1, a2, a3, _⟩ := hI2.core.alloc (fun _ _ _ _ h => h) (.deferred (some []))
 obtain ⟨rec0, hrec0⟩ : ∃ r : Loop, r = { state := .ready, pending := none, fn := 0, tmps := ac.tmps, params := ps, assign := as, body, defers := w.heap.size } := ⟨_, rfl⟩
 refine wpIn_rangeFunc fun fn _ => ?_
 obtain ⟨b1, b2, b3, _⟩ := a1.alloc (fun _ _ _ _ h => h) (.loop { state := .ready, pending := none, fn, tmps := ac.tmps, params := ps, assign := as, body, defers := w.heap.size })
 have hsz1 : (w.alloc (.deferred (some []))).heap.size = w.heap.size + 1 := by simp
 rw [hsz1] at b1 b3
 generalize hW2 : (w.alloc (.deferred (some []))).alloc (.loop { state := .ready, pending := none, fn, tmps := ac.tmps, params := ps, assign := as, body, defers := w.heap.size }) = w2 at b1 b2
 have hsz2 : w2.heap.size = w.heap.size + 2 := by rw [← hW2]; simp
 have hl2 : w2.heap[w.heap.size + 1]? = some (ab9 .ready none fn ac.tmps.toList ps as body w.heap.size) := by
  rw [← hW2]
  have := World.alloc_heap_new (w.alloc (.deferred (some []))) (.loop { state := .ready, pending := none, fn, tmps := ac.tmps, params := ps, assign := as, body, defers := w.heap.size })
  rw [hsz1] at this
  rw [this]
  simp [ab9]
 have hd2 : w2.heap[w.heap.size]? = some (.deferred (some [])) := by
  rw [← hW2]
  have e : ∀ o : Obj, ((w.alloc (.deferred (some []))).alloc o).heap[w.heap.size]? = (w.alloc (.deferred (some []))).heap[w.heap.size]? := fun o => by
   simp only [World.alloc, Array.getElem?_push, Array.size_push]
   rw [if_neg (by omega)]
  rw [e]
  exact World.alloc_heap_new w _
 have hmk := b1.marks
 have hDsOk : Ec5 (w.heap.size :: ac.defers.map Ka7) w2 := fun d hd => by
  rcases List.mem_cons.1 hd with rfl | hd
  ·exact hd2
  ·exact (hmk.at hd).2.1
 have hnew : C2 E.P WB (KR (w.heap.size + 1) (w.heap.size :: ac.defers.map Ka7)) (JI (w.heap.size + 1) w.heap.size (w.heap.size :: ac.defers.map Ka7) fn ac.tmps.toList ps as body) ρ0 H0 F0 w0 s.H [] w2 ρ F _ (Value.int .i64 (.ofNat 0) :: ac.tmps.toList) :=
  (b1.reK (K' := KR (w.heap.size + 1) (w.heap.size :: ac.defers.map Ka7)) (fun k hk => by
   rcases hk with rfl | hk
   ·exact ⟨fun hw => hw.2 rfl, by omega⟩
   ·rcases List.mem_cons.1 hk with rfl | hk
    ·exact ⟨fun hw => hw.1.2 rfl, by omega⟩
    ·exact ⟨(hmk.at hk).2.2.1, (hmk.at hk).2.2.2.1⟩)
   (fun id b hb hs hd hk => by
    obtain ⟨_, _, _, k4, k5⟩ := hI2.core.srel.has id b hb hs hd
    obtain ⟨_, _, _, _, k6⟩ := b1.srel.has id b hb hs hd
    rcases hk with hk | hk
    ·omega
    ·rcases List.mem_cons.1 hk with hk | hk
     ·omega
     ·have hdd := (hmk.at hk).2.1
      rcases k6 with ⟨_, row, vs, t, _, m2, _⟩ | ⟨t, Kt, El, fl, es, clk, _, _, _, m4, _⟩
      ·rw [hdd] at m2; cases m2
      ·rw [hdd] at m4; cases m4)).re ⟨none, _, rfl, rfl, hl2, hDsOk⟩ eb8
 have htr : Tr ρ s.H F w ρ s.H F w2 := fun x x' hx => b2 _ _ (a2 _ _ hx)
 have hcb : Ya3 E.P h.fi := ⟨fnI, hfI, by simp [hbI], hname⟩
 refine ⟨w.heap.size + 1, [Ub9 w.heap.size], w2, { target := .fn (.func h.fi) cv, args := #[.func (.yield (w.heap.size + 1)) #[] #[]] }, w2, h.fi, #[.func (.yield (w.heap.size + 1)) #[] #[]] ++ cv, w2, ?_, ?_, fun _ _ => trivial, ?_, fun hd => FW.wide.depS hd, ?_⟩
 ·rw [← hW2]; exact run_enterLoop_outer _ _ _ _ _
 ·simp only [resolve, rangeCall, hgv]
  simp [Deferred.ofValue]
  rfl
 ·simp only [invoke]
  exact Qa6 hcb _
 refine callsIn_of_wp hfI hbI trivial ?_
 -- the iterator's frame
 have hI0 : I3 E.P WB (KR (w.heap.size + 1) (w.heap.size :: ac.defers.map Ka7)) (JI (w.heap.size + 1) w.heap.size (w.heap.size :: ac.defers.map Ka7) fn ac.tmps.toList ps as body) fnI.ntmps [(0, none)] (.func (.yield (w.heap.size + 1)) #[] #[]) noD ρ0 H0 F0 w0 (Qa0 caps fnI.ntmps s)
   { tmps := #[Value.func (.yield (w.heap.size + 1)) #[] #[]] ++ cv ++ Array.replicate (fnI.ntmps - (#[Value.func (.yield (w.heap.size + 1)) #[] #[]] ++ cv).size) undef, defers := [] } w2 := by
  refine ⟨⟨ρ, F, _, _, hnew, ?_, ?_⟩, fun t ht _ => ?_, rfl⟩
  ·refine kc4 hcl (fun i x x' hx hx' => htr _ _ (.w (.val (.cell (hcr i x x' hx hx'))))) ?_ hle
   have h0 := hI2.vals.tr htr
   rw [List.append_nil] at h0
   exact h0
  ·simp only [Array.size_append, Array.size_replicate]
   have : (#[Value.func (.yield (w.heap.size + 1)) #[] #[]] : Array Value).size = 1 := rfl
   omega
  ·have : t = (0, none) := by simpa using ht
   subst this
   rw [Array.append_assoc, Array.getElem?_append_left (show 0 < 1 by omega)]
   rfl
 have hWl : WB (w.heap.size + 1) := b3
 have hpart : ∀ (st : LoopState) (c : Code), tc0 E WB (w.heap.size + 1) w.heap.size (w.heap.size :: ac.defers.map Ka7) fn ac.tmps.toList ps as body n ρ0 H0 F0 w0 Fence.wide (m - 1 - 1) H0.length st c (fa8 E.P n h.pr none [] (Ec4 h.kp) pb9 0 c) := fun st c inn s x s' he ac w Q hI hQ =>
  lb1 (FW.inRound _) hG0 hcalls (Wc0 _ _ _ _ _ _ _ _ _ _) (fun rd hrd => by cases hrd) hmx (fun g ps as body s s' x ac w Q he => by cases he) c 0 s x s' he ac w Q hI hQ
 refine lb1 (Fe := Fence.wide) FW.wide hG0 hcalls (Vc9 _ _ _ _ _ _ _ _) (fun rd hrd => ?_) hmx (fun g ps as body s s' x ac w Q he => by cases he) cI 0 _ x1 s1 h1 _ w2 _ hI0 fun ac3 w3 hI3 => ?_
 ·injection hrd with hrd
  subst hrd
  exact Wc1 FW.wide hG0 rfl (by rw [Array.length_toList]; exact hI2.size) hWl (hpart .ready as) (hpart .busy body)
 obtain ⟨⟨ρ3, F3, W3, up3, hI3⟩, _, hdf3⟩ := hI3
 obtain ⟨pe, v, hpe, rfl, hrec3, hds3⟩ := hI3.core.jot
 have hpX : (Xa3 (hdA (j8 s1.a fnI.ntmps)) ⟨j8 s1.a (fnI.ntmps + 1), s1.H⟩).run = some (x, s') ∧ ∀ id, x1 ≠ .exit id := by
  cases x1 with
  | normal => exact ⟨h2, fun _ e => by cases e⟩
  | ret => exact ⟨h2, fun _ e => by cases e⟩
  | exit id => cases h2
 obtain ⟨hpX, hne⟩ := hpX
 have htl3 : ac3.tmps.toList.length = fnI.ntmps := by rw [Array.length_toList]; exact hI3.size
 have hdr : VR ρ3 s1.H F3 w3 (j8 s1.a fnI.ntmps) (v :: ac.tmps.toList) := hI3.vals.drop htl3
 obtain ⟨rfl, hcase⟩ := tc1 hpX hdr.head hpe
 have hKl : KR (w.heap.size + 1) (w.heap.size :: ac.defers.map Ka7) (w.heap.size + 1) := .inl rfl
 have hkl := hI3.core.kept _ hKl
 have hM4 : ∀ o : Obj, ib1 WB W3 (Ub9 w.heap.size :: ac.defers) (w3.putObj (w.heap.size + 1) o) := fun o => by
  refine ⟨fun d hd => ?_, List.nodup_cons.2 ⟨fun hd => ?_, hI2.core.marks.2⟩⟩
  ·have hD : Ka7 d ∈ w.heap.size :: ac.defers.map Ka7 := by
    rcases List.mem_cons.1 hd with rfl | hd
    ·exact .head _
    ·exact .tail _ (List.mem_map.2 ⟨d, hd, rfl⟩)
   have hk := hI3.core.kept _ (.inr hD : KR (w.heap.size + 1) (w.heap.size :: ac.defers.map Ka7) (Ka7 d))
   refine ⟨Ka7 d, ?_, (hds3.turn hrec3 o) _ hD, hk.1, by rw [World.putObj_size]; exact hk.2, ?_⟩
   ·rcases List.mem_cons.1 hd with rfl | hd
    ·rfl
    ·obtain ⟨D, rfl, _⟩ := hI2.core.marks.1 d hd
     rfl
   ·rcases List.mem_cons.1 hd with rfl | hd
    ·exact a3
    ·exact (hI2.core.marks.at (List.mem_map.2 ⟨d, hd, rfl⟩)).2.2.2.2
  ·have := (hI2.core.marks.at (List.mem_map.2 ⟨_, hd, rfl⟩)).2.2.2.1
   exact Nat.lt_irrefl _ this
 obtain ⟨d1, d2⟩ := hI3.core.turn (J' := Ec8) (up' := []) (ds' := Ub9 w.heap.size :: ac.defers) (w.heap.size + 1) _ (ab9 .exhausted pe fn ac.tmps.toList ps as body w.heap.size) hrec3 (fun _ _ _ e => by cases e) (fun _ _ e => by cases e) hWl hkl.1 rfl (hM4 _)
 have hIe : Wc3 E.P WB n ρ0 H0 F0 w0 ⟨j8 s1.a (fnI.ntmps + 1), s1.H⟩ { ac with defers := [Ub9 w.heap.size] ++ ac.defers } (w3.putObj (w.heap.size + 1) (ab9 .exhausted pe fn ac.tmps.toList ps as body w.heap.size)) := by
  refine ⟨⟨ρ3, F3, W3, [], d1.reK (fun k hk => hk.elim) (fun _ _ _ _ _ hk => hk.elim), ?_, hI2.size⟩, fun t ht => by simp at ht, trivial⟩
  have h0 : VR ρ3 s1.H F3 w3 s1.a ((ac3.tmps.toList ++ [v]) ++ ac.tmps.toList) := by simpa using hI3.vals
  have := (h0.drop (k := fnI.ntmps + 1) (by simp [htl3])).tr d2
  simpa using this
 have hend : (Instr.endLoop (w.heap.size + 1)).run E.P w3 = .ok pe (w3.putObj (w.heap.size + 1) (ab9 .exhausted pe fn ac.tmps.toList ps as body w.heap.size)) :=
  run_endLoop hrec3 (by cases pe <;> simp)
 have hpost : rangePost Fence.wide m E.P (w.heap.size + 1) Q { ac with defers := [Ub9 w.heap.size] ++ ac.defers } (.returned (.tuple #[])) w3 := by
  refine ⟨pe, _, hend, ?_⟩
  rcases hcase with ⟨rfl, rfl⟩ | ⟨rfl, rfl⟩ | ⟨id, rfl, rfl⟩
  ·exact hQ _ _ hIe
  ·exact wpIn_ret (hQ _ _ hIe)
  ·exact wpIn_exit (hQ _ _ hIe)
 have hresults : (results fnI ac3.tmps).run E.P w3 = .ok (.tuple #[]) w3 := by
  have h0 : fnI.results = #[] := Array.eq_empty_of_size_eq_zero (Nat.eq_of_beq_eq_true hres)
  simp [results, h0]
 cases x1 with
 | normal => exact ⟨hdf3, _, hresults, hpost⟩
 | ret => exact ⟨hdf3, _, hresults, hpost⟩
 | exit id => exact absurd rfl (hne id)
end
end Go.Ev
