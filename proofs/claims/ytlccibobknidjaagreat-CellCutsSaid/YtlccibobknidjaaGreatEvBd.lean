/- Own work: a part of the proof. -/
import Derived.Test.YtlccibobknidjaaGreatEvSp7
import Derived.Test.YtlccibobknidjaaGreatEvEq
import Derived.Test.YtlccibobknidjaaGreatEvMono
import Derived.Test.YtlccibobknidjaaGreatEvFz
set_option linter.unusedVariables false
set_option linter.unusedSimpArgs false
set_option linter.unnecessarySimpa false
set_option linter.unusedSectionVars false
namespace Go.Ev
open Go
def zb8 (fl : List (Nat × CK)) (kl : Nat) : Bool := (List.range kl).all fun i => fl.any fun p => Nat.beq p.1 i
def Nd3 (P : Program) (t : TypeId) : Bool := match P.info? t with
 | some i => match i.zero with
  | some (.bool b) => !b
  | _ => false
 | none => false
theorem Lc2 {fl : List (Nat × CK)} {kl i : Nat} (h : zb8 fl kl = true) (hi : i < kl) : ∃ p ∈ fl, p.1 = i := by
 unfold zb8 at h
 rw [List.all_eq_true] at h
 have := h i (List.mem_range.2 hi)
 rw [List.any_eq_true] at this
 obtain ⟨p, h1, h2⟩ := this
 exact ⟨p, h1, Nat.eq_of_beq_eq_true h2⟩
section
variable {WB K : Nat → Prop} {J : List Value → World → Prop} {ρ ρ0 : Rho} {H H0 H' : List b8} {F F0 : Fz} {w w0 w' : World} {W' : Nat → Prop} {up : List Value} {E : Env} {a : List b7} {ac : Act} {x : b7} {o : Oper}
theorem Fd4 {x x' : Value} (h : XW ρ H F w (.v x) x') : x' = x := by
 cases h with
 | w h => exact ca0 h
 | c h => cases h with
  | n h => exact ca0 (.val (.cell h))
theorem Nd4 {fl : List (Nat × CK)} {kl : Nat} {ks : List b7} {v : Value} (hcov : zb8 fl kl = true) (hk : ∀ p ∈ fl, (∃ i, p.2 = .int i) ∨ p.2 = .bool) (hx : XW ρ H F w (.agg ks) v) (hlen : ks.length = kl) (hok : md5 fl ks = true) :
  ∃ vs : Array Value, v = .agg vs ∧ ks = vs.toList.map .v ∧ vs.size = kl ∧ ∀ p ∈ fl, va4 vs p := by
 have hx' : B0 ρ (p4 H) F w (.agg ks) v := by
  cases hx with
  | w h => exact h
  | c h => cases h with
   | n h => exact .val (.cell h)
 obtain ⟨vs, rfl, hl, hr⟩ := za6 hx'
 have h1 := pc5 hok
 have k1 : ∀ p ∈ fl, va4 vs p := fun p hp => (xb4 hl hr (hk p hp) (h1 p hp)).1
 refine ⟨vs, rfl, List.ext_getElem (by simpa using hl) fun i hi hi' => ?_, by rw [← hl]; exact hlen, k1⟩
 obtain ⟨p, hp, rfl⟩ := Lc2 hcov (hlen ▸ hi)
 have h2 := h1 p hp
 rw [Qb2, List.getElem?_eq_getElem hi] at h2
 simp only [Option.getD_some] at h2
 have hi2 : p.1 < vs.size := hl ▸ hi
 have hrel := hr p.1 _ _ (List.getElem?_eq_getElem hi) (Array.getElem?_eq_getElem hi2)
 have hv : ∃ u, ks[p.1] = .v u := by
  rcases hk p hp with ⟨q, e⟩ | e <;> rw [e] at h2 <;> revert h2 <;> cases ks[p.1] <;> intro h2 <;> first | exact ⟨_, rfl⟩ | cases h2
 obtain ⟨u, hu⟩ := hv
 rw [hu] at hrel ⊢
 have := ca0 (.val (.cell hrel))
 simp [this]
theorem Nd5 (m : Nat) (k : IntKind) (a : Int) : Instr.sameBits m (.int k a) (.int k a) = true := by cases m <;> simp [Instr.sameBits]
theorem Fd5 (m : Nat) (a : Bool) : Instr.sameBits m (.bool a) (.bool a) = true := by cases m <;> simp [Instr.sameBits]
theorem Fd6 {fl : List (Nat × CK)} {kl m : Nat} {ks us : Array Value} (hcov : zb8 fl kl = true) (hk : ∀ p ∈ fl, (∃ i, p.2 = .int i) ∨ p.2 = .bool) (h1 : ks.size = kl) (h2 : us.size = kl) (a1 : ∀ p ∈ fl, va4 ks p) (a2 : ∀ p ∈ fl, va4 us p) (he : fl.all (Ra4 ks us) = true) :
  Instr.sameBits (m + 1) (.agg us) (.agg ks) = true := by
 rw [Instr.sameBits]
 rw [Bool.and_eq_true]
 refine ⟨by simp [h1, h2], ?_⟩
 rw [List.all_eq_true]
 intro q hq
 obtain ⟨i, hi, hq⟩ := List.mem_iff_getElem.1 hq
 rw [List.getElem_zip] at hq
 have hi' : i < kl := by rw [List.length_zip, Array.length_toList, Array.length_toList] at hi; omega
 obtain ⟨p, hp, rfl⟩ := Lc2 hcov hi'
 have e := List.all_eq_true.1 he p hp
 have b1 := a1 p hp
 have b2 := a2 p hp
 have g1 : ks[p.1]? = some (ks[p.1]'(by omega)) := Array.getElem?_eq_getElem _
 have g2 : us[p.1]? = some (us[p.1]'(by omega)) := Array.getElem?_eq_getElem _
 rw [← hq]
 simp only [Array.getElem_toList]
 unfold va4 at b1 b2
 unfold Ra4 at e
 rcases hk p hp with ⟨k, hkk⟩ | hkk
 ·rw [hkk] at b1 b2
  obtain ⟨n, b1⟩ := b1
  obtain ⟨n', b2⟩ := b2
  rw [b1, b2] at e
  have e : n = n' := by simpa using e
  subst e
  rw [g1] at b1; rw [g2] at b2
  rw [Option.some.inj b1, Option.some.inj b2]
  exact Nd5 _ _ _
 ·rw [hkk] at b1 b2
  obtain ⟨n, b1⟩ := b1
  obtain ⟨n', b2⟩ := b2
  rw [b1, b2] at e
  have e : n = n' := by simpa using e
  subst e
  rw [g1] at b1; rw [g2] at b2
  rw [Option.some.inj b1, Option.some.inj b2]
  exact Fd5 _ _
theorem zb9 {k : Nat} {es : Array MapEntry} {clk : Nat} (P : Program) (h : w.heap[k]? = some (.map es clk)) : (getObj k).run P w = .ok (.map es clk) w := by simp [getObj, Sem.run, h]
theorem Ab0 {k : Nat} {es : Array MapEntry} {clk : Nat} (P : Program) (o : Obj) (h : w.heap[k]? = some (.map es clk)) : (setObj k o).run P w = .ok () (w.putObj k o) := by simp [setObj, Sem.run, h, World.putObj]
theorem gc4 {P : Program} {t : TypeId} {fl : List (Nat × CK)} {kl : Nat} (hag : agT P t = true) (hf : Y9 P 9 t = some fl) {ks : Array Value} (h1 : ∀ p ∈ fl, va4 ks p) (es : List MapEntry) (rows : List (List b7)) (hl : es.length = rows.length) (hr : ∀ (j : Nat) r e, rows[j]? = some r → es[j]? = some e → tc0 fl kl r e) :
  ((Instr.findKey t (.agg ks) es).run P w = .ok none w ∧ fc4 fl (ks.toList.map .v) rows = none ∧ ∀ new, ib2 fl (ks.toList.map .v) new rows = rows ++ [new]) ∨
  (∃ j e r, (Instr.findKey t (.agg ks) es).run P w = .ok (some (j, e.val)) w ∧ es[j]? = some e ∧ rows[j]? = some r ∧ fc4 fl (ks.toList.map .v) rows = some r ∧ (∀ new, ib2 fl (ks.toList.map .v) new rows = rows.set j new) ∧ ∃ us, e.key = .agg us ∧ fl.all (Ra4 ks us) = true) := by
 have hu : ∃ d, P.underlying t = some d ∧ ∀ e es i, Instr.findNow d (.agg ks) (e :: es) i = none := by
  unfold agT at hag
  split at hag
  ·rename_i fs h; exact ⟨_, h, fun e es i => rfl⟩
  ·rename_i n e h; exact ⟨_, h, fun e es i => rfl⟩
  ·cases hag
 obtain ⟨d, hd, hnow⟩ := hu
 have := dd1 (w := w) (kl := kl) hag hf h1 es rows 0 hl hr
 have e0 : (Instr.findKey t (.agg ks) es).run P w = (Instr.findAsking t (.agg ks) es 0).run P w := by
  unfold Instr.findKey
  simp only [Sem.run_bind, run_underlying hd, Result.andThen_ok]
  cases es with
  | nil => simp [Instr.findNow, Instr.findAsking]
  | cons e es => rw [hnow]
 rw [e0]
 simpa using this
section
variable {ds : List Deferred} {n : Nat} (hC : C2 E.P WB K J ρ0 H0 F0 w0 H ds w ρ F W' up) (hJ : Zb7 K J)
include hC hJ
theorem Nd6 {t : TypeId} {kt el : TypeId} {fl : List (Nat × CK)} (ho : o.op = .makeMap t none) (hu : E.P.underlying t = some (.map kt el)) (hf : Y9 E.P 9 kt = some fl) (he : (vb1 E a H (.mmake t)).run = some (x, H')) :
  j9 E.P o ac w (ub2 E.P WB K J ρ0 H0 F0 w0 ρ H F w up ds x H') := by
 have he' : some (b7.ptr (len H) 0 0 0, Pb3 H (t + 1) []) = some (x, H') := he
 injection he' with he'; injection he' with e1 e2; subst e1 e2
 rw [m8]
 obtain ⟨c1, c2, c3, c4⟩ := hC.alloc hJ (.map #[] 0)
 have hap : ∀ (id : Nat) b, H[id]? = some b → B5 b = true → b.dead = false → (ρ id).blk ≠ w.heap.size := fun id b hb hs hd => Nat.ne_of_lt (hC.srel.has id b hb hs hd).2.2.2.1
 rw [cd9]
 have hnew : (w.alloc (.map #[] 0)).heap[w.heap.size]? = some (.map #[] 0) := World.alloc_heap_new w _
 refine .value (x' := .map (some w.heap.size)) (w' := w.alloc (.map #[] 0)) (by simp [execOp, ho, Instr.makeMap, run_newObj_alloc]) ?_
 obtain ⟨d1, d2⟩ := c1.adopt w.heap.size 0 c3 (fun h => h.2 rfl) (fun o hf => c4 o hf) (by simp) hap (fun hk => Nat.lt_irrefl _ (hC.kept _ hk).2) { et := t + 1, es := 0, elems := [], own := true, dead := false, g := 0 } (Za3 (t := t) ⟨rfl, rfl⟩) rfl
  (.inr ⟨t, kt, el, fl, #[], 0, ⟨rfl, rfl⟩, hu, hf, hnew, rfl, fun i r e hr => by simp at hr⟩)
 refine ⟨_, F, _, d1, fun x x' hx => d2 _ _ (c2 _ _ hx), .c ?_⟩
 have hρn : (ρnew ρ H ⟨w.heap.size, 0, 0⟩ H.length).blk = w.heap.size := by simp [ρnew]
 have := XC.map (ρ := ρnew ρ H ⟨w.heap.size, 0, 0⟩) (F := F) (w := w.alloc (.map #[] 0)) H.length 0 0 { et := t + 1, es := 0, elems := [], own := true, dead := false, g := 0 } t (H := H ++ [{ et := t + 1, es := 0, elems := [], own := true, dead := false, g := 0 }]) (by simp) rfl ⟨rfl, rfl⟩
 rwa [hρn] at this
variable (hv : VR ρ H F w a (ac.tmps.toList ++ up)) (hn : ac.tmps.size = n) (hG : GOk E F w)
include hv hn hG
omit hJ in
theorem Nd7 {t : TypeId} {kt el : TypeId} {fl : List (Nat × CK)} {m : Nat} {y : Operand} (ho : o.op = .lookup t (.tmp m) y false) (hm : Nat.blt m n = true) (hy : ltO n y = true) (hu : E.P.underlying t = some (.map kt el)) (hag : agT E.P kt = true) (hf : Y9 E.P 9 kt = some fl) (hcov : zb8 fl (szT E.P kt) = true) (hz : Nd3 E.P el = true)
  (he : (vb1 E a H (.mlook t (szT E.P kt) fl m (i5 y))).run = some (x, H')) :
  j9 E.P o ac w (ub2 E.P WB K J ρ0 H0 F0 w0 ρ H F w up ds x H') := by
 have hmr := lb9 hv hn hG (.tmp m) hm
 have hyr := lb9 hv hn hG y hy
 have hev : (ac.eval (.tmp m)) = ac.tmps.getD m undef := rfl
 simp only [vb1] at he
 have hcA : i5 (.tmp m) = .t m := rfl
 rw [hcA] at hmr
 cases hs : Pb2 (t + 1) H (c8 E a (.t m)) with
 | none => rw [hs] at he; cases he
 | some q =>
 obtain ⟨id, c, g, b⟩ := q
 rw [hs] at he
 simp only at he
 obtain ⟨h1, h2, h3, h4, h5⟩ := Lc1 hs hmr
 revert he hyr
 generalize c8 E a (i5 y) = ya
 intro hyr he
 split at he
 case h_2 => cases he
 ·rename_i ks
  obtain ⟨hgd, he⟩ := DT.run_guard_some he
  have he : some (b7.v (.bool (Pb4 (szT E.P kt) fl ks b.elems)), H) = some (x, H') := he
  rw [Bool.and_eq_true, m8] at hgd
  obtain ⟨vs, e1, e2, e3, e4⟩ := Nd4 hcov (Ya4 9 kt fl hf) hyr (Nat.eq_of_beq_eq_true hgd.1) hgd.2
  obtain ⟨rfl, rfl⟩ : x = b7.v (.bool (Pb4 (szT E.P kt) fl ks b.elems)) ∧ H = H' := by injection he with he; injection he with e1 e2; exact ⟨e1.symm, e2⟩
  subst e2
  obtain ⟨_, _, _, _, hcont⟩ := hC.srel.has id b h2 (Za3 h4) h3
  rcases hcont with ⟨hb, _⟩ | ⟨t', K', El, fl', es, clk, m1, m2, m3, m4, m5, m6⟩
  ·exact (Fb6 hb h4).elim
  have ht : t' = t := Nat.succ.inj (m1.2.symm.trans h4.2)
  subst ht
  rw [hu] at m2
  injection m2 with m2; injection m2 with q1 q2; subst q1 q2
  rw [hf] at m3
  injection m3 with m3; subst m3
  have hlen : es.toList.length = b.elems.length := by rw [Array.length_toList]; exact m5.symm
  have hrow : ∀ (j : Nat) r e, b.elems[j]? = some r → es.toList[j]? = some e → tc0 fl (szT E.P kt) r e := fun j r e hr he => m6 j r e hr (by simpa using he)
  have hfind := gc4 (w := w) (kl := szT E.P kt) hag hf e4 es.toList b.elems hlen hrow
  have hck : (Instr.checkKey es.isEmpty 10000 kt (.agg vs)).run E.P w = .ok () w := Rc1 es.isEmpty 9 kt fl hf 10000 (by decide) (.agg vs) (fun _ => rfl) (fun h => by rw [hag] at h; cases h) e4
  have hgo : (getObj (ρ id).blk).run E.P w = .ok (.map es clk) w := zb9 E.P m4
  rcases hfind with ⟨k1, k2, _⟩ | ⟨j, e, r, k1, k2, k3, k4, _, _⟩
  ·have hz' : (zeroValue el).run E.P w = .ok (.bool false) w := by
    unfold Nd3 at hz
    split at hz
    ·rename_i i hi
     split at hz
     ·rename_i bb hbb
      cases bb with
      | true => cases hz
      | false => simp [zeroValue, typeInfo, hi, hbb]
     ·cases hz
    ·cases hz
   refine .value (x' := .bool false) (w' := w) ?_ ⟨ρ, F, W', hC, fun _ _ h => h, ?_⟩
   ·simp [execOp, ho, Instr.lookup, run_underlying hu, h5, e1, hgo, hck, k1, hz']
   ·unfold Pb4
    rw [k2]
    exact .w (.val (.cell (.v _)))
  ·obtain ⟨us, bb, g1, g2, g3, g4, g5⟩ := hrow j r e k3 k2
   refine .value (x' := .bool bb) (w' := w) ?_ ⟨ρ, F, W', hC, fun _ _ h => h, ?_⟩
   ·simp [execOp, ho, Instr.lookup, run_underlying hu, h5, e1, hgo, hck, k1, g4]
   ·unfold Pb4
    rw [k4]
    have : toB (hdA (g9 r (szT E.P kt))) = bb := by
     rw [Qb2, g1, ← g2]
     rw [List.getElem?_append_right (by simp)]
     simp [toB]
    show XW ρ H F w (.v (.bool (toB (hdA (g9 r (szT E.P kt)))))) _
    rw [this]
    exact .w (.val (.cell (.v _)))
theorem ae8 {t : TypeId} {kt el : TypeId} {fl : List (Nat × CK)} {m : Nat} {y z : Operand} (ho : o.op = .mapUpdate t (.tmp m) y z) (hm : Nat.blt m n = true) (hy : ltO n y = true) (hz : ltO n z = true) (hu : E.P.underlying t = some (.map kt el)) (hag : agT E.P kt = true) (hf : Y9 E.P 9 kt = some fl) (hcov : zb8 fl (szT E.P kt) = true)
  (he : (vb1 E a H (.mupd t (szT E.P kt) fl m (i5 y) (i5 z))).run = some (x, H')) :
  j9 E.P o ac w (ub2 E.P WB K J ρ0 H0 F0 w0 ρ H F w up ds x H') := by
 have hmr := lb9 hv hn hG (.tmp m) hm
 have hyr := lb9 hv hn hG y hy
 have hzr := lb9 hv hn hG z hz
 simp only [vb1] at he
 have hcA : i5 (.tmp m) = .t m := rfl
 rw [hcA] at hmr
 cases hs : Pb2 (t + 1) H (c8 E a (.t m)) with
 | none => rw [hs] at he; cases he
 | some q =>
 obtain ⟨id, c, g, b⟩ := q
 rw [hs] at he
 simp only at he
 obtain ⟨h1, h2, h3, h4, h5⟩ := Lc1 hs hmr
 revert he hyr hzr
 generalize c8 E a (i5 y) = ya
 generalize c8 E a (i5 z) = za
 intro hyr hzr he
 split at he
 case h_2 => cases he
 rename_i ks bv
 obtain ⟨hgd, he⟩ := DT.run_guard_some he
 have he : some (b7.v (.tuple #[]), setAt H id { b with elems := ib2 fl ks (app ks [.v (.bool bv)]) b.elems }) = some (x, H') := he
 rw [Bool.and_eq_true, m8] at hgd
 have hkinds := Ya4 9 kt fl hf
 obtain ⟨vs, e1, e2, e3, e4⟩ := Nd4 hcov hkinds hyr (Nat.eq_of_beq_eq_true hgd.1) hgd.2
 have e5 := Fd4 hzr
 injection he with he; injection he with q1 q2
 subst q1 q2 e2
 obtain ⟨hWB, hnW, hnF, hlt, hcont⟩ := hC.srel.has id b h2 (Za3 h4) h3
 rcases hcont with ⟨hb, _⟩ | ⟨t', K', El, fl', es, clk, m1, m2, m3, m4, m5, m6⟩
 ·exact (Fb6 hb h4).elim
 have ht : t' = t := Nat.succ.inj (m1.2.symm.trans h4.2)
 subst ht
 rw [hu] at m2
 injection m2 with m2; injection m2 with q1 q2; subst q1 q2
 rw [hf] at m3
 injection m3 with m3; subst m3
 have hlen : es.toList.length = b.elems.length := by rw [Array.length_toList]; exact m5.symm
 have hrow : ∀ (j : Nat) r e, b.elems[j]? = some r → es.toList[j]? = some e → tc0 fl (szT E.P kt) r e := fun j r e hr he => m6 j r e hr (by simpa using he)
 have hfind := gc4 (w := w) (kl := szT E.P kt) hag hf e4 es.toList b.elems hlen hrow
 have hck : (Instr.checkKey false 10000 kt (.agg vs)).run E.P w = .ok () w := Rc1 false 9 kt fl hf 10000 (by decide) (.agg vs) (fun _ => rfl) (fun h => by rw [hag] at h; cases h) e4
 have hgo : (getObj (ρ id).blk).run E.P w = .ok (.map es clk) w := zb9 E.P m4
 have hnK : ∀ k, K k → k ≠ (ρ id).blk := fun k hk e => hC.far id b h2 (Za3 h4) h3 (e ▸ hk)
 have hid := (List.getElem?_eq_some_iff.1 h2).1
 have hnewrow : ∀ us : MapEntry, tc0 fl (szT E.P kt) (app (vs.toList.map .v) [.v (.bool bv)]) { us with key := .agg vs, val := .bool bv } := fun us => ⟨vs, bv, by rw [D6], e3, rfl, rfl, e4⟩
 have hfin : ∀ (es' : Array MapEntry) (clk' : Nat), (ib2 fl (vs.toList.map .v) (app (vs.toList.map .v) [.v (.bool bv)]) b.elems).length = es'.size → b.elems.length ≤ es'.size → (∀ (i : Nat) r e, (ib2 fl (vs.toList.map .v) (app (vs.toList.map .v) [.v (.bool bv)]) b.elems)[i]? = some r → es'[i]? = some e → tc0 fl (szT E.P kt) r e) →
   ub2 E.P WB K J ρ0 H0 F0 w0 ρ H F w up ds (.v (.tuple #[])) (H.set id { b with elems := ib2 fl (vs.toList.map .v) (app (vs.toList.map .v) [.v (.bool bv)]) b.elems }) (.tuple #[]) (w.putObj (ρ id).blk (.map es' clk')) := fun es' clk' hl1 hl2 hrows => by
  obtain ⟨c1, c2⟩ := hC.change (w' := w.putObj (ρ id).blk (.map es' clk')) (H' := H.set id { b with elems := ib2 fl (vs.toList.map .v) (app (vs.toList.map .v) [.v (.bool bv)]) b.elems }) (up' := up) (ρ id).blk hWB hnW hnF rfl rfl rfl (Nat.le_refl _) (by simp) (fun j hj => World.putObj_heap_other hj)
   (fun cc t' fr hcc => by rw [m4] at hcc; cases hcc) (by simp)
   (fun id' b' hb' => by
    by_cases e : id = id'
    ·subst e
     obtain rfl : b' = b := Option.some.inj (hb'.symm.trans h2)
     exact ⟨{ b' with elems := ib2 fl (vs.toList.map .v) (app (vs.toList.map .v) [.v (.bool bv)]) b'.elems }, by simp [hid], rfl, rfl, rfl, rfl, by simp only; rw [hl1]; exact hl2, fun hs0 => by rw [Za3 h4] at hs0; cases hs0⟩
    ·exact ⟨b', by rw [List.getElem?_set_ne e]; exact hb', rfl, rfl, rfl, rfl, Nat.le_refl _, fun _ => rfl⟩)
   (fun id' b' hb' hs' hd' hne => by
    have e : id ≠ id' := fun e => hne (by rw [e])
    rw [List.getElem?_set_ne e]; exact hb')
   (fun hx id' b' hb' hs' hd' hblk => by
    have e : id = id' := Classical.byContradiction fun hne => by
     rw [List.getElem?_set_ne hne] at hb'
     exact hC.srel.apart id id' b b' h2 hb' (Za3 h4) hs' h3 hd' hne hblk.symm
    subst e
    have : b' = { b with elems := ib2 fl (vs.toList.map .v) (app (vs.toList.map .v) [.v (.bool bv)]) b.elems } := by simpa [hid] using hb'.symm
    subst this
    exact .inr ⟨t', kt, el, fl, es', clk', h4, hu, hf, World.putObj_heap_same hlt, hl1, hrows⟩)
   (hJ up w _ (fun k hk => World.putObj_heap_other (hnK k hk)) hC.jot)
   (fun D _ hD e => by rw [e, m4] at hD; cases hD)
  exact ⟨ρ, F, W', c1, c2, .w (.ofv _)⟩
 rw [A7]
 rcases hfind with ⟨k1, _, k3⟩ | ⟨j, e, r, k1, k2, k3, k4, k5, us, k6, k7⟩
 ·have hso := Ab0 E.P (.map (es.push { key := .agg vs, val := .bool bv, born := clk }) (clk + 1)) m4
  refine .skip (w' := w.putObj (ρ id).blk (.map (es.push { key := .agg vs, val := .bool bv, born := clk }) (clk + 1))) ?_ (hfin _ _ ?_ ?_ ?_)
  ·simp [execOp, ho, Instr.mapUpdate, run_underlying hu, h5, e1, e5, hgo, hck, k1, hso]
  ·rw [k3]; simp [m5]
  ·simp [m5]
  ·intro i r e hr he
   rw [k3] at hr
   by_cases hi : i < b.elems.length
   ·rw [List.getElem?_append_left hi] at hr
    rw [Array.getElem?_push, if_neg (by omega)] at he
    exact m6 i r e hr he
   ·rw [List.getElem?_append_right (by omega)] at hr
    have hi0 : i - b.elems.length = 0 := by
     rcases Nat.eq_zero_or_pos (i - b.elems.length) with h | h
     ·exact h
     ·rw [List.getElem?_eq_none (by simp; omega)] at hr; cases hr
    rw [hi0] at hr
    rw [Array.getElem?_push, if_pos (by omega)] at he
    simp at hr he
    subst hr he
    exact hnewrow { key := .agg vs, val := .bool bv, born := clk }
 ·have k2' : es[j]? = some e := by simpa using k2
  obtain ⟨us', bb, g1, g2, g3, g4, g5⟩ := hrow j r e k3 k2
  rw [k6] at g3
  injection g3 with g3
  subst g3
  have hsame : Instr.sameBits 10000 (.agg us) (.agg vs) = true := Fd6 (m := 9999) hcov hkinds e3 g2 e4 g5 k7
  have hso := Ab0 E.P (.map (es.modify j fun e => { e with key := .agg vs, val := .bool bv }) clk) m4
  refine .skip (w' := w.putObj (ρ id).blk (.map (es.modify j fun e => { e with key := .agg vs, val := .bool bv }) clk)) ?_ (hfin _ _ ?_ ?_ ?_)
  ·simp [execOp, ho, Instr.mapUpdate, run_underlying hu, h5, e1, e5, hgo, hck, k1, k2', k6, Instr.keyThatStays, hsame, hso]
  ·rw [k5]; simp [m5]
  ·simp [m5]
  ·intro i r' e' hr he
   rw [k5] at hr
   rw [Array.getElem?_modify] at he
   by_cases hi : j = i
   ·subst hi
    rw [if_pos rfl, k2'] at he
    have hj := (List.getElem?_eq_some_iff.1 k3).1
    rw [List.getElem?_set_self hj] at hr
    simp at hr he
    subst hr he
    exact hnewrow e
   ·rw [if_neg hi] at he
    rw [List.getElem?_set_ne hi] at hr
    exact m6 i r' e' hr he
end
end
end Go.Ev
namespace Go.Ev
open Go
def Nd8 (pr : List Nat) : Operand → Option Nat
 | .tmp p => if pr.contains p then some p else none
 | _ => none
def Nd9 (pr : List Nat) (o : Oper) : Bool := match o.dst with
 | some d => pr.contains d
 | none => false
def Jb7 (b : Bool) (x : SP) : SP := match b with
 | true => x
 | false => .bad
structure we7 where
 kt : TypeId
 el : TypeId
 fl : List (Nat × CK)
def Od0 (P : Program) (t : TypeId) : Option we7 := match P.underlying t with
 | some (.map kt el) => match Y9 P 9 kt with
  | some fl => match agT P kt && zb8 fl (szT P kt) with
   | true => some ⟨kt, el, fl⟩
   | false => none
  | none => none
 | _ => none
def cSp (P : Program) (n : Nat) (pr : List Nat) (o : Oper) : Option SP :=
 match o.op with
 | .alloc t => match Nd9 pr o with
  | true => match zeT P t with
   | some z => some (.balloc z)
   | none => some .bad
  | false => none
 | .box _ x => match Nd9 pr o with
  | true => some (Jb7 (ltO n x) (.bbox (i5 x)))
  | false => none
 | .load t x => match Nd8 pr x with
  | some p => some (Jb7 (Nat.blt p n && (P.underlying t).isSome) (.bload (szT P t) (agT P t) p))
  | none => none
 | .store t x y => match Nd8 pr x with
  | some p => some (Jb7 (Nat.blt p n && ltO n y && !Nat.beq (szT P t) 0) (.bstore (szT P t) p (i5 y)))
  | none => none
 | .fieldAddr s x f => match Nd8 pr x with
  | some p => match P.underlying s with
   | some (.struct fs) => match fs[f]? with
    | some fd => some (Jb7 (Nat.blt p n && !Nat.beq (szT P fd.type) 0) (.bfld fd.offset p))
    | none => some .bad
   | _ => some .bad
  | none => none
 | .makeMap t none => match Od0 P t with
  | some _ => some (.mmake t)
  | none => some .bad
 | .lookup t (.tmp m) y false => match Od0 P t with
  | some q => some (Jb7 (Nat.blt m n && ltO n y && Nd3 P q.el) (.mlook t (szT P q.kt) q.fl m (i5 y)))
  | none => some .bad
 | .mapUpdate t (.tmp m) y z => match Od0 P t with
  | some q => some (Jb7 (Nat.blt m n && ltO n y && ltO n z) (.mupd t (szT P q.kt) q.fl m (i5 y) (i5 z)))
  | none => some .bad
 | .call c => match c.callee with
  | .builtin .append => match Nd9 pr o with
   | true => match c.args.toList, c.argTypes.toList with
    | [s, x], [t, u] => match P.underlying t with
     | some (.slice e) => some (Jb7 (Nat.blt 0 (szT P e) && Nat.beq t u) (.old n (.apre (szT P e) (i5 s) (i5 x))))
     | _ => some .bad
    | _, _ => some .bad
   | false => none
  | .builtin .clear => match c.args.toList, c.argTypes.toList with
   | [x], [t] => match P.underlying t with
    | some (.slice e) => match zeT P e with
     | some z => some (Jb7 (Nat.blt 0 (szT P e)) (.old n (.clr (szT P e) z (i5 x))))
     | none => some .bad
    | _ => some .bad
   | _, _ => some .bad
  | _ => none
 | _ => none
structure Rd where
 nOut : Nat
 ps : List Nat
 as : PC
 body : PC
def Sb2 (S : List Nat) (o : Oper) : Option (List Operand) := match o.op with
 | .call c => match c.callee with
  | .value (.tmp t) => if S.contains t then some c.args.toList else none
  | _ => none
 | _ => none
def tc4 (S : List Nat) (o : Oper) : Option Nat := match o.op, o.guard, o.dst with
 | .move (.tmp t), none, some d => if S.contains t then some d else none
 | _, _, _ => none
def gOk (n : Nat) : Option (Nat × Bool) → Bool
 | none => true
 | some (d, _) => Nat.blt d n
def dOk (n : Nat) : Option Nat → Bool
 | none => true
 | some d => Nat.blt d n
def rmD (S : List Nat) : Option Nat → List Nat
 | none => S
 | some d => S.filter fun t => !Nat.beq t d
def Rc2 (l : List Oper) : List Nat := l.filterMap (·.dst)
def ac0 (p : Oper → Bool) : List Oper → Nat
 | [] => 0
 | o :: r => match p o with
  | true => ac0 p r + 1
  | false => 0
def dd2 (P : Program) (n : Nat) (pr S : List Nat) (o : Oper) : Bool := (cSp P n pr o).isNone && (Sb2 S o).isNone && (tc4 S o).isNone
def ae9 (l r : List Nat) : Bool := l.all fun x => r.contains x
def dd3 (P : Program) (n : Nat) (pr : List Nat) (yl : Option Rd) (S0 : List Nat) (ops : Array Oper) : Nat → List Oper → List Nat → PC
 | 0, _, _ => .bad
 | _ + 1, [], S => match ae9 S0 S with
  | true => .skip
  | false => .bad
 | f + 1, o :: r, S => match Sb2 S o with
  | some args => match yl, ca7 ops o with
   | some rd, some g => match gOk n g && dOk n o.dst && args.all (ltO n) && Nat.beq args.length rd.ps.length with
    | true => .seq (.round o.dst g (args.map i5) n rd.nOut rd.ps rd.as rd.body) (dd3 P n pr yl S0 ops f r (rmD S o.dst))
    | false => .bad
   | _, _ => .bad
  | none => match tc4 S o with
   | some d => match Nat.blt d n with
    | true => .seq (.mask n [d] (.ops [⟨some d, none, [], .mv (.c .unk)⟩])) (dd3 P n pr yl S0 ops f r (d :: S))
    | false => .bad
   | none => match cSp P n pr o with
    | some so => match ca7 ops o with
     | some g => match gOk n g && dOk n o.dst with
      | true => .seq (.sp o.dst g so) (dd3 P n pr yl S0 ops f r (rmD S o.dst))
      | false => .bad
     | none => .bad
    | none => match Hb3 P ops (o :: r.take (ac0 (dd2 P n pr S) r)) with
     | some l => .seq (.mask n (Rc2 (o :: r.take (ac0 (dd2 P n pr S) r))) (.ops l)) (dd3 P n pr yl S0 ops f (r.drop (ac0 (dd2 P n pr S) r)) (S.filter fun t => !(Rc2 (o :: r.take (ac0 (dd2 P n pr S) r))).contains t))
     | none => .bad
def sa4 (P : Program) (n : Nat) (pr : List Nat) (yl : Option Rd) (S0 : List Nat) (kp : Nat → List Nat) (rf : Operand → Array Tmp → Code → Code → PC) (cur : Nat) : Code → PC
 | .skip => .skip
 | .region _ ops d => match d with
  | false => dd3 P n pr yl S0 ops (ops.size + 1) ops.toList S0
  | true => .bad
 | .seq a b => .seq (sa4 P n pr yl S0 kp rf cur a) (sa4 P n pr yl S0 kp rf cur b)
 | .cond c x y => match ltO n c with
  | true => .cond (i5 c) (sa4 P n pr yl S0 kp rf cur x) (sa4 P n pr yl S0 kp rf cur y)
  | false => .bad
 | .block id c => .block id (sa4 P n pr yl S0 kp rf id c)
 | .loop c => .loopM (kp cur) (sa4 P n pr yl S0 kp rf cur c)
 | .label _ => .skip
 | .exit id => .exit id
 | .ret => .ret
 | .rangeFunc g ps as body => rf g ps as body
 | _ => .bad
structure Rc3 where
 pr : List Nat
 kp : List (Nat × List Nat)
 fi : FuncId
 ki : List (Nat × List Nat)
def Fd7 (l : List (Nat × List Nat)) (id : Nat) : List Nat := match l.find? fun p => Nat.beq p.1 id with
 | some p => p.2
 | none => []
def Sb3 (_ : Operand) (_ : Array Tmp) (_ _ : Code) : PC := .bad
def we8 (P : Program) (h : Rc3) (n : Nat) (ps : Array Tmp) (as body : Code) : Rd :=
 ⟨n, ps.toList, sa4 P n h.pr none [] (Fd7 h.kp) Sb3 0 as, sa4 P n h.pr none [] (Fd7 h.kp) Sb3 0 body⟩
def qd8 (P : Program) (h : Rc3) (fnI : Func) (cI : Code) (n : Nat) (g : Operand) (ps : Array Tmp) (as body : Code) : PC :=
 match ltO n g && Nat.beq fnI.results.size 0 && ps.toList.all (fun p => Nat.blt p n) with
 | true => .inner h.fi (i5 g) fnI.ntmps (sa4 P fnI.ntmps [] (some (we8 P h n ps as body)) [0] (Fd7 h.ki) Sb3 0 cI)
 | false => .bad
def mb0 (P : Program) (h : Rc3) (fnI fn : Func) : Option PFn :=
 match fn.body, fnI.body with
 | some c, some cI =>
  if fn.results.toList.all (Yc6 P) then some ⟨fn.ntmps, fn.results.toList.map (oc9 P), sa4 P fn.ntmps h.pr none [] (Fd7 h.kp) (qd8 P h fnI cI fn.ntmps) 0 c⟩ else none
 | _, _ => none
noncomputable def dd4 (H : List b8) : Bool := List.rec (motive := fun _ => Bool) true (fun b _ ih => Bool.rec (motive := fun _ => Bool) ih false (B5 b)) H
noncomputable def Ab1 (E : Env) (fn : PFn) (args : List b7) (blks : List b8) : DT (b7 × List b8) :=
 .guard (Bool.and (dd4 blks) (Nat.ble (len args) fn.ntmps)) ((M1 E (len blks) fn.body ⟨app args (List.replicate (fn.ntmps - len args) (.v (.tuple #[]))), blks⟩).bind fun r =>
  match r.1 with
  | .exit _ => .fail
  | _ => match Na5 (Ra2 (o7 (ga7 r.2.H) r.2.a) (p4 r.2.H)) fn.res with
   | some l => .guard (dd4 (I6 r.2.H (len blks))) (wb7 (len blks) (p4 r.2.H) (ib3 l))
   | none => .fail)
end Go.Ev
namespace Go.Ev
open Go
section
variable {WB K : Nat → Prop} {J : List Value → World → Prop} {DF : List Deferred → Prop} {S : List Nat} {rv : Value} {ρ ρ0 : Rho} {H H0 H' : List b8} {F F0 : Fz} {w w0 w' : World} {W' : Nat → Prop} {up : List Value} {E : Env} {a : List b7} {s s' : St} {ac : Act} {x : b7} {o : Oper} {n : Nat}
structure I3 (P : Program) (WB K : Nat → Prop) (J : List Value → World → Prop) (n : Nat) (S : List Nat) (rv : Value) (DF : List Deferred → Prop) (ρ0 : Rho) (H0 : List b8) (F0 : Fz) (w0 : World) (s : St) (ac : Act) (w : World) : Prop where
 inv : oe8 P WB K J n ρ0 H0 F0 w0 s ac w
 held : ∀ t ∈ S, ac.tmps[t]? = some rv
 df : DF ac.defers
theorem Ca9 {b : Bool} {so : SP} (h : (vb1 E a H (Jb7 b so)).run = some (x, H')) : b = true ∧ Jb7 b so = so := by
 cases b with
 | true => exact ⟨rfl, rfl⟩
 | false => cases h
theorem ac4 {pr : List Nat} {y : Operand} {p : Nat} (h : Nd8 pr y = some p) : y = .tmp p := by
 unfold Nd8 at h
 split at h
 ·split at h
  ·injection h with h; rw [h]
  ·cases h
 ·cases h
theorem ac5 {P : Program} {t : TypeId} {q : we7} (h : Od0 P t = some q) : P.underlying t = some (.map q.kt q.el) ∧ Y9 P 9 q.kt = some q.fl ∧ agT P q.kt = true ∧ zb8 q.fl (szT P q.kt) = true := by
 unfold Od0 at h
 split at h
 ·rename_i kt el hu
  split at h
  ·rename_i fl hf
   split at h
   ·rename_i hc
    injection h with h
    subst h
    rw [Bool.and_eq_true] at hc
    exact ⟨hu, hf, hc.1, hc.2⟩
   ·cases h
  ·cases h
 ·cases h
theorem Sb4 {k : Nat} (h : (!Nat.beq k 0) = true) : k ≠ 0 := fun e => by subst e; cases h
theorem VR.arel (hv : VR ρ H F w a (ac.tmps.toList ++ up)) (hn : ac.tmps.size = n) : na4 ρ (p4 H) F w (o7 (ga7 H) (I6 a n)) ac.tmps := by
 have hl := hv.1
 have hsz : ac.tmps.toList.length = ac.tmps.size := Array.length_toList
 rw [List.length_append] at hl
 rw [o6, H7]
 refine ⟨by rw [List.length_map, List.length_take]; omega, fun i x x' hx hx' => ?_⟩
 rw [List.getElem?_map] at hx
 have hi : i < n := hn ▸ (Array.getElem?_eq_some_iff.1 hx').1
 rw [List.getElem?_take, if_pos hi] at hx
 cases hy : a[i]? with
 | none => rw [hy] at hx; cases hx
 | some y =>
  rw [hy] at hx
  injection hx with hx
  subst hx
  refine Lc0 (hv.2 i y x' hy ?_)
  rw [List.getElem?_append_left (by rw [Array.length_toList]; omega)]
  simpa using hx'
theorem Od1 {px : PO} {ds : List Deferred} (hC : C2 E.P WB K J ρ0 H0 F0 w0 H ds w ρ F W' up) (hJ : Zb7 K J)
  (hop : ∀ H1, (evalOp E (o7 (ga7 H) (I6 a n)) (p4 H) px).run = some (x, H1) → j9 E.P o ac w (N7 W' ρ (p4 H) F w x H1)) (he : (vb1 E a H (.old n px)).run = some (x, H')) : j9 E.P o ac w (ub2 E.P WB K J ρ0 H0 F0 w0 ρ H F w up ds x H') := by
 obtain ⟨⟨x1, H1⟩, h1, h2⟩ := DT.run_bind_some (show ((evalOp E (o7 (ga7 H) (I6 a n)) (p4 H) px).bind fun r => .guard (ic9 H r.2) (.ret (r.1, B3 H r.2))).run = some (x, H') from he)
 obtain ⟨hok, h2⟩ := DT.run_guard_some h2
 have h2 : some (x1, B3 H H1) = some (x, H') := h2
 injection h2 with h2; injection h2 with e1 e2; subst e1 e2
 intro next Q hp
 refine hop H1 h1 next Q fun x' w' ⟨ρ', F', k1, k2, k3⟩ => hp x' w' ?_
 obtain ⟨c1, c2⟩ := hC.step hJ k1 hok k2
 exact ⟨_, F', W', c1, c2, .w (qd6 k1 hok k3)⟩
theorem ie5 {α : Type} {l : Array α} {a b : α} (h : l.toList = [a, b]) : l = #[a, b] := by
 apply Array.ext'
 simpa using h
theorem ie6 {α : Type} {l : Array α} {a : α} (h : l.toList = [a]) : l = #[a] := by
 apply Array.ext'
 simpa using h
theorem we9 {pr : List Nat} {so : SP} {ds : List Deferred} (hC : C2 E.P WB K J ρ0 H0 F0 w0 H ds w ρ F W' up) (hJ : Zb7 K J) (hv : VR ρ H F w a (ac.tmps.toList ++ up)) (hn : ac.tmps.size = n) (hG : GOk E F w)
  (hs : cSp E.P n pr o = some so) (he : (vb1 E a H so).run = some (x, H')) : j9 E.P o ac w (ub2 E.P WB K J ρ0 H0 F0 w0 ρ H F w up ds x H') := by
 unfold cSp at hs
 split at hs
 ·rename_i t ho
  split at hs
  ·split at hs
   ·rename_i z hz
    injection hs with hs; subst hs
    exact Fd2 hC hJ ho hz he
   ·injection hs with hs; subst hs; cases he
  ·cases hs
 ·rename_i t y ho
  split at hs
  ·injection hs with hs; subst hs
   obtain ⟨h1, h2⟩ := Ca9 he
   rw [h2] at he
   exact ae5 hC hJ hv hn hG ho h1 he
  ·cases hs
 ·rename_i t y ho
  split at hs
  ·rename_i p hp
   injection hs with hs; subst hs
   obtain ⟨h1, h2⟩ := Ca9 he
   rw [h2] at he
   rw [Bool.and_eq_true] at h1
   rw [ac4 hp] at ho
   exact Nd0 hC hv hn hG ho h1.1 (fun e => by rw [e] at h1; cases h1.2) he
  ·cases hs
 ·rename_i t y z ho
  split at hs
  ·rename_i p hp
   injection hs with hs; subst hs
   obtain ⟨h1, h2⟩ := Ca9 he
   rw [h2] at he
   rw [Bool.and_eq_true, Bool.and_eq_true] at h1
   rw [ac4 hp] at ho
   exact Fd3 hC hJ hv hn hG ho h1.1.1 h1.1.2 (Sb4 h1.2) he
  ·cases hs
 ·rename_i st y f ho
  split at hs
  ·rename_i p hp
   split at hs
   ·rename_i fs hu
    split at hs
    ·rename_i fd hf
     injection hs with hs; subst hs
     obtain ⟨h1, h2⟩ := Ca9 he
     rw [h2] at he
     rw [Bool.and_eq_true] at h1
     rw [ac4 hp] at ho
     exact ae7 hC hv hn hG ho h1.1 hu hf (Sb4 h1.2) he
    ·injection hs with hs; subst hs; cases he
   ·injection hs with hs; subst hs; cases he
  ·cases hs
 ·rename_i t ho
  split at hs
  ·rename_i q hq
   injection hs with hs; subst hs
   obtain ⟨h1, h2, _, _⟩ := ac5 hq
   exact Nd6 hC hJ ho h1 h2 he
  ·injection hs with hs; subst hs; cases he
 ·rename_i t m y ho
  split at hs
  ·rename_i q hq
   injection hs with hs; subst hs
   obtain ⟨h1, h2, h3, h4⟩ := ac5 hq
   obtain ⟨k1, k2⟩ := Ca9 he
   rw [k2] at he
   rw [Bool.and_eq_true, Bool.and_eq_true] at k1
   exact Nd7 hC hv hn hG ho k1.1.1 k1.1.2 h1 h3 h2 h4 k1.2 he
  ·injection hs with hs; subst hs; cases he
 ·rename_i t m y z ho
  split at hs
  ·rename_i q hq
   injection hs with hs; subst hs
   obtain ⟨h1, h2, h3, h4⟩ := ac5 hq
   obtain ⟨k1, k2⟩ := Ca9 he
   rw [k2] at he
   rw [Bool.and_eq_true, Bool.and_eq_true] at k1
   exact ae8 hC hJ hv hn hG ho k1.1.1 k1.1.2 k1.2 h1 h3 h2 h4 he
  ·injection hs with hs; subst hs; cases he
 ·rename_i c ho
  split at hs
  ·rename_i hcb
   split at hs
   ·split at hs
    ·rename_i y z t u hargs htys
     split at hs
     ·rename_i e hu
      injection hs with hs; subst hs
      obtain ⟨k1, k2⟩ := Ca9 he
      rw [k2] at he
      rw [Bool.and_eq_true, Nat.blt_eq] at k1
      have htu := Nat.eq_of_beq_eq_true k1.2
      subst htu
      obtain ⟨ti, hi, hi0, hi1⟩ := nc2 (Nat.ne_of_gt k1.1)
      refine Od1 hC hJ (fun H1 h1 => ?_) he
      exact pc2 (hv.arel hn) hC.hrel hG ho hcb (ie5 hargs) (ie5 htys) hu hi (by omega) h1
     ·injection hs with hs; subst hs; cases he
    ·injection hs with hs; subst hs; cases he
   ·cases hs
  ·rename_i hcb
   split at hs
   ·rename_i y t hargs htys
    split at hs
    ·rename_i e hu
     split at hs
     ·rename_i z hz
      injection hs with hs; subst hs
      obtain ⟨k1, k2⟩ := Ca9 he
      rw [k2] at he
      rw [Nat.blt_eq] at k1
      refine Od1 hC hJ (fun H1 h1 => ?_) he
      exact Jc3 (hv.arel hn) hC.hrel hG ho hcb (ie6 hargs) (ie6 htys) hu hz k1 h1
     ·injection hs with hs; subst hs; cases he
    ·injection hs with hs; subst hs; cases he
   ·injection hs with hs; subst hs; cases he
  ·cases hs
 ·cases hs
theorem VR.putA (hv : VR ρ H F w a (ac.tmps.toList ++ up)) (hn : ac.tmps.size = n) {dst : Option Nat} (hd : dOk n dst = true) {x' : Value} (hx : XW ρ H F w x x') : VR ρ H F w (Ev.putA a dst x) ((ac.put dst x').tmps.toList ++ up) := by
 rw [Eb8]
 cases dst with
 | none => exact hv
 | some d =>
  have hd : d < n := by have := hd; unfold dOk at this; rwa [Nat.blt_eq] at this
  have e : (ac.put (some d) x').tmps.toList ++ up = (ac.tmps.toList ++ up).set d x' := by
   rw [List.set_append_left _ _ (by rw [Array.length_toList]; omega)]
   simp [Act.put]
  rw [e]
  refine ⟨by simp only [List.length_set]; exact hv.1, fun i y y' hy hy' => ?_⟩
  rw [List.getElem?_set] at hy hy'
  by_cases hi : d = i
  ·subst hi
   have hl : d < (ac.tmps.toList ++ up).length := by rw [List.length_append, Array.length_toList]; omega
   rw [if_pos rfl, if_pos (hv.1 ▸ hl)] at hy
   rw [if_pos rfl, if_pos hl] at hy'
   injection hy with hy; injection hy' with hy'
   subst hy hy'
   exact hx
  ·rw [if_neg hi] at hy hy'
   exact hv.2 i y y' hy hy'
theorem VR.tr {vs : List Value} {ρ' : Rho} {F' : Fz} (hv : VR ρ H F w a vs) (ht : Tr ρ H F w ρ' H' F' w') : VR ρ' H' F' w' a vs := ⟨hv.1, fun i x x' hx hx' => ht _ _ (hv.2 i x x' hx hx')⟩
theorem VR.at (hv : VR ρ H F w a (ac.tmps.toList ++ up)) (hn : ac.tmps.size = n) {t : Nat} (ht : t < n) : ∃ x', ac.tmps[t]? = some x' ∧ XW ρ H F w (c8 E a (.t t)) x' := by
 have hl := hv.1
 have hsz : ac.tmps.toList.length = ac.tmps.size := Array.length_toList
 rw [List.length_append] at hl
 have h1 : t < a.length := by omega
 have h2 : t < ac.tmps.size := by omega
 refine ⟨ac.tmps[t], by simp [h2], ?_⟩
 rw [Ua9, List.getElem?_eq_getElem h1]
 refine hv.2 t _ _ (List.getElem?_eq_getElem h1) ?_
 rw [List.getElem?_append_left (by rw [Array.length_toList]; exact h2)]
 simp [h2]
theorem Jb8 {ops : Array Oper} {g : Option (Nat × Bool)} {d : St → DT St} (hg : ca7 ops o = some g) (hgn : gOk n g = true) (hv : VR ρ H F w s.a (ac.tmps.toList ++ up)) (hn : ac.tmps.size = n) (he : (mc7 E s o.dst g d).run = some s') :
  (Region.wanted o (yielded ops ac.tmps) = true ∧ (d s).run = some s') ∨ (Region.wanted o (yielded ops ac.tmps) = false ∧ s' = ⟨putA s.a o.dst (.v (.tuple #[])), s.H⟩) := by
 unfold ca7 at hg
 unfold Region.wanted
 cases hgo : o.guard with
 | none =>
  simp only [hgo] at hg ⊢
  injection hg with hg
  subst hg
  exact .inl ⟨trivial, he⟩
 | some jw =>
  obtain ⟨j, want⟩ := jw
  simp only [hgo] at hg ⊢
  cases hj : ops[j]? with
  | none => simp [hj] at hg
  | some oj =>
  simp only [hj] at hg
  cases hd : oj.dst with
  | none => simp [hd] at hg
  | some dd =>
  simp only [hd] at hg
  injection hg with hg
  subst hg
  have hdn : dd < n := by have := hgn; unfold gOk at this; rwa [Nat.blt_eq] at this
  obtain ⟨u', hu1, hu2⟩ := hv.at (E := E) hn hdn
  have he' : (match c8 E s.a (.t dd) with
   | .v (.bool b) => Bool.rec (motive := fun _ => DT St)
     (.ite b (.ret ⟨putA (setAt s.a dd (.v (.bool true))) o.dst (.v (.tuple #[])), s.H⟩) (d ⟨setAt s.a dd (.v (.bool false)), s.H⟩))
     (.ite b (d ⟨setAt s.a dd (.v (.bool true)), s.H⟩) (.ret ⟨putA (setAt s.a dd (.v (.bool false))) o.dst (.v (.tuple #[])), s.H⟩)) want
   | .v (.tuple _) => .ret ⟨putA s.a o.dst (.v (.tuple #[])), s.H⟩
   | _ => .fail).run = some s' := he
  have hset : ∀ b, c8 E s.a (.t dd) = .v (.bool b) → setAt s.a dd (.v (.bool b)) = s.a := fun b h => ad9 (E := E) (by simp) h
  revert he' hu2 hset
  generalize c8 E s.a (.t dd) = u
  intro hu2 he' hset
  split at he'
  ·rename_i b
   have hb := Fd4 hu2
   subst hb
   rw [pb2 hj hd hu1]
   have hs := hset b rfl
   cases want <;> cases b
   ·rw [hs] at he'; exact .inl ⟨rfl, he'⟩
   ·refine .inr ⟨rfl, ?_⟩
    rw [hs] at he'
    exact (Option.some.inj he').symm
   ·refine .inr ⟨rfl, ?_⟩
    rw [hs] at he'
    exact (Option.some.inj he').symm
   ·rw [hs] at he'; exact .inl ⟨rfl, he'⟩
  ·rename_i vs
   have hb := Fd4 hu2
   subst hb
   rw [ib5 hj hd hu1]
   exact .inr ⟨rfl, (Option.some.inj he').symm⟩
  ·cases he'
theorem mb1 {dst : Option Nat} {v : Value} (h : ∀ t ∈ S, ac.tmps[t]? = some rv) : ∀ t ∈ rmD S dst, (ac.put dst v).tmps[t]? = some rv := by
 intro t ht
 cases dst with
 | none => exact h t ht
 | some d =>
  simp only [rmD, List.mem_filter] at ht
  rw [tc2 fun e => by injection e with e; subst e; simp at ht]
  exact h t ht.1
theorem pe1 {Fe : Fence} {m i : Nat} {pr : List Nat} {so : SP} {g : Option (Nat × Bool)} {ops : Array Oper} {rest : List Nat} {Q : Exit → Act → World → Prop} (hF : FW Fe) (hG0 : GOk E F0 w0) (hJ : Zb7 K J) (hi : ops[i]? = some o)
  (hs : cSp E.P n pr o = some so) (hg : ca7 ops o = some g) (hgn : gOk n g = true) (hdn : dOk n o.dst = true) (hI : I3 E.P WB K J n S rv DF ρ0 H0 F0 w0 s ac w) (he : (md6 E s o.dst g so).run = some s')
  (hQ : ∀ ac' w', I3 E.P WB K J n (rmD S o.dst) rv DF ρ0 H0 F0 w0 s' ac' w' → wpOpsIn Fe m E.P ops Q rest ac' w') : wpOpsIn Fe m E.P ops Q (i :: rest) ac w := by
 obtain ⟨⟨ρ, F, W', up, hI2⟩, hheld, hdf⟩ := hI
 simp only [wpOpsIn, hi]
 rcases Jb8 hg hgn hI2.vals hI2.size he with ⟨hw, he⟩ | ⟨hw, rfl⟩
 ·rw [if_pos hw]
  obtain ⟨⟨x, H'⟩, h1, h2⟩ := DT.run_bind_some he
  have h2 : some (⟨putA s.a o.dst x, H'⟩ : St) = some s' := h2
  injection h2 with h2
  subst h2
  have hop := we9 (ac := { ac with defers := [] }) (ds := ac.defers) hI2.core hJ hI2.vals hI2.size (hG0.adv hI2.core.adv) hs h1
  refine hop.inAny hF m _ _ fun x' w' hp => ?_
  obtain ⟨ρ', F', W'', c1, c2, c3⟩ := hp
  exact hQ _ _ ⟨⟨ρ', F', W'', up, by rw [A2]; exact c1, (hI2.vals.tr c2).putA hI2.size hdn c3, (xa6 _ _).trans hI2.size⟩, mb1 hheld, by rw [A2]; exact hdf⟩
 ·rw [if_neg (by simp [hw])]
  refine ⟨fun f _ => hF.fn f, hQ _ _ ⟨⟨ρ, F, W', up, by rw [A2]; exact hI2.core, hI2.vals.putA hI2.size hdn (.w (.ofv _)), (xa6 _ _).trans hI2.size⟩, mb1 hheld, by rw [A2]; exact hdf⟩⟩
theorem Od2 {Fe : Fence} {m i d k : Nat} {ops : Array Oper} {rest : List Nat} {Q : Exit → Act → World → Prop} {xx : d7} (hF : FW Fe) (hG0 : GOk E F0 w0) (hcalls : ∀ f, j7 E.P E.G f (E.call f)) (hJ : Zb7 K J) (hi : ops[i]? = some o)
  (hc : tc4 S o = some d) (hdn : d < n) (hI : I3 E.P WB K J n S rv DF ρ0 H0 F0 w0 s ac w) (he : (M1 E k (.mask n [d] (.ops [⟨some d, none, [], .mv (.c .unk)⟩])) s).run = some (xx, s'))
  (hQ : xx = .normal → ∀ ac' w', I3 E.P WB K J n (d :: S) rv DF ρ0 H0 F0 w0 s' ac' w' → wpOpsIn Fe m E.P ops Q rest ac' w') : wpOpsIn Fe m E.P ops Q (i :: rest) ac w := by
 obtain ⟨⟨ρ, F, W', up, hI2⟩, hheld, hdf⟩ := hI
 unfold tc4 at hc
 split at hc
 case h_2 => cases hc
 rename_i t d' ho hg hd
 split at hc
 case isFalse => cases hc
 rename_i hS
 injection hc with hc
 subst hc
 have hS : t ∈ S := by simpa using hS
 have ht := hheld t hS
 simp only [wpOpsIn, hi]
 have hw : Region.wanted o (yielded ops ac.tmps) = true := by simp [Region.wanted, hg]
 rw [if_pos hw]
 have hop : j9 E.P o { ac with defers := [] } w (fun v w' => v = rv ∧ w' = w) := by
  have hev : ({ ac with defers := [] } : Act).eval (.tmp t) = rv := by
   show ac.tmps.getD t undef = rv
   have hlt := (Array.getElem?_eq_some_iff.1 ht).1
   have := (Array.getElem?_eq_some_iff.1 ht).2
   simp [Array.getD, hlt, this]
  exact .value (x' := rv) (w' := w) (by simp [execOp, ho, hev]) ⟨rfl, rfl⟩
 refine hop.inAny hF m _ _ fun v w' hp => ?_
 obtain ⟨rfl, rfl⟩ := hp
 have he' : ((M1 E k (.ops [⟨some d', none, [], .mv (.c .unk)⟩]) ⟨o7 (ga7 s.H) (I6 s.a n), p4 s.H⟩).bind fun r => .guard (ic9 s.H r.2.H) (.ret (r.1, ⟨za5 [d'] s.a r.2.a 0, B3 s.H r.2.H⟩))).run = some (xx, s') := he
 obtain ⟨⟨x1, s1⟩, h1, h2⟩ := DT.run_bind_some he'
 obtain ⟨hok, h2⟩ := DT.run_guard_some h2
 have h1 : some (d7.normal, (⟨putA (o7 (ga7 s.H) (I6 s.a n)) (some d') .unk, p4 s.H⟩ : St)) = some (x1, s1) := h1
 injection h1 with h1; injection h1 with e1 e2; subst e1 e2
 have h2 : some (d7.normal, (⟨za5 [d'] s.a (putA (o7 (ga7 s.H) (I6 s.a n)) (some d') .unk) 0, B3 s.H (p4 s.H)⟩ : St)) = some (xx, s') := h2
 injection h2 with h2; injection h2 with e1 e2; subst e1 e2
 obtain ⟨c1, c2⟩ := hI2.core.step hJ .refl hok hI2.core.hrel
 refine hQ rfl _ _ ⟨⟨_, F, W', up, by rw [A2]; exact c1, ⟨by rw [zb7]; have := hI2.vals.1; rw [List.length_append, Array.length_toList] at this ⊢; rw [xa6]; exact this, fun i y y' hy hy' => ?_⟩, (xa6 _ _).trans hI2.size⟩, fun u hu => ?_, by rw [A2]; exact hdf⟩
 ·simp only at hy
  rw [zb6] at hy
  cases hz : s.a[i]? with
  | none => rw [hz] at hy; cases hy
  | some z =>
   rw [hz] at hy
   injection hy with hy
   rw [Nat.zero_add] at hy
   by_cases hid : i = d'
   ·subst hid
    have hm : Na6 i [i] = true := (tc3 _ _).2 (by simp)
    rw [hm] at hy
    have hy : ((putA (o7 (ga7 s.H) (I6 s.a n)) (some i) .unk)[i]?).getD .unk = y := hy
    rw [Eb8] at hy
    simp only [List.getElem?_set] at hy
    have : y = .unk := by
     rw [← hy]
     simp only [if_true]
     split <;> rfl
    subst this
    exact .w (.unk _)
   ·have hm : Na6 i [d'] = false := by
     cases h : Na6 i [d'] with
     | false => rfl
     | true => exact absurd (by simpa using (tc3 _ _).1 h) hid
    rw [hm] at hy
    have hy : z = y := hy
    subst hy
    refine c2 _ _ (hI2.vals.2 i z y' hz ?_)
    rw [hd] at hy'
    simpa [Act.put, List.getElem?_append, Array.getElem?_setIfInBounds_ne, Ne.symm hid] using hy'
 ·by_cases hud : u = d'
  ·subst hud
   rw [hd]
   have hlt : u < ac.tmps.size := by have := hI2.size; omega
   simp [Act.put, hlt]
  ·rw [tc2 (fun e => hud (by rw [hd] at e; injection e with e; exact e.symm))]
   have : u ∈ S := by simpa [hud] using hu
   exact hheld u this
end
end Go.Ev
namespace Go.Ev
open Go
section
variable {P : Program} {k : Nat} {WB K : Nat → Prop} {J : List Value → World → Prop} {DF : List Deferred → Prop} {S : List Nat} {rv : Value} {ρ ρ0 : Rho} {H H0 H2 : List b8} {F F0 : Fz} {w w0 : World} {W' : Nat → Prop} {up : List Value} {E : Env} {R : List Nat} {n : Nat}
noncomputable def Od3 (H : List b8) (x : b7) (r : List Nat) : List Nat := match x with
 | .ptr id _ _ g => match blkAt H id g with
  | some _ => (ra9 r id).2
  | none => r
 | .sl id _ _ g => match blkAt H id g with
  | some _ => (ra9 r id).2
  | none => r
 | _ => r
theorem Od4 (H : List b8) (x : b7) (r : List Nat) (hr : TOk k r) : TOk k (Od3 H x r) ∧ TLe r (Od3 H x r) := by
 have step : ∀ id, TOk k (ra9 r id).2 ∧ TLe r (ra9 r id).2 := fun id => by
  obtain ⟨h1, h2, _⟩ := hr.idx (id := id) (j := (ra9 r id).1) (r := (ra9 r id).2) rfl
  exact ⟨h1, h2⟩
 unfold Od3
 split
 ·split
  ·exact step _
  ·exact ⟨hr, .refl _⟩
 ·split
  ·exact step _
  ·exact ⟨hr, .refl _⟩
 ·exact ⟨hr, .refl _⟩
theorem dd5 (H : List b8) : ∀ (cs : List b7) (r : List Nat), TOk k r → TOk k (vd3 H cs r) ∧ TLe r (vd3 H cs r)
 | [], r, hr => ⟨hr, .refl _⟩
 | x :: cs, r, hr => by
  have hx := Od4 H x r hr
  obtain ⟨h1, h2⟩ := dd5 H cs _ hx.1
  exact ⟨h1, hx.2.trans h2⟩
noncomputable def Od5 (H : List b8) (id : Nat) (r : List Nat) : List Nat := match nth H id with
 | some b => match B5 b && Nat.beq b.et 0 with
  | true => vd3 H (m0 b.elems 0) r
  | false => r
 | none => r
theorem Od6 (H : List b8) (id : Nat) (r : List Nat) (hr : TOk k r) : TOk k (Od5 H id r) ∧ TLe r (Od5 H id r) := by
 unfold Od5
 split
 ·split
  ·exact dd5 H _ r hr
  ·exact ⟨hr, .refl _⟩
 ·exact ⟨hr, .refl _⟩
theorem dd6 (H : List b8) : ∀ (ids : List Nat) (r : List Nat), TOk k r → TOk k (Ic5 H ids r) ∧ TLe r (Ic5 H ids r)
 | [], r, hr => ⟨hr, .refl _⟩
 | id :: ids, r, hr => by
  have hx := Od6 H id r hr
  obtain ⟨h1, h2⟩ := dd6 H ids _ hx.1
  exact ⟨h1, hx.2.trans h2⟩
noncomputable def xd3 (b : b8) : b8 := Bool.rec (motive := fun _ => b8) b { b with dead := true } (B5 b)
theorem ac6 (H : List b8) : p4 H = H.map xd3 := Za1 H
theorem qb2 : ∀ {R : List Nat} {j : Nat} {H2 : List b8}, xa4 k H j R = some H2 → xa4 k (p4 H) j R = some (p4 H2)
 | [], j, H2, h => by
  simp only [xa4] at h ⊢
  injection h with h
  subst h
  rfl
 | id :: R, j, H2, h => by
  simp only [xa4, A0] at h ⊢
  cases hb : H[id]? with
  | none => simp [hb] at h
  | some b =>
  simp only [hb] at h
  cases hr : xa4 k H (j + 1) R with
  | none => simp [hr] at h
  | some l =>
  simp only [hr] at h
  injection h with h
  subst h
  have e : (p4 H)[id]? = some (xd3 b) := by rw [ac6, List.getElem?_map, hb]; rfl
  rw [e, qb2 hr]
  simp only [ac6, List.map_cons]
  congr 2
  unfold xd3
  cases Nat.blt j k <;> cases hs : B5 b <;> simp [B5] at hs ⊢ <;> simp [hs]
theorem be0 (x : b7) : TC k H R x (Jd2 k H R x) := by
 unfold Jd2
 split
 ·rename_i id i c g
  split
  ·rename_i b hb
   split
   ·rename_i j hj
    have := (Va0 R 0 id j hj).2
    exact .ptr id i c g j b hb (by simpa using this)
   ·exact .unk _
  ·exact .unk _
 ·rename_i id off n g
  split
  ·rename_i b hb
   split
   ·rename_i j hj
    have := (Va0 R 0 id j hj).2
    exact .sl id off n g j b hb (by simpa using this)
   ·exact .unk _
  ·exact .unk _
 ·rename_i h1 h2
  refine .same x ?_
  cases x <;> first | exact trivial | (exact (h1 _ _ _ _ rfl).elim) | (exact (h2 _ _ _ _ rfl).elim)
theorem nc7 {x z : b7} {x' : Value} (h : TC k H R x z) (hx : X9 ρ (p4 H) F w x x') : TC k (p4 H) R x z := by
 cases h with
 | unk => exact .unk _
 | ptr id i c g j b hb hj =>
  obtain ⟨hb1, hd1, hg1⟩ := s7 hb
  obtain ⟨ad, b2, e, m1, m2, m3, m4⟩ := Ea4 (.val (.cell hx))
  obtain ⟨n1, n2⟩ := ia7 m1 m2
  have : b2 = b := Option.some.inj (n1.symm.trans hb1)
  subst this
  exact .ptr id i c g j b2 (by unfold blkAt; simp only [A0, m1, m2, hg1]; simp) hj
 | sl id off n g j b hb hj =>
  obtain ⟨hb1, hd1, hg1⟩ := s7 hb
  obtain ⟨ad, cap, b2, e, m1, m2, m3, _⟩ := Ba1 (.val (.cell hx))
  obtain ⟨n1, n2⟩ := ia7 m1 m2
  have : b2 = b := Option.some.inj (n1.symm.trans hb1)
  subst this
  exact .sl id off n g j b2 (by unfold blkAt; simp only [A0, m1, m2, hg1]; simp) hj
 | same x h => exact .same x h
theorem xd4 {x z : b7} {x' : Value} (h : TV k H R x z) (hx : ca5 ρ (p4 H) F w x x') : TV k (p4 H) R x z := by
 cases h with
 | cell hb h =>
  cases hx with
  | cell hx => exact .cell hb (nc7 h hx)
  | _ => cases hb
 | agg cs ds hl h =>
  obtain ⟨vs, e, hl2, h2⟩ := za6 (.val hx)
  refine .agg cs ds hl fun i x z hx hz => ?_
  have hi : i < vs.size := hl2 ▸ (List.getElem?_eq_some_iff.1 hx).1
  exact nc7 (h i x z hx hz) (h2 i x _ hx (Array.getElem?_eq_getElem hi))
 | fn f cs ds hl h =>
  obtain ⟨vs, e, hl2, h2⟩ := ob9 (.val hx)
  refine .fn f cs ds hl fun i x z hx hz => ?_
  have hi : i < vs.size := hl2 ▸ (List.getElem?_eq_some_iff.1 hx).1
  exact nc7 (h i x z hx hz) (h2 i x _ hx (Array.getElem?_eq_getElem hi))
 | tup l => exact .tup l
theorem be1 {x z : b7} {x' : Value} (h : TW k H R x z) (hx : B0 ρ (p4 H) F w x x') : TW k (p4 H) R x z := by
 cases h with
 | val hn h =>
  cases hx with
  | val hx => exact .val hn (xd4 h hx)
  | tup cs vs hl h2 => exact absurd rfl (hn cs)
 | tup cs ds hl h =>
  obtain ⟨vs, e, hl2, h2⟩ := Oc6 hx
  refine .tup cs ds hl fun i x z hx hz => ?_
  have hi : i < vs.size := hl2 ▸ (List.getElem?_eq_some_iff.1 hx).1
  exact xd4 (h i x z hx hz) (h2 i x _ hx (Array.getElem?_eq_getElem hi))
theorem Lc3 {b : b8} (h : B5 b = false) : Ea2 k H R b = b := by unfold Ea2; rw [h]; rfl
theorem qb3 (b : b8) : (Ea2 k H R b).et = b.et ∧ (Ea2 k H R b).es = b.es ∧ (Ea2 k H R b).dead = b.dead ∧ (Ea2 k H R b).g = b.g ∧ (Ea2 k H R b).elems.length = b.elems.length ∧ B5 (Ea2 k H R b) = B5 b := by
 unfold Ea2
 cases B5 b && Nat.beq b.et 0
 ·exact ⟨rfl, rfl, rfl, rfl, rfl, rfl⟩
 ·refine ⟨rfl, rfl, rfl, rfl, by simp [o6], rfl⟩
section
variable (hR : TOk k R) (hb : xa4 k H 0 R = some H2)
include hR hb
theorem Rc4 {j : Nat} {c : b8} (hc : (o7 (Ea2 k H R) H2)[j]? = some c) : ∃ id b, R[j]? = some id ∧ (R[j]?).getD 0 = id ∧ H[id]? = some b ∧ c = Ea2 k H R (reG k j b) := by
 rw [o6, List.getElem?_map] at hc
 cases h : H2[j]? with
 | none => rw [h] at hc; cases hc
 | some c2 =>
  rw [h] at hc
  injection hc with hc
  obtain ⟨id, b, h1, h2, h3, h4⟩ := Qb5 hb h
  exact ⟨id, b, h1, h2, h3, by rw [← hc, h4]⟩
theorem Od7 {j id : Nat} {b : b8} (hj : R[j]? = some id) (hid : H[id]? = some b) : (o7 (Ea2 k H R) H2)[j]? = some (Ea2 k H R (reG k j b)) := by
 obtain ⟨_, hat⟩ := xb8 hb
 obtain ⟨b', h1, h2⟩ := hat j id hj
 have : b' = b := Option.some.inj (h1.symm.trans hid)
 subst this
 rw [Nat.zero_add] at h2
 rw [o6, List.getElem?_map, h2]
 rfl
theorem tc5 (j : Nat) (b : b8) : B5 (reG k j b) = B5 b := by unfold B5; rw [Ya6]
theorem Lc4 : Kc5 (fun j => ρ ((R[j]?).getD 0)) (p4 H2) (fun j => ρ ((R[j]?).getD 0)) (p4 (o7 (Ea2 k H R) H2)) := fun j b hb' hd => by
 obtain ⟨h1, h2⟩ := ia7 hb' hd
 refine ⟨b, ga0 ?_ h2, hd, Nat.le_refl _, fun _ => ⟨rfl, rfl, Nat.le_refl _⟩⟩
 rw [o6, List.getElem?_map, h1]
 simp [Lc3 h2]
theorem xe0 {x z : b7} {x' : Value} (h : TC k H R x z) (hx : X9 ρ (p4 H) F w x x') : X9 (fun j => ρ ((R[j]?).getD 0)) (p4 (o7 (Ea2 k H R) H2)) F w z x' :=
 (Eb7 (qb2 hb) (nc7 h hx) hx).carry (Lc4 hR hb) (fun _ _ h => h) (fun _ _ _ => rfl)
theorem ie7 {x z : b7} {x' : Value} (h : TW k H R x z) (hx : B0 ρ (p4 H) F w x x') : B0 (fun j => ρ ((R[j]?).getD 0)) (p4 (o7 (Ea2 k H R) H2)) F w z x' :=
 (Pc5 (qb2 hb) (be1 h hx) hx).carry (Lc4 hR hb) (fun _ _ h => h) (fun _ _ _ => rfl)
theorem qd9 {x z : b7} {x' : Value} (h : TC k H R x z) (hx : XC ρ H F w x x') : XW (fun j => ρ ((R[j]?).getD 0)) (o7 (Ea2 k H R) H2) F w z x' ∧ (XC (fun j => ρ ((R[j]?).getD 0)) (o7 (Ea2 k H R) H2) F w z x') := by
 have main : XC (fun j => ρ ((R[j]?).getD 0)) (o7 (Ea2 k H R) H2) F w z x' := by
  cases hx with
  | n hx => exact .n (xe0 hR hb h hx)
  | box id c g b hb1 hd he =>
   cases h with
   | unk => exact .n (.unk _)
   | ptr _ _ _ _ j b2 hb2 hj =>
    have e : ρ id = (fun j => ρ ((R[j]?).getD 0)) j := by simp [hj]
    rw [e]
    obtain ⟨q1, q2, q3, q4, q5, q6⟩ := qb3 (k := k) (H := H) (R := R) (reG k j b)
    exact .box j c _ _ (Od7 hR hb hj hb1) (by rw [q3, xa5]; exact hd) ⟨by rw [q2, Ya6]; exact he.1, by rw [q1, Mb1]; exact he.2⟩
   | same _ hs => exact hs.elim
  | map id c g b t hb1 hd he =>
   cases h with
   | unk => exact .n (.unk _)
   | ptr _ _ _ _ j b2 hb2 hj =>
    have e : ρ id = (fun j => ρ ((R[j]?).getD 0)) j := by simp [hj]
    rw [e]
    obtain ⟨q1, q2, q3, q4, q5, q6⟩ := qb3 (k := k) (H := H) (R := R) (reG k j b)
    exact .map j c _ _ t (Od7 hR hb hj hb1) (by rw [q3, xa5]; exact hd) ⟨by rw [q2, Ya6]; exact he.1, by rw [q1, Mb1]; exact he.2⟩
   | same _ hs => exact hs.elim
 exact ⟨.c main, main⟩
theorem pe2 {x z : b7} {x' : Value} (h : TW k H R x z) (hx : XW ρ H F w x x') : XW (fun j => ρ ((R[j]?).getD 0)) (o7 (Ea2 k H R) H2) F w z x' := by
 cases hx with
 | w hx => exact .w (ie7 hR hb h hx)
 | c hx =>
  have hx0 := hx
  cases hx with
  | n hx => exact .w (ie7 hR hb h (.val (.cell hx)))
  | box =>
   cases h with
   | val _ h => cases h with
    | cell _ h => exact (qd9 hR hb h hx0).1
  | map =>
   cases h with
   | val _ h => cases h with
    | cell _ h => exact (qd9 hR hb h hx0).1
theorem Od8 (h : Md4 P WB W' ρ H F w) : Md4 P WB W' (fun j => ρ ((R[j]?).getD 0)) (o7 (Ea2 k H R) H2) F w := by
 refine ⟨fun j c hc hs hd => ?_, fun j j' c c' hc hc' hs hs' hd hd' hne => ?_⟩
 ·obtain ⟨id, b, h1, h2, h3, h4⟩ := Rc4 hR hb hc
  subst h4
  obtain ⟨q1, q2, q3, q4, q5, q6⟩ := qb3 (k := k) (H := H) (R := R) (reG k j b)
  rw [q6, tc5 hR hb] at hs
  rw [q3, xa5] at hd
  obtain ⟨k1, k2, k3, k4, k5⟩ := h.has id b h3 hs hd
  simp only [h2]
  refine ⟨k1, k2, k3, k4, ?_⟩
  rcases k5 with ⟨e, row, vs, t, m1, m2, m3, m4⟩ | ⟨t, K, El, fl, es, clk, m1, m2, m3, m4, m5, m6⟩
  ·refine .inl ⟨⟨by rw [q2, Ya6]; exact e.1, by rw [q1, Mb1]; exact e.2⟩, row.map (Jd2 k H R), vs, t, ?_, m2, by simpa using m3, fun i z x' hz hx' => ?_⟩
   ·unfold Ea2
    have : (B5 (reG k j b) && Nat.beq (reG k j b).et 0) = true := by rw [tc5 hR hb, hs, Mb1, e.2]; rfl
    rw [this]
    show o7 (o7 (Jd2 k H R)) (reG k j b).elems = _
    rw [Ca8, m1, o6]
    simp [o6]
   ·rw [List.getElem?_map] at hz
    cases hq : row[i]? with
    | none => rw [hq] at hz; cases hz
    | some q =>
     rw [hq] at hz
     injection hz with hz
     subst hz
     obtain ⟨g1, g2⟩ := m4 i q x' hq hx'
     exact ⟨g1, (qd9 hR hb (be0 q) g2).2⟩
  ·have hnb : Ea2 k H R (reG k j b) = reG k j b := by
    unfold Ea2
    have : (B5 (reG k j b) && Nat.beq (reG k j b).et 0) = false := by
     rw [Mb1, m1.2, Bool.and_eq_false_iff]; exact .inr rfl
    rw [this]
   rw [hnb]
   exact .inr ⟨t, K, El, fl, es, clk, ⟨by rw [Ya6]; exact m1.1, by rw [Mb1]; exact m1.2⟩, m2, m3, m4, by rw [Ca8]; exact m5, by rw [Ca8]; exact m6⟩
 ·obtain ⟨id, b, h1, h2, h3, h4⟩ := Rc4 hR hb hc
  obtain ⟨id', b', h1', h2', h3', h4'⟩ := Rc4 hR hb hc'
  subst h4 h4'
  obtain ⟨_, _, q3, _, _, q6⟩ := qb3 (k := k) (H := H) (R := R) (reG k j b)
  obtain ⟨_, _, q3', _, _, q6'⟩ := qb3 (k := k) (H := H) (R := R) (reG k j' b')
  rw [q6, tc5 hR hb] at hs
  rw [q6', tc5 hR hb] at hs'
  rw [q3, xa5] at hd
  rw [q3', xa5] at hd'
  simp only [h2, h2']
  refine h.apart id id' b b' h3 h3' hs hs' hd hd' fun e => hne ?_
  subst e
  obtain ⟨a1, a2⟩ := List.getElem?_eq_some_iff.1 h1
  obtain ⟨b1, b2⟩ := List.getElem?_eq_some_iff.1 h1'
  exact (List.getElem_inj hR.nodup).1 (a2.trans b2.symm)
end
theorem pe3 {ds : List Deferred} (hR : TOk H0.length R) (hb : xa4 H0.length H 0 R = some H2) (h : C2 P WB K J ρ0 H0 F0 w0 H ds w ρ F W' up) : C2 P WB K J ρ0 H0 F0 w0 (o7 (Ea2 H0.length H R) H2) ds w (fun j => ρ ((R[j]?).getD 0)) F W' up := by
 have hAd := Qb6 hR hb h.adv
 have hat : ∀ (j : Nat) c, H2[j]? = some c → (o7 (Ea2 H0.length H R) H2)[j]? = some (Ea2 H0.length H R c) := fun j c hc => by rw [o6, List.getElem?_map, hc]; rfl
 refine ⟨h.sub, ⟨hAd.ext, fun id b hid => ?_, hAd.more, hAd.new, fun id b' hb' hn => ?_⟩, ?_, Od8 hR hb h.srel, h.kept, fun j c hc hs hd => ?_, h.jot, h.marks⟩
 ·obtain ⟨b', k1, k2, k3, k4⟩ := hAd.heap id b hid
  obtain ⟨q1, q2, q3, q4, q5, q6⟩ := qb3 (k := H0.length) (H := H) (R := R) b'
  exact ⟨_, hat id b' k1, q3.trans k2, by rw [q4]; exact k3, fun hg => by rw [q2, q5]; exact k4 (q4 ▸ hg)⟩
 ·rw [o6, List.getElem?_map] at hb'
  cases hq : H2[id]? with
  | none => rw [hq] at hb'; cases hb'
  | some c =>
   rw [hq] at hb'
   injection hb' with hb'
   subst hb'
   obtain ⟨_, _, _, q4, _, _⟩ := qb3 (k := H0.length) (H := H) (R := R) c
   exact hAd.fresh id c hq fun b hb1 => by rw [← q4]; exact hn b hb1
 ·refine (Eb6 hR h.hrel (qb2 hb)).pull (fun i => i) (fun i b hb1 hd => ?_) (fun _ _ _ _ _ _ _ _ e => e)
  obtain ⟨h1, h2⟩ := ia7 hb1 hd
  rw [o6, List.getElem?_map] at h1
  cases hq : H2[i]? with
  | none => rw [hq] at h1; cases h1
  | some c =>
   rw [hq] at h1
   injection h1 with h1
   have hsc : B5 c = false := by
    obtain ⟨_, _, _, _, _, q6⟩ := qb3 (k := H0.length) (H := H) (R := R) c
    rw [← q6, h1]; exact h2
   rw [Lc3 hsc] at h1
   subst h1
   exact ⟨ga0 hq hsc, rfl⟩
 ·obtain ⟨id, b, h1, h2, h3, h4⟩ := Rc4 hR hb hc
  subst h4
  obtain ⟨_, _, q3, _, _, q6⟩ := qb3 (k := H0.length) (H := H) (R := R) (reG H0.length j b)
  rw [q6, tc5 hR hb] at hs
  rw [q3, xa5] at hd
  simp only [h2]
  exact h.far id b h3 hs hd
theorem I3.tidyM {s s' : St} {ac : Act} {keep : List Nat} (h : I3 P WB K J n S rv DF ρ0 H0 F0 w0 s ac w) (he : (Ev.tidyM H0.length ⟨J9 keep s.a 0, s.H⟩).run = some s') : I3 P WB K J n S rv DF ρ0 H0 F0 w0 s' ac w := by
 obtain ⟨⟨ρ, F, W', up, hI⟩, hheld, hdf⟩ := h
 unfold Ev.tidyM at he
 cases ht : Pb1 H0.length s.H (J9 keep s.a 0) (List.range H0.length) with
 | mk a roots =>
 simp only [ht] at he
 cases hb : xa4 H0.length s.H 0 (Ic5 s.H roots roots) with
 | none => simp [hb] at he
 | some H2 =>
 simp only [hb] at he
 have he' : some (⟨a, o7 (Ea2 H0.length s.H (Ic5 s.H roots roots)) H2⟩ : St) = some s' := he
 injection he' with he'
 subst he'
 obtain ⟨k1, _, k3, k4⟩ := qc2 (TOk.start _) ht
 obtain ⟨m1, m2⟩ := dd6 s.H roots roots k1
 obtain ⟨g1, g2⟩ := xb9 keep s.a 0
 refine ⟨⟨_, F, W', up, pe3 m1 hb hI.core, ⟨(k3.trans g1).trans hI.vals.1, fun i x x' hx hx' => ?_⟩, hI.size⟩, hheld, hdf⟩
 have hi : i < (J9 keep s.a 0).length := k3 ▸ (List.getElem?_eq_some_iff.1 hx).1
 have hk := k4 i _ x (List.getElem?_eq_getElem hi) hx
 refine pe2 m1 hb (hk.le m2) ?_
 rcases g2 i _ (List.getElem?_eq_getElem hi) with e | e
 ·rw [e]; exact .w (.unk _)
 ·exact hI.vals.2 i _ x' e hx'
end
end Go.Ev
namespace Go.Ev
open Go
section
variable {WB K : Nat → Prop} {J : List Value → World → Prop} {DF : List Deferred → Prop} {S S0 : List Nat} {rv : Value} {ρ ρ0 : Rho} {H H0 H' : List b8} {F F0 : Fz} {w w0 w' : World} {W' : Nat → Prop} {up : List Value} {E : Env} {n m : Nat} {Fe : Fence} {pr : List Nat} {yl : Option Rd} {kp : Nat → List Nat} {rf : Operand → Array Tmp → Code → Code → PC}
def YOk (E : Env) (Fe : Fence) (m n k : Nat) (rd : Rd) (I : List Nat → St → Act → World → Prop) : Prop :=
 ∀ (ops : Array Oper) (i : Nat) (o : Oper) (S : List Nat) (args : List Operand) (g : Option (Nat × Bool)) (s s' : St) (xx : d7) (ac : Act) (w : World) (rest : List Nat) (Q : Exit → Act → World → Prop),
  ops[i]? = some o → Sb2 S o = some args → ca7 ops o = some g → gOk n g = true → dOk n o.dst = true → args.all (ltO n) = true → args.length = rd.ps.length → I S s ac w →
  (M1 E k (.round o.dst g (args.map i5) n rd.nOut rd.ps rd.as rd.body) s).run = some (xx, s') → (xx = .normal → ∀ ac' w', I (rmD S o.dst) s' ac' w' → wpOpsIn Fe m E.P ops Q rest ac' w') → wpOpsIn Fe m E.P ops Q (i :: rest) ac w
def xe1 (E : Env) (Fe : Fence) (m k : Nat) (rf : Operand → Array Tmp → Code → Code → PC) (I : St → Act → World → Prop) : Prop :=
 ∀ (g : Operand) (ps : Array Tmp) (as body : Code) (s s' : St) (x : d7) (ac : Act) (w : World) (Q : Exit → Act → World → Prop), (M1 E k (rf g ps as body) s).run = some (x, s') → I s ac w →
  (∀ ac' w', I s' ac' w' → Q (toX x) ac' w') → (Code.rangeFunc g ps as body).wpIn Fe m E.P Q ac w
theorem I3.less {P : Program} {s : St} {ac : Act} (h : I3 P WB K J n S rv DF ρ0 H0 F0 w0 s ac w) (hs : ae9 S0 S = true) : I3 P WB K J n S0 rv DF ρ0 H0 F0 w0 s ac w := by
 refine ⟨h.inv, fun t ht => h.held t ?_, h.df⟩
 unfold ae9 at hs
 rw [List.all_eq_true] at hs
 simpa using hs t ht
theorem dd7 {k : Nat} {l : List PI} {dd : List Nat} {s s' : St} {x : d7} (he : (M1 E k (.mask n dd (.ops l)) s).run = some (x, s')) : x = .normal := by
 have he' : ((M1 E k (.ops l) ⟨o7 (ga7 s.H) (I6 s.a n), p4 s.H⟩).bind fun r => .guard (ic9 s.H r.2.H) (.ret (r.1, ⟨za5 dd s.a r.2.a 0, B3 s.H r.2.H⟩))).run = some (x, s') := he
 obtain ⟨⟨x1, s1⟩, h1, h2⟩ := DT.run_bind_some he'
 obtain ⟨_, h2⟩ := DT.run_guard_some h2
 have h2 : some (x1, (⟨za5 dd s.a s1.a 0, B3 s.H s1.H⟩ : St)) = some (x, s') := h2
 injection h2 with h2; injection h2 with e1 _; subst e1
 obtain ⟨s2, _, h4⟩ := DT.run_bind_some (show ((K5 E l ⟨o7 (ga7 s.H) (I6 s.a n), p4 s.H⟩).bind fun s => .ret (d7.normal, s)).run = some (x1, s1) from h1)
 have h4 : some (d7.normal, s2) = some (x1, s1) := h4
 injection h4 with h4; injection h4 with e1 _
 exact e1.symm
theorem Sb5 {k : Nat} {a b : PC} {s s' : St} {x : d7} (he : (M1 E k (.seq a b) s).run = some (x, s')) : ∃ x1 s1, (M1 E k a s).run = some (x1, s1) ∧ (x1 = .normal → (M1 E k b s1).run = some (x, s')) ∧ (x1 ≠ .normal → x1 = x ∧ s1 = s') := by
 obtain ⟨⟨x1, s1⟩, h1, h2⟩ := DT.run_bind_some (show ((M1 E k a s).bind fun r => d7.rec (motive := fun _ => DT (d7 × St)) (M1 E k b r.2) (fun id => .ret (.exit id, r.2)) (.ret (.ret, r.2)) r.1).run = some (x, s') from he)
 refine ⟨x1, s1, h1, fun e => by subst e; exact h2, fun e => ?_⟩
 cases x1 with
 | normal => exact absurd rfl e
 | exit id =>
  have h2 : some (d7.exit id, s1) = some (x, s') := h2
  injection h2 with h2; injection h2 with e1 e2; exact ⟨e1, e2⟩
 | ret =>
  have h2 : some (d7.ret, s1) = some (x, s') := h2
  injection h2 with h2; injection h2 with e1 e2; exact ⟨e1, e2⟩
section
variable (hF : FW Fe) (hG0 : GOk E F0 w0) (hcalls : ∀ f, j7 E.P E.G f (E.call f)) (hJ : Zb7 K J) (hyl : ∀ rd, yl = some rd → YOk E Fe m n H0.length rd fun S => I3 E.P WB K J n S rv DF ρ0 H0 F0 w0)
include hF hG0 hcalls hJ hyl
theorem mb2 {ops : Array Oper} {Q : Exit → Act → World → Prop} : ∀ (f : Nat) (r : List Oper) (S : List Nat) (k : Nat) (s : St) (x : d7) (s' : St) (ac : Act) (w : World), ops.toList.drop k = r → I3 E.P WB K J n S rv DF ρ0 H0 F0 w0 s ac w →
  (M1 E H0.length (dd3 E.P n pr yl S0 ops f r S) s).run = some (x, s') → (∀ ac' w', I3 E.P WB K J n S0 rv DF ρ0 H0 F0 w0 s' ac' w' → Q (toX x) ac' w') → wpOpsIn Fe m E.P ops Q (List.range' k r.length) ac w
 | 0, r, S, k, s, x, s', ac, w, hr, hI, he, hQ => by cases he
 | f + 1, [], S, k, s, x, s', ac, w, hr, hI, he, hQ => by
  simp only [dd3] at he
  cases hs : ae9 S0 S with
  | false => rw [hs] at he; cases he
  | true =>
   rw [hs] at he
   have he : some (d7.normal, s) = some (x, s') := he
   injection he with he; injection he with e1 e2; subst e1 e2
   exact hQ ac w (hI.less hs)
 | f + 1, o :: r, S, k, s, x, s', ac, w, hr, hI, he, hQ => by
  have hi : ops[k]? = some o := by
   have : (ops.toList.drop k)[0]? = some o := by rw [hr]; rfl
   simpa using this
  have hr1 : ops.toList.drop (k + 1) = r := by rw [← List.drop_drop, hr]; rfl
  have hrange : List.range' k (o :: r).length = k :: List.range' (k + 1) r.length := by
   rw [show (o :: r).length = r.length + 1 from rfl, List.range'_succ]
  simp only [dd3] at he
  cases hy : Sb2 S o with
  | some args =>
   rw [hy] at he
   simp only at he
   cases hyl' : yl with
   | none => rw [hyl'] at he; cases he
   | some rd =>
   cases hg : ca7 ops o with
   | none => rw [hyl', hg] at he; cases he
   | some g =>
   rw [hyl', hg] at he
   simp only at he
   split at he
   case h_2 => cases he
   rename_i hc
   simp only [Bool.and_eq_true] at hc
   obtain ⟨x1, s1, h1, h2, h3⟩ := Sb5 he
   rw [hrange]
   refine hyl rd hyl' ops k o S args g s s1 x1 ac w _ Q hi hy hg hc.1.1.1 hc.1.1.2 hc.1.2 (Nat.eq_of_beq_eq_true hc.2) hI h1 fun hx ac' w' hI' => ?_
   have h4 := h2 hx
   rw [← hyl'] at h4
   exact mb2 f r _ (k + 1) s1 x s' ac' w' hr1 hI' h4 hQ
  | none =>
  rw [hy] at he
  simp only at he
  cases hcp : tc4 S o with
  | some d =>
   rw [hcp] at he
   simp only at he
   split at he
   case h_2 => cases he
   rename_i hd
   rw [Nat.blt_eq] at hd
   obtain ⟨x1, s1, h1, h2, h3⟩ := Sb5 he
   rw [hrange]
   refine Od2 hF hG0 hcalls hJ hi hcp hd hI h1 fun hx ac' w' hI' => ?_
   exact mb2 f r _ (k + 1) s1 x s' ac' w' hr1 hI' (h2 hx) hQ
  | none =>
  rw [hcp] at he
  simp only at he
  cases hsp : cSp E.P n pr o with
  | some so =>
   rw [hsp] at he
   simp only at he
   cases hg : ca7 ops o with
   | none => rw [hg] at he; cases he
   | some g =>
   rw [hg] at he
   simp only at he
   split at he
   case h_2 => cases he
   rename_i hc
   rw [Bool.and_eq_true] at hc
   obtain ⟨x1, s1, h1, h2, h3⟩ := Sb5 he
   obtain ⟨s2, k1, k2⟩ := DT.run_bind_some (show ((md6 E s o.dst g so).bind fun s => .ret (d7.normal, s)).run = some (x1, s1) from h1)
   have k2 : some (d7.normal, s2) = some (x1, s1) := k2
   injection k2 with k2; injection k2 with e1 e2; subst e1 e2
   rw [hrange]
   refine pe1 hF hG0 hJ hi hsp hg hc.1 hc.2 hI k1 fun ac' w' hI' => ?_
   exact mb2 f r _ (k + 1) s2 x s' ac' w' hr1 hI' (h2 rfl) hQ
  | none =>
  rw [hsp] at he
  simp only at he
  generalize hm : ac0 (dd2 E.P n pr S) r = q at he
  cases hl : Hb3 E.P ops (o :: r.take q) with
  | none => rw [hl] at he; cases he
  | some l =>
  rw [hl] at he
  simp only at he
  obtain ⟨x1, s1, h1, h2, h3⟩ := Sb5 he
  have hx1 := dd7 h1
  subst hx1
  have hsplit : o :: r = (o :: r.take q) ++ r.drop q := by rw [List.cons_append, List.take_append_drop]
  have hlen : (o :: r).length = (o :: r.take q).length + (r.drop q).length := by rw [← List.length_append, ← hsplit]
  have hrange2 : List.range' k (o :: r).length = List.range' k (o :: r.take q).length ++ List.range' (k + (o :: r.take q).length) (r.drop q).length := by
   rw [hlen, ← List.range'_append_1]
  rw [hrange2]
  obtain ⟨hinv, hheld, hdf⟩ := hI
  refine (ae4 (x := .normal) (s' := s1) hF hG0 hcalls hJ (r := o :: r.take q) (l := l) (dd := Rc2 (o :: r.take q)) ⟨r.drop q, by rw [hr]; exact hsplit⟩ (fun o' ho' d hd => ?_) hl hinv h1 fun ac' w' hI' hd' hsm => ?_).2
  ·unfold Rc2
   exact List.mem_filterMap.2 ⟨o', ho', hd⟩
  ·refine mb2 f (r.drop q) _ (k + (o :: r.take q).length) s1 x s' ac' w' ?_ ⟨hI', fun t ht => ?_, by rw [hd']; exact hdf⟩ (h2 rfl) hQ
   ·rw [← List.drop_drop, hr, hsplit, List.drop_left]
   ·rw [List.mem_filter] at ht
    rw [hsm t (by simpa using ht.2)]
    exact hheld t ht.1
theorem gc5 {c : Code} {y : PC} {keep : List Nat} (ih : ∀ (s : St) (x : d7) (s' : St), (M1 E H0.length y s).run = some (x, s') → ∀ (ac : Act) (w : World) (Q : Exit → Act → World → Prop), I3 E.P WB K J n S0 rv DF ρ0 H0 F0 w0 s ac w →
  (∀ ac' w', I3 E.P WB K J n S0 rv DF ρ0 H0 F0 w0 s' ac' w' → Q (toX x) ac' w') → c.wpIn Fe m E.P Q ac w) :
  ∀ (nn : Nat) (s : St) (x : d7) (s' : St), (vb0 (fun s => tidyM H0.length ⟨J9 keep s.a 0, s.H⟩) (M1 E H0.length y) nn s).run = some (x, s') → ∀ (ac : Act) (w : World) (Q : Exit → Act → World → Prop), I3 E.P WB K J n S0 rv DF ρ0 H0 F0 w0 s ac w →
  (∀ ac' w', I3 E.P WB K J n S0 rv DF ρ0 H0 F0 w0 s' ac' w' → Q (toX x) ac' w') → Code.roundsIn Fe m E.P c Q nn ac w
 | 0, s, x, s', he, ac, w, Q, hI, hQ => by cases he
 | nn + 1, s, x, s', he, ac, w, Q, hI, hQ => by
  have he' : ((tidyM H0.length ⟨J9 keep s.a 0, s.H⟩).bind fun s => (M1 E H0.length y s).bind fun r =>
   d7.rec (motive := fun _ => DT (d7 × St)) (vb0 (fun s => tidyM H0.length ⟨J9 keep s.a 0, s.H⟩) (M1 E H0.length y) nn r.2) (fun id => .ret (.exit id, r.2)) (.ret (.ret, r.2)) r.1).run = some (x, s') := he
  obtain ⟨s1, h1, h2⟩ := DT.run_bind_some he'
  obtain ⟨⟨x2, s2⟩, h3, h4⟩ := DT.run_bind_some h2
  have hI1 := hI.tidyM h1
  rw [roundsIn_succ]
  refine ih s1 x2 s2 h3 ac w _ hI1 fun ac' w' hI2 => ?_
  cases x2 with
  | normal => exact gc5 ih nn s2 x s' h4 ac' w' Q hI2 hQ
  | exit id =>
   have h4' : some (d7.exit id, s2) = some (x, s') := h4
   injection h4' with h4'; injection h4' with e1 e2; subst e1 e2
   exact hQ _ _ hI2
  | ret =>
   have h4' : some (d7.ret, s2) = some (x, s') := h4
   injection h4' with h4'; injection h4' with e1 e2; subst e1 e2
   exact hQ _ _ hI2
theorem Mb7 (hrf : xe1 E Fe m H0.length rf (I3 E.P WB K J n S0 rv DF ρ0 H0 F0 w0)) : ∀ (c : Code) (cur : Nat) (s : St) (x : d7) (s' : St), (M1 E H0.length (sa4 E.P n pr yl S0 kp rf cur c) s).run = some (x, s') → ∀ (ac : Act) (w : World) (Q : Exit → Act → World → Prop), I3 E.P WB K J n S0 rv DF ρ0 H0 F0 w0 s ac w →
  (∀ ac' w', I3 E.P WB K J n S0 rv DF ρ0 H0 F0 w0 s' ac' w' → Q (toX x) ac' w') → c.wpIn Fe m E.P Q ac w := by
 intro c
 induction c with
 | skip =>
  intro cur s x s' he ac w Q hI hQ
  have he' : some (d7.normal, s) = some (x, s') := he
  injection he' with he'; injection he' with e1 e2; subst e1 e2
  exact wpIn_skip (hQ _ _ hI)
 | region id ops d =>
  intro cur s x s' he ac w Q hI hQ
  cases d with
  | true => cases he
  | false =>
   refine wpIn_region ?_
   rw [List.range_eq_range']
   have := mb2 (Q := Q) hF hG0 hcalls hJ hyl (ops.size + 1) ops.toList S0 0 s x s' ac w rfl hI he hQ
   simpa using this
 | seq a b iha ihb =>
  intro cur s x s' he ac w Q hI hQ
  obtain ⟨x1, s1, h1, h2, h3⟩ := Sb5 he
  refine wpIn_seq (iha cur s x1 s1 h1 ac w _ hI fun ac' w' hI' => ?_)
  cases x1 with
  | normal => exact ihb cur s1 x s' (h2 rfl) ac' w' Q hI' hQ
  | exit id =>
   obtain ⟨rfl, rfl⟩ := h3 (by simp)
   exact hQ _ _ hI'
  | ret =>
   obtain ⟨rfl, rfl⟩ := h3 (by simp)
   exact hQ _ _ hI'
 | cond c a b iha ihb =>
  intro cur s x s' he ac w Q hI hQ
  simp only [sa4] at he
  split at he
  case h_2 => cases he
  rename_i hc
  have he' : (match c8 E s.a (i5 c) with
   | .v (.bool t) => DT.ite t (M1 E H0.length (sa4 E.P n pr yl S0 kp rf cur a) s) (M1 E H0.length (sa4 E.P n pr yl S0 kp rf cur b) s)
   | _ => DT.fail).run = some (x, s') := he
  obtain ⟨ρ, F, W', up, hI2⟩ := hI.inv
  have hr := lb9 hI2.vals hI2.size (hG0.adv hI2.core.adv) c hc
  revert he' hr
  generalize c8 E s.a (i5 c) = u
  intro he' hr
  split at he'
  ·rename_i t
   have ht := Fd4 hr
   rcases DT.run_ite_some he' with ⟨rfl, h⟩ | ⟨rfl, h⟩
   ·exact wpIn_cond_true ht (iha cur s x s' h ac w Q hI hQ)
   ·exact wpIn_cond_false ht (ihb cur s x s' h ac w Q hI hQ)
  ·cases he'
 | block id a ih =>
  intro cur s x s' he ac w Q hI hQ
  obtain ⟨⟨x1, s1⟩, h1, h2⟩ := DT.run_bind_some (show ((M1 E H0.length (sa4 E.P n pr yl S0 kp rf id a) s).bind fun r => d7.rec (motive := fun _ => DT (d7 × St)) (.ret (.normal, r.2))
   (fun id' => Bool.rec (.ret (.exit id', r.2)) (.ret (.normal, r.2)) (Nat.beq id' id)) (.ret (.ret, r.2)) r.1).run = some (x, s') from he)
  refine wpIn_block (ih id s x1 s1 h1 ac w _ hI fun ac' w' hI' => ?_)
  cases x1 with
  | normal =>
   have h2' : some (d7.normal, s1) = some (x, s') := h2
   injection h2' with h2'; injection h2' with e1 e2; subst e1 e2
   exact hQ _ _ hI'
  | ret =>
   have h2' : some (d7.ret, s1) = some (x, s') := h2
   injection h2' with h2'; injection h2' with e1 e2; subst e1 e2
   exact hQ _ _ hI'
  | exit id' =>
   have h2' : (Bool.rec (motive := fun _ => DT (d7 × St)) (.ret (.exit id', s1)) (.ret (.normal, s1)) (Nat.beq id' id)).run = some (x, s') := h2
   show if id' = id then Q .normal ac' w' else Q (.exit id') ac' w'
   cases hb : Nat.beq id' id with
   | true =>
    rw [hb] at h2'
    have h3 : some (d7.normal, s1) = some (x, s') := h2'
    injection h3 with h3; injection h3 with e1 e2; subst e1 e2
    rw [if_pos (Nat.eq_of_beq_eq_true hb)]
    exact hQ _ _ hI'
   | false =>
    rw [hb] at h2'
    have h3 : some (d7.exit id', s1) = some (x, s') := h2'
    injection h3 with h3; injection h3 with e1 e2; subst e1 e2
    rw [if_neg (Nat.ne_of_beq_eq_false hb)]
    exact hQ _ _ hI'
 | loop a ih =>
  intro cur s x s' he ac w Q hI hQ
  exact wpIn_loop_rounds E.N (gc5 hF hG0 hcalls hJ hyl (ih cur) E.N s x s' he ac w Q hI hQ)
 | rangeFunc g ps as body _ _ =>
  intro cur s x s' he ac w Q hI hQ
  exact hrf g ps as body s s' x ac w Q he hI hQ
 | exit id =>
  intro cur s x s' he ac w Q hI hQ
  have he' : some (d7.exit id, s) = some (x, s') := he
  injection he' with he'; injection he' with e1 e2; subst e1 e2
  exact wpIn_exit (hQ _ _ hI)
 | ret =>
  intro cur s x s' he ac w Q hI hQ
  have he' : some (d7.ret, s) = some (x, s') := he
  injection he' with he'; injection he' with e1 e2; subst e1 e2
  exact wpIn_ret (hQ _ _ hI)
 | label l =>
  intro cur s x s' he ac w Q hI hQ
  have he' : some (d7.normal, s) = some (x, s') := he
  injection he' with he'; injection he' with e1 e2; subst e1 e2
  exact wpIn_label (hQ _ _ hI)
 | _ =>
  intro cur s x s' he
  cases he
end
end
end Go.Ev
namespace Go.Ev
open Go
def Ab2 (st : LoopState) (pe : Option Code) (fn : FuncId) (tm : List Value) (ps : Array Tmp) (as body : Code) (D : Nat) : Obj :=
 .loop { state := st, pending := pe, fn, tmps := tm.toArray, params := ps, assign := as, body, defers := D }
def ac7 : Option Code → Option Value
 | none => some (.int .i64 (.ofNat 0))
 | some .ret => some (.int .i64 (.ofNat 1))
 | some (.exit id) => some (.int .i64 (.ofNat (id + 2)))
 | _ => none
def KR (l : Nat) (Ds : List Nat) : Nat → Prop := fun k => k = l ∨ k ∈ Ds
def Fd8 (Ds : List Nat) (w : World) : Prop := ∀ d ∈ Ds, w.heap[d]? = some (.deferred (some []))
def JI (l D : Nat) (Ds : List Nat) (fn : FuncId) (tm : List Value) (ps : Array Tmp) (as body : Code) (up : List Value) (w : World) : Prop :=
 ∃ pe v, ac7 pe = some v ∧ up = v :: tm ∧ w.heap[l]? = some (Ab2 (if pe.isNone then .ready else .done) pe fn tm ps as body D) ∧ Fd8 Ds w
def JR (l D : Nat) (Ds : List Nat) (fn : FuncId) (tm : List Value) (ps : Array Tmp) (as body : Code) (st : LoopState) (inn : List Value) (up : List Value) (w : World) : Prop :=
 up = inn ++ Value.int .i64 (.ofNat 0) :: tm ∧ w.heap[l]? = some (Ab2 st none fn tm ps as body D) ∧ Fd8 Ds w
def noD : List Deferred → Prop := fun ds => ds = []
theorem be2 (l D : Nat) (Ds : List Nat) (fn : FuncId) (tm : List Value) (ps : Array Tmp) (as body : Code) : Zb7 (KR l Ds) (JI l D Ds fn tm ps as body) := fun up w w' h ⟨pe, v, h1, h2, h3, h4⟩ =>
 ⟨pe, v, h1, h2, (h l (.inl rfl)).trans h3, fun d hd => (h d (.inr hd)).trans (h4 d hd)⟩
theorem be3 (l D : Nat) (Ds : List Nat) (fn : FuncId) (tm : List Value) (ps : Array Tmp) (as body : Code) (st : LoopState) (inn : List Value) : Zb7 (KR l Ds) (JR l D Ds fn tm ps as body st inn) := fun up w w' h ⟨h1, h2, h3⟩ =>
 ⟨h1, (h l (.inl rfl)).trans h2, fun d hd => (h d (.inr hd)).trans (h3 d hd)⟩
section
variable {P : Program} {WB K : Nat → Prop} {J J' : List Value → World → Prop} {DF : List Deferred → Prop} {S S0 : List Nat} {rv : Value} {ρ ρ0 : Rho} {H H0 H' : List b8} {F F0 : Fz} {w w0 w' : World} {W' : Nat → Prop} {up up' : List Value} {E : Env} {n m : Nat} {Fe : Fence} {a : List b7} {ac : Act} {ds ds' : List Deferred}
theorem C2.re (h : C2 P WB K J ρ0 H0 F0 w0 H ds w ρ F W' up) (hJ : J' up' w) (hM : Jb6 WB W' ds' w) : C2 P WB K J' ρ0 H0 F0 w0 H ds' w ρ F W' up' :=
 ⟨h.sub, h.adv, h.hrel, h.srel, h.kept, h.far, hJ, hM⟩
theorem Fd8.turn {w : World} {l : Nat} {r : Loop} {Ds : List Nat} (h : Fd8 Ds w) (hl : w.heap[l]? = some (.loop r)) (o : Obj) : Fd8 Ds (w.putObj l o) := fun d hd => by
 have hne : d ≠ l := fun e => by
  have := h d hd
  rw [e, hl] at this
  cases this
 rw [World.putObj_heap_other hne]
 exact h d hd
theorem Fb7 : Jb6 WB W' [] w := ⟨fun d hd => by simp at hd, List.nodup_nil⟩
theorem Fd9 {k : Nat} {o : Obj} (hk : w.heap[k]? = some o) (ho : ∀ cc t fr, o ≠ .cells cc t fr) (b : Nat) : w.cell? ⟨k, b, none⟩ = none := by
 cases o with
 | cells => exact (ho _ _ _ rfl).elim
 | _ => simp [World.cell?, hk]
theorem C2.turn (h : C2 P WB K J ρ0 H0 F0 w0 H ds w ρ F W' up) (k : Nat) (o o' : Obj) (hk : w.heap[k]? = some o) (ho : ∀ cc t fr, o ≠ .cells cc t fr) (hm : ∀ es clk, o ≠ .map es clk) (hWB : WB k) (hnW : ¬ W' k)
  (hJ : J' up' (w.putObj k o')) (hM : Jb6 WB W' ds' (w.putObj k o')) : C2 P WB K J' ρ0 H0 F0 w0 H ds' (w.putObj k o') ρ F W' up' ∧ Tr ρ H F w ρ H F (w.putObj k o') := by
 have hlt := (Array.getElem?_eq_some_iff.1 hk).1
 have hnF : ∀ b, ¬ F k b := fun b hf => by
  have := h.hrel.frz k b hf
  rw [Fd9 hk ho b] at this
  cases this
 have hbase : C2 P WB K (fun _ _ => True) ρ0 H0 F0 w0 H [] w ρ F W' up' := h.re trivial Fb7
 obtain ⟨c1, c2⟩ := hbase.change (w' := w.putObj k o') (H' := H) (up' := up') k hWB hnW hnF rfl rfl rfl (Nat.le_refl _) (by simp) (fun j hj => World.putObj_heap_other hj)
  (fun cc t fr hc => by rw [hk] at hc; injection hc with hc; exact (ho _ _ _ hc).elim) rfl (fun id b hb => ⟨b, hb, rfl, rfl, rfl, rfl, Nat.le_refl _, fun _ => rfl⟩) (fun id b hb _ _ _ => hb)
  (fun _ id b hb hs hd e => by
   obtain ⟨_, _, _, _, hc⟩ := h.srel.has id b hb hs hd
   rw [e] at hc
   rcases hc with ⟨_, row, vs, t, _, m2, _⟩ | ⟨t, Kt, El, fl, es, clk, _, _, _, m4, _⟩
   ·rw [hk] at m2; injection m2 with m2; exact (ho _ _ _ m2).elim
   ·rw [hk] at m4; injection m4 with m4; exact (hm _ _ m4).elim)
  trivial (fun D hD => by simp at hD)
 exact ⟨c1.re hJ hM, c2⟩
end
end Go.Ev
namespace Go.Ev
open Go
section
variable {P : Program} {WB K : Nat → Prop} {J J' : List Value → World → Prop} {DF : List Deferred → Prop} {S S0 : List Nat} {rv : Value} {ρ ρ0 : Rho} {H H0 H' : List b8} {F F0 : Fz} {w w0 w' : World} {W' : Nat → Prop} {up up' : List Value} {E : Env} {n m : Nat} {Fe : Fence} {a b : List b7} {ac : Act} {ds ds' : List Deferred} {vs us : List Value}
theorem VR.drop (h : VR ρ H F w a (vs ++ us)) {k : Nat} (hk : vs.length = k) : VR ρ H F w (g9 a k) us := by
 have hl := h.1
 rw [List.length_append] at hl
 rw [H8]
 refine ⟨by rw [List.length_drop]; omega, fun i x x' hx hx' => ?_⟩
 rw [List.getElem?_drop] at hx
 refine h.2 (k + i) x x' hx ?_
 rw [List.getElem?_append_right (by omega), hk, Nat.add_sub_cancel_left]
 exact hx'
theorem VR.take (h : VR ρ H F w a (vs ++ us)) {k : Nat} (hk : vs.length = k) : VR ρ H F w (I6 a k) vs := by
 have hl := h.1
 rw [List.length_append] at hl
 rw [H7]
 refine ⟨by rw [List.length_take]; omega, fun i x x' hx hx' => ?_⟩
 have hi := (List.getElem?_eq_some_iff.1 hx').1
 rw [List.getElem?_take, if_pos (by omega)] at hx
 exact h.2 i x x' hx (by rw [List.getElem?_append_left hi]; exact hx')
theorem VR.app (h : VR ρ H F w a vs) (h' : VR ρ H F w b us) : VR ρ H F w (Ev.app a b) (vs ++ us) := by
 rw [D6]
 refine ⟨by rw [List.length_append, List.length_append, h.1, h'.1], fun i x x' hx hx' => ?_⟩
 rcases Nat.lt_or_ge i a.length with hi | hi
 ·rw [List.getElem?_append_left hi] at hx
  rw [List.getElem?_append_left (h.1 ▸ hi)] at hx'
  exact h.2 i x x' hx hx'
 ·rw [List.getElem?_append_right hi] at hx
  rw [List.getElem?_append_right (h.1 ▸ hi)] at hx'
  rw [h.1] at hx
  exact h'.2 _ x x' hx hx'
theorem VR.cons {x : b7} {x' : Value} (hx : XW ρ H F w x x') (h : VR ρ H F w a vs) : VR ρ H F w (x :: a) (x' :: vs) := by
 refine ⟨by simp [h.1], fun i y y' hy hy' => ?_⟩
 cases i with
 | zero => simp at hy hy'; subst hy hy'; exact hx
 | succ i => exact h.2 i y y' (by simpa using hy) (by simpa using hy')
theorem VR.head {v : Value} (h : VR ρ H F w a (v :: vs)) : XW ρ H F w (hdA a) v := by
 cases a with
 | nil => exact .w (.unk _)
 | cons x a => exact h.2 0 x v rfl rfl
theorem VR.set (h : VR ρ H F w a vs) {x : b7} {x' : Value} (hx : XW ρ H F w x x') (k : Nat) : VR ρ H F w (setAt a k x) (vs.set k x') := by
 rw [A7]
 refine ⟨by simp [h.1], fun i y y' hy hy' => ?_⟩
 rw [List.getElem?_set] at hy hy'
 by_cases hi : k = i
 ·subst hi
  rw [if_pos rfl] at hy hy'
  split at hy
  ·split at hy'
   ·injection hy with hy; injection hy' with hy'; subst hy hy'; exact hx
   ·cases hy'
  ·cases hy
 ·rw [if_neg hi] at hy hy'
  exact h.2 i y y' hy hy'
theorem VR.setUp {v0 v : Value} {x : b7} (h : VR ρ H F w a (vs ++ v0 :: us)) {k : Nat} (hk : vs.length = k) (hx : XW ρ H F w x v) : VR ρ H F w (setAt a k x) (vs ++ v :: us) := by
 have := h.set hx k
 rwa [List.set_append_right _ _ (by omega), hk, Nat.sub_self] at this
theorem xd5 : ∀ (ps : List Nat) (vals : List b7) (avs : List Value) (base : List b7) (arr : List Value), vals.length = ps.length → avs.length = ps.length → (∀ (i : Nat) x x', vals[i]? = some x → avs[i]? = some x' → XW ρ H F w x x') → VR ρ H F w base arr →
  VR ρ H F w (me3 ps vals base) ((ps.zip avs).foldl (fun t pv => t.set pv.1 pv.2) arr)
 | [], vals, avs, base, arr, h1, h2, h3, h4 => h4
 | p :: ps, [], avs, base, arr, h1, h2, h3, h4 => by simp at h1
 | p :: ps, v :: vals, [], base, arr, h1, h2, h3, h4 => by simp at h2
 | p :: ps, v :: vals, u :: avs, base, arr, h1, h2, h3, h4 =>
  xd5 ps vals avs (setAt base p v) (arr.set p u) (by simpa using h1) (by simpa using h2) (fun i x x' hx hx' => h3 (i + 1) x x' (by simpa using hx) (by simpa using hx')) (h4.set (h3 0 v u rfl rfl) p)
theorem Lc5 : ∀ (l : List (Nat × Value)) (t : Array Value), (l.foldl (fun t pv => t.setIfInBounds pv.1 pv.2) t).toList = l.foldl (fun t pv => t.set pv.1 pv.2) t.toList
 | [], t => rfl
 | (p, v) :: l, t => by
  simp only [List.foldl_cons]
  rw [Lc5 l, Array.toList_setIfInBounds]
theorem tc6 (ps : Array Nat) (args : Array Value) (t : Array Value) : ((ps.zip args).foldl (fun tmps (t, a) => tmps.setIfInBounds t a) t).toList = (ps.toList.zip args.toList).foldl (fun t pv => t.set pv.1 pv.2) t.toList := by
 rw [← Array.foldl_toList, Array.toList_zip]
 exact Lc5 _ t
theorem dd8 (ps : Array Nat) (args : Array Value) (t : Array Value) : ((ps.zip args).foldl (fun tmps (t, a) => tmps.setIfInBounds t a) t).size = t.size := by
 rw [← Array.length_toList, tc6, ← Array.length_toList]
 generalize ps.toList.zip args.toList = l
 generalize t.toList = tl
 induction l generalizing tl with
 | nil => rfl
 | cons p l ih => rw [List.foldl_cons, ih]; simp
theorem Rc5 {x : b7} (h : mc8 x = true) : x = .v (.int .i64 (.ofNat 0)) := by
 unfold mc8 at h
 split at h
 ·split at h
  ·rfl
  ·cases h
 ·cases h
theorem Gd0 {pe : Option Code} (h : ac7 pe = some (.int .i64 (.ofNat 0))) : pe = none := by
 unfold ac7 at h
 split at h
 ·rfl
 ·cases h
 ·injection h with h; injection h with _ h; injection h with h; omega
 ·cases h
variable {l D : Nat} {Ds : List Nat} {fnO : FuncId} {tm : List Value} {ps : Array Tmp} {asC bodyC : Code} {rd : Rd} {k : Nat}
def rd0 (E : Env) (WB : Nat → Prop) (l D : Nat) (Ds : List Nat) (fnO : FuncId) (tm : List Value) (ps : Array Tmp) (asC bodyC : Code) (nOut : Nat) (ρ0 : Rho) (H0 : List b8) (F0 : Fz) (w0 : World) (Fe : Fence) (m k : Nat) (st : LoopState) (c : Code) (pc : PC) : Prop :=
 ∀ (inn : List Value) (s : St) (x : d7) (s' : St), (M1 E k pc s).run = some (x, s') → ∀ (ac : Act) (w : World) (Q : Exit → Act → World → Prop),
  I3 E.P WB (KR l Ds) (JR l D Ds fnO tm ps asC bodyC st inn) nOut [] undef noD ρ0 H0 F0 w0 s ac w →
  (∀ ac' w', I3 E.P WB (KR l Ds) (JR l D Ds fnO tm ps asC bodyC st inn) nOut [] undef noD ρ0 H0 F0 w0 s' ac' w' → Q (toX x) ac' w') → c.wpIn (Fe.inRound l) m E.P Q ac w
theorem be4 (hF : FW Fe) (hG0 : GOk E F0 w0) (hps : rd.ps = ps.toList) (hnO : tm.length = rd.nOut) (hWl : WB l)
  (hAs : rd0 E WB l D Ds fnO tm ps asC bodyC rd.nOut ρ0 H0 F0 w0 Fe (m - 1) k .ready asC rd.as) (hBo : rd0 E WB l D Ds fnO tm ps asC bodyC rd.nOut ρ0 H0 F0 w0 Fe (m - 1) k .busy bodyC rd.body) :
  YOk E Fe m n k rd fun S => I3 E.P WB (KR l Ds) (JI l D Ds fnO tm ps asC bodyC) n S (.func (.yield l) #[] #[]) noD ρ0 H0 F0 w0 := by
 intro ops i o S args g s s' xx ac w rest Q hi hy hg hgn hdn hlt hlen hI he hQ
 obtain ⟨⟨ρ, F, W', up, hI2⟩, hheld, hdf⟩ := hI
 obtain ⟨pe, v, hpe, rfl, hrec, hdd⟩ := hI2.core.jot
 obtain ⟨s1, h1, h2⟩ := DT.run_bind_some (show ((mc7 E s o.dst g fun s => match mc8 (hdA (g9 s.a n)) with
   | true => (M1 E k rd.as (Oc0 E s (args.map i5) n rd.nOut rd.ps)).bind fun r0 =>
    d7.rec (motive := fun _ => DT St) ((M1 E k rd.body r0.2).bind fun r => .ret (oc7 o.dst n rd.nOut r)) (fun _ => .fail) .fail r0.1
   | false => .fail).bind fun s => .ret (d7.normal, s)).run = some (xx, s') from he)
 have h2 : some (d7.normal, s1) = some (xx, s') := h2
 injection h2 with h2; injection h2 with e1 e2; subst e1 e2
 have hQ := hQ rfl
 simp only [wpOpsIn, hi]
 rcases Jb8 hg hgn hI2.vals hI2.size h1 with ⟨hw, hd⟩ | ⟨hw, rfl⟩
 case inr =>
  rw [if_neg (by simp [hw])]
  exact ⟨fun f _ => hF.fn f, hQ _ _ ⟨⟨ρ, F, W', _, by rw [A2]; exact hI2.core, hI2.vals.putA hI2.size hdn (.w (.ofv _)), (xa6 _ _).trans hI2.size⟩, mb1 hheld, by rw [A2]; exact hdf⟩⟩
 rw [if_pos hw]
 have htl : ac.tmps.toList.length = n := by rw [Array.length_toList]; exact hI2.size
 have hup : VR ρ s.H F w (g9 s.a n) (v :: tm) := hI2.vals.drop htl
 split at hd
 case h_2 => cases hd
 rename_i hnd
 have hv0 : v = .int .i64 (.ofNat 0) := by
  have := hup.head
  rw [Rc5 hnd] at this
  exact Fd4 this
 subst hv0
 have hpe0 := Gd0 hpe
 subst hpe0
 have hrec : w.heap[l]? = some (Ab2 .ready none fnO tm ps asC bodyC D) := hrec
 obtain ⟨⟨x0, s2⟩, h3, h4⟩ := DT.run_bind_some hd
 cases x0 with
 | exit id => cases h4
 | ret => cases h4
 | normal =>
 obtain ⟨⟨x2, s3⟩, h5, h6⟩ := DT.run_bind_some h4
 have h6 : some (oc7 o.dst n rd.nOut (x2, s3)) = some s1 := h6
 injection h6 with h6
 subst h6
 -- the operation asks for a round
 unfold Sb2 at hy
 split at hy
 case h_2 => cases hy
 rename_i c ho
 split at hy
 case h_2 => cases hy
 rename_i t hcal
 split at hy
 case isFalse => cases hy
 rename_i hS
 injection hy with hy
 have hS : t ∈ S := by simpa using hS
 have hev : ac.eval (.tmp t) = .func (.yield l) #[] #[] := by
  have ht := hheld t hS
  show ac.tmps.getD t undef = _
  have hlt := (Array.getElem?_eq_some_iff.1 ht).1
  have := (Array.getElem?_eq_some_iff.1 ht).2
  simp [Array.getD, hlt, this]
 have hnd' : ∀ c', o.op ≠ .defer c' := fun c' e => by rw [ho] at e; cases e
 have hasz : (c.args.map ac.eval).size = ps.size := by
  rw [Array.size_map]
  have : c.args.toList.length = ps.toList.length := by rw [hy, ← hps]; exact hlen
  simpa using this
 have hyield := run_yield (P := E.P) (args := c.args.map ac.eval) hrec hasz
 have hsem : (o.semAt Fe.round ac.eval).run E.P w = .ok (.round l fnO ((ps.zip (c.args.map ac.eval)).foldl (fun tmps (t, a) => tmps.setIfInBounds t a) tm.toArray) asC bodyC) w := by
  rw [Oper.semAt_eq _ _ _ hnd']
  have e : (execOp ac.eval o).run E.P w = (Instr.yield l (c.args.map ac.eval)).run E.P w := by
   have hres : resolve ac.eval c o.type = pure { target := .fn (.yield l) #[], args := c.args.map ac.eval } := by
    unfold resolve
    rw [hcal]
    simp only
    rw [hev]
    simp [Deferred.ofValue]
   have e1 : execOp ac.eval o = (do let d ← resolve ac.eval c o.type; invoke d.target d.args) := by
    unfold execOp
    rw [ho]
   rw [e1, hres]
   rfl
  rw [e]
  exact hyield
 refine ⟨fun f _ => hF.fn f, ?_⟩
 rw [hsem, Oper.uponIn_round]
 refine ⟨fun hd => hF.depS hd, roundIn_of_wpIn (hF.fn _) ?_⟩
 -- the round's frame
 have hm0 : C2 E.P WB (KR l Ds) (JR l D Ds fnO tm ps asC bodyC .ready ac.tmps.toList) ρ0 H0 F0 w0 s.H [] w ρ F W' (ac.tmps.toList ++ Value.int .i64 (.ofNat 0) :: tm) := hI2.core.re ⟨rfl, hrec, hdd⟩ Fb7
 have hbase : VR ρ s.H F w (I6 (g9 s.a (n + 1)) rd.nOut) tm := by
  have h0 : VR ρ s.H F w s.a ((ac.tmps.toList ++ [Value.int .i64 (.ofNat 0)]) ++ (tm ++ [])) := by simpa using hI2.vals
  exact (h0.drop (by simp [htl])).take hnO
 have hargs : ∀ (j : Nat) x x', (o7 (c8 E s.a) (args.map i5))[j]? = some x → (c.args.map ac.eval).toList[j]? = some x' → XW ρ s.H F w x x' := fun j x x' hx hx' => by
  rw [o6, List.map_map, List.getElem?_map] at hx
  rw [Array.toList_map, hy, List.getElem?_map] at hx'
  cases hq : args[j]? with
  | none => rw [hq] at hx; cases hx
  | some q =>
   rw [hq] at hx hx'
   injection hx with hx; injection hx' with hx'
   subst hx hx'
   rw [List.all_eq_true] at hlt
   exact lb9 hI2.vals hI2.size (hG0.adv hI2.core.adv) q (hlt q (List.mem_of_getElem? hq))
 have hfr : I3 E.P WB (KR l Ds) (JR l D Ds fnO tm ps asC bodyC .ready ac.tmps.toList) rd.nOut [] undef noD ρ0 H0 F0 w0 (Oc0 E s (args.map i5) n rd.nOut rd.ps)
   { tmps := (ps.zip (c.args.map ac.eval)).foldl (fun tmps (t, a) => tmps.setIfInBounds t a) tm.toArray, defers := [] } w := by
  refine ⟨⟨ρ, F, W', _, hm0, ?_, ?_⟩, fun t ht => by simp at ht, rfl⟩
  ·show VR ρ s.H F w (app (me3 rd.ps (o7 (c8 E s.a) (args.map i5)) (I6 (g9 s.a (n + 1)) rd.nOut)) s.a) _
   refine VR.app ?_ hI2.vals
   rw [tc6, hps]
   have := xd5 (ρ := ρ) (H := s.H) (F := F) (w := w) ps.toList (o7 (c8 E s.a) (args.map i5)) (c.args.map ac.eval).toList _ tm (by rw [o6]; simp [hlen, hps]) (by rw [Array.length_toList, hasz, Array.length_toList]) hargs hbase
   simpa using this
  ·rw [dd8]; simpa using hnO
 refine hAs ac.tmps.toList _ .normal s2 h3 _ w _ hfr fun ac1 w1 hI1 => ?_
 obtain ⟨⟨ρ1, F1, W1, up1, hI1⟩, _, hdf1⟩ := hI1
 obtain ⟨rfl, hrec1, hdd1⟩ := hI1.core.jot
 refine ⟨_, run_beginRound hrec1 rfl, ?_⟩
 have hKl : KR l Ds l := .inl rfl
 obtain ⟨b1, b2⟩ := hI1.core.turn (J' := JR l D Ds fnO tm ps asC bodyC .busy ac.tmps.toList) (up' := ac.tmps.toList ++ Value.int .i64 (.ofNat 0) :: tm) (ds' := ac1.defers) l _ (Ab2 .busy none fnO tm ps asC bodyC D) hrec1 (fun _ _ _ e => by cases e) (fun _ _ e => by cases e) hWl (hI1.core.kept l hKl).1
  ⟨rfl, World.putObj_heap_same (hI1.core.kept l hKl).2, hdd1.turn hrec1 _⟩ (by have : ac1.defers = [] := hdf1; rw [this]; exact Fb7)
 refine hBo ac.tmps.toList s2 x2 s3 h5 ac1 _ _ ⟨⟨ρ1, F1, W1, _, b1, hI1.vals.tr b2, hI1.size⟩, fun t ht => by simp at ht, hdf1⟩ fun ac2 w2 hI3 => ?_
 obtain ⟨⟨ρ2, F2, W2, up2, hI3⟩, _, hdf3⟩ := hI3
 obtain ⟨rfl, hrec2, hdd2⟩ := hI3.core.jot
 have hdefs : ac.defers = [] := hdf
 have hkl := (hI3.core.kept l hKl)
 have hdrop : VR ρ2 s3.H F2 w2 (g9 s3.a rd.nOut) (ac.tmps.toList ++ Value.int .i64 (.ofNat 0) :: tm) := hI3.vals.drop (by rw [Array.length_toList]; exact hI3.size)
 have hfin : ∀ (pe : Option Code) (v : Value), ac7 pe = some v → C2 E.P WB (KR l Ds) (JI l D Ds fnO tm ps asC bodyC) ρ0 H0 F0 w0 s3.H [] (w2.putObj l (Ab2 (if pe.isNone then .ready else .done) pe fnO tm ps asC bodyC D)) ρ2 F2 W2 (v :: tm) ∧ Tr ρ2 s3.H F2 w2 ρ2 s3.H F2 (w2.putObj l (Ab2 (if pe.isNone then .ready else .done) pe fnO tm ps asC bodyC D)) := fun pe v hpe =>
  hI3.core.turn l _ _ hrec2 (fun _ _ _ e => by cases e) (fun _ _ e => by cases e) hWl hkl.1 ⟨pe, v, hpe, rfl, World.putObj_heap_same hkl.2, hdd2.turn hrec2 _⟩ Fb7
 cases x2 with
 | normal =>
  refine ⟨_, _, run_endRound none hrec2, hQ _ _ ?_⟩
  obtain ⟨c1, c2⟩ := hfin none _ rfl
  exact ⟨⟨ρ2, F2, W2, _, by rw [A2, hdefs]; exact c1, (hdrop.tr c2).putA hI2.size hdn (.w (.val (.cell (.v _)))), (xa6 _ _).trans hI2.size⟩, mb1 hheld, by rw [A2]; exact hdf⟩
 | ret =>
  refine ⟨_, _, run_endRound (some .ret) hrec2, hQ _ _ ?_⟩
  obtain ⟨c1, c2⟩ := hfin (some .ret) _ rfl
  exact ⟨⟨ρ2, F2, W2, _, by rw [A2, hdefs]; exact c1, ((hdrop.tr c2).setUp htl (.w (.val (.cell (.v _))))).putA hI2.size hdn (.w (.val (.cell (.v _)))), (xa6 _ _).trans hI2.size⟩, mb1 hheld, by rw [A2]; exact hdf⟩
 | exit id =>
  refine ⟨_, _, run_endRound (some (.exit id)) hrec2, hQ _ _ ?_⟩
  obtain ⟨c1, c2⟩ := hfin (some (.exit id)) _ rfl
  exact ⟨⟨ρ2, F2, W2, _, by rw [A2, hdefs]; exact c1, ((hdrop.tr c2).setUp htl (.w (.val (.cell (.v _))))).putA hI2.size hdn (.w (.val (.cell (.v _)))), (xa6 _ _).trans hI2.size⟩, mb1 hheld, by rw [A2]; exact hdf⟩
end
end Go.Ev
namespace Go.Ev
open Go
section
variable {P : Program} {WB K K' : Nat → Prop} {J J' : List Value → World → Prop} {ρ ρ0 : Rho} {H H0 H' : List b8} {F F0 : Fz} {w w0 w' : World} {W' : Nat → Prop} {up up' : List Value} {E : Env} {n m : Nat} {a b : List b7} {ac : Act} {ds ds' : List Deferred} {vs us : List Value}
theorem C2.reK (h : C2 P WB K J ρ0 H0 F0 w0 H ds w ρ F W' up) (hk : ∀ k, K' k → ¬ W' k ∧ k < w.heap.size) (hf : ∀ (id : Nat) b, H[id]? = some b → B5 b = true → b.dead = false → ¬ K' (ρ id).blk) : C2 P WB K' J ρ0 H0 F0 w0 H ds w ρ F W' up :=
 ⟨h.sub, h.adv, h.hrel, h.srel, hk, hf, h.jot, h.marks⟩
def gb7 (d : Deferred) : Nat := match d.target with
 | .collected r => r
 | _ => 0
def Lc6 (D : Nat) : Deferred := { target := .collected D, args := #[] }
def Gd1 : List Value → World → Prop := fun up _ => up = []
def be5 : Nat → Prop := fun _ => False
def Fe1 : List Deferred → Prop := fun _ => True
theorem Jb6.at (h : Jb6 WB W' ds w) {D : Nat} (hD : D ∈ ds.map gb7) : Lc6 D ∈ ds ∧ w.heap[D]? = some (.deferred (some [])) ∧ ¬ W' D ∧ D < w.heap.size ∧ WB D := by
 obtain ⟨d, hd, rfl⟩ := List.mem_map.1 hD
 obtain ⟨D, rfl, h2, h3, h4, h5⟩ := h.1 d hd
 exact ⟨hd, h2, h3, h4, h5⟩
abbrev be6 (P : Program) (WB : Nat → Prop) (n : Nat) (ρ0 : Rho) (H0 : List b8) (F0 : Fz) (w0 : World) : St → Act → World → Prop := I3 P WB be5 Gd1 n [] undef Fe1 ρ0 H0 F0 w0
theorem rd1 {x : b7} {s s' : St} {xx : d7} {v : Value} {pe : Option Code} (h : (wb6 x s).run = some (xx, s')) (hx : XW ρ H F w x v) (hp : ac7 pe = some v) :
  s' = s ∧ ((pe = none ∧ xx = .normal) ∨ (pe = some .ret ∧ xx = .ret) ∨ ∃ id, pe = some (.exit id) ∧ xx = .exit id) := by
 unfold wb6 at h
 split at h
 case h_2 => cases h
 rename_i n
 have hv := Fd4 hx
 subst hv
 have hn : ∀ c, ac7 pe = some (.int .i64 (.ofNat c)) → (c = 0 ∧ pe = none) ∨ (c = 1 ∧ pe = some .ret) ∨ ∃ id, c = id + 2 ∧ pe = some (.exit id) := fun c hc => by
  unfold ac7 at hc
  split at hc
  ·injection hc with hc; injection hc with _ hc; injection hc with hc; exact .inl ⟨hc.symm, rfl⟩
  ·injection hc with hc; injection hc with _ hc; injection hc with hc; exact .inr (.inl ⟨hc.symm, rfl⟩)
  ·rename_i id; injection hc with hc; injection hc with _ hc; injection hc with hc; exact .inr (.inr ⟨id, hc.symm, rfl⟩)
  ·cases hc
 rcases hn n hp with ⟨rfl, rfl⟩ | ⟨rfl, rfl⟩ | ⟨id, rfl, rfl⟩
 ·have h : some (d7.normal, s) = some (xx, s') := h
  injection h with h; injection h with e1 e2; subst e1 e2
  exact ⟨rfl, .inl ⟨rfl, rfl⟩⟩
 ·have h : some (d7.ret, s) = some (xx, s') := h
  injection h with h; injection h with e1 e2; subst e1 e2
  exact ⟨rfl, .inr (.inl ⟨rfl, rfl⟩)⟩
 ·have h : some (d7.exit id, s) = some (xx, s') := h
  injection h with h; injection h with e1 e2; subst e1 e2
  exact ⟨rfl, .inr (.inr ⟨id, rfl, rfl⟩)⟩
theorem dd9 {caps : List b7} {cv : Array Value} {nIn l : Nat} {s : St} {tm : List Value} (hl : caps.length = cv.size) (hc : ∀ (i : Nat) x x', caps[i]? = some x → cv[i]? = some x' → XW ρ H F w x x') (hs : VR ρ H F w s.a tm) (hle : caps.length + 1 ≤ nIn) :
  VR ρ H F w (ob5 caps nIn s).a ((#[Value.func (.yield l) #[] #[]] ++ cv ++ Array.replicate (nIn - (#[Value.func (.yield l) #[] #[]] ++ cv).size) undef).toList ++ Value.int .i64 (.ofNat 0) :: tm) := by
 have e : (#[Value.func (.yield l) #[] #[]] ++ cv ++ Array.replicate (nIn - (#[Value.func (.yield l) #[] #[]] ++ cv).size) undef).toList ++ Value.int .i64 (.ofNat 0) :: tm = (Value.func (.yield l) #[] #[] :: cv.toList) ++ (List.replicate (nIn - (caps.length + 1)) undef ++ (Value.int .i64 (.ofNat 0) :: tm)) := by
  simp [hl, Nat.add_comm]
 rw [e]
 unfold ob5
 simp only [m8]
 have hrep : ∀ j, VR ρ H F w (List.replicate j (.v (.tuple #[]))) (List.replicate j undef) := fun j => ⟨by simp, fun i x x' hx hx' => by
  rw [List.getElem?_replicate] at hx hx'
  split at hx
  ·split at hx'
   ·injection hx with hx; injection hx' with hx'; subst hx hx'; exact .w (.ofv _)
   ·contradiction
  ·cases hx⟩
 have hcv : VR ρ H F w caps cv.toList := ⟨by simpa using hl, fun i x x' hx hx' => hc i x x' hx (by simpa using hx')⟩
 exact VR.app (VR.cons (.w (.unk _)) hcv) (VR.app (hrep _) (VR.cons (.w (.val (.cell (.v _)))) hs))
theorem ed0 {h : Rc3} {fnI : Func} {cI : Code} (hG0 : GOk E F0 w0) (hcalls : ∀ f, j7 E.P E.G f (E.call f)) (hfI : E.P.funcs[h.fi]? = some fnI) (hbI : fnI.body = some cI) (hname : fnI.name ≠ "runtime.NumGoroutine") :
  xe1 E Fence.wide m H0.length (qd8 E.P h fnI cI n) (be6 E.P WB n ρ0 H0 F0 w0) := by
 intro g ps as body s s' x ac w Q he hI hQ
 obtain ⟨⟨ρ, F, W', up, hI2⟩, _, _⟩ := hI
 have hup : up = [] := hI2.core.jot
 subst hup
 unfold qd8 at he
 split at he
 case h_2 => cases he
 rename_i hc
 simp only [Bool.and_eq_true] at hc
 obtain ⟨⟨hg, hres⟩, hpsn⟩ := hc
 have he' : (match c8 E s.a (i5 g) with
   | .fn f' caps => match Nat.beq h.fi f' && Nat.ble (len caps + 1) fnI.ntmps with
    | true => (M1 E H0.length (sa4 E.P fnI.ntmps [] (some (we8 E.P h n ps as body)) [0] (Fd7 h.ki) Sb3 0 cI) (ob5 caps fnI.ntmps s)).bind fun r =>
      d7.rec (motive := fun _ => DT (d7 × St)) (wb6 (hdA (g9 r.2.a fnI.ntmps)) ⟨g9 r.2.a (fnI.ntmps + 1), r.2.H⟩) (fun _ => .fail) (wb6 (hdA (g9 r.2.a fnI.ntmps)) ⟨g9 r.2.a (fnI.ntmps + 1), r.2.H⟩) r.1
    | false => .fail
   | _ => .fail).run = some (x, s') := he
 have hgr := lb9 hI2.vals hI2.size (hG0.adv hI2.core.adv) g hg
 revert he' hgr
 generalize c8 E s.a (i5 g) = gv
 intro he' hgr
 split at he'
 case h_2 => cases he'
 rename_i f' caps
 split at he'
 case h_2 => cases he'
 rename_i hck
 rw [Bool.and_eq_true, m8] at hck
 obtain ⟨hf', hle⟩ := hck
 have hf' := Nat.eq_of_beq_eq_true hf'
 have hle := Nat.le_of_ble_eq_true hle
 subst hf'
 obtain ⟨⟨x1, s1⟩, h1, h2⟩ := DT.run_bind_some he'
 have hgw : B0 ρ (p4 s.H) F w (.fn h.fi caps) (ac.eval g) := by
  cases hgr with
  | w h => exact h
  | c h => cases h with
   | n h => exact .val (.cell h)
 obtain ⟨cv, hgv, hcl, hcr⟩ := ob9 hgw
 -- the blocks that are laid
 obtain ⟨a1, a2, a3, _⟩ := hI2.core.alloc (fun _ _ _ _ h => h) (.deferred (some []))
 obtain ⟨rec0, hrec0⟩ : ∃ r : Loop, r = { state := .ready, pending := none, fn := 0, tmps := ac.tmps, params := ps, assign := as, body, defers := w.heap.size } := ⟨_, rfl⟩
 refine wpIn_rangeFunc fun fn _ => ?_
 obtain ⟨b1, b2, b3, _⟩ := a1.alloc (fun _ _ _ _ h => h) (.loop { state := .ready, pending := none, fn, tmps := ac.tmps, params := ps, assign := as, body, defers := w.heap.size })
 have hsz1 : (w.alloc (.deferred (some []))).heap.size = w.heap.size + 1 := by simp
 rw [hsz1] at b1 b3
 generalize hW2 : (w.alloc (.deferred (some []))).alloc (.loop { state := .ready, pending := none, fn, tmps := ac.tmps, params := ps, assign := as, body, defers := w.heap.size }) = w2 at b1 b2
 have hsz2 : w2.heap.size = w.heap.size + 2 := by rw [← hW2]; simp
 have hl2 : w2.heap[w.heap.size + 1]? = some (Ab2 .ready none fn ac.tmps.toList ps as body w.heap.size) := by
  rw [← hW2]
  have := World.alloc_heap_new (w.alloc (.deferred (some []))) (.loop { state := .ready, pending := none, fn, tmps := ac.tmps, params := ps, assign := as, body, defers := w.heap.size })
  rw [hsz1] at this
  rw [this]
  simp [Ab2]
 have hd2 : w2.heap[w.heap.size]? = some (.deferred (some [])) := by
  rw [← hW2]
  have e : ∀ o : Obj, ((w.alloc (.deferred (some []))).alloc o).heap[w.heap.size]? = (w.alloc (.deferred (some []))).heap[w.heap.size]? := fun o => by
   simp only [World.alloc, Array.getElem?_push, Array.size_push]
   rw [if_neg (by omega)]
  rw [e]
  exact World.alloc_heap_new w _
 have hmk := b1.marks
 have hDsOk : Fd8 (w.heap.size :: ac.defers.map gb7) w2 := fun d hd => by
  rcases List.mem_cons.1 hd with rfl | hd
  ·exact hd2
  ·exact (hmk.at hd).2.1
 have hnew : C2 E.P WB (KR (w.heap.size + 1) (w.heap.size :: ac.defers.map gb7)) (JI (w.heap.size + 1) w.heap.size (w.heap.size :: ac.defers.map gb7) fn ac.tmps.toList ps as body) ρ0 H0 F0 w0 s.H [] w2 ρ F _ (Value.int .i64 (.ofNat 0) :: ac.tmps.toList) :=
  (b1.reK (K' := KR (w.heap.size + 1) (w.heap.size :: ac.defers.map gb7)) (fun k hk => by
   rcases hk with rfl | hk
   ·exact ⟨fun hw => hw.2 rfl, by omega⟩
   ·rcases List.mem_cons.1 hk with rfl | hk
    ·exact ⟨fun hw => hw.1.2 rfl, by omega⟩
    ·exact ⟨(hmk.at hk).2.2.1, (hmk.at hk).2.2.2.1⟩)
   (fun id b hb hs hd hk => by
    obtain ⟨_, _, _, k4, k5⟩ := hI2.core.srel.has id b hb hs hd
    obtain ⟨_, _, _, _, k6⟩ := b1.srel.has id b hb hs hd
    rcases hk with hk | hk
    ·omega
    ·rcases List.mem_cons.1 hk with hk | hk
     ·omega
     ·have hdd := (hmk.at hk).2.1
      rcases k6 with ⟨_, row, vs, t, _, m2, _⟩ | ⟨t, Kt, El, fl, es, clk, _, _, _, m4, _⟩
      ·rw [hdd] at m2; cases m2
      ·rw [hdd] at m4; cases m4)).re ⟨none, _, rfl, rfl, hl2, hDsOk⟩ Fb7
 have htr : Tr ρ s.H F w ρ s.H F w2 := fun x x' hx => b2 _ _ (a2 _ _ hx)
 have hcb : xb6 E.P h.fi := ⟨fnI, hfI, by simp [hbI], hname⟩
 refine ⟨w.heap.size + 1, [Lc6 w.heap.size], w2, { target := .fn (.func h.fi) cv, args := #[.func (.yield (w.heap.size + 1)) #[] #[]] }, w2, h.fi, #[.func (.yield (w.heap.size + 1)) #[] #[]] ++ cv, w2, ?_, ?_, fun _ _ => trivial, ?_, fun hd => FW.wide.depS hd, ?_⟩
 ·rw [← hW2]; exact run_enterLoop_outer _ _ _ _ _
 ·simp only [resolve, rangeCall, hgv]
  simp [Deferred.ofValue]
  rfl
 ·simp only [invoke]
  exact pb1 hcb _
 refine callsIn_of_wp hfI hbI trivial ?_
 -- the iterator's frame
 have hI0 : I3 E.P WB (KR (w.heap.size + 1) (w.heap.size :: ac.defers.map gb7)) (JI (w.heap.size + 1) w.heap.size (w.heap.size :: ac.defers.map gb7) fn ac.tmps.toList ps as body) fnI.ntmps [0] (.func (.yield (w.heap.size + 1)) #[] #[]) noD ρ0 H0 F0 w0 (ob5 caps fnI.ntmps s)
   { tmps := #[Value.func (.yield (w.heap.size + 1)) #[] #[]] ++ cv ++ Array.replicate (fnI.ntmps - (#[Value.func (.yield (w.heap.size + 1)) #[] #[]] ++ cv).size) undef, defers := [] } w2 := by
  refine ⟨⟨ρ, F, _, _, hnew, ?_, ?_⟩, fun t ht => ?_, rfl⟩
  ·refine dd9 hcl (fun i x x' hx hx' => htr _ _ (.w (.val (.cell (hcr i x x' hx hx'))))) ?_ hle
   have h0 := hI2.vals.tr htr
   rw [List.append_nil] at h0
   exact h0
  ·simp only [Array.size_append, Array.size_replicate]
   have : (#[Value.func (.yield (w.heap.size + 1)) #[] #[]] : Array Value).size = 1 := rfl
   omega
  ·have : t = 0 := by simpa using ht
   subst this
   rw [Array.append_assoc, Array.getElem?_append_left (show 0 < 1 by omega)]
   rfl
 have hWl : WB (w.heap.size + 1) := b3
 have hpart : ∀ (st : LoopState) (c : Code), rd0 E WB (w.heap.size + 1) w.heap.size (w.heap.size :: ac.defers.map gb7) fn ac.tmps.toList ps as body n ρ0 H0 F0 w0 Fence.wide (m - 1 - 1) H0.length st c (sa4 E.P n h.pr none [] (Fd7 h.kp) Sb3 0 c) := fun st c inn s x s' he ac w Q hI hQ =>
  Mb7 (FW.inRound _) hG0 hcalls (be3 _ _ _ _ _ _ _ _ _ _) (fun rd hrd => by cases hrd) (fun g ps as body s s' x ac w Q he => by cases he) c 0 s x s' he ac w Q hI hQ
 refine Mb7 (Fe := Fence.wide) FW.wide hG0 hcalls (be2 _ _ _ _ _ _ _ _) (fun rd hrd => ?_) (fun g ps as body s s' x ac w Q he => by cases he) cI 0 _ x1 s1 h1 _ w2 _ hI0 fun ac3 w3 hI3 => ?_
 ·injection hrd with hrd
  subst hrd
  exact be4 FW.wide hG0 rfl (by rw [Array.length_toList]; exact hI2.size) hWl (hpart .ready as) (hpart .busy body)
 obtain ⟨⟨ρ3, F3, W3, up3, hI3⟩, _, hdf3⟩ := hI3
 obtain ⟨pe, v, hpe, rfl, hrec3, hds3⟩ := hI3.core.jot
 have hpX : (wb6 (hdA (g9 s1.a fnI.ntmps)) ⟨g9 s1.a (fnI.ntmps + 1), s1.H⟩).run = some (x, s') ∧ ∀ id, x1 ≠ .exit id := by
  cases x1 with
  | normal => exact ⟨h2, fun _ e => by cases e⟩
  | ret => exact ⟨h2, fun _ e => by cases e⟩
  | exit id => cases h2
 obtain ⟨hpX, hne⟩ := hpX
 have htl3 : ac3.tmps.toList.length = fnI.ntmps := by rw [Array.length_toList]; exact hI3.size
 have hdr : VR ρ3 s1.H F3 w3 (g9 s1.a fnI.ntmps) (v :: ac.tmps.toList) := hI3.vals.drop htl3
 obtain ⟨rfl, hcase⟩ := rd1 hpX hdr.head hpe
 have hKl : KR (w.heap.size + 1) (w.heap.size :: ac.defers.map gb7) (w.heap.size + 1) := .inl rfl
 have hkl := hI3.core.kept _ hKl
 have hM4 : ∀ o : Obj, Jb6 WB W3 (Lc6 w.heap.size :: ac.defers) (w3.putObj (w.heap.size + 1) o) := fun o => by
  refine ⟨fun d hd => ?_, List.nodup_cons.2 ⟨fun hd => ?_, hI2.core.marks.2⟩⟩
  ·have hD : gb7 d ∈ w.heap.size :: ac.defers.map gb7 := by
    rcases List.mem_cons.1 hd with rfl | hd
    ·exact .head _
    ·exact .tail _ (List.mem_map.2 ⟨d, hd, rfl⟩)
   have hk := hI3.core.kept _ (.inr hD : KR (w.heap.size + 1) (w.heap.size :: ac.defers.map gb7) (gb7 d))
   refine ⟨gb7 d, ?_, (hds3.turn hrec3 o) _ hD, hk.1, by rw [World.putObj_size]; exact hk.2, ?_⟩
   ·rcases List.mem_cons.1 hd with rfl | hd
    ·rfl
    ·obtain ⟨D, rfl, _⟩ := hI2.core.marks.1 d hd
     rfl
   ·rcases List.mem_cons.1 hd with rfl | hd
    ·exact a3
    ·exact (hI2.core.marks.at (List.mem_map.2 ⟨d, hd, rfl⟩)).2.2.2.2
  ·have := (hI2.core.marks.at (List.mem_map.2 ⟨_, hd, rfl⟩)).2.2.2.1
   exact Nat.lt_irrefl _ this
 obtain ⟨d1, d2⟩ := hI3.core.turn (J' := Gd1) (up' := []) (ds' := Lc6 w.heap.size :: ac.defers) (w.heap.size + 1) _ (Ab2 .exhausted pe fn ac.tmps.toList ps as body w.heap.size) hrec3 (fun _ _ _ e => by cases e) (fun _ _ e => by cases e) hWl hkl.1 rfl (hM4 _)
 have hIe : be6 E.P WB n ρ0 H0 F0 w0 ⟨g9 s1.a (fnI.ntmps + 1), s1.H⟩ { ac with defers := [Lc6 w.heap.size] ++ ac.defers } (w3.putObj (w.heap.size + 1) (Ab2 .exhausted pe fn ac.tmps.toList ps as body w.heap.size)) := by
  refine ⟨⟨ρ3, F3, W3, [], d1.reK (fun k hk => hk.elim) (fun _ _ _ _ _ hk => hk.elim), ?_, hI2.size⟩, fun t ht => by simp at ht, trivial⟩
  have h0 : VR ρ3 s1.H F3 w3 s1.a ((ac3.tmps.toList ++ [v]) ++ ac.tmps.toList) := by simpa using hI3.vals
  have := (h0.drop (k := fnI.ntmps + 1) (by simp [htl3])).tr d2
  simpa using this
 have hend : (Instr.endLoop (w.heap.size + 1)).run E.P w3 = .ok pe (w3.putObj (w.heap.size + 1) (Ab2 .exhausted pe fn ac.tmps.toList ps as body w.heap.size)) :=
  run_endLoop hrec3 (by cases pe <;> simp)
 have hpost : rangePost Fence.wide m E.P (w.heap.size + 1) Q { ac with defers := [Lc6 w.heap.size] ++ ac.defers } (.returned (.tuple #[])) w3 := by
  refine ⟨pe, _, hend, ?_⟩
  rcases hcase with ⟨rfl, rfl⟩ | ⟨rfl, rfl⟩ | ⟨id, rfl, rfl⟩
  ·exact hQ _ _ hIe
  ·exact wpIn_ret (hQ _ _ hIe)
  ·exact wpIn_exit (hQ _ _ hIe)
 have hresults : (results fnI ac3.tmps).run E.P w3 = .ok (.tuple #[]) w3 := by
  have h0 : fnI.results = #[] := Array.eq_empty_of_size_eq_zero (Nat.eq_of_beq_eq_true hres)
  simp [results, h0]
 cases x1 with
 | normal => exact ⟨hdf3, _, hresults, hpost⟩
 | ret => exact ⟨hdf3, _, hresults, hpost⟩
 | exit id => exact absurd rfl (hne id)
end
end Go.Ev
namespace Go.Ev
open Go
section
variable {P : Program} {W WB : Nat → Prop} {ρ ρ0 : Rho} {H H0 : List b8} {F F0 : Fz} {w w0 : World} {W' : Nat → Prop} {E : Env} {n : Nat} {ds : List Deferred}
theorem Sb6 : ∀ {H : List b8}, dd4 H = true → ∀ (id : Nat) b, H[id]? = some b → B5 b = false
 | [], _, id, b, hb => by simp at hb
 | c :: H, h, id, b, hb => by
  have h : Bool.rec (motive := fun _ => Bool) (dd4 H) false (B5 c) = true := h
  cases hc : B5 c with
  | true => rw [hc] at h; cases h
  | false =>
   rw [hc] at h
   cases id with
   | zero => simp at hb; subst hb; exact hc
   | succ id => exact Sb6 h id b (by simpa using hb)
theorem rd2 (h : dd4 H = true) : p4 H = H := by
 refine List.ext_getElem? fun id => ?_
 cases hb : H[id]? with
 | none => rw [Za1, List.getElem?_map, hb]; rfl
 | some b => exact ga0 hb (Sb6 h id b hb)
theorem v9.more (h : v9 W' ρ H F w) (hs : ∀ k, W' k → W k) : v9 W ρ H F w :=
 ⟨fun id b hb hd => by
  obtain ⟨cc, t, fr, hB⟩ := h.blk id b hb hd
  exact ⟨cc, t, fr, hB.obj, hB.room, hB.len, hB.rows, hB.cell, fun ho => ⟨(hB.own ho).1, hs _ (hB.own ho).2.1, (hB.own ho).2.2⟩, hB.kept⟩, h.apart, h.frz, fun k hk => hs k (h.new k hk)⟩
theorem Sb7 {Fe : Fence} {m : Nat} {fn : Func} {tmps : Array Value} {R : Ending → World → Prop} : ∀ (ds : List Deferred) (w : World), C2 P WB be5 Gd1 ρ0 H0 F0 w0 H ds w ρ F W' [] →
  (∀ w'', C2 P WB be5 Gd1 ρ0 H0 F0 w0 H [] w'' ρ F W' [] → Tr ρ H F w ρ H F w'' → LeavesIn Fe m P fn tmps R [] .returning w'') → LeavesInM Fe m P fn tmps R ds .returning w
 | [], w, hC, hR => hR w hC fun _ _ h => h
 | d :: ds, w, hC, hR => by
  obtain ⟨D, rfl, h2, h3, h4, h5⟩ := hC.marks.1 d (.head _)
  have hnd := List.nodup_cons.1 hC.marks.2
  obtain ⟨c1, c2⟩ := hC.turn (J' := Gd1) (up' := []) (ds' := ds) D _ (.deferred none) h2 (fun _ _ _ e => by cases e) (fun _ _ e => by cases e) h5 h3 rfl
   ⟨fun d' hd' => by
    obtain ⟨D', rfl, k2, k3, k4, k5⟩ := hC.marks.1 d' (.tail _ hd')
    have hne : D' ≠ D := fun e => hnd.1 (e ▸ hd')
    exact ⟨D', rfl, by rw [World.putObj_heap_other hne]; exact k2, k3, by rw [World.putObj_size]; exact k4, k5⟩, hnd.2⟩
  refine ⟨by simp, .inl ⟨D, _, rfl, run_takeDeferred h2, Sb7 ds _ c1 fun w'' hC' ht => hR w'' hC' fun x x' hx => ht _ _ (c2 _ _ hx)⟩⟩
theorem Gd2 {f : FuncId} {fn fnI : Func} {pf : PFn} {h : Rc3} (hf : E.P.funcs[f]? = some fn) (hname : fn.name ≠ "runtime.NumGoroutine") (hfI : E.P.funcs[h.fi]? = some fnI) (hnameI : fnI.name ≠ "runtime.NumGoroutine")
  (hc : mb0 E.P h fnI fn = some pf) (hcalls : ∀ f, j7 E.P E.G f (E.call f)) : j7 E.P E.G f (Ab1 E pf) := by
 intro args blks r out he W ρ F w args' hH hlen hargs hG
 unfold mb0 at hc
 cases hb : fn.body with
 | none => simp [hb] at hc
 | some c =>
 cases hbI : fnI.body with
 | none => simp [hb, hbI] at hc
 | some cI =>
 simp only [hb, hbI] at hc
 split at hc
 case isFalse => cases hc
 rename_i hres
 injection hc with hc
 subst hc
 refine ⟨⟨fn, hf, by simp [hb], hname⟩, ?_⟩
 unfold Ab1 at he
 obtain ⟨hns, he⟩ := DT.run_guard_some he
 rw [Bool.and_eq_true, m8] at hns
 obtain ⟨hns, hle⟩ := hns
 have hle : args.length ≤ fn.ntmps := Nat.le_of_ble_eq_true hle
 rw [m8, D6, m8] at he
 obtain ⟨⟨x, s1⟩, h1, h2⟩ := DT.run_bind_some he
 simp only at h2 h1
 refine (callsIn_wide (n := 2)).1 (callsIn_of_wp_marks hf hb trivial ?_)
 have hmb := rd2 hns
 have hI : be6 E.P W fn.ntmps ρ blks F w ⟨args ++ List.replicate (fn.ntmps - args.length) (.v (.tuple #[])), blks⟩ { tmps := args'.toArray ++ Array.replicate (fn.ntmps - args'.toArray.size) undef, defers := [] } w := by
  refine ⟨⟨ρ, F, W, [], ⟨fun _ h => h, .refl, by rw [hmb]; exact hH, ⟨fun id b hb hs => (by rw [Sb6 hns id b hb] at hs; cases hs), fun id id' b b' hb hb' hs => (by rw [Sb6 hns id b hb] at hs; cases hs)⟩, fun k hk => hk.elim, fun _ _ _ _ _ hk => hk.elim, rfl, Fb7⟩, ⟨by simp [hlen], fun i y y' hy hy' => ?_⟩, ?_⟩, fun t ht => by simp at ht, trivial⟩
  ·simp only at hy hy'
   rw [List.append_nil] at hy'
   have hy' : (args'.toArray ++ Array.replicate (fn.ntmps - args'.toArray.size) undef)[i]? = some y' := by rw [← Array.getElem?_toList]; exact hy'
   rcases Nat.lt_or_ge i args.length with hi | hi
   ·rw [List.getElem?_append_left hi] at hy
    rw [Array.getElem?_append_left (by simpa [← hlen] using hi)] at hy'
    exact .w (by rw [hmb]; exact hargs i y y' hy (by simpa using hy'))
   ·rw [List.getElem?_append_right hi] at hy
    rw [Array.getElem?_append_right (by simpa [← hlen] using hi)] at hy'
    rw [List.getElem?_replicate] at hy
    rw [Array.getElem?_replicate] at hy'
    split at hy
    ·split at hy'
     ·injection hy with hy; injection hy' with hy'
      subst hy hy'
      exact .w (.ofv _)
     ·cases hy'
    ·cases hy
  ·simp only [Array.size_append, Array.size_replicate, List.size_toArray]; omega
 have hfin : ∀ (ac' : Act) (w' : World), be6 E.P W fn.ntmps ρ blks F w s1 ac' w' → (match Na5 (Ra2 (o7 (ga7 s1.H) s1.a) (p4 s1.H)) (fn.results.toList.map (oc9 E.P)) with
    | some l => .guard (dd4 (I6 s1.H blks.length)) (wb7 blks.length (p4 s1.H) (ib3 l))
    | none => .fail : DT (b7 × List b8)).run = some (r, out) → LeavesInM Fence.wide 2 E.P fn ac'.tmps (fun e w' => ∃ r', e = .returned r' ∧ N7 W ρ blks F w r out r' w') ac'.defers .returning w' := fun ac' w' hI' hr => by
  obtain ⟨⟨ρ1, F1, W1, up, hI2⟩, _, _⟩ := hI'
  have hup : up = [] := hI2.core.jot
  subst hup
  refine Sb7 _ _ hI2.core fun w'' hC ht => ?_
  cases hm : Na5 (Ra2 (o7 (ga7 s1.H) s1.a) (p4 s1.H)) (fn.results.toList.map (oc9 E.P)) with
  | none => rw [hm] at hr; cases hr
  | some l =>
  rw [hm] at hr
  obtain ⟨hfirst, hr⟩ := DT.run_guard_some hr
  have hI3 : I2 E.P W be5 Gd1 fn.ntmps ρ blks F w s1 { ac' with defers := [] } w'' ρ1 F1 W1 [] := ⟨hC, hI2.vals.tr ht, hI2.size⟩
  have hA := hI3.arel
  have hla : I6 s1.a fn.ntmps = s1.a := by
   have := hI2.vals.1
   rw [List.append_nil, Array.length_toList, hI2.size] at this
   rw [H7, ← this, List.take_length]
  rw [hla] at hA
  obtain ⟨v, k1, k2⟩ := qc5 hC.hrel hA hres hm
  have hadv : Adv W ρ blks F w ρ1 (p4 s1.H) F1 w'' := by
   refine ⟨hC.adv.ext, fun id b hid => ?_, hC.adv.more, hC.adv.new, fun id b' hb' hn => ?_⟩
   ·obtain ⟨b', g1, g2, g3, g4⟩ := hC.adv.heap id b hid
    have hlt := (List.getElem?_eq_some_iff.1 hid).1
    have hs : B5 b' = false := Sb6 hfirst id b' (by rw [H7, List.getElem?_take, if_pos hlt]; exact g1)
    exact ⟨b', ga0 g1 hs, g2, g3, g4⟩
   ·rw [ac6, List.getElem?_map] at hb'
    cases hq : s1.H[id]? with
    | none => rw [hq] at hb'; cases hb'
    | some q =>
     rw [hq] at hb'
     injection hb' with hb'
     have hg : b'.g = q.g := by
      rw [← hb']
      unfold xd3
      cases B5 q <;> rfl
     exact hC.adv.fresh id q hq fun b hb => by rw [← hg]; exact hn b hb
  refine ⟨v, k1, v, rfl, ?_⟩
  simp only [wb7] at hr
  cases ht : oc6 blks.length (p4 s1.H) (List.range blks.length) (ib3 l) with
  | mk z roots =>
  simp only [ht] at hr
  cases hb2 : xa4 blks.length (p4 s1.H) 0 roots with
  | none => simp [hb2] at hr
  | some H2 =>
  simp only [hb2] at hr
  have hr' : some (z, H2) = some (r, out) := hr
  injection hr' with hr'; injection hr' with e1 e2; subst e1 e2
  obtain ⟨m1, _, m3⟩ := qc1 (TOk.start _) ht
  exact ⟨_, F1, Qb6 m1 hb2 hadv, (Eb6 m1 hC.hrel hb2).more hC.sub, Pc5 hb2 m3 k2⟩
 refine Mb7 FW.wide hG hcalls (fun _ _ _ _ h => h) (fun rd hrd => by cases hrd) (ed0 hG hcalls hfI hbI hnameI) c 0 _ x s1 h1 _ w _ hI fun ac' w' hI' => ?_
 cases x with
 | normal => exact hfin ac' w' hI' h2
 | ret => exact hfin ac' w' hI' h2
 | exit id => cases h2
end
end Go.Ev
namespace Go.Ev
open Go
theorem j7.body2 {E : Env} {P : Program} {f : FuncId} {h : Rc3} {fn fnI : Func} {pf : PFn} (hP : E.P = P) (hf : P.funcs[f]? = some fn) (hn : fn.name ≠ "runtime.NumGoroutine") (hfI : P.funcs[h.fi]? = some fnI) (hnI : fnI.name ≠ "runtime.NumGoroutine")
  (hc : mb0 P h fnI fn = some pf) (hcalls : ∀ g, j7 E.P E.G g (E.call g)) : j7 E.P E.G f (Ab1 E pf) := by
 subst hP
 exact Gd2 hf hn hfI hnI hc hcalls
inductive PS2 where
 | pc (c : PC)
 | seq (a b : PS2)
 | cond (c : Arg) (x y : PS2)
 | block (id : Nat) (c : PS2)
 | sum (S : St → DT (d7 × St))
 | inner (f : Nat) (x : Arg) (nIn : Nat) (c : PS2)
noncomputable def ac8 (E : Env) (k : Nat) (c : PS2) : St → DT (d7 × St) :=
 PS2.rec (motive := fun _ => St → DT (d7 × St))
  (fun c => M1 E k c)
  (fun _ _ x y s => (x s).bind fun r => d7.rec (motive := fun _ => DT (d7 × St)) (y r.2) (fun id => .ret (.exit id, r.2)) (.ret (.ret, r.2)) r.1)
  (fun c _ _ x y s => match c8 E s.a c with
   | .v (.bool b) => .ite b (x s) (y s)
   | _ => .fail)
  (fun id _ x s => (x s).bind fun r => d7.rec (motive := fun _ => DT (d7 × St)) (.ret (.normal, r.2))
   (fun id' => Bool.rec (.ret (.exit id', r.2)) (.ret (.normal, r.2)) (Nat.beq id' id)) (.ret (.ret, r.2)) r.1)
  (fun S => S)
  (fun f x nIn _ c s => match c8 E s.a x with
   | .fn f' caps => match Nat.beq f f' && Nat.ble (len caps + 1) nIn with
    | true => (c (ob5 caps nIn s)).bind fun r =>
      d7.rec (motive := fun _ => DT (d7 × St)) (wb6 (hdA (g9 r.2.a nIn)) ⟨g9 r.2.a (nIn + 1), r.2.H⟩) (fun _ => .fail) (wb6 (hdA (g9 r.2.a nIn)) ⟨g9 r.2.a (nIn + 1), r.2.H⟩) r.1
    | false => .fail
   | _ => .fail) c
inductive ea8 (E : Env) (k : Nat) : PS2 → PC → Prop
 | pc (c : PC) : ea8 E k (.pc c) c
 | seq {a b : PS2} {a' b' : PC} (h : ea8 E k a a') (h' : ea8 E k b b') : ea8 E k (.seq a b) (.seq a' b')
 | cond (c : Arg) {a b : PS2} {a' b' : PC} (h : ea8 E k a a') (h' : ea8 E k b b') : ea8 E k (.cond c a b) (.cond c a' b')
 | block (id : Nat) {a : PS2} {a' : PC} (h : ea8 E k a a') : ea8 E k (.block id a) (.block id a')
 | sum {S : St → DT (d7 × St)} {c : PC} (h : ∀ s, U0 (S s) (M1 E k c s)) : ea8 E k (.sum S) c
 | inner (f : Nat) (x : Arg) (nIn : Nat) {a : PS2} {a' : PC} (h : ea8 E k a a') : ea8 E k (.inner f x nIn a) (.inner f x nIn a')
noncomputable def rd3 (E : Env) (f : Nat) (x : Arg) (nIn : Nat) (c : St → DT (d7 × St)) (s : St) : DT (d7 × St) := match c8 E s.a x with
   | .fn f' caps => match Nat.beq f f' && Nat.ble (len caps + 1) nIn with
    | true => (c (ob5 caps nIn s)).bind fun r =>
      d7.rec (motive := fun _ => DT (d7 × St)) (wb6 (hdA (g9 r.2.a nIn)) ⟨g9 r.2.a (nIn + 1), r.2.H⟩) (fun _ => .fail) (wb6 (hdA (g9 r.2.a nIn)) ⟨g9 r.2.a (nIn + 1), r.2.H⟩) r.1
    | false => .fail
   | _ => .fail
theorem Rc6 {E : Env} {f : Nat} {x : Arg} {nIn : Nat} {c c' : St → DT (d7 × St)} (h : ∀ s, U0 (c s) (c' s)) (s : St) : U0 (rd3 E f x nIn c s) (rd3 E f x nIn c' s) := by
 unfold rd3
 cases c8 E s.a x with
 | fn f' caps =>
  simp only
  cases Nat.beq f f' && Nat.ble (len caps + 1) nIn with
  | true => exact (h _).bind fun r => .refl _
  | false => exact .fail _
 | _ => exact .fail _
theorem ea8.le {E : Env} {k : Nat} {a : PS2} {c : PC} (h : ea8 E k a c) : ∀ s, U0 (ac8 E k a s) (M1 E k c s) := by
 induction h with
 | pc c => exact fun s => .refl _
 | seq h h' ih ih' =>
  intro s
  refine (ih s).bind fun r => ?_
  rcases r with ⟨x, s'⟩
  cases x with
  | normal => exact ih' s'
  | exit id => exact .refl _
  | ret => exact .refl _
 | cond c h h' ih ih' =>
  intro s
  show U0 (match c8 E s.a c with | .v (.bool b) => _ | _ => _) (match c8 E s.a c with | .v (.bool b) => _ | _ => _)
  split
  ·exact .ite (ih s) (ih' s)
  ·exact .fail _
 | block id h ih => exact fun s => (ih s).bind fun r => .refl _
 | sum h => exact h
 | inner f x nIn h ih =>
  intro s
  exact Rc6 (E := E) (f := f) (x := x) (nIn := nIn) ih s
noncomputable def ie8 (E : Env) (fn : PFn) (body : PS2) (args : List b7) (blks : List b8) : DT (b7 × List b8) :=
 .guard (Bool.and (dd4 blks) (Nat.ble (len args) fn.ntmps)) ((ac8 E (len blks) body ⟨app args (List.replicate (fn.ntmps - len args) (.v (.tuple #[]))), blks⟩).bind fun r =>
  match r.1 with
  | .exit _ => .fail
  | _ => match Na5 (Ra2 (o7 (ga7 r.2.H) r.2.a) (p4 r.2.H)) fn.res with
   | some l => .guard (dd4 (I6 r.2.H (len blks))) (wb7 (len blks) (p4 r.2.H) (ib3 l))
   | none => .fail)
theorem ed1 {E : Env} {fn : PFn} {body : PS2} {args : List b7} {blks : List b8} (h : ea8 E (len blks) body fn.body) : U0 (ie8 E fn body args blks) (Ab1 E fn args blks) :=
 U0.ite (U0.bind (h.le _) fun _ => .refl _) (.refl _)
@[reducible] noncomputable def ed2 (k : Nat) (keep : List Nat) (s : St) : DT St := tidyM k ⟨J9 keep s.a 0, s.H⟩
theorem rd4 (E : Env) (k : Nat) (keep : List Nat) (c : PC) (s : St) : M1 E k (.loopM keep c) s = vb0 (ed2 k keep) (M1 E k c) E.N s := rfl
end Go.Ev
namespace Go.Ev
open Go
noncomputable def got (x : Option PFn) : PFn := Option.rec (motive := fun _ => PFn) ⟨0, [], .skip⟩ (fun y => y) x
theorem f7 {x : Option PFn} (h : Option.isSome x = true) : x = some (got x) := by cases x with
 | none => cases h
 | some y => rfl
def r6 (P : Program) (f : FuncId) (R : Env → Sum) : Prop := ∀ {E : Env}, E.P = P → (∀ g, j7 E.P E.G g (E.call g)) → j7 E.P E.G f (R E)
theorem u9 {P : Program} {f : FuncId} {fn : Func} {pf : PFn} (hm : P.follows .mixedOrders = true) (hf : P.funcs[f]? = some fn) (hn : decide (fn.name ≠ "runtime.NumGoroutine") = true) (hc : e7 P fn = some pf) : r6 P f fun E => l4 E pf :=
 fun hP hcalls => j7.body hP hm hf (of_decide_eq_true hn) hc hcalls
theorem ie9 {P : Program} {f : FuncId} {h : Rc3} {fn fnI : Func} {pf : PFn} (hf : P.funcs[f]? = some fn) (hn : decide (fn.name ≠ "runtime.NumGoroutine") = true) (hfI : P.funcs[h.fi]? = some fnI) (hnI : decide (fnI.name ≠ "runtime.NumGoroutine") = true)
  (hc : mb0 P h fnI fn = some pf) : r6 P f fun E => Ab1 E pf :=
 fun hP hcalls => j7.body2 hP hf (of_decide_eq_true hn) hfI (of_decide_eq_true hnI) hc hcalls
end Go.Ev
