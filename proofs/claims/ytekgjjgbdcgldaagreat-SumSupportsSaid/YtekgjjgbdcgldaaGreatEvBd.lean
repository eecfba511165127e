/- Own work: a part of the proof. -/
import Derived.Test.YtekgjjgbdcgldaaGreatEvSpC
import Derived.Test.YtekgjjgbdcgldaaGreatEvDraw4
import Derived.Test.YtekgjjgbdcgldaaGreatEvSp3
set_option linter.unusedVariables false
set_option linter.unusedSimpArgs false
set_option linter.unnecessarySimpa false
set_option linter.unusedSectionVars false
namespace Go.Ev
open Go
def vb8 (st:LoopState) (pe:Option Code) (fn:FuncId) (tm:List Value) (ps:Array Tmp) (asq body:Code) (D:Nat):Obj :=
 .loop { state:=st,pending:=pe,fn,tmps:=tm.toArray,params:=ps,assign:=asq,body,defers:=D }
def Yb1:Option Code→Option Value
 | none=>some (.int .i64 (.ofNat 0))
 | some .ret=>some (.int .i64 (.ofNat 1))
 | some (.exit id)=>some (.int .i64 (.ofNat (id+2)))
 | _=>none
def KR (l:Nat) (Ds:List Nat):Nat→Prop:=fun k=>k=l∨k∈Ds
def Nd1 (Ds:List Nat) (w:World):Prop:=∀ d∈Ds,w.heap[d]?=some (.deferred (some []))
def JI (l D:Nat) (Ds:List Nat) (fn:FuncId) (tm:List Value) (ps:Array Tmp) (asq body:Code) (up:List Value) (w:World):Prop :=
 ∃ pe v,Yb1 pe=some v∧up=v::tm∧w.heap[l]?=some (vb8 (if pe.isNone then .ready else .done) pe fn tm ps asq body D)∧Nd1 Ds w
def JR (l D:Nat) (Ds:List Nat) (fn:FuncId) (tm:List Value) (ps:Array Tmp) (asq body:Code) (st:LoopState) (inn:List Value) (up:List Value) (w:World):Prop :=
 up=inn++Value.int .i64 (.ofNat 0)::tm∧w.heap[l]?=some (vb8 st none fn tm ps asq body D)∧Nd1 Ds w
def noD:List Deferred→Prop:=fun ds=>ds=[]
theorem pe9 (l D:Nat) (Ds:List Nat) (fn:FuncId) (tm:List Value) (ps:Array Tmp) (asq body:Code):Jb4 (KR l Ds) (JI l D Ds fn tm ps asq body):=fun up w w' h ⟨pe,v,h1,h2,h3,h4⟩ =>
 ⟨pe,v,h1,h2,(h l (.inl rfl)).trans h3,fun d hd=>(h d (.inr hd)).trans (h4 d hd)⟩
theorem qe0 (l D:Nat) (Ds:List Nat) (fn:FuncId) (tm:List Value) (ps:Array Tmp) (asq body:Code) (st:LoopState) (inn:List Value):Jb4 (KR l Ds) (JR l D Ds fn tm ps asq body st inn):=fun up w w' h ⟨h1,h2,h3⟩ =>
 ⟨h1,(h l (.inl rfl)).trans h2,fun d hd=>(h d (.inr hd)).trans (h3 d hd)⟩
section
variable {P:Program} {WB K:Nat→Prop} {J J':List Value→World→Prop} {DF:List Deferred→Prop} {S S0:HL} {rv:Value} {ρ ρ0:Rho} {H H0 H':List b9} {F F0:Fz} {w w0 w':World} {W':Nat→Prop} {up up':List Value} {E:Env} {n m:Nat} {Fe:Fence} {a:List b7} {ac:Act} {ds ds':List Deferred}
theorem C2.re (h:C2 P WB K J ρ0 H0 F0 w0 H ds w ρ F W' up) (hJ:J' up' w) (hM:Fb1 WB W' ds' w):C2 P WB K J' ρ0 H0 F0 w0 H ds' w ρ F W' up' :=
 ⟨h.sub,h.adv,h.hrel,h.srel,h.kept,h.far,hJ,hM⟩
theorem Nd1.turn {w:World} {l:Nat} {r:Loop} {Ds:List Nat} (h:Nd1 Ds w) (hl:w.heap[l]?=some (.loop r)) (o:Obj):Nd1 Ds (w.putObj l o):=fun d hd=>by
 have hne:d≠l:=fun e=>by
  have:=h d hd
  rw[e,hl] at this
  cases this
 rw[World.putObj_heap_other hne]
 exact h d hd
theorem Bb4:Fb1 WB W' [] w:=⟨fun d hd=>by simp at hd,List.nodup_nil⟩
theorem Nd2 {k:Nat} {o:Obj} (hk:w.heap[k]?=some o) (ho:∀ cc t fr,o≠.cells cc t fr) (b:Nat):w.cell? ⟨k,b,none⟩=none:=by
 cases o with
 | cells=>exact (ho _ _ _ rfl).elim
 | _=>simp[World.cell?,hk]
theorem C2.turn (h : C2 P WB K J ρ0 H0 F0 w0 H ds w ρ F W' up) (k : Nat) (o o' : Obj) (hk : w.heap[k]? = some o) (ho : ∀ cc t fr, o ≠ .cells cc t fr) (hm : ∀ es clk, o ≠ .map es clk) (hWB : WB k) (hnW : ¬ W' k)
  (hJ:J' up' (w.putObj k o')) (hM:Fb1 WB W' ds' (w.putObj k o')):C2 P WB K J' ρ0 H0 F0 w0 H ds' (w.putObj k o') ρ F W' up'∧Tr ρ H F w ρ H F (w.putObj k o'):=by
 have hlt:=(Array.getElem?_eq_some_iff.1 hk).1
 have hnF:∀ b,¬ F k b:=fun b hf=>by
  have:=h.hrel.frz k b hf
  rw[Nd2 hk ho b] at this
  cases this
 have hbase:C2 P WB K (fun _ _=>True) ρ0 H0 F0 w0 H [] w ρ F W' up':=h.re trivial Bb4
 obtain⟨c1,c2⟩:=hbase.change (w':=w.putObj k o') (H':=H) (up':=up') k hWB hnW hnF rfl rfl rfl (Nat.le_refl _) (by simp) (fun j hj=>World.putObj_heap_other hj)
  (fun cc t fr hc=>by rw[hk] at hc;injection hc with hc;exact (ho _ _ _ hc).elim) rfl (fun id b hb=>⟨b,hb,rfl,rfl,rfl,rfl,Nat.le_refl _,fun _=>rfl⟩) (fun id b hb _ _ _=>hb)
  (fun _ id b hb hs hd e=>by
   obtain⟨_,_,_,_,hc⟩:=h.srel.has id b hb hs hd
   rw[e] at hc
   rcases hc with⟨_,row,vs,t,_,m2,_⟩ | ⟨t,Kt,El,fl,es,clk,_,_,_,m4,_⟩
   ·rw[hk] at m2;injection m2 with m2;exact (ho _ _ _ m2).elim
   ·rw[hk] at m4;injection m4 with m4;exact (hm _ _ m4).elim)
  trivial (fun D hD=>by simp at hD)
 exact⟨c1.re hJ hM,c2⟩
end
end Go.Ev
namespace Go.Ev
open Go
section
variable {P:Program} {WB K:Nat→Prop} {J J':List Value→World→Prop} {DF:List Deferred→Prop} {S S0:HL} {rv:Value} {ρ ρ0:Rho} {H H0 H':List b9} {F F0:Fz} {w w0 w':World} {W':Nat→Prop} {up up':List Value} {E:Env} {n m:Nat} {Fe:Fence} {a b:List b7} {ac:Act} {ds ds':List Deferred} {vs us:List Value}
theorem VR.drop (h:VR ρ H F w a (vs++us)) {k:Nat} (hk:vs.length=k):VR ρ H F w (g8 a k) us:=by
 have hl:=h.1
 rw[List.length_append] at hl
 rw[F5]
 refine⟨by rw[List.length_drop];omega,fun i x x' hx hx'=>?_⟩
 rw[List.getElem?_drop] at hx
 refine h.2 (k+i) x x' hx ?_
 rw[List.getElem?_append_right (by omega),hk,Nat.add_sub_cancel_left]
 exact hx'
theorem VR.take (h:VR ρ H F w a (vs++us)) {k:Nat} (hk:vs.length=k):VR ρ H F w (H6 a k) vs:=by
 have hl:=h.1
 rw[List.length_append] at hl
 rw[I4]
 refine⟨by rw[List.length_take];omega,fun i x x' hx hx'=>?_⟩
 have hi:=(List.getElem?_eq_some_iff.1 hx').1
 rw[List.getElem?_take,if_pos (by omega)] at hx
 exact h.2 i x x' hx (by rw[List.getElem?_append_left hi];exact hx')
theorem VR.app (h:VR ρ H F w a vs) (h':VR ρ H F w b us):VR ρ H F w (Ev.app a b) (vs++us):=by
 rw[E5]
 refine⟨by rw[List.length_append,List.length_append,h.1,h'.1],fun i x x' hx hx'=>?_⟩
 rcases Nat.lt_or_ge i a.length with hi | hi
 ·rw[List.getElem?_append_left hi] at hx
  rw[List.getElem?_append_left (h.1 ▸ hi)] at hx'
  exact h.2 i x x' hx hx'
 ·rw[List.getElem?_append_right hi] at hx
  rw[List.getElem?_append_right (h.1 ▸ hi)] at hx'
  rw[h.1] at hx
  exact h'.2 _ x x' hx hx'
theorem VR.cons {x:b7} {x':Value} (hx:XW ρ H F w x x') (h:VR ρ H F w a vs):VR ρ H F w (x::a) (x'::vs):=by
 refine⟨by simp[h.1],fun i y y' hy hy'=>?_⟩
 cases i with
 | zero=>simp at hy hy';subst hy hy';exact hx
 | succ i=>exact h.2 i y y' (by simpa using hy) (by simpa using hy')
theorem VR.head {v:Value} (h:VR ρ H F w a (v::vs)):XW ρ H F w (hdA a) v:=by
 cases a with
 | nil=>exact .w (.unk _)
 | cons x a=>exact h.2 0 x v rfl rfl
theorem VR.set (h:VR ρ H F w a vs) {x:b7} {x':Value} (hx:XW ρ H F w x x') (k:Nat):VR ρ H F w (setAt a k x) (vs.set k x'):=by
 rw[z7]
 refine⟨by simp[h.1],fun i y y' hy hy'=>?_⟩
 rw[List.getElem?_set] at hy hy'
 by_cases hi:k=i
 ·subst hi
  rw[if_pos rfl] at hy hy'
  split at hy
  ·split at hy'
   ·injection hy with hy;injection hy' with hy';subst hy hy';exact hx
   ·cases hy'
  ·cases hy
 ·rw[if_neg hi] at hy hy'
  exact h.2 i y y' hy hy'
theorem VR.setUp {v0 v:Value} {x:b7} (h:VR ρ H F w a (vs++v0::us)) {k:Nat} (hk:vs.length=k) (hx:XW ρ H F w x v):VR ρ H F w (setAt a k x) (vs++v::us):=by
 have:=h.set hx k
 rwa [List.set_append_right _ _ (by omega),hk,Nat.sub_self] at this
theorem Fd3 : ∀ (ps : List Nat) (vals : List b7) (avs : List Value) (base : List b7) (arr : List Value), vals.length = ps.length → avs.length = ps.length → (∀ (i : Nat) x x', vals[i]? = some x → avs[i]? = some x' → XW ρ H F w x x') → VR ρ H F w base arr →
  VR ρ H F w (De0 ps vals base) ((ps.zip avs).foldl (fun t pv=>t.set pv.1 pv.2) arr)
 | [],vals,avs,base,arr,h1,h2,h3,h4=>h4
 | p::ps,[],avs,base,arr,h1,h2,h3,h4=>by simp at h1
 | p::ps,v::vals,[],base,arr,h1,h2,h3,h4=>by simp at h2
 | p::ps,v::vals,u::avs,base,arr,h1,h2,h3,h4 =>
  Fd3 ps vals avs (setAt base p v) (arr.set p u) (by simpa using h1) (by simpa using h2) (fun i x x' hx hx'=>h3 (i+1) x x' (by simpa using hx) (by simpa using hx')) (h4.set (h3 0 v u rfl rfl) p)
theorem Qc3:∀ (l:List (Nat×Value)) (t:Array Value),(l.foldl (fun t pv=>t.setIfInBounds pv.1 pv.2) t).toList=l.foldl (fun t pv=>t.set pv.1 pv.2) t.toList
 | [],t=>rfl
 | (p,v)::l,t=>by
  simp only[List.foldl_cons]
  rw[Qc3 l,Array.toList_setIfInBounds]
theorem xc4 (ps:Array Nat) (args:Array Value) (t:Array Value):((ps.zip args).foldl (fun tmps (t,a)=>tmps.setIfInBounds t a) t).toList=(ps.toList.zip args.toList).foldl (fun t pv=>t.set pv.1 pv.2) t.toList:=by
 rw[← Array.foldl_toList,Array.toList_zip]
 exact Qc3 _ t
theorem kd7 (ps:Array Nat) (args:Array Value) (t:Array Value):((ps.zip args).foldl (fun tmps (t,a)=>tmps.setIfInBounds t a) t).size=t.size:=by
 rw[← Array.length_toList,xc4,← Array.length_toList]
 generalize ps.toList.zip args.toList=l
 generalize t.toList=tl
 induction l generalizing tl with
 | nil=>rfl
 | cons p l ih=>rw[List.foldl_cons,ih];simp
theorem Xc6 {x:b7} (h:pc5 x=true):x=.v (.int .i64 (.ofNat 0)):=by
 unfold pc5 at h
 split at h
 ·split at h
  ·rfl
  ·cases h
 ·cases h
theorem Nd3 {pe:Option Code} (h:Yb1 pe=some (.int .i64 (.ofNat 0))):pe=none:=by
 unfold Yb1 at h
 split at h
 ·rfl
 ·cases h
 ·injection h with h;injection h with _ h;injection h with h;omega
 ·cases h
variable {l D:Nat} {Ds:List Nat} {fnO:FuncId} {tm:List Value} {ps:Array Tmp} {asC bodyC:Code} {rd:Rd} {k:Nat}
def xd9 (E:Env) (WB:Nat→Prop) (l D:Nat) (Ds:List Nat) (fnO:FuncId) (tm:List Value) (ps:Array Tmp) (asC bodyC:Code) (nOut:Nat) (ρ0:Rho) (H0:List b9) (F0:Fz) (w0:World) (Fe:Fence) (m k:Nat) (st:LoopState) (c:Code) (pc:PC):Prop :=
 ∀ (inn:List Value) (s:St) (x:f0) (s':St),(J7 E k pc s).run=some (x,s')→∀ (ac:Act) (w:World) (Q:Exit→Act→World→Prop),
  I3 E.P WB (KR l Ds) (JR l D Ds fnO tm ps asC bodyC st inn) nOut [] undef noD ρ0 H0 F0 w0 s ac w →
  (∀ ac' w',I3 E.P WB (KR l Ds) (JR l D Ds fnO tm ps asC bodyC st inn) nOut [] undef noD ρ0 H0 F0 w0 s' ac' w'→Q (toX x) ac' w')→c.wpIn (Fe.inRound l) m E.P Q ac w
theorem qe1 (hF : FW Fe) (hG0 : GOk E F0 w0) (hps : rd.ps = ps.toList) (hnO : tm.length = rd.nOut) (hWl : WB l)
  (hAs:xd9 E WB l D Ds fnO tm ps asC bodyC rd.nOut ρ0 H0 F0 w0 Fe (m - 1) k .ready asC rd.asq) (hBo:xd9 E WB l D Ds fnO tm ps asC bodyC rd.nOut ρ0 H0 F0 w0 Fe (m - 1) k .busy bodyC rd.body) :
  YOk E Fe m n k rd fun S=>I3 E.P WB (KR l Ds) (JI l D Ds fnO tm ps asC bodyC) n S (.func (.yield l) #[] #[]) noD ρ0 H0 F0 w0:=by
 intro ops i o S args g s s' xx ac w rest Q hi hy hg hgn hdn hlt hlen hI he hQ
 obtain⟨⟨ρ,F,W',up,hI2⟩,hheld,hdf⟩:=hI
 obtain⟨pe,v,hpe,rfl,hrec,hdd⟩:=hI2.core.jot
 obtain ⟨s1, h1, h2⟩ := DT.run_bind_some (show ((pc4 E s o.dst g fun s => match pc5 (hdA (g8 s.a n)) with
   | true=>(J7 E k rd.asq (Uc7 E s (args.map g9) n rd.nOut rd.ps)).bind fun r0 =>
    f0.rec (motive:=fun _=>DT St) ((J7 E k rd.body r0.2).bind fun r=>.ret (sc7 o.dst n rd.nOut r)) (fun _=>.fail) .fail r0.1
   | false=>.fail).bind fun s=>.ret (f0.normal,s)).run=some (xx,s') from he)
 have h2:some (f0.normal,s1)=some (xx,s'):=h2
 injection h2 with h2;injection h2 with e1 e2;subst e1 e2
 have hQ:=hQ rfl
 simp only[wpOpsIn,hi]
 rcases Fb2 hg hgn hI2.vals hI2.size h1 with⟨hw,hd⟩ | ⟨hw,rfl⟩
 case inr =>
  rw[if_neg (by simp[hw])]
  exact⟨fun f _=>hF.fn f,hQ _ _ ⟨⟨ρ,F,W',_,by rw[r8];exact hI2.core,hI2.vals.putA hI2.size hdn (.w (.ofv _)),(ja1 _ _).trans hI2.size⟩,Ua8 hheld,by rw[r8];exact hdf⟩⟩
 rw[if_pos hw]
 have htl:ac.tmps.toList.length=n:=by rw[Array.length_toList];exact hI2.size
 have hup:VR ρ s.H F w (g8 s.a n) (v::tm):=hI2.vals.drop htl
 split at hd
 case h_2=>cases hd
 rename_i hnd
 have hv0:v=.int .i64 (.ofNat 0):=by
  have:=hup.head
  rw[Xc6 hnd] at this
  exact Md7 this
 subst hv0
 have hpe0:=Nd3 hpe
 subst hpe0
 have hrec:w.heap[l]?=some (vb8 .ready none fnO tm ps asC bodyC D):=hrec
 obtain⟨⟨x0,s2⟩,h3,h4⟩:=DT.run_bind_some hd
 cases x0 with
 | exit id=>cases h4
 | ret=>cases h4
 | normal =>
 obtain⟨⟨x2,s3⟩,h5,h6⟩:=DT.run_bind_some h4
 have h6:some (sc7 o.dst n rd.nOut (x2,s3))=some s1:=h6
 injection h6 with h6
 subst h6
 -- the operation asks for a round
 unfold Pb3 at hy
 split at hy
 case h_2=>cases hy
 rename_i c ho
 split at hy
 case h_2=>cases hy
 rename_i t hcal
 rw[hg] at hy
 simp only at hy
 split at hy
 case isFalse=>cases hy
 rename_i hS
 injection hy with hy
 have hev:ac.eval (.tmp t)=.func (.yield l) #[] #[]:=by
  have ht:=Xb8 hheld hS ((vb6 hg).1 hw)
  show ac.tmps.getD t undef=_
  have hlt:=(Array.getElem?_eq_some_iff.1 ht).1
  have:=(Array.getElem?_eq_some_iff.1 ht).2
  simp[Array.getD,hlt,this]
 have hnd':∀ c',o.op≠.defer c':=fun c' e=>by rw[ho] at e;cases e
 have hasz:(c.args.map ac.eval).size=ps.size:=by
  rw[Array.size_map]
  have:c.args.toList.length=ps.toList.length:=by rw[hy,← hps];exact hlen
  simpa using this
 have hyield:=run_yield (P:=E.P) (args:=c.args.map ac.eval) hrec hasz
 have hsem:(o.semAt Fe.round ac.eval).run E.P w=.ok (.round l fnO ((ps.zip (c.args.map ac.eval)).foldl (fun tmps (t,a)=>tmps.setIfInBounds t a) tm.toArray) asC bodyC) w:=by
  rw[Oper.semAt_eq _ _ _ hnd']
  have e:(execOp ac.eval o).run E.P w=(Instr.yield l (c.args.map ac.eval)).run E.P w:=by
   have hres:resolve ac.eval c o.type=pure { target:=.fn (.yield l) #[],args:=c.args.map ac.eval }:=by
    unfold resolve
    rw[hcal]
    simp only
    rw[hev]
    simp[Deferred.ofValue]
   have e1:execOp ac.eval o=(do let d ← resolve ac.eval c o.type;invoke d.target d.args):=by
    unfold execOp
    rw[ho]
   rw[e1,hres]
   rfl
  rw[e]
  exact hyield
 refine⟨fun f _=>hF.fn f,?_⟩
 rw[hsem,Oper.uponIn_round]
 refine⟨fun hd=>hF.depS hd,roundIn_of_wpIn (hF.fn _) ?_⟩
 -- the round's frame
 have hm0:C2 E.P WB (KR l Ds) (JR l D Ds fnO tm ps asC bodyC .ready ac.tmps.toList) ρ0 H0 F0 w0 s.H [] w ρ F W' (ac.tmps.toList++Value.int .i64 (.ofNat 0)::tm):=hI2.core.re ⟨rfl,hrec,hdd⟩ Bb4
 have hbase:VR ρ s.H F w (H6 (g8 s.a (n+1)) rd.nOut) tm:=by
  have h0:VR ρ s.H F w s.a ((ac.tmps.toList++[Value.int .i64 (.ofNat 0)])++(tm++[])):=by simpa using hI2.vals
  exact (h0.drop (by simp[htl])).take hnO
 have hargs:∀ (j:Nat) x x',(r7 (c8 E s.a) (args.map g9))[j]?=some x→(c.args.map ac.eval).toList[j]?=some x'→XW ρ s.H F w x x':=fun j x x' hx hx'=>by
  rw[o1,List.map_map,List.getElem?_map] at hx
  rw[Array.toList_map,hy,List.getElem?_map] at hx'
  cases hq:args[j]? with
  | none=>rw[hq] at hx;cases hx
  | some q =>
   rw[hq] at hx hx'
   injection hx with hx;injection hx' with hx'
   subst hx hx'
   rw[List.all_eq_true] at hlt
   exact bb3 hI2.vals hI2.size (hG0.adv hI2.core.adv) q (hlt q (List.mem_of_getElem? hq))
 have hfr : I3 E.P WB (KR l Ds) (JR l D Ds fnO tm ps asC bodyC .ready ac.tmps.toList) rd.nOut [] undef noD ρ0 H0 F0 w0 (Uc7 E s (args.map g9) n rd.nOut rd.ps)
   { tmps:=(ps.zip (c.args.map ac.eval)).foldl (fun tmps (t,a)=>tmps.setIfInBounds t a) tm.toArray,defers:=[] } w:=by
  refine⟨⟨ρ,F,W',_,hm0,?_,?_⟩,fun t ht=>by simp at ht,rfl⟩
  ·show VR ρ s.H F w (app (De0 rd.ps (r7 (c8 E s.a) (args.map g9)) (H6 (g8 s.a (n+1)) rd.nOut)) s.a) _
   refine VR.app ?_ hI2.vals
   rw[xc4,hps]
   have:=Fd3 (ρ:=ρ) (H:=s.H) (F:=F) (w:=w) ps.toList (r7 (c8 E s.a) (args.map g9)) (c.args.map ac.eval).toList _ tm (by rw[o1];simp[hlen,hps]) (by rw[Array.length_toList,hasz,Array.length_toList]) hargs hbase
   simpa using this
  ·rw[kd7];simpa using hnO
 refine hAs ac.tmps.toList _ .normal s2 h3 _ w _ hfr fun ac1 w1 hI1=>?_
 obtain⟨⟨ρ1,F1,W1,up1,hI1⟩,_,hdf1⟩:=hI1
 obtain⟨rfl,hrec1,hdd1⟩:=hI1.core.jot
 refine⟨_,run_beginRound hrec1 rfl,?_⟩
 have hKl:KR l Ds l:=.inl rfl
 obtain⟨b1,b2⟩:=hI1.core.turn (J':=JR l D Ds fnO tm ps asC bodyC .busy ac.tmps.toList) (up':=ac.tmps.toList++Value.int .i64 (.ofNat 0)::tm) (ds':=ac1.defers) l _ (vb8 .busy none fnO tm ps asC bodyC D) hrec1 (fun _ _ _ e=>by cases e) (fun _ _ e=>by cases e) hWl (hI1.core.kept l hKl).1
  ⟨rfl,World.putObj_heap_same (hI1.core.kept l hKl).2,hdd1.turn hrec1 _⟩ (by have:ac1.defers=[]:=hdf1;rw[this];exact Bb4)
 refine hBo ac.tmps.toList s2 x2 s3 h5 ac1 _ _ ⟨⟨ρ1,F1,W1,_,b1,hI1.vals.tr b2,hI1.size⟩,fun t ht=>by simp at ht,hdf1⟩ fun ac2 w2 hI3=>?_
 obtain⟨⟨ρ2,F2,W2,up2,hI3⟩,_,hdf3⟩:=hI3
 obtain⟨rfl,hrec2,hdd2⟩:=hI3.core.jot
 have hdefs:ac.defers=[]:=hdf
 have hkl:=(hI3.core.kept l hKl)
 have hdrop:VR ρ2 s3.H F2 w2 (g8 s3.a rd.nOut) (ac.tmps.toList++Value.int .i64 (.ofNat 0)::tm):=hI3.vals.drop (by rw[Array.length_toList];exact hI3.size)
 have hfin:∀ (pe:Option Code) (v:Value),Yb1 pe=some v→C2 E.P WB (KR l Ds) (JI l D Ds fnO tm ps asC bodyC) ρ0 H0 F0 w0 s3.H [] (w2.putObj l (vb8 (if pe.isNone then .ready else .done) pe fnO tm ps asC bodyC D)) ρ2 F2 W2 (v::tm)∧Tr ρ2 s3.H F2 w2 ρ2 s3.H F2 (w2.putObj l (vb8 (if pe.isNone then .ready else .done) pe fnO tm ps asC bodyC D)):=fun pe v hpe =>
  hI3.core.turn l _ _ hrec2 (fun _ _ _ e=>by cases e) (fun _ _ e=>by cases e) hWl hkl.1 ⟨pe,v,hpe,rfl,World.putObj_heap_same hkl.2,hdd2.turn hrec2 _⟩ Bb4
 cases x2 with
 | normal =>
  refine⟨_,_,run_endRound none hrec2,hQ _ _ ?_⟩
  obtain⟨c1,c2⟩:=hfin none _ rfl
  exact⟨⟨ρ2,F2,W2,_,by rw[r8,hdefs];exact c1,(hdrop.tr c2).putA hI2.size hdn (.w (.val (.cell (.v _)))),(ja1 _ _).trans hI2.size⟩,Ua8 hheld,by rw[r8];exact hdf⟩
 | ret =>
  refine⟨_,_,run_endRound (some .ret) hrec2,hQ _ _ ?_⟩
  obtain⟨c1,c2⟩:=hfin (some .ret) _ rfl
  exact⟨⟨ρ2,F2,W2,_,by rw[r8,hdefs];exact c1,((hdrop.tr c2).setUp htl (.w (.val (.cell (.v _))))).putA hI2.size hdn (.w (.val (.cell (.v _)))),(ja1 _ _).trans hI2.size⟩,Ua8 hheld,by rw[r8];exact hdf⟩
 | exit id =>
  refine⟨_,_,run_endRound (some (.exit id)) hrec2,hQ _ _ ?_⟩
  obtain⟨c1,c2⟩:=hfin (some (.exit id)) _ rfl
  exact⟨⟨ρ2,F2,W2,_,by rw[r8,hdefs];exact c1,((hdrop.tr c2).setUp htl (.w (.val (.cell (.v _))))).putA hI2.size hdn (.w (.val (.cell (.v _)))),(ja1 _ _).trans hI2.size⟩,Ua8 hheld,by rw[r8];exact hdf⟩
end
end Go.Ev
namespace Go.Ev
open Go
section
variable {P:Program} {WB K K':Nat→Prop} {J J':List Value→World→Prop} {ρ ρ0:Rho} {H H0 H':List b9} {F F0:Fz} {w w0 w':World} {W':Nat→Prop} {up up':List Value} {E:Env} {n m:Nat} {a b:List b7} {ac:Act} {ds ds':List Deferred} {vs us:List Value}
theorem C2.reK (h:C2 P WB K J ρ0 H0 F0 w0 H ds w ρ F W' up) (hk:∀ k,K' k→¬ W' k∧k < w.heap.size) (hf:∀ (id:Nat) b,H[id]?=some b→B9 b=true→b.dead=false→¬ K' (ρ id).blk):C2 P WB K' J ρ0 H0 F0 w0 H ds w ρ F W' up :=
 ⟨h.sub,h.adv,h.hrel,h.srel,hk,hf,h.jot,h.marks⟩
def bb4 (d:Deferred):Nat:=match d.target with
 | .collected r=>r
 | _=>0
def Qc4 (D:Nat):Deferred:={ target:=.collected D,args:=#[] }
def Nd4:List Value→World→Prop:=fun up _=>up=[]
def qe2:Nat→Prop:=fun _=>False
def We5:List Deferred→Prop:=fun _=>True
theorem Fb1.at (h:Fb1 WB W' ds w) {D:Nat} (hD:D∈ds.map bb4):Qc4 D∈ds∧w.heap[D]?=some (.deferred (some []))∧¬ W' D∧D < w.heap.size∧WB D:=by
 obtain⟨d,hd,rfl⟩:=List.mem_map.1 hD
 obtain⟨D,rfl,h2,h3,h4,h5⟩:=h.1 d hd
 exact⟨hd,h2,h3,h4,h5⟩
abbrev qe3 (P:Program) (WB:Nat→Prop) (n:Nat) (ρ0:Rho) (H0:List b9) (F0:Fz) (w0:World):St→Act→World→Prop:=I3 P WB qe2 Nd4 n [] undef We5 ρ0 H0 F0 w0
theorem yd0 {x : b7} {s s' : St} {xx : f0} {v : Value} {pe : Option Code} (h : (sb5 x s).run = some (xx, s')) (hx : XW ρ H F w x v) (hp : Yb1 pe = some v) :
  s'=s∧((pe=none∧xx=.normal)∨(pe=some .ret∧xx=.ret)∨∃ id,pe=some (.exit id)∧xx=.exit id):=by
 unfold sb5 at h
 split at h
 case h_2=>cases h
 rename_i n
 have hv:=Md7 hx
 subst hv
 have hn:∀ c,Yb1 pe=some (.int .i64 (.ofNat c))→(c=0∧pe=none)∨(c=1∧pe=some .ret)∨∃ id,c=id+2∧pe=some (.exit id):=fun c hc=>by
  unfold Yb1 at hc
  split at hc
  ·injection hc with hc;injection hc with _ hc;injection hc with hc;exact .inl ⟨hc.symm,rfl⟩
  ·injection hc with hc;injection hc with _ hc;injection hc with hc;exact .inr (.inl ⟨hc.symm,rfl⟩)
  ·rename_i id;injection hc with hc;injection hc with _ hc;injection hc with hc;exact .inr (.inr ⟨id,hc.symm,rfl⟩)
  ·cases hc
 rcases hn n hp with⟨rfl,rfl⟩ | ⟨rfl,rfl⟩ | ⟨id,rfl,rfl⟩
 ·have h:some (f0.normal,s)=some (xx,s'):=h
  injection h with h;injection h with e1 e2;subst e1 e2
  exact⟨rfl,.inl ⟨rfl,rfl⟩⟩
 ·have h:some (f0.ret,s)=some (xx,s'):=h
  injection h with h;injection h with e1 e2;subst e1 e2
  exact⟨rfl,.inr (.inl ⟨rfl,rfl⟩)⟩
 ·have h:some (f0.exit id,s)=some (xx,s'):=h
  injection h with h;injection h with e1 e2;subst e1 e2
  exact⟨rfl,.inr (.inr ⟨id,rfl,rfl⟩)⟩
theorem kd8 {caps : List b7} {cv : Array Value} {nIn l : Nat} {s : St} {tm : List Value} (hl : caps.length = cv.size) (hc : ∀ (i : Nat) x x', caps[i]? = some x → cv[i]? = some x' → XW ρ H F w x x') (hs : VR ρ H F w s.a tm) (hle : caps.length + 1 ≤ nIn) :
  VR ρ H F w (kb9 caps nIn s).a ((#[Value.func (.yield l) #[] #[]]++cv++Array.replicate (nIn - (#[Value.func (.yield l) #[] #[]]++cv).size) undef).toList++Value.int .i64 (.ofNat 0)::tm):=by
 have e:(#[Value.func (.yield l) #[] #[]]++cv++Array.replicate (nIn - (#[Value.func (.yield l) #[] #[]]++cv).size) undef).toList++Value.int .i64 (.ofNat 0)::tm=(Value.func (.yield l) #[] #[]::cv.toList)++(List.replicate (nIn - (caps.length+1)) undef++(Value.int .i64 (.ofNat 0)::tm)):=by
  simp[hl,Nat.add_comm]
 rw[e]
 unfold kb9
 simp only[l0]
 have hrep:∀ j,VR ρ H F w (List.replicate j (.v (.tuple #[]))) (List.replicate j undef):=fun j=>⟨by simp,fun i x x' hx hx'=>by
  rw[List.getElem?_replicate] at hx hx'
  split at hx
  ·split at hx'
   ·injection hx with hx;injection hx' with hx';subst hx hx';exact .w (.ofv _)
   ·contradiction
  ·cases hx⟩
 have hcv:VR ρ H F w caps cv.toList:=⟨by simpa using hl,fun i x x' hx hx'=>hc i x x' hx (by simpa using hx')⟩
 exact VR.app (VR.cons (.w (.unk _)) hcv) (VR.app (hrep _) (VR.cons (.w (.val (.cell (.v _)))) hs))
theorem kd9 (hmx : E.P.follows .mixedOrders = true) {h : Ic1} {fnI : Func} {cI : Code} (hG0 : GOk E F0 w0) (hcalls : ∀ f, i4 E.P E.G f (E.call f)) (hfI : E.P.funcs[h.fi]? = some fnI) (hbI : fnI.body = some cI) (hname : fnI.name ≠ "runtime.NumGoroutine") :
  Ne8 E Fence.wide m H0.length (xd6 E.P h fnI cI n) (qe3 E.P WB n ρ0 H0 F0 w0):=by
 intro g ps asq body s s' x ac w Q he hI hQ
 obtain⟨⟨ρ,F,W',up,hI2⟩,_,_⟩:=hI
 have hup:up=[]:=hI2.core.jot
 subst hup
 unfold xd6 at he
 split at he
 case h_2=>cases he
 rename_i hc
 simp only[Bool.and_eq_true] at hc
 obtain⟨⟨hg,hres⟩,hpsn⟩:=hc
 have he' : (match c8 E s.a (g9 g) with
   | .fn f' caps=>match Nat.beq h.fi f'&&(Nat.ble (len caps+1) fnI.ntmps&&!Nat.ble bfB h.fi) with
    | true => (J7 E H0.length (oa0 E.P fnI.ntmps [] (some (Ne5 E.P h n ps asq body)) [(0, none)] (Nd0 h.ki) Pb4 0 cI) (kb9 caps fnI.ntmps s)).bind fun r =>
      f0.rec (motive:=fun _=>DT (f0×St)) (sb5 (hdA (g8 r.2.a fnI.ntmps)) ⟨g8 r.2.a (fnI.ntmps+1),r.2.H⟩) (fun _=>.fail) (sb5 (hdA (g8 r.2.a fnI.ntmps)) ⟨g8 r.2.a (fnI.ntmps+1),r.2.H⟩) r.1
    | false=>.fail
   | _=>.fail).run=some (x,s'):=he
 have hgr:=bb3 hI2.vals hI2.size (hG0.adv hI2.core.adv) g hg
 revert he' hgr
 generalize c8 E s.a (g9 g)=gv
 intro he' hgr
 split at he'
 case h_2=>cases he'
 rename_i f' caps
 split at he'
 case h_2=>cases he'
 rename_i hck
 rw[Bool.and_eq_true,l0] at hck
 obtain⟨hf',hle⟩:=hck
 rw[Bool.and_eq_true] at hle
 obtain⟨hle,hlt⟩:=hle
 have hlt:Nat.ble bfB h.fi=false:=by simpa using hlt
 have hf':=Nat.eq_of_beq_eq_true hf'
 have hle:=Nat.le_of_ble_eq_true hle
 subst hf'
 obtain⟨⟨x1,s1⟩,h1,h2⟩:=DT.run_bind_some he'
 have hgw:z8 ρ (n7 s.H) F w (.fn h.fi caps) (ac.eval g):=by
  cases hgr with
  | w h=>exact h
  | c h=>cases h with
   | n h=>exact .val (.cell h)
 obtain⟨cv,hgv,hcl,hcr⟩:=lb3 hgw
 rw[Mb7 hlt] at hgv
 -- the blocks that are laid
 obtain⟨a1,a2,a3,_⟩:=hI2.core.alloc (fun _ _ _ _ h=>h) (.deferred (some []))
 obtain⟨rec0,hrec0⟩:∃ r:Loop,r={ state:=.ready,pending:=none,fn:=0,tmps:=ac.tmps,params:=ps,assign:=asq,body,defers:=w.heap.size }:=⟨_,rfl⟩
 refine wpIn_rangeFunc fun fn _=>?_
 obtain⟨b1,b2,b3,_⟩:=a1.alloc (fun _ _ _ _ h=>h) (.loop { state:=.ready,pending:=none,fn,tmps:=ac.tmps,params:=ps,assign:=asq,body,defers:=w.heap.size })
 have hsz1:(w.alloc (.deferred (some []))).heap.size=w.heap.size+1:=by simp
 rw[hsz1] at b1 b3
 generalize hW2:(w.alloc (.deferred (some []))).alloc (.loop { state:=.ready,pending:=none,fn,tmps:=ac.tmps,params:=ps,assign:=asq,body,defers:=w.heap.size })=w2 at b1 b2
 have hsz2:w2.heap.size=w.heap.size+2:=by rw[← hW2];simp
 have hl2:w2.heap[w.heap.size+1]?=some (vb8 .ready none fn ac.tmps.toList ps asq body w.heap.size):=by
  rw[← hW2]
  have:=World.alloc_heap_new (w.alloc (.deferred (some []))) (.loop { state:=.ready,pending:=none,fn,tmps:=ac.tmps,params:=ps,assign:=asq,body,defers:=w.heap.size })
  rw[hsz1] at this
  rw[this]
  simp[vb8]
 have hd2:w2.heap[w.heap.size]?=some (.deferred (some [])):=by
  rw[← hW2]
  have e:∀ o:Obj,((w.alloc (.deferred (some []))).alloc o).heap[w.heap.size]?=(w.alloc (.deferred (some []))).heap[w.heap.size]?:=fun o=>by
   simp only[World.alloc,Array.getElem?_push,Array.size_push]
   rw[if_neg (by omega)]
  rw[e]
  exact World.alloc_heap_new w _
 have hmk:=b1.marks
 have hDsOk:Nd1 (w.heap.size::ac.defers.map bb4) w2:=fun d hd=>by
  rcases List.mem_cons.1 hd with rfl | hd
  ·exact hd2
  ·exact (hmk.at hd).2.1
 have hnew:C2 E.P WB (KR (w.heap.size+1) (w.heap.size::ac.defers.map bb4)) (JI (w.heap.size+1) w.heap.size (w.heap.size::ac.defers.map bb4) fn ac.tmps.toList ps asq body) ρ0 H0 F0 w0 s.H [] w2 ρ F _ (Value.int .i64 (.ofNat 0)::ac.tmps.toList) :=
  (b1.reK (K':=KR (w.heap.size+1) (w.heap.size::ac.defers.map bb4)) (fun k hk=>by
   rcases hk with rfl | hk
   ·exact⟨fun hw=>hw.2 rfl,by omega⟩
   ·rcases List.mem_cons.1 hk with rfl | hk
    ·exact⟨fun hw=>hw.1.2 rfl,by omega⟩
    ·exact⟨(hmk.at hk).2.2.1,(hmk.at hk).2.2.2.1⟩)
   (fun id b hb hs hd hk=>by
    obtain⟨_,_,_,k4,k5⟩:=hI2.core.srel.has id b hb hs hd
    obtain⟨_,_,_,_,k6⟩:=b1.srel.has id b hb hs hd
    rcases hk with hk | hk
    ·omega
    ·rcases List.mem_cons.1 hk with hk | hk
     ·omega
     ·have hdd:=(hmk.at hk).2.1
      rcases k6 with⟨_,row,vs,t,_,m2,_⟩ | ⟨t,Kt,El,fl,es,clk,_,_,_,m4,_⟩
      ·rw[hdd] at m2;cases m2
      ·rw[hdd] at m4;cases m4)).re ⟨none,_,rfl,rfl,hl2,hDsOk⟩ Bb4
 have htr:Tr ρ s.H F w ρ s.H F w2:=fun x x' hx=>b2 _ _ (a2 _ _ hx)
 have hcb:Ta4 E.P h.fi:=⟨fnI,hfI,by simp[hbI],hname⟩
 refine⟨w.heap.size+1,[Qc4 w.heap.size],w2,{ target:=.fn (.func h.fi) cv,args:=#[.func (.yield (w.heap.size+1)) #[] #[]] },w2,h.fi,#[.func (.yield (w.heap.size+1)) #[] #[]]++cv,w2,?_,?_,fun _ _=>trivial,?_,fun hd=>FW.wide.depS hd,?_⟩
 ·rw[← hW2];exact run_enterLoop_outer _ _ _ _ _
 ·simp only[resolve,rangeCall,hgv]
  simp[Deferred.ofValue]
  rfl
 ·simp only[invoke]
  exact Pa6 hcb _
 refine callsIn_of_wp hfI hbI trivial ?_
 -- the iterator's frame
 have hI0 : I3 E.P WB (KR (w.heap.size + 1) (w.heap.size :: ac.defers.map bb4)) (JI (w.heap.size + 1) w.heap.size (w.heap.size :: ac.defers.map bb4) fn ac.tmps.toList ps asq body) fnI.ntmps [(0, none)] (.func (.yield (w.heap.size + 1)) #[] #[]) noD ρ0 H0 F0 w0 (kb9 caps fnI.ntmps s)
   { tmps:=#[Value.func (.yield (w.heap.size+1)) #[] #[]]++cv++Array.replicate (fnI.ntmps - (#[Value.func (.yield (w.heap.size+1)) #[] #[]]++cv).size) undef,defers:=[] } w2:=by
  refine⟨⟨ρ,F,_,_,hnew,?_,?_⟩,fun t ht _=>?_,rfl⟩
  ·refine kd8 hcl (fun i x x' hx hx'=>htr _ _ (.w (.val (.cell (hcr i x x' hx hx'))))) ?_ hle
   have h0:=hI2.vals.tr htr
   rw[List.append_nil] at h0
   exact h0
  ·simp only[Array.size_append,Array.size_replicate]
   have:(#[Value.func (.yield (w.heap.size+1)) #[] #[]]:Array Value).size=1:=rfl
   omega
  ·have:t=(0,none):=by simpa using ht
   subst this
   rw[Array.append_assoc,Array.getElem?_append_left (show 0 < 1 by omega)]
   rfl
 have hWl:WB (w.heap.size+1):=b3
 have hpart:∀ (st:LoopState) (c:Code),xd9 E WB (w.heap.size+1) w.heap.size (w.heap.size::ac.defers.map bb4) fn ac.tmps.toList ps asq body n ρ0 H0 F0 w0 Fence.wide (m - 1 - 1) H0.length st c (oa0 E.P n h.pr none [] (Nd0 h.kp) Pb4 0 c):=fun st c inn s x s' he ac w Q hI hQ =>
  Jb6 (FW.inRound _) hG0 hcalls (qe0 _ _ _ _ _ _ _ _ _ _) (fun rd hrd=>by cases hrd) hmx (fun g ps asq body s s' x ac w Q he=>by cases he) c 0 s x s' he ac w Q hI hQ
 refine Jb6 (Fe:=Fence.wide) FW.wide hG0 hcalls (pe9 _ _ _ _ _ _ _ _) (fun rd hrd=>?_) hmx (fun g ps asq body s s' x ac w Q he=>by cases he) cI 0 _ x1 s1 h1 _ w2 _ hI0 fun ac3 w3 hI3=>?_
 ·injection hrd with hrd
  subst hrd
  exact qe1 FW.wide hG0 rfl (by rw[Array.length_toList];exact hI2.size) hWl (hpart .ready asq) (hpart .busy body)
 obtain⟨⟨ρ3,F3,W3,up3,hI3⟩,_,hdf3⟩:=hI3
 obtain⟨pe,v,hpe,rfl,hrec3,hds3⟩:=hI3.core.jot
 have hpX:(sb5 (hdA (g8 s1.a fnI.ntmps)) ⟨g8 s1.a (fnI.ntmps+1),s1.H⟩).run=some (x,s')∧∀ id,x1≠.exit id:=by
  cases x1 with
  | normal=>exact⟨h2,fun _ e=>by cases e⟩
  | ret=>exact⟨h2,fun _ e=>by cases e⟩
  | exit id=>cases h2
 obtain⟨hpX,hne⟩:=hpX
 have htl3:ac3.tmps.toList.length=fnI.ntmps:=by rw[Array.length_toList];exact hI3.size
 have hdr:VR ρ3 s1.H F3 w3 (g8 s1.a fnI.ntmps) (v::ac.tmps.toList):=hI3.vals.drop htl3
 obtain⟨rfl,hcase⟩:=yd0 hpX hdr.head hpe
 have hKl:KR (w.heap.size+1) (w.heap.size::ac.defers.map bb4) (w.heap.size+1):=.inl rfl
 have hkl:=hI3.core.kept _ hKl
 have hM4:∀ o:Obj,Fb1 WB W3 (Qc4 w.heap.size::ac.defers) (w3.putObj (w.heap.size+1) o):=fun o=>by
  refine⟨fun d hd=>?_,List.nodup_cons.2 ⟨fun hd=>?_,hI2.core.marks.2⟩⟩
  ·have hD : bb4 d ∈ w.heap.size :: ac.defers.map bb4 := by
    rcases List.mem_cons.1 hd with rfl | hd
    ·exact .head _
    ·exact .tail _ (List.mem_map.2 ⟨d,hd,rfl⟩)
   have hk:=hI3.core.kept _ (.inr hD:KR (w.heap.size+1) (w.heap.size::ac.defers.map bb4) (bb4 d))
   refine⟨bb4 d,?_,(hds3.turn hrec3 o) _ hD,hk.1,by rw[World.putObj_size];exact hk.2,?_⟩
   ·rcases List.mem_cons.1 hd with rfl | hd
    ·rfl
    ·obtain⟨D,rfl,_⟩:=hI2.core.marks.1 d hd
     rfl
   ·rcases List.mem_cons.1 hd with rfl | hd
    ·exact a3
    ·exact (hI2.core.marks.at (List.mem_map.2 ⟨d,hd,rfl⟩)).2.2.2.2
  ·have:=(hI2.core.marks.at (List.mem_map.2 ⟨_,hd,rfl⟩)).2.2.2.1
   exact Nat.lt_irrefl _ this
 obtain⟨d1,d2⟩:=hI3.core.turn (J':=Nd4) (up':=[]) (ds':=Qc4 w.heap.size::ac.defers) (w.heap.size+1) _ (vb8 .exhausted pe fn ac.tmps.toList ps asq body w.heap.size) hrec3 (fun _ _ _ e=>by cases e) (fun _ _ e=>by cases e) hWl hkl.1 rfl (hM4 _)
 have hIe:qe3 E.P WB n ρ0 H0 F0 w0 ⟨g8 s1.a (fnI.ntmps+1),s1.H⟩ { ac with defers:=[Qc4 w.heap.size]++ac.defers } (w3.putObj (w.heap.size+1) (vb8 .exhausted pe fn ac.tmps.toList ps asq body w.heap.size)):=by
  refine⟨⟨ρ3,F3,W3,[],d1.reK (fun k hk=>hk.elim) (fun _ _ _ _ _ hk=>hk.elim),?_,hI2.size⟩,fun t ht=>by simp at ht,trivial⟩
  have h0:VR ρ3 s1.H F3 w3 s1.a ((ac3.tmps.toList++[v])++ac.tmps.toList):=by simpa using hI3.vals
  have:=(h0.drop (k:=fnI.ntmps+1) (by simp[htl3])).tr d2
  simpa using this
 have hend:(Instr.endLoop (w.heap.size+1)).run E.P w3=.ok pe (w3.putObj (w.heap.size+1) (vb8 .exhausted pe fn ac.tmps.toList ps asq body w.heap.size)) :=
  run_endLoop hrec3 (by cases pe<;>simp)
 have hpost:rangePost Fence.wide m E.P (w.heap.size+1) Q { ac with defers:=[Qc4 w.heap.size]++ac.defers } (.returned (.tuple #[])) w3:=by
  refine⟨pe,_,hend,?_⟩
  rcases hcase with⟨rfl,rfl⟩ | ⟨rfl,rfl⟩ | ⟨id,rfl,rfl⟩
  ·exact hQ _ _ hIe
  ·exact wpIn_ret (hQ _ _ hIe)
  ·exact wpIn_exit (hQ _ _ hIe)
 have hresults:(results fnI ac3.tmps).run E.P w3=.ok (.tuple #[]) w3:=by
  have h0:fnI.results=#[]:=Array.eq_empty_of_size_eq_zero (Nat.eq_of_beq_eq_true hres)
  simp[results,h0]
 cases x1 with
 | normal=>exact⟨hdf3,_,hresults,hpost⟩
 | ret=>exact⟨hdf3,_,hresults,hpost⟩
 | exit id=>exact absurd rfl (hne id)
end
end Go.Ev
namespace Go.Ev
open Go
section
variable {P:Program} {W WB:Nat→Prop} {ρ ρ0:Rho} {H H0:List b9} {F F0:Fz} {w w0:World} {W':Nat→Prop} {E:Env} {n:Nat} {ds:List Deferred}
theorem Pb7:∀ {H:List b9},jd9 H=true→∀ (id:Nat) b,H[id]?=some b→B9 b=false
 | [],_,id,b,hb=>by simp at hb
 | c::H,h,id,b,hb=>by
  have h:Bool.rec (motive:=fun _=>Bool) (jd9 H) false (B9 c)=true:=h
  cases hc:B9 c with
  | true=>rw[hc] at h;cases h
  | false =>
   rw[hc] at h
   cases id with
   | zero=>simp at hb;subst hb;exact hc
   | succ id=>exact Pb7 h id b (by simpa using hb)
theorem yd1 (h:jd9 H=true):n7 H=H:=by
 refine List.ext_getElem? fun id=>?_
 cases hb:H[id]? with
 | none=>rw[Ua4,List.getElem?_map,hb];rfl
 | some b=>exact ea0 hb (Pb7 h id b hb)
theorem v7.more (h:v7 W' ρ H F w) (hs:∀ k,W' k→W k):v7 W ρ H F w :=
 ⟨fun id b hb hd=>by
  obtain⟨cc,t,fr,hB⟩:=h.blk id b hb hd
  exact⟨cc,t,fr,hB.obj,hB.room,hB.len,hB.rows,hB.cell,fun ho=>⟨(hB.own ho).1,hs _ (hB.own ho).2.1,(hB.own ho).2.2⟩,hB.kept⟩,h.apart,h.frz,fun k hk=>hs k (h.new k hk)⟩
theorem Pb8 {Fe : Fence} {m : Nat} {fn : Func} {tmps : Array Value} {R : Ending → World → Prop} : ∀ (ds : List Deferred) (w : World), C2 P WB qe2 Nd4 ρ0 H0 F0 w0 H ds w ρ F W' [] →
  (∀ w'',C2 P WB qe2 Nd4 ρ0 H0 F0 w0 H [] w'' ρ F W' []→Tr ρ H F w ρ H F w''→LeavesIn Fe m P fn tmps R [] .returning w'')→LeavesInM Fe m P fn tmps R ds .returning w
 | [],w,hC,hR=>hR w hC fun _ _ h=>h
 | d::ds,w,hC,hR=>by
  obtain⟨D,rfl,h2,h3,h4,h5⟩:=hC.marks.1 d (.head _)
  have hnd:=List.nodup_cons.1 hC.marks.2
  obtain⟨c1,c2⟩:=hC.turn (J':=Nd4) (up':=[]) (ds':=ds) D _ (.deferred none) h2 (fun _ _ _ e=>by cases e) (fun _ _ e=>by cases e) h5 h3 rfl
   ⟨fun d' hd'=>by
    obtain⟨D',rfl,k2,k3,k4,k5⟩:=hC.marks.1 d' (.tail _ hd')
    have hne:D'≠D:=fun e=>hnd.1 (e ▸ hd')
    exact⟨D',rfl,by rw[World.putObj_heap_other hne];exact k2,k3,by rw[World.putObj_size];exact k4,k5⟩,hnd.2⟩
  refine⟨by simp,.inl ⟨D,_,rfl,run_takeDeferred h2,Pb8 ds _ c1 fun w'' hC' ht=>hR w'' hC' fun x x' hx=>ht _ _ (c2 _ _ hx)⟩⟩
theorem Nd5 (hmx : E.P.follows .mixedOrders = true) {f : FuncId} {fn fnI : Func} {pf : PFn} {h : Ic1} (hf : E.P.funcs[f]? = some fn) (hname : fn.name ≠ "runtime.NumGoroutine") (hfI : E.P.funcs[h.fi]? = some fnI) (hnameI : fnI.name ≠ "runtime.NumGoroutine")
  (hc:Ua7 E.P h fnI fn=some pf) (hcalls:∀ f,i4 E.P E.G f (E.call f)):i4 E.P E.G f (mb8 E pf):=by
 intro args blks r out he W ρ F w args' hH hlen hargs hG
 unfold Ua7 at hc
 cases hb:fn.body with
 | none=>simp[hb] at hc
 | some c =>
 cases hbI:fnI.body with
 | none=>simp[hb,hbI] at hc
 | some cI =>
 simp only[hb,hbI] at hc
 split at hc
 case isFalse=>cases hc
 rename_i hres
 injection hc with hc
 subst hc
 refine⟨⟨fn,hf,by simp[hb],hname⟩,?_⟩
 unfold mb8 at he
 obtain⟨hns,he⟩:=DT.run_guard_some he
 rw[Bool.and_eq_true,l0] at hns
 obtain⟨hns,hle⟩:=hns
 have hle:args.length≤fn.ntmps:=Nat.le_of_ble_eq_true hle
 rw[l0,E5,l0] at he
 obtain⟨⟨x,s1⟩,h1,h2⟩:=DT.run_bind_some he
 simp only at h2 h1
 refine (callsIn_wide (n:=2)).1 (callsIn_of_wp_marks hf hb trivial ?_)
 have hmb:=yd1 hns
 have hI:qe3 E.P W fn.ntmps ρ blks F w ⟨args++List.replicate (fn.ntmps - args.length) (.v (.tuple #[])),blks⟩ { tmps:=args'.toArray++Array.replicate (fn.ntmps - args'.toArray.size) undef,defers:=[] } w:=by
  refine⟨⟨ρ,F,W,[],⟨fun _ h=>h,.refl,by rw[hmb];exact hH,⟨fun id b hb hs=>(by rw[Pb7 hns id b hb] at hs;cases hs),fun id id' b b' hb hb' hs=>(by rw[Pb7 hns id b hb] at hs;cases hs)⟩,fun k hk=>hk.elim,fun _ _ _ _ _ hk=>hk.elim,rfl,Bb4⟩,⟨by simp[hlen],fun i y y' hy hy'=>?_⟩,?_⟩,fun t ht=>by simp at ht,trivial⟩
  ·simp only at hy hy'
   rw[List.append_nil] at hy'
   have hy':(args'.toArray++Array.replicate (fn.ntmps - args'.toArray.size) undef)[i]?=some y':=by rw[← Array.getElem?_toList];exact hy'
   rcases Nat.lt_or_ge i args.length with hi | hi
   ·rw[List.getElem?_append_left hi] at hy
    rw[Array.getElem?_append_left (by simpa [← hlen] using hi)] at hy'
    exact .w (by rw[hmb];exact hargs i y y' hy (by simpa using hy'))
   ·rw[List.getElem?_append_right hi] at hy
    rw[Array.getElem?_append_right (by simpa [← hlen] using hi)] at hy'
    rw[List.getElem?_replicate] at hy
    rw[Array.getElem?_replicate] at hy'
    split at hy
    ·split at hy'
     ·injection hy with hy;injection hy' with hy'
      subst hy hy'
      exact .w (.ofv _)
     ·cases hy'
    ·cases hy
  ·simp only[Array.size_append,Array.size_replicate,List.size_toArray];omega
 have hfin : ∀ (ac' : Act) (w' : World), qe3 E.P W fn.ntmps ρ blks F w s1 ac' w' → (match Ka3 (Ma0 (r7 (ba4 s1.H) s1.a) (n7 s1.H)) (fn.results.toList.map (sc9 E.P)) with
    | some l=>.guard (jd9 (H6 s1.H blks.length)) (sb6 blks.length (n7 s1.H) (db0 l))
    | none=>.fail:DT (b7×List b9)).run=some (r,out)→LeavesInM Fence.wide 2 E.P fn ac'.tmps (fun e w'=>∃ r',e=.returned r'∧K9 W ρ blks F w r out r' w') ac'.defers .returning w':=fun ac' w' hI' hr=>by
  obtain⟨⟨ρ1,F1,W1,up,hI2⟩,_,_⟩:=hI'
  have hup:up=[]:=hI2.core.jot
  subst hup
  refine Pb8 _ _ hI2.core fun w'' hC ht=>?_
  cases hm:Ka3 (Ma0 (r7 (ba4 s1.H) s1.a) (n7 s1.H)) (fn.results.toList.map (sc9 E.P)) with
  | none=>rw[hm] at hr;cases hr
  | some l =>
  rw[hm] at hr
  obtain⟨hfirst,hr⟩:=DT.run_guard_some hr
  have hI3:I2 E.P W qe2 Nd4 fn.ntmps ρ blks F w s1 { ac' with defers:=[] } w'' ρ1 F1 W1 []:=⟨hC,hI2.vals.tr ht,hI2.size⟩
  have hA:=hI3.arel
  have hla:H6 s1.a fn.ntmps=s1.a:=by
   have:=hI2.vals.1
   rw[List.append_nil,Array.length_toList,hI2.size] at this
   rw[I4,← this,List.take_length]
  rw[hla] at hA
  obtain⟨v,k1,k2⟩:=uc4 hC.hrel hA hres hm
  have hadv:Adv W ρ blks F w ρ1 (n7 s1.H) F1 w'':=by
   refine⟨hC.adv.ext,fun id b hid=>?_,hC.adv.more,hC.adv.new,fun id b' hb' hn=>?_⟩
   ·obtain⟨b',g1,g2,g3,g4⟩:=hC.adv.heap id b hid
    have hlt:=(List.getElem?_eq_some_iff.1 hid).1
    have hs:B9 b'=false:=Pb7 hfirst id b' (by rw[I4,List.getElem?_take,if_pos hlt];exact g1)
    exact⟨b',ea0 g1 hs,g2,g3,g4⟩
   ·rw[Xb9,List.getElem?_map] at hb'
    cases hq:s1.H[id]? with
    | none=>rw[hq] at hb';cases hb'
    | some q =>
     rw[hq] at hb'
     injection hb' with hb'
     have hg:b'.g=q.g:=by
      rw[← hb']
      unfold Fd1
      cases B9 q<;>rfl
     exact hC.adv.fresh id q hq fun b hb=>by rw[← hg];exact hn b hb
  refine⟨v,k1,v,rfl,?_⟩
  simp only[sb6] at hr
  cases ht:sc6 blks.length (n7 s1.H) (List.range blks.length) (db0 l) with
  | mk z roots =>
  simp only[ht] at hr
  cases hb2:ua0 blks.length (n7 s1.H) 0 roots with
  | none=>simp[hb2] at hr
  | some H2 =>
  simp only[hb2] at hr
  have hr':some (z,H2)=some (r,out):=hr
  injection hr' with hr';injection hr' with e1 e2;subst e1 e2
  obtain⟨m1,_,m3⟩:=uc0 (TOk.start _) ht
  exact⟨_,F1,Nb8 m1 hb2 hadv,(Ab1 m1 hC.hrel hb2).more hC.sub,Wc3 hb2 m3 k2⟩
 refine Jb6 FW.wide hG hcalls (fun _ _ _ _ h=>h) (fun rd hrd=>by cases hrd) hmx (kd9 hmx hG hcalls hfI hbI hnameI) c 0 _ x s1 h1 _ w _ hI fun ac' w' hI'=>?_
 cases x with
 | normal=>exact hfin ac' w' hI' h2
 | ret=>exact hfin ac' w' hI' h2
 | exit id=>cases h2
end
end Go.Ev
namespace Go.Ev
open Go
theorem i4.body2 {E : Env} {P : Program} {f : FuncId} {h : Ic1} {fn fnI : Func} {pf : PFn} (hP : E.P = P) (hm : P.follows .mixedOrders = true) (hf : P.funcs[f]? = some fn) (hn : fn.name ≠ "runtime.NumGoroutine") (hfI : P.funcs[h.fi]? = some fnI) (hnI : fnI.name ≠ "runtime.NumGoroutine")
  (hc:Ua7 P h fnI fn=some pf) (hcalls:∀ g,i4 E.P E.G g (E.call g)):i4 E.P E.G f (mb8 E pf):=by
 subst hP
 exact Nd5 hm hf hn hfI hnI hc hcalls
inductive PS2 where
 | pc (c:PC)
 | seq (a b:PS2)
 | cond (c:Arg) (x y:PS2)
 | block (id:Nat) (c:PS2)
 | sum (S:St→DT (f0×St))
 | inner (f:Nat) (x:Arg) (nIn:Nat) (c:PS2)
noncomputable def Yb2 (E:Env) (k:Nat) (c:PS2):St→DT (f0×St) :=
 PS2.rec (motive:=fun _=>St→DT (f0×St))
  (fun c=>J7 E k c)
  (fun _ _ x y s=>(x s).bind fun r=>f0.rec (motive:=fun _=>DT (f0×St)) (y r.2) (fun id=>.ret (.exit id,r.2)) (.ret (.ret,r.2)) r.1)
  (fun c _ _ x y s=>match c8 E s.a c with
   | .v (.bool b)=>.ite b (x s) (y s)
   | _=>.fail)
  (fun id _ x s=>(x s).bind fun r=>f0.rec (motive:=fun _=>DT (f0×St)) (.ret (.normal,r.2))
   (fun id'=>Bool.rec (.ret (.exit id',r.2)) (.ret (.normal,r.2)) (Nat.beq id' id)) (.ret (.ret,r.2)) r.1)
  (fun S=>S)
  (fun f x nIn _ c s=>match c8 E s.a x with
   | .fn f' caps=>match Nat.beq f f'&&(Nat.ble (len caps+1) nIn&&!Nat.ble bfB f) with
    | true => (c (kb9 caps nIn s)).bind fun r =>
      f0.rec (motive:=fun _=>DT (f0×St)) (sb5 (hdA (g8 r.2.a nIn)) ⟨g8 r.2.a (nIn+1),r.2.H⟩) (fun _=>.fail) (sb5 (hdA (g8 r.2.a nIn)) ⟨g8 r.2.a (nIn+1),r.2.H⟩) r.1
    | false=>.fail
   | _=>.fail) c
inductive da1 (E:Env) (k:Nat):PS2→PC→Prop
 | pc (c:PC):da1 E k (.pc c) c
 | seq {a b:PS2} {a' b':PC} (h:da1 E k a a') (h':da1 E k b b'):da1 E k (.seq a b) (.seq a' b')
 | cond (c:Arg) {a b:PS2} {a' b':PC} (h:da1 E k a a') (h':da1 E k b b'):da1 E k (.cond c a b) (.cond c a' b')
 | block (id:Nat) {a:PS2} {a':PC} (h:da1 E k a a'):da1 E k (.block id a) (.block id a')
 | sum {S:St→DT (f0×St)} {c:PC} (h:∀ s,S7 (S s) (J7 E k c s)):da1 E k (.sum S) c
 | inner (f:Nat) (x:Arg) (nIn:Nat) {a:PS2} {a':PC} (h:da1 E k a a'):da1 E k (.inner f x nIn a) (.inner f x nIn a')
noncomputable def yd2 (E : Env) (f : Nat) (x : Arg) (nIn : Nat) (c : St → DT (f0 × St)) (s : St) : DT (f0 × St) := match c8 E s.a x with
   | .fn f' caps=>match Nat.beq f f'&&(Nat.ble (len caps+1) nIn&&!Nat.ble bfB f) with
    | true => (c (kb9 caps nIn s)).bind fun r =>
      f0.rec (motive:=fun _=>DT (f0×St)) (sb5 (hdA (g8 r.2.a nIn)) ⟨g8 r.2.a (nIn+1),r.2.H⟩) (fun _=>.fail) (sb5 (hdA (g8 r.2.a nIn)) ⟨g8 r.2.a (nIn+1),r.2.H⟩) r.1
    | false=>.fail
   | _=>.fail
theorem Xc7 {E:Env} {f:Nat} {x:Arg} {nIn:Nat} {c c':St→DT (f0×St)} (h:∀ s,S7 (c s) (c' s)) (s:St):S7 (yd2 E f x nIn c s) (yd2 E f x nIn c' s):=by
 unfold yd2
 cases c8 E s.a x with
 | fn f' caps =>
  simp only
  cases Nat.beq f f'&&(Nat.ble (len caps+1) nIn&&!Nat.ble bfB f) with
  | true=>exact (h _).bind fun r=>.refl _
  | false=>exact .fail _
 | _=>exact .fail _
theorem da1.le {E:Env} {k:Nat} {a:PS2} {c:PC} (h:da1 E k a c):∀ s,S7 (Yb2 E k a s) (J7 E k c s):=by
 induction h with
 | pc c=>exact fun s=>.refl _
 | seq h h' ih ih' =>
  intro s
  refine (ih s).bind fun r=>?_
  rcases r with⟨x,s'⟩
  cases x with
  | normal=>exact ih' s'
  | exit id=>exact .refl _
  | ret=>exact .refl _
 | cond c h h' ih ih' =>
  intro s
  show S7 (match c8 E s.a c with | .v (.bool b)=>_ | _=>_) (match c8 E s.a c with | .v (.bool b)=>_ | _=>_)
  split
  ·exact .ite (ih s) (ih' s)
  ·exact .fail _
 | block id h ih=>exact fun s=>(ih s).bind fun r=>.refl _
 | sum h=>exact h
 | inner f x nIn h ih =>
  intro s
  exact Xc7 (E:=E) (f:=f) (x:=x) (nIn:=nIn) ih s
noncomputable def ze8 (E:Env) (fn:PFn) (body:PS2) (args:List b7) (blks:List b9):DT (b7×List b9) :=
 .guard (Bool.and (jd9 blks) (Nat.ble (len args) fn.ntmps)) ((Yb2 E (len blks) body ⟨app args (List.replicate (fn.ntmps - len args) (.v (.tuple #[]))),blks⟩).bind fun r =>
  match r.1 with
  | .exit _=>.fail
  | _=>match Ka3 (Ma0 (r7 (ba4 r.2.H) r.2.a) (n7 r.2.H)) fn.res with
   | some l=>.guard (jd9 (H6 r.2.H (len blks))) (sb6 (len blks) (n7 r.2.H) (db0 l))
   | none=>.fail)
theorem ld0 {E:Env} {fn:PFn} {body:PS2} {args:List b7} {blks:List b9} (h:da1 E (len blks) body fn.body):S7 (ze8 E fn body args blks) (mb8 E fn args blks) :=
 S7.ite (S7.bind (h.le _) fun _=>.refl _) (.refl _)
@[reducible] noncomputable def ld1 (k:Nat) (keep:List Nat) (s:St):DT St:=tidyM k ⟨K0 keep s.a 0,s.H⟩
theorem yd3 (E:Env) (k:Nat) (keep:List Nat) (c:PC) (s:St):J7 E k (.loopM keep c) s=rb3 (ld1 k keep) (J7 E k c) E.N s:=rfl
end Go.Ev
namespace Go.Ev
open Go
noncomputable def got (x:Option PFn):PFn:=Option.rec (motive:=fun _=>PFn) ⟨0,[],.skip⟩ (fun y=>y) x
theorem i9 {x:Option PFn} (h:Option.isSome x=true):x=some (got x):=by cases x with
 | none=>cases h
 | some y=>rfl
def C0 (P:Program) (f:FuncId) (R:Env→Sum):Prop:=∀ {E:Env},E.P=P→(∀ g,i4 E.P E.G g (E.call g))→i4 E.P E.G f (R E)
theorem D6 {P:Program} {f:FuncId} {fn:Func} {pf:PFn} (hm:P.follows .mixedOrders=true) (hf:P.funcs[f]?=some fn) (hn:decide (fn.name ≠ "runtime.NumGoroutine")=true) (hc:g7 P fn=some pf):C0 P f fun E=>n4 E pf :=
 fun hP hcalls=>i4.body hP hm hf (of_decide_eq_true hn) hc hcalls
theorem Zd0 {P : Program} {f : FuncId} {h : Ic1} {fn fnI : Func} {pf : PFn} (hm : P.follows .mixedOrders = true) (hf : P.funcs[f]? = some fn) (hn : decide (fn.name ≠ "runtime.NumGoroutine") = true) (hfI : P.funcs[h.fi]? = some fnI) (hnI : decide (fnI.name ≠ "runtime.NumGoroutine") = true)
  (hc:Ua7 P h fnI fn=some pf):C0 P f fun E=>mb8 E pf :=
 fun hP hcalls=>i4.body2 hP hm hf (of_decide_eq_true hn) hfI (of_decide_eq_true hnI) hc hcalls
end Go.Ev
