/- Own work. -/
import Derived.Test.YtekgjjgbdcgldaaGreatEvSpE
set_option linter.all false
noncomputable section
def Qfa:=@List.mem_cons
def Qfb:=@Bool.and_eq_true
def Qfc:=@Array.getElem?_append_left
def Qfd:=@List.getElem?_eq_some_iff
def Qfe:=@List.mem_map
def Qff:=@List.getElem?_replicate
def Qfg:=@List.append_nil
def Qfh:=@Nat.eq_of_beq_eq_true
def Qfi:=@Nat.le_of_ble_eq_true
def Qfj:=@Array.size_replicate
namespace Go.Ev
open Go
section
variable{P:Program}{WB K K':Nat->Prop}{J J':List Value->World->Prop}{ρ ρ0:Rho}{H H0 H':List b8}{F F0:Fz}{w w0 w':World}{W':Nat->Prop}{up up':List Value}{E:Env}{n m:Nat}{a b:List b7}{ac:Act}{ds ds':List Deferred}{vs us:List Value}
theorem C2.reK(h:C2 P WB K J ρ0 H0 F0 w0 H ds w ρ F W' up)(hk:∀k,K' k->¬ W' k/\k<w.heap.size)(hf:∀(id:Nat) b,H[id]?=some b->G8 b=true->b.dead=false->¬ K' (ρ id).blk):C2 P WB K' J ρ0 H0 F0 w0 H ds w ρ F W' up :=
 ⟨h.sub,h.adv,h.hrel,h.srel,hk,hf,h.jot,h.marks⟩
def Ib8(d:Deferred):Nat:=match d.target with
 |.collected r=>r
 |_=>0
def Hd6(D:Nat):Deferred:={ target:=.collected D,args:=#[] }
def Ne7:List Value->World->Prop:=λup _=>up=[]
def vf6:Nat->Prop:=λ_=>False
def eg1:List Deferred->Prop:=λ_=>True
theorem tc9.at(h:tc9 WB W' ds w){D:Nat}(hD:D∈ds.map Ib8):Hd6 D∈ds/\w.heap[D]?=some (.deferred (some []))/\¬ W' D/\D<w.heap.size/\WB D:=by
 obtain⟨d,hd,rfl⟩:=Qfe.1 hD;obtain⟨D,rfl,h2,h3,h4,h5⟩:=h.1 d hd;exact⟨hd,h2,h3,h4,h5⟩
abbrev vf7(P:Program)(WB:Nat->Prop)(n:Nat)(ρ0:Rho)(H0:List b8)(F0:Fz)(w0:World):St->Act->World->Prop:=I3 P WB vf6 Ne7 n [] undef eg1 ρ0 H0 F0 w0
theorem ve0 {x : b7} {s s' : St} {xx : f8} {v : Value} {pe : Option Code} (h : (fc5 x s).run = some (xx, s')) (hx : XW ρ H F w x v) (hp : Oc4 pe = some v) :
  s'=s/\((pe=none/\xx=.normal)\/(pe=some .ret/\xx=.ret)\/∃id,pe=some (.exit id)/\xx=.exit id):=by
 unfold fc5 at h
 split at h
 case h_2=>cases h
 rename_i n;have hv:=Ne0 hx;subst hv;have hn:∀c,Oc4 pe=some (.int .i64 (.ofNat c))->(c=0/\pe=none)\/(c=1/\pe=some .ret)\/∃id,c=id+2/\pe=some (.exit id):=λc hc=>by
  unfold Oc4 at hc
  split at hc
  ·injection hc with hc;injection hc with _ hc;injection hc with hc;exact .inl ⟨hc.symm,rfl⟩
  ·injection hc with hc;injection hc with _ hc;injection hc with hc;exact .inr (.inl ⟨hc.symm,rfl⟩)
  ·rename_i id;injection hc with hc;injection hc with _ hc;injection hc with hc;exact .inr (.inr ⟨id,hc.symm,rfl⟩)
  ·cases hc
 rcases hn n hp with⟨rfl,rfl⟩|⟨rfl,rfl⟩|⟨id,rfl,rfl⟩
 ·have h:some (f8.normal,s)=some (xx,s'):=h;injection h with h;injection h with e1 e2;subst e1 e2
  exact⟨rfl,.inl ⟨rfl,rfl⟩⟩
 ·have h:some (f8.ret,s)=some (xx,s'):=h;injection h with h;injection h with e1 e2;subst e1 e2
  exact⟨rfl,.inr (.inl ⟨rfl,rfl⟩)⟩
 ·have h:some (f8.exit id,s)=some (xx,s'):=h;injection h with h;injection h with e1 e2;subst e1 e2
  exact⟨rfl,.inr (.inr ⟨id,rfl,rfl⟩)⟩
theorem fe3 {caps : List b7} {cv : Array Value} {nIn l : Nat} {s : St} {tm : List Value} (hl : caps.length = cv.size) (hc : ∀ (i : Nat) x x', caps[i]? = some x → cv[i]? = some x' → XW ρ H F w x x') (hs : VR ρ H F w s.a tm) (hle : caps.length + 1 ≤ nIn) :
  VR ρ H F w (Ub4 caps nIn s).a ((#[Value.func (.yield l) #[] #[]]++cv++Array.replicate (nIn-(#[Value.func (.yield l) #[] #[]]++cv).size) undef).toList++Value.int .i64 (.ofNat 0)::tm):=by
 have e:(#[Value.func (.yield l) #[] #[]]++cv++Array.replicate (nIn-(#[Value.func (.yield l) #[] #[]]++cv).size) undef).toList++Value.int .i64 (.ofNat 0)::tm=(Value.func (.yield l) #[] #[]::cv.toList)++(List.replicate (nIn-(caps.length+1)) undef++(Value.int .i64 (.ofNat 0)::tm)):=by
  simp[hl,Nat.add_comm]
 rw[e];unfold Ub4;simp only[o0];have hrep:∀j,VR ρ H F w (List.replicate j (.v (.tuple #[]))) (List.replicate j undef):=λj=>⟨by simp,λi x x' hx hx'=>by
  rw[Qff] at hx hx'
  split at hx
  ·split at hx'
   ·injection hx with hx;injection hx' with hx';subst hx hx';exact .w (.ofv _)
   ·contradiction
  ·cases hx⟩
 have hcv:VR ρ H F w caps cv.toList:=⟨by simpa using hl,λi x x' hx hx'=>hc i x x' hx (by simpa using hx')⟩
 exact VR.app (VR.cons (.w (.unk _)) hcv) (VR.app (hrep _) (VR.cons (.w (.val (.cell (.v _)))) hs))
theorem fe4 (hmx : E.P.follows .mixedOrders = true) {h : xd7} {fnI : Func} {cI : Code} (hG0 : GOk E F0 w0) (hcalls : ∀ f, g9 E.P E.G f (E.call f)) (hfI : E.P.funcs[h.fi]? = some fnI) (hbI : fnI.body = some cI) (hname : fnI.name ≠ "runtime.NumGoroutine") :
  Uf8 E Fence.wide m H0.length (ue6 E.P h fnI cI n) (vf7 E.P WB n ρ0 H0 F0 w0):=by
 intro g ps asq body s s' x ac w Q he hI hQ;obtain⟨⟨ρ,F,W',up,hI2⟩,_,_⟩:=hI;have hup:up=[]:=hI2.core.jot;subst hup;unfold ue6 at he
 split at he
 case h_2=>cases he
 rename_i hc;simp only[Qfb] at hc;obtain⟨⟨hg,hres⟩,hpsn⟩:=hc
 have he' : (match d7 E s.a (j8 g) with
   |.fn f' caps=>match Nat.beq h.fi f'&&(Nat.ble (len caps+1) fnI.ntmps&&!Nat.ble bfB h.fi) with
    | true => (S7 E H0.length (Ha1 E.P fnI.ntmps [] (some (Uf5 E.P h n ps asq body)) [(0, none)] (Ne3 h.ki) Fc6 0 cI) (Ub4 caps fnI.ntmps s)).bind fun r =>
      f8.rec (motive:=λ_=>DT (f8×St)) (fc5 (hdA (j7 r.2.a fnI.ntmps)) ⟨j7 r.2.a (fnI.ntmps+1),r.2.H⟩) (λ_=>.fail) (fc5 (hdA (j7 r.2.a fnI.ntmps)) ⟨j7 r.2.a (fnI.ntmps+1),r.2.H⟩) r.1
    |false=>.fail
   |_=>.fail).run=some (x,s'):=he
 have hgr:=Ib7 hI2.vals hI2.size (hG0.adv hI2.core.adv) g hg
 revert he' hgr
 generalize d7 E s.a (j8 g)=gv;intro he' hgr
 split at he'
 case h_2=>cases he'
 rename_i f' caps
 split at he'
 case h_2=>cases he'
 rename_i hck;rw[Qfb,o0] at hck;obtain⟨hf',hle⟩:=hck;rw[Qfb] at hle;obtain⟨hle,hlt⟩:=hle;have hlt:Nat.ble bfB h.fi=false:=by simpa using hlt
 have hf':=Qfh hf';have hle:=Qfi hle;subst hf';obtain⟨⟨x1,s1⟩,h1,h2⟩:=DT.run_bind_some he';have hgw:G3 ρ (q9 s.H) F w (.fn h.fi caps) (ac.eval g):=by
  cases hgr with
  |w h=>exact h
  |c h=>cases h with
   |n h=>exact .val (.cell h)
 obtain⟨cv,hgv,hcl,hcr⟩:=Ub7 hgw;rw[Cc6 hlt] at hgv
 -- the blocks that are laid
 obtain⟨a1,a2,a3,_⟩:=hI2.core.alloc (λ_ _ _ _ h=>h) (.deferred (some []))
 obtain⟨rec0,hrec0⟩:∃r:Loop,r={ state:=.ready,pending:=none,fn:=0,tmps:=ac.tmps,params:=ps,assign:=asq,body,defers:=w.heap.size }:=⟨_,rfl⟩;refine wpIn_rangeFunc λfn _=>?_
 obtain⟨b1,b2,b3,_⟩:=a1.alloc (λ_ _ _ _ h=>h) (.loop { state:=.ready,pending:=none,fn,tmps:=ac.tmps,params:=ps,assign:=asq,body,defers:=w.heap.size })
 have hsz1:(w.alloc (.deferred (some []))).heap.size=w.heap.size+1:=by simp
 rw[hsz1] at b1 b3;generalize hW2:(w.alloc (.deferred (some []))).alloc (.loop { state:=.ready,pending:=none,fn,tmps:=ac.tmps,params:=ps,assign:=asq,body,defers:=w.heap.size })=w2 at b1 b2;have hsz2:w2.heap.size=w.heap.size+2:=by rw[<- hW2];simp
 have hl2:w2.heap[w.heap.size+1]?=some (jc1 .ready none fn ac.tmps.toList ps asq body w.heap.size):=by
  rw[<- hW2]
  have:=World.alloc_heap_new (w.alloc (.deferred (some []))) (.loop { state:=.ready,pending:=none,fn,tmps:=ac.tmps,params:=ps,assign:=asq,body,defers:=w.heap.size })
  rw[hsz1] at this;rw[this];simp[jc1]
 have hd2:w2.heap[w.heap.size]?=some (.deferred (some [])):=by
  rw[<- hW2];have e:∀o:Obj,((w.alloc (.deferred (some []))).alloc o).heap[w.heap.size]?=(w.alloc (.deferred (some []))).heap[w.heap.size]?:=λo=>by
   simp only[World.alloc,Array.getElem?_push,Array.size_push];rw[if_neg (by omega)]
  rw[e];exact World.alloc_heap_new w _
 have hmk:=b1.marks;have hDsOk:Ne4 (w.heap.size::ac.defers.map Ib8) w2:=λd hd=>by
  rcases Qfa.1 hd with rfl|hd
  ·exact hd2
  ·exact (hmk.at hd).2.1
 have hnew:C2 E.P WB (KR (w.heap.size+1) (w.heap.size::ac.defers.map Ib8)) (JI (w.heap.size+1) w.heap.size (w.heap.size::ac.defers.map Ib8) fn ac.tmps.toList ps asq body) ρ0 H0 F0 w0 s.H [] w2 ρ F _ (Value.int .i64 (.ofNat 0)::ac.tmps.toList) :=
  (b1.reK (K':=KR (w.heap.size+1) (w.heap.size::ac.defers.map Ib8)) (λk hk=>by
   rcases hk with rfl|hk
   ·exact⟨λhw=>hw.2 rfl,by omega⟩
   ·rcases Qfa.1 hk with rfl|hk
    ·exact⟨λhw=>hw.1.2 rfl,by omega⟩
    ·exact⟨(hmk.at hk).2.2.1,(hmk.at hk).2.2.2.1⟩)
   (λid b hb hs hd hk=>by
    obtain⟨_,_,_,k4,k5⟩:=hI2.core.srel.has id b hb hs hd;obtain⟨_,_,_,_,k6⟩:=b1.srel.has id b hb hs hd
    rcases hk with hk|hk
    ·omega
    ·rcases Qfa.1 hk with hk|hk
     ·omega
     ·have hdd:=(hmk.at hk).2.1
      rcases k6 with⟨_,row,vs,t,_,m2,_⟩|⟨t,Kt,El,fl,es,clk,_,_,_,m4,_⟩
      ·rw[hdd] at m2;cases m2
      ·rw[hdd] at m4;cases m4)).re ⟨none,_,rfl,rfl,hl2,hDsOk⟩ qc9
 have htr:Tr ρ s.H F w ρ s.H F w2:=λx x' hx=>b2 _ _ (a2 _ _ hx)
 have hcb:Ab1 E.P h.fi:=⟨fnI,hfI,by simp[hbI],hname⟩
 refine⟨w.heap.size+1,[Hd6 w.heap.size],w2,{ target:=.fn (.func h.fi) cv,args:=#[.func (.yield (w.heap.size+1)) #[] #[]] },w2,h.fi,#[.func (.yield (w.heap.size+1)) #[] #[]]++cv,w2,?_,?_,λ_ _=>trivial,?_,λhd=>FW.wide.depS hd,?_⟩
 ·rw[<- hW2];exact run_enterLoop_outer _ _ _ _ _
 ·simp only[resolve,rangeCall,hgv];simp[Deferred.ofValue];rfl
 ·simp only[invoke];exact vb8 hcb _
 refine callsIn_of_wp hfI hbI trivial ?_
 -- the iterator's frame
 have hI0 : I3 E.P WB (KR (w.heap.size + 1) (w.heap.size :: ac.defers.map Ib8)) (JI (w.heap.size + 1) w.heap.size (w.heap.size :: ac.defers.map Ib8) fn ac.tmps.toList ps asq body) fnI.ntmps [(0, none)] (.func (.yield (w.heap.size + 1)) #[] #[]) noD ρ0 H0 F0 w0 (Ub4 caps fnI.ntmps s)
   { tmps:=#[Value.func (.yield (w.heap.size+1)) #[] #[]]++cv++Array.replicate (fnI.ntmps-(#[Value.func (.yield (w.heap.size+1)) #[] #[]]++cv).size) undef,defers:=[] } w2:=by
  refine⟨⟨ρ,F,_,_,hnew,?_,?_⟩,λt ht _=>?_,rfl⟩
  ·refine fe3 hcl (λi x x' hx hx'=>htr _ _ (.w (.val (.cell (hcr i x x' hx hx'))))) ?_ hle
   have h0:=hI2.vals.tr htr;rw[Qfg] at h0;exact h0
  ·simp only[Array.size_append,Qfj]
   have:(#[Value.func (.yield (w.heap.size+1)) #[] #[]]:Array Value).size=1:=rfl
   omega
  ·have:t=(0,none):=by simpa using ht
   subst this;rw[Array.append_assoc,Qfc (show 0<1 by omega)]
   rfl
 have hWl:WB (w.heap.size+1):=b3;have hpart:∀(st:LoopState) (c:Code),ue9 E WB (w.heap.size+1) w.heap.size (w.heap.size::ac.defers.map Ib8) fn ac.tmps.toList ps asq body n ρ0 H0 F0 w0 Fence.wide (m-1-1) H0.length st c (Ha1 E.P n h.pr none [] (Ne3 h.kp) Fc6 0 c):=λst c inn s x s' he ac w Q hI hQ =>
  yc6 (FW.inRound _) hG0 hcalls (vf4 _ _ _ _ _ _ _ _ _ _) (λrd hrd=>by cases hrd) hmx (λg ps asq body s s' x ac w Q he=>by cases he) c 0 s x s' he ac w Q hI hQ
 refine yc6 (Fe:=Fence.wide) FW.wide hG0 hcalls (vf3 _ _ _ _ _ _ _ _) (λrd hrd=>?_) hmx (λg ps asq body s s' x ac w Q he=>by cases he) cI 0 _ x1 s1 h1 _ w2 _ hI0 λac3 w3 hI3=>?_
 ·injection hrd with hrd;subst hrd;exact vf5 FW.wide hG0 rfl (by rw[Array.length_toList];exact hI2.size) hWl (hpart .ready asq) (hpart .busy body)
 obtain⟨⟨ρ3,F3,W3,up3,hI3⟩,_,hdf3⟩:=hI3;obtain⟨pe,v,hpe,rfl,hrec3,hds3⟩:=hI3.core.jot;have hpX:(fc5 (hdA (j7 s1.a fnI.ntmps)) ⟨j7 s1.a (fnI.ntmps+1),s1.H⟩).run=some (x,s')/\∀id,x1≠.exit id:=by
  cases x1 with
  |normal=>exact⟨h2,λ_ e=>by cases e⟩
  |ret=>exact⟨h2,λ_ e=>by cases e⟩
  |exit id=>cases h2
 obtain⟨hpX,hne⟩:=hpX;have htl3:ac3.tmps.toList.length=fnI.ntmps:=by rw[Array.length_toList];exact hI3.size
 have hdr:VR ρ3 s1.H F3 w3 (j7 s1.a fnI.ntmps) (v::ac.tmps.toList):=hI3.vals.drop htl3;obtain⟨rfl,hcase⟩:=ve0 hpX hdr.head hpe;have hKl:KR (w.heap.size+1) (w.heap.size::ac.defers.map Ib8) (w.heap.size+1):=.inl rfl;have hkl:=hI3.core.kept _ hKl;have hM4:∀o:Obj,tc9 WB W3 (Hd6 w.heap.size::ac.defers) (w3.putObj (w.heap.size+1) o):=λo=>by
  refine⟨λd hd=>?_,List.nodup_cons.2 ⟨λhd=>?_,hI2.core.marks.2⟩⟩
  ·have hD : Ib8 d ∈ w.heap.size :: ac.defers.map Ib8 := by
    rcases Qfa.1 hd with rfl|hd
    ·exact .head _
    ·exact .tail _ (Qfe.2 ⟨d,hd,rfl⟩)
   have hk:=hI3.core.kept _ (.inr hD:KR (w.heap.size+1) (w.heap.size::ac.defers.map Ib8) (Ib8 d));refine⟨Ib8 d,?_,(hds3.turn hrec3 o) _ hD,hk.1,by rw[World.putObj_size];exact hk.2,?_⟩
   ·rcases Qfa.1 hd with rfl|hd
    ·rfl
    ·obtain⟨D,rfl,_⟩:=hI2.core.marks.1 d hd;rfl
   ·rcases Qfa.1 hd with rfl|hd
    ·exact a3
    ·exact (hI2.core.marks.at (Qfe.2 ⟨d,hd,rfl⟩)).2.2.2.2
  ·have:=(hI2.core.marks.at (Qfe.2 ⟨_,hd,rfl⟩)).2.2.2.1
   exact Nat.lt_irrefl _ this
 obtain⟨d1,d2⟩:=hI3.core.turn (J':=Ne7) (up':=[]) (ds':=Hd6 w.heap.size::ac.defers) (w.heap.size+1) _ (jc1 .exhausted pe fn ac.tmps.toList ps asq body w.heap.size) hrec3 (λ_ _ _ e=>by cases e) (λ_ _ e=>by cases e) hWl hkl.1 rfl (hM4 _)
 have hIe:vf7 E.P WB n ρ0 H0 F0 w0 ⟨j7 s1.a (fnI.ntmps+1),s1.H⟩ { ac with defers:=[Hd6 w.heap.size]++ac.defers } (w3.putObj (w.heap.size+1) (jc1 .exhausted pe fn ac.tmps.toList ps asq body w.heap.size)):=by
  refine⟨⟨ρ3,F3,W3,[],d1.reK (λk hk=>hk.elim) (λ_ _ _ _ _ hk=>hk.elim),?_,hI2.size⟩,λt ht=>by simp at ht,trivial⟩
  have h0:VR ρ3 s1.H F3 w3 s1.a ((ac3.tmps.toList++[v])++ac.tmps.toList):=by simpa using hI3.vals
  have:=(h0.drop (k:=fnI.ntmps+1) (by simp[htl3])).tr d2
  simpa using this
 have hend:(Instr.endLoop (w.heap.size+1)).run E.P w3=.ok pe (w3.putObj (w.heap.size+1) (jc1 .exhausted pe fn ac.tmps.toList ps asq body w.heap.size)) :=
  run_endLoop hrec3 (by cases pe<;>simp)
 have hpost:rangePost Fence.wide m E.P (w.heap.size+1) Q { ac with defers:=[Hd6 w.heap.size]++ac.defers } (.returned (.tuple #[])) w3:=by
  refine⟨pe,_,hend,?_⟩
  rcases hcase with⟨rfl,rfl⟩|⟨rfl,rfl⟩|⟨id,rfl,rfl⟩
  ·exact hQ _ _ hIe
  ·exact wpIn_ret (hQ _ _ hIe)
  ·exact wpIn_exit (hQ _ _ hIe)
 have hresults:(results fnI ac3.tmps).run E.P w3=.ok (.tuple #[]) w3:=by
  have h0:fnI.results=#[]:=Array.eq_empty_of_size_eq_zero (Qfh hres);simp[results,h0]
 cases x1 with
 |normal=>exact⟨hdf3,_,hresults,hpost⟩
 |ret=>exact⟨hdf3,_,hresults,hpost⟩
 |exit id=>exact absurd rfl (hne id)
end
section
variable{P:Program}{W WB:Nat->Prop}{ρ ρ0:Rho}{H H0:List b8}{F F0:Fz}{w w0:World}{W':Nat->Prop}{E:Env}{n:Nat}{ds:List Deferred}
theorem Fc9:∀{H:List b8},ee4 H=true->∀(id:Nat) b,H[id]?=some b->G8 b=false
 |[],_,id,b,hb=>by simp at hb
 |c::H,h,id,b,hb=>by
  have h:Bool.rec (motive:=λ_=>Bool) (ee4 H) false (G8 c)=true:=h
  cases hc:G8 c with
  |true=>rw[hc] at h;cases h
  |false =>
   rw[hc] at h;cases id with
   |zero=>simp at hb;subst hb;exact hc
   |succ id=>exact Fc9 h id b (by simpa using hb)
theorem ve1(h:ee4 H=true):q9 H=H:=by
 refine List.ext_getElem? λid=>?_
 cases hb:H[id]? with
 |none=>rw[Ab7,List.getElem?_map,hb];rfl
 |some b=>exact sa9 hb (Fc9 h id b hb)
theorem C6.more(h:C6 W' ρ H F w)(hs:∀k,W' k->W k):C6 W ρ H F w :=
 ⟨λid b hb hd=>by
  obtain⟨cc,t,fr,hB⟩:=h.blk id b hb hd;exact⟨cc,t,fr,hB.obj,hB.room,hB.len,hB.rows,hB.cell,λho=>⟨(hB.own ho).1,hs _ (hB.own ho).2.1,(hB.own ho).2.2⟩,hB.kept⟩,h.apart,h.frz,λk hk=>hs k (h.new k hk)⟩
theorem Gc0 {Fe : Fence} {m : Nat} {fn : Func} {tmps : Array Value} {R : Ending → World → Prop} : ∀ (ds : List Deferred) (w : World), C2 P WB vf6 Ne7 ρ0 H0 F0 w0 H ds w ρ F W' [] →
  (∀w'',C2 P WB vf6 Ne7 ρ0 H0 F0 w0 H [] w'' ρ F W' []->Tr ρ H F w ρ H F w''->LeavesIn Fe m P fn tmps R [] .returning w'')->LeavesInM Fe m P fn tmps R ds .returning w
 |[],w,hC,hR=>hR w hC λ_ _ h=>h
 |d::ds,w,hC,hR=>by
  obtain⟨D,rfl,h2,h3,h4,h5⟩:=hC.marks.1 d (.head _);have hnd:=List.nodup_cons.1 hC.marks.2;obtain⟨c1,c2⟩:=hC.turn (J':=Ne7) (up':=[]) (ds':=ds) D _ (.deferred none) h2 (λ_ _ _ e=>by cases e) (λ_ _ e=>by cases e) h5 h3 rfl
   ⟨λd' hd'=>by
    obtain⟨D',rfl,k2,k3,k4,k5⟩:=hC.marks.1 d' (.tail _ hd');have hne:D'≠D:=λe=>hnd.1 (e ▸ hd')
    exact⟨D',rfl,by rw[World.putObj_heap_other hne];exact k2,k3,by rw[World.putObj_size];exact k4,k5⟩,hnd.2⟩
  refine⟨by simp,.inl ⟨D,_,rfl,run_takeDeferred h2,Gc0 ds _ c1 λw'' hC' ht=>hR w'' hC' λx x' hx=>ht _ _ (c2 _ _ hx)⟩⟩
theorem Ne8 (hmx : E.P.follows .mixedOrders = true) {f : FuncId} {fn fnI : Func} {pf : PFn} {h : xd7} (hf : E.P.funcs[f]? = some fn) (hname : fn.name ≠ "runtime.NumGoroutine") (hfI : E.P.funcs[h.fi]? = some fnI) (hnameI : fnI.name ≠ "runtime.NumGoroutine")
  (hc:Bb0 E.P h fnI fn=some pf) (hcalls:∀f,g9 E.P E.G f (E.call f)):g9 E.P E.G f (Vb8 E pf):=by
 intro args blks r out he W ρ F w args' hH hlen hargs hG;unfold Bb0 at hc;cases hb:fn.body with
 |none=>simp[hb] at hc
 |some c =>
 cases hbI:fnI.body with
 |none=>simp[hb,hbI] at hc
 |some cI =>
 simp only[hb,hbI] at hc
 split at hc
 case isFalse=>cases hc
 rename_i hres;injection hc with hc;subst hc;refine⟨⟨fn,hf,by simp[hb],hname⟩,?_⟩
 unfold Vb8 at he;obtain⟨hns,he⟩:=DT.run_guard_some he;rw[Qfb,o0] at hns;obtain⟨hns,hle⟩:=hns;have hle:args.length<=fn.ntmps:=Qfi hle;rw[o0,G9,o0] at he;obtain⟨⟨x,s1⟩,h1,h2⟩:=DT.run_bind_some he
 simp only at h2 h1
 refine (callsIn_wide (n:=2)).1 (callsIn_of_wp_marks hf hb trivial ?_);have hmb:=ve1 hns;have hI:vf7 E.P W fn.ntmps ρ blks F w ⟨args++List.replicate (fn.ntmps-args.length) (.v (.tuple #[])),blks⟩ { tmps:=args'.toArray++Array.replicate (fn.ntmps-args'.toArray.size) undef,defers:=[] } w:=by
  refine⟨⟨ρ,F,W,[],⟨λ_ h=>h,.refl,by rw[hmb];exact hH,⟨λid b hb hs=>(by rw[Fc9 hns id b hb] at hs;cases hs),λid id' b b' hb hb' hs=>(by rw[Fc9 hns id b hb] at hs;cases hs)⟩,λk hk=>hk.elim,λ_ _ _ _ _ hk=>hk.elim,rfl,qc9⟩,⟨by simp[hlen],λi y y' hy hy'=>?_⟩,?_⟩,λt ht=>by simp at ht,trivial⟩
  ·simp only at hy hy'
   rw[Qfg] at hy';have hy':(args'.toArray++Array.replicate (fn.ntmps-args'.toArray.size) undef)[i]?=some y':=by rw[<- Array.getElem?_toList];exact hy'
   rcases Nat.lt_or_ge i args.length with hi|hi
   ·rw[List.getElem?_append_left hi] at hy;rw[Qfc (by simpa [<- hlen] using hi)] at hy'
    exact .w (by rw[hmb];exact hargs i y y' hy (by simpa using hy'))
   ·rw[List.getElem?_append_right hi] at hy;rw[Array.getElem?_append_right (by simpa [<- hlen] using hi)] at hy'
    rw[Qff] at hy;rw[Array.getElem?_replicate] at hy'
    split at hy
    ·split at hy'
     ·injection hy with hy;injection hy' with hy'
      subst hy hy';exact .w (.ofv _)
     ·cases hy'
    ·cases hy
  ·simp only[Array.size_append,Qfj,List.size_toArray];omega
 have hfin : ∀ (ac' : Act) (w' : World), vf7 E.P W fn.ntmps ρ blks F w s1 ac' w' → (match nb7 (rb8 (p5 (oa7 s1.H) s1.a) (q9 s1.H)) (fn.results.toList.map (fd9 E.P)) with
    |some l=>.guard (ee4 (N8 s1.H blks.length)) (fc6 blks.length (q9 s1.H) (Lb5 l))
    |none=>.fail:DT (b7×List b8)).run=some (r,out)->LeavesInM Fence.wide 2 E.P fn ac'.tmps (λe w'=>∃r',e=.returned r'/\R5 W ρ blks F w r out r' w') ac'.defers .returning w':=λac' w' hI' hr=>by
  obtain⟨⟨ρ1,F1,W1,up,hI2⟩,_,_⟩:=hI';have hup:up=[]:=hI2.core.jot;subst hup;refine Gc0 _ _ hI2.core λw'' hC ht=>?_
  cases hm:nb7 (rb8 (p5 (oa7 s1.H) s1.a) (q9 s1.H)) (fn.results.toList.map (fd9 E.P)) with
  |none=>rw[hm] at hr;cases hr
  |some l =>
  rw[hm] at hr;obtain⟨hfirst,hr⟩:=DT.run_guard_some hr;have hI3:I2 E.P W vf6 Ne7 fn.ntmps ρ blks F w s1 { ac' with defers:=[] } w'' ρ1 F1 W1 []:=⟨hC,hI2.vals.tr ht,hI2.size⟩
  have hA:=hI3.arel;have hla:N8 s1.a fn.ntmps=s1.a:=by
   have:=hI2.vals.1
   rw[Qfg,Array.length_toList,hI2.size] at this;rw[O0,<- this,List.take_length]
  rw[hla] at hA;obtain⟨v,k1,k2⟩:=hd8 hC.hrel hA hres hm;have hadv:Adv W ρ blks F w ρ1 (q9 s1.H) F1 w'':=by
   refine⟨hC.adv.ext,λid b hid=>?_,hC.adv.more,hC.adv.new,λid b' hb' hn=>?_⟩
   ·obtain⟨b',g1,g2,g3,g4⟩:=hC.adv.heap id b hid;have hlt:=(Qfd.1 hid).1;have hs:G8 b'=false:=Fc9 hfirst id b' (by rw[O0,List.getElem?_take,if_pos hlt];exact g1)
    exact⟨b',sa9 g1 hs,g2,g3,g4⟩
   ·rw[Oc2,List.getElem?_map] at hb';cases hq:s1.H[id]? with
    |none=>rw[hq] at hb';cases hb'
    |some q =>
     rw[hq] at hb';injection hb' with hb';have hg:b'.g=q.g:=by
      rw[<- hb'];unfold Ce4;cases G8 q<;>rfl
     exact hC.adv.fresh id q hq λb hb=>by rw[<- hg];exact hn b hb
  refine⟨v,k1,v,rfl,?_⟩;simp only[fc6] at hr;cases ht:fd6 blks.length (q9 s1.H) (List.range blks.length) (Lb5 l) with
  |mk z roots =>
  simp only[ht] at hr;cases hb2:Sa2 blks.length (q9 s1.H) 0 roots with
  |none=>simp[hb2] at hr
  |some H2 =>
  simp only[hb2] at hr;have hr':some (z,H2)=some (r,out):=hr;injection hr' with hr';injection hr' with e1 e2;subst e1 e2
  obtain⟨m1,_,m3⟩:=hd4 (TOk.start _) ht;exact⟨_,F1,Dc7 m1 hb2 hadv,(pc9 m1 hC.hrel hb2).more hC.sub,Od9 hb2 m3 k2⟩
 refine yc6 FW.wide hG hcalls (λ_ _ _ _ h=>h) (λrd hrd=>by cases hrd) hmx (fe4 hmx hG hcalls hfI hbI hnameI) c 0 _ x s1 h1 _ w _ hI λac' w' hI'=>?_
 cases x with
 |normal=>exact hfin ac' w' hI' h2
 |ret=>exact hfin ac' w' hI' h2
 |exit id=>cases h2
end
theorem g9.body2 {E : Env} {P : Program} {f : FuncId} {h : xd7} {fn fnI : Func} {pf : PFn} (hP : E.P = P) (hm : P.follows .mixedOrders = true) (hf : P.funcs[f]? = some fn) (hn : fn.name ≠ "runtime.NumGoroutine") (hfI : P.funcs[h.fi]? = some fnI) (hnI : fnI.name ≠ "runtime.NumGoroutine")
  (hc:Bb0 P h fnI fn=some pf) (hcalls:∀g,g9 E.P E.G g (E.call g)):g9 E.P E.G f (Vb8 E pf):=by
 subst hP;exact Ne8 hm hf hn hfI hnI hc hcalls
inductive PS2 where
 |pc (c:PC)
 |seq (a b:PS2)
 |cond (c:Arg) (x y:PS2)
 |block (id:Nat) (c:PS2)
 |sum (S:St->DT (f8×St))
 |inner (f:Nat) (x:Arg) (nIn:Nat) (c:PS2)
def Oc5(E:Env)(k:Nat)(c:PS2):St->DT (f8×St) :=
 PS2.rec (motive:=λ_=>St->DT (f8×St))
  (λc=>S7 E k c)
  (λ_ _ x y s=>(x s).bind λr=>f8.rec (motive:=λ_=>DT (f8×St)) (y r.2) (λid=>.ret (.exit id,r.2)) (.ret (.ret,r.2)) r.1)
  (λc _ _ x y s=>match d7 E s.a c with
   |.v (.bool b)=>.ite b (x s) (y s)
   |_=>.fail)
  (λid _ x s=>(x s).bind λr=>f8.rec (motive:=λ_=>DT (f8×St)) (.ret (.normal,r.2))
   (λid'=>Bool.rec (.ret (.exit id',r.2)) (.ret (.normal,r.2)) (Nat.beq id' id)) (.ret (.ret,r.2)) r.1)
  (λS=>S)
  (λf x nIn _ c s=>match d7 E s.a x with
   |.fn f' caps=>match Nat.beq f f'&&(Nat.ble (len caps+1) nIn&&!Nat.ble bfB f) with
    | true => (c (Ub4 caps nIn s)).bind fun r =>
      f8.rec (motive:=λ_=>DT (f8×St)) (fc5 (hdA (j7 r.2.a nIn)) ⟨j7 r.2.a (nIn+1),r.2.H⟩) (λ_=>.fail) (fc5 (hdA (j7 r.2.a nIn)) ⟨j7 r.2.a (nIn+1),r.2.H⟩) r.1
    |false=>.fail
   |_=>.fail) c
inductive ra6 (E:Env) (k:Nat):PS2->PC->Prop
 |pc (c:PC):ra6 E k (.pc c) c
 |seq {a b:PS2} {a' b':PC} (h:ra6 E k a a') (h':ra6 E k b b'):ra6 E k (.seq a b) (.seq a' b')
 |cond (c:Arg) {a b:PS2} {a' b':PC} (h:ra6 E k a a') (h':ra6 E k b b'):ra6 E k (.cond c a b) (.cond c a' b')
 |block (id:Nat) {a:PS2} {a':PC} (h:ra6 E k a a'):ra6 E k (.block id a) (.block id a')
 |sum {S:St->DT (f8×St)} {c:PC} (h:∀s,fa2 (S s) (S7 E k c s)):ra6 E k (.sum S) c
 |inner (f:Nat) (x:Arg) (nIn:Nat) {a:PS2} {a':PC} (h:ra6 E k a a'):ra6 E k (.inner f x nIn a) (.inner f x nIn a')
def ve2 (E : Env) (f : Nat) (x : Arg) (nIn : Nat) (c : St → DT (f8 × St)) (s : St) : DT (f8 × St) := match d7 E s.a x with
   |.fn f' caps=>match Nat.beq f f'&&(Nat.ble (len caps+1) nIn&&!Nat.ble bfB f) with
    | true => (c (Ub4 caps nIn s)).bind fun r =>
      f8.rec (motive:=λ_=>DT (f8×St)) (fc5 (hdA (j7 r.2.a nIn)) ⟨j7 r.2.a (nIn+1),r.2.H⟩) (λ_=>.fail) (fc5 (hdA (j7 r.2.a nIn)) ⟨j7 r.2.a (nIn+1),r.2.H⟩) r.1
    |false=>.fail
   |_=>.fail
theorem Qd8{E:Env}{f:Nat}{x:Arg}{nIn:Nat}{c c':St->DT (f8×St)}(h:∀s,fa2 (c s) (c' s))(s:St):fa2 (ve2 E f x nIn c s) (ve2 E f x nIn c' s):=by
 unfold ve2;cases d7 E s.a x with
 |fn f' caps =>
  simp only
  cases Nat.beq f f'&&(Nat.ble (len caps+1) nIn&&!Nat.ble bfB f) with
  |true=>exact (h _).bind λr=>.refl _
  |false=>exact .fail _
 |_=>exact .fail _
theorem ra6.le{E:Env}{k:Nat}{a:PS2}{c:PC}(h:ra6 E k a c):∀s,fa2 (Oc5 E k a s) (S7 E k c s):=by
 induction h with
 |pc c=>exact λs=>.refl _
 |seq h h' ih ih' =>
  intro s;refine (ih s).bind λr=>?_
  rcases r with⟨x,s'⟩
  cases x with
  |normal=>exact ih' s'
  |exit id=>exact .refl _
  |ret=>exact .refl _
 |cond c h h' ih ih' =>
  intro s;show fa2 (match d7 E s.a c with | .v (.bool b)=>_ | _=>_) (match d7 E s.a c with | .v (.bool b)=>_ | _=>_)
  split
  ·exact .ite (ih s) (ih' s)
  ·exact .fail _
 |block id h ih=>exact λs=>(ih s).bind λr=>.refl _
 |sum h=>exact h
 |inner f x nIn h ih =>
  intro s;exact Qd8 (E:=E) (f:=f) (x:=x) (nIn:=nIn) ih s
def Ef7(E:Env)(fn:PFn)(body:PS2)(args:List b7)(blks:List b8):DT (b7×List b8) :=
 .guard (Bool.and (ee4 blks) (Nat.ble (len args) fn.ntmps)) ((Oc5 E (len blks) body ⟨app args (List.replicate (fn.ntmps-len args) (.v (.tuple #[]))),blks⟩).bind λr =>
  match r.1 with
  |.exit _=>.fail
  |_=>match nb7 (rb8 (p5 (oa7 r.2.H) r.2.a) (q9 r.2.H)) fn.res with
   |some l=>.guard (ee4 (N8 r.2.H (len blks))) (fc6 (len blks) (q9 r.2.H) (Lb5 l))
   |none=>.fail)
theorem fe5{E:Env}{fn:PFn}{body:PS2}{args:List b7}{blks:List b8}(h:ra6 E (len blks) body fn.body):fa2 (Ef7 E fn body args blks) (Vb8 E fn args blks) :=
 fa2.ite (fa2.bind (h.le _) λ_=>.refl _) (.refl _)
@[reducible] def fe6(k:Nat)(keep:List Nat)(s:St):DT St:=tidyM k ⟨S9 keep s.a 0,s.H⟩
theorem ve3(E:Env)(k:Nat)(keep:List Nat)(c:PC)(s:St):S7 E k (.loopM keep c) s=dc9 (fe6 k keep) (S7 E k c) E.N s:=rfl
theorem vf8{E:Env}(hm:E.P.follows .mixedOrders=true)(hcalls:∀f,g9 E.P E.G f (E.call f)):se3 E:=by
 intro W ρ0 H0 F0 w0 hG0 id ops dsts asq l ps hc s x s' he ac w Q hI hQ;rw[<- hc] at he;obtain⟨hd,hr⟩:=hI;have hlen:H0.length<=s.H.length:=by
  obtain⟨ρ,F,hA,_⟩:=hr
  rcases Nat.lt_or_ge s.H.length H0.length with h|h
  ·obtain⟨b',hb',_⟩:=hA.heap s.H.length _ (List.getElem?_eq_getElem h)
   have:=(Qfd.1 hb').1
   omega
  ·exact h
 exact wpIn_wide.1 (Ce6 (nn:=0) FW.wide hm hcalls hG0 (DS:=λ_=>True) (tm:=ac.tmps) (ds:=ac.defers) (λ_ _ _ _=>trivial) hlen he ⟨rfl,rfl,λ_ h=>absurd trivial h,hr⟩ λac' w' hM=>hQ ac' w' ⟨hM.defers.trans hd,hM.rel⟩)
def got(x:Option PFn):PFn:=Option.rec (motive:=λ_=>PFn) ⟨0,[],.skip⟩ (λy=>y) x
theorem Qd9{x:Option PFn}(h:Option.isSome x=true):x=some (got x):=by cases x with
 |none=>cases h
 |some y=>rfl
def ve4(P:Program)(f:FuncId)(R:Env->Sum):Prop:=∀{E:Env},E.P=P->(∀g,g9 E.P E.G g (E.call g))->g9 E.P E.G f (R E)
theorem eg2{P:Program}{f:FuncId}{fn:Func}{pf:PFn}(hm:P.follows .mixedOrders=true)(hf:P.funcs[f]?=some fn)(hn:decide (fn.name ≠ "runtime.NumGoroutine")=true)(hc:d8 P fn=some pf):ve4 P f λE=>Pb4 E pf :=
 λhP hcalls=>by
  subst hP;exact Ve8 hf (of_decide_eq_true hn) hc hcalls (vf8 hm hcalls)
theorem bf2 {P : Program} {f : FuncId} {h : xd7} {fn fnI : Func} {pf : PFn} (hm : P.follows .mixedOrders = true) (hf : P.funcs[f]? = some fn) (hn : decide (fn.name ≠ "runtime.NumGoroutine") = true) (hfI : P.funcs[h.fi]? = some fnI) (hnI : decide (fnI.name ≠ "runtime.NumGoroutine") = true)
  (hc:Bb0 P h fnI fn=some pf):ve4 P f λE=>Vb8 E pf :=
 λhP hcalls=>g9.body2 hP hm hf (of_decide_eq_true hn) hfI (of_decide_eq_true hnI) hc hcalls
end Go.Ev
