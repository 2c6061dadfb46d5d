/-
  A speaking function, run by itself, answers true.
-/
import Derived.Test.YtanfippcmdialaaGreatSwLib9
import Derived.RangeFuncIn
import Derived.RangeFuncLeaves
import Derived.RangeFuncSeq
import Derived.RangeFuncRecord
import Derived.LoopNIn
import Derived.OrdersIn
import Derived.Test.YtanfippcmdialaaGreatSwLib7
import Derived.MapKept
import Derived.Carry
section
namespace Go.Sw
open Go.RowKit
section
variable {P:Program} {l n:Nat}
abbrev A1b(l:Nat):Fence:=Fence.wide.inRound l
theorem G7g{row:String}{args:Array Value}{w:World}{R:Value→World→Prop}(h:Rows P row args w R):RowsIn (A1b l) n P row args w R :=
 fun c cs _=>let ⟨v,w',r,s⟩:=h c cs; ⟨v,w',r,stepsIn_wide.2 s⟩
theorem B66{f:FuncId}{args:Array Value}{w:World}{R:Ending→World→Prop}(h:Calls P f args w R):CallsIn (A1b l) n P f args w R:=callsIn_wide.2 h
theorem Oper.inR {o:Oper} {a:Act} {w:World} {K K':Act→World→Prop} {Q:Exit→Act→World→Prop} (hd:∀ c,o.op≠.defer c) (hk:∀ a w,K a w→K' a w) (h:o.wp P a w K Q):o.wpIn (A1b l) n P a w K' Q:=by
 refine⟨fun _ _=>trivial,?_⟩;rw[Oper.semAt_eq _ _ _ hd];unfold Oper.wp at h;generalize (execOp a.eval o).run P w=r at h ⊢;cases r with
 | ok x w'=>
  cases x with
  | value v=>exact hk _ _ h
  | skip=>exact hk _ _ h
  | defer d=>exact hk _ _ h
  | enter f args=>
   refine⟨(fun hx=>by cases hx),B66 (Calls.mono h fun e w'' he=>?_)⟩;cases e with
   | returned v=>exact hk _ _ he
   | panicked ch=>exact he
   | outgrown=>exact he
  | row row args=>exact⟨(fun hx=>by cases hx),G7g (Rows.mono h fun v w'' he=>hk _ _ he)⟩
  | _=>exact h.elim
 | halt x w'=>
  cases x with
  | panic v=>exact h
  | _=>exact h.elim
theorem G79{ops:Array Oper}(h:A2r ops=true){i:Nat}{o:Oper}(ho:ops[i]?=some o):∀ c,o.op≠.defer c:=by
 intro c hc;unfold A2r at h;rw[List.all_eq_true] at h;have:=h o (List.mem_of_getElem? (i:=i) (by rw[Array.getElem?_toList]; exact ho));rw[hc] at this;cases this
theorem B1x {ops:Array Oper} (hp:A2r ops=true) {Q:Exit→Act→World→Prop} (hQ:¬ LetsOut Q) {i:Nat} {K K':Act→World→Prop} (hk:∀ a w,K a w→K' a w) {a:Act} {w:World} (h:wpOp P ops Q i K a w):wpOpIn (A1b l) n P ops Q i K' a w:=by
 unfold wpOp at h;unfold wpOpIn;cases ho:ops[i]? with
 | none=>rw[ho] at h; exact hk _ _ h
 | some o=>
  rw[ho] at h;simp only at h ⊢;split
  ·rename_i hw;rw[if_pos hw] at h;rcases h with h | ⟨_,h⟩
   ·exact Oper.inR (G79 hp ho) hk h
   ·exact absurd h hQ
  ·rename_i hw;rw[if_neg hw] at h;exact⟨fun _ _=>trivial,hk _ _ h⟩
theorem D7a{ops:Array Oper}(hp:A2r ops=true){Q:Exit→Act→World→Prop}(hQ:¬ LetsOut Q):∀ (is:List Nat) {a:Act} {w:World},wpOps P ops Q is a w→wpOpsIn (A1b l) n P ops Q is a w
 | [],_,_,h=>h
 | i :: is,a,w,h=>by
  rw[wpOps_cons] at h;rw[wpOpsIn_cons];exact B1x hp hQ (fun _ _ h=>D7a hp hQ is h) h
theorem E6m{md:Region.Mode}{ops:Array Oper}(hp:A2r ops=true){Q:Exit→Act→World→Prop}(hQ:¬ LetsOut Q):∀ (fuel:Nat) {listed:Array Bool} {a:Act} {w:World},wpAny P md ops Q fuel listed a w→wpAnyIn (A1b l) n P md ops Q fuel listed a w
 | 0,_,_,_,h=>h
 | fuel+1,_,_,_,h=>⟨h.1,fun i hi=>B1x hp hQ (fun _ _ h=>E6m hp hQ fuel h) (h.2 i hi)⟩
end
theorem Out.noOut{ds:List Deferred}{w0:G4}{μ:Mu}{nt:Nat}{r:Res (D0 × Env)}:¬ LetsOut (Out ds w0 μ nt r):=by
 rintro ⟨a,w,h⟩;unfold Out at h;split at h
 ·rename_i y e H;obtain⟨_,_,_,_,_,h⟩:=h;cases y <;> cases h
 ·obtain⟨_,_,_,_,_,_,h⟩:=h;cases h
 ·exact h
section
variable {c:Cfg} {call:A8} {draw:A2h} {ds:List Deferred} {w0:G4} {nt:Nat} {kp:Nat→List Nat} {l n:Nat}
theorem E4c {b:Code} {body:Env→A2→Res (D0 × Env)}
  (hb:∀ e H,body e H≠.stuck→∀ μ a w,HR w0 μ H w→ER μ nt e a.tmps→a.defers=ds→b.wpIn (A1b l) n c.P (Out ds w0 μ nt (body e H)) a w) :
  ∀ m e H,loopN body m e H≠.stuck→∀ μ a w,HR w0 μ H w→ER μ nt e a.tmps→a.defers=ds→Code.roundsIn (A1b l) n c.P b (Out ds w0 μ nt (loopN body m e H)) m a w
 | 0,e,H,hne,μ,a,w,_,_,_=>absurd rfl hne
 | m + 1,e,H,hne,μ,a,w,hH,hE,hd=>by
  rw[roundsIn_succ];simp only[loopN] at hne ⊢;refine wpIn_mono (hb e H (Res.bind_ne hne) μ a w hH hE hd) fun x a' w' ho=>?_;unfold Out at ho;split at ho
  ·rename_i y e' H' hr;obtain⟨μ',h1,h2,h3,h4,h5⟩:=ho;rw[hr] at hne ⊢;simp only[Res.bind] at hne ⊢;cases y with
   | normal=>
    simp only at h5 hne ⊢;subst h5;have ih:=E4c hb m e' H' hne μ' a' w' h2 h3 h4;simp only[Exit.then];exact mono m _ _ ih fun x a w=>Out.up h1
   | exit i=>
    simp only at h5 ⊢;subst h5;exact⟨μ',h1,h2,h3,h4,rfl⟩
   | ret=>
    simp only at h5 ⊢;subst h5;exact⟨μ',h1,h2,h3,h4,rfl⟩
  ·rename_i v H' hr;obtain⟨μ',v',h1,h2,h3,h4,rfl⟩:=ho;rw[hr];exact⟨μ',v',h1,h2,h3,h4,rfl⟩
  ·exact ho.elim
where
 mono {P:Program} {b:Code} {Q Q':Exit→Act→World→Prop} (m:Nat) (a:Act) (w:World) (h:Code.roundsIn (A1b l) n P b Q m a w) (hq:∀ x a w,Q x a w→Q' x a w):Code.roundsIn (A1b l) n P b Q' m a w:=by
  induction m generalizing a w with
  | zero=>exact h
  | succ m ih=>
   rw[roundsIn_succ] at h ⊢;refine wpIn_mono h fun x a w hx=>?_;cases x with
   | normal=>exact ih _ _ hx
   | _=>exact hq _ _ _ hx
theorem B3d (hc:N7 c.P call) (hdr:A2t c.P nt draw) (hmix:c.P.follows .mixedOrders=true):∀ (code:Code),G6 code=true→∀ e H,exec c call draw nt kp code e H≠.stuck→∀ μ a w,HR w0 μ H w→ER μ nt e a.tmps→a.defers=ds →
  code.wpIn (A1b l) n c.P (Out ds w0 μ nt (exec c call draw nt kp code e H)) a w
 | .skip,hp,e,H,hne,μ,a,w,hH,hE,hd=>wpIn_skip ⟨μ,Mu.le_refl _,hH,hE,hd,rfl⟩
 | .label l,hp,e,H,hne,μ,a,w,hH,hE,hd=>wpIn_label ⟨μ,Mu.le_refl _,hH,hE,hd,rfl⟩
 | .exit i,hp,e,H,hne,μ,a,w,hH,hE,hd=>wpIn_exit ⟨μ,Mu.le_refl _,hH,hE,hd,rfl⟩
 | .ret,hp,e,H,hne,μ,a,w,hH,hE,hd=>wpIn_ret ⟨μ,Mu.le_refl _,hH,hE,hd,rfl⟩
 | .region id ops d,hp,e,H,hne,μ,a,w,hH,hE,hd=>by
  cases d with
  | false=>
   simp only[exec,cond_false] at hne ⊢;refine wpIn_region ?_;have h:=B0j (ds:=ds) (w0:=w0) (nt:=nt) hc ops ops.toList 0 e H μ a w rfl (Res.bind_ne hne) hH hE hd;rw[Array.length_toList,← List.range_eq_range'] at h;exact D7a hp Out.noOut _ (B0j.wpOps_mono _ (fun x a w hx=>hx.keep) h)
  | true=>
   simp only[exec,cond_true] at hne ⊢;exact wpIn_region_any hmix (E6m hp Out.noOut _ (D6u (fun x a w hx=>hx.keep) _ (hdr ops e H (Res.bind_ne hne) ds w0 μ a w hH hE hd)))
 | .seq x y,hp,e,H,hne,μ,a,w,hH,hE,hd=>by
  have hp:=(Bool.and_eq_true _ _ ▸ hp:_∧_)
  simp only[exec] at hne ⊢;refine wpIn_seq (wpIn_mono (B3d hc hdr hmix x hp.1 e H (Res.bind_ne hne) μ a w hH hE hd) fun q a' w' ho=>?_);unfold Out at ho;split at ho
  ·rename_i z e' H' hr;obtain⟨μ',h1,h2,h3,h4,h5⟩:=ho;rw[hr] at hne ⊢;simp only[Res.bind,A5x] at hne ⊢;cases z with
   | normal=>
    simp only at h5 hne ⊢;subst h5;simp only[Exit.then];exact wpIn_mono (B3d hc hdr hmix y hp.2 e' H' hne μ' a' w' h2 h3 h4) fun x a w=>Out.up h1
   | exit i=>
    simp only at h5 ⊢;subst h5;exact⟨μ',h1,h2,h3,h4,rfl⟩
   | ret=>
    simp only at h5 ⊢;subst h5;exact⟨μ',h1,h2,h3,h4,rfl⟩
  ·rename_i v H' hr;obtain⟨μ',v',h1,h2,h3,h4,rfl⟩:=ho;rw[hr];exact⟨μ',v',h1,h2,h3,h4,rfl⟩
  ·exact ho.elim
 | .cond x y z,hp,e,H,hne,μ,a,w,hH,hE,hd=>by
  have hp:=(Bool.and_eq_true _ _ ▸ hp:_∧_)
  simp only[exec] at hne ⊢;obtain⟨t,hb,he⟩:=A3l hne;rw[he] at hne ⊢;refine wpIn_cond (E3 hE hb).bool_inv ?_;cases t with
  | true=>exact B3d hc hdr hmix y hp.1 e H hne μ a w hH hE hd
  | false=>exact B3d hc hdr hmix z hp.2 e H hne μ a w hH hE hd
 | .block id x,hp,e,H,hne,μ,a,w,hH,hE,hd=>by
  simp only[exec] at hne ⊢;refine wpIn_block (wpIn_mono (B3d hc hdr hmix x hp e H (Res.bind_ne hne) μ a w hH hE hd) fun q a' w' ho=>?_);unfold Out at ho;split at ho
  ·rename_i z e' H' hr;obtain⟨μ',h1,h2,h3,h4,h5⟩:=ho;rw[hr] at hne ⊢;simp only[Res.bind,A03] at hne ⊢;cases z with
   | normal=>
    simp only at h5 ⊢;subst h5;exact⟨μ',h1,h2,h3,h4,rfl⟩
   | exit i=>
    simp only at h5 ⊢;subst h5;simp only[Exit.inBlock];by_cases hi:i=id
    ·rw[if_pos hi,if_pos (by simpa using hi)];exact⟨μ',h1,h2,h3,h4,rfl⟩
    ·rw[if_neg hi,if_neg (by simpa using hi)];exact⟨μ',h1,h2,h3,h4,rfl⟩
   | ret=>
    simp only at h5 ⊢;subst h5;exact⟨μ',h1,h2,h3,h4,rfl⟩
  ·rename_i v H' hr;obtain⟨μ',v',h1,h2,h3,h4,rfl⟩:=ho;rw[hr];exact⟨μ',v',h1,h2,h3,h4,rfl⟩
  ·exact ho.elim
 | .loop x,hp,e,H,hne,μ,a,w,hH,hE,hd=>by
  simp only[exec] at hne ⊢;exact wpIn_loop_rounds B8 (E4c (fun e H h μ a w hH hE hd=>wpIn_mono (B3d hc hdr hmix x hp e H (Res.bind_ne h) μ a w hH hE hd) fun _ _ _ ho=>ho.round) B8 _ H hne μ a w hH (hE.keep _) hd)
 | .scope x,hp,e,H,hne,μ,a,w,hH,hE,hd=>by cases hp
 | .rangeFunc f ps x y,hp,e,H,hne,μ,a,w,hH,hE,hd=>by cases hp
 | .goto _,hp,e,H,hne,μ,a,w,hH,hE,hd=>by cases hp
 | .refuse _,hp,e,H,hne,μ,a,w,hH,hE,hd=>by cases hp
end
end Go.Sw
end
section
namespace Go.Sw
open Go.RowKit
def B2j(P:Program)(l:Nat)(R:Ending→World→Prop):Exit→Act→World→Prop
 | .panic ch,a,w=>a.defers=[]∧R (.panicked ch) w
 | x,a,w=>roundPost P l R x a w
theorem G3n {F:Fence} {n:Nat} {P:Program} {l:Nat} {f:FuncId} {tmps:Array Value} {assign body:Code} {w:World} {R:Ending→World→Prop} (hF:F.fn f) (hfn:∃ fn,P.funcs[f]?=some fn)
  (h:assign.wpIn (F.inRound l) n P (Exit.then (fun a₁ w₁=>∃ w₂,(Instr.beginRound l).run P w₁=.ok () w₂∧body.wpIn (F.inRound l) n P (B2j P l R) a₁ w₂) (fun e a w=>match e with | .panic ch=>a.defers=[]∧R (.panicked ch) w | _=>False))
   { tmps:=tmps,defers:=[] } w) :
  RoundIn F n P l f tmps assign body w R:=by
 refine⟨hF,fun c cs hr=>?_⟩
 let b:Frame:={ (default:Frame) with fn:=f,kind:=.normal,roundOf:=some l }
 have hb0:Frame.round l f tmps assign body .normal=b.atR { tmps:=tmps,defers:=[] } [.code assign,.beginRound,.code body]:=by
  simp[Frame.round,Frame.atR,b]
 have hr':(F.inRound l).room ((c :: cs).length+1+n):=hr;have hF':(F.inRound l).fn b.fn:=hF
 have thrown:∀ {m:Machine} {a:Act} {ch:List PanicEntry} {w':World} {todo:List Item},a.defers=[]→StepsIn (Machine.fenced P (F.inRound l)) P m (lone { b.atR a todo with mode:=.panicking ch } (c :: cs) w') →
   StepsIn (Machine.fenced P (F.inRound l)) P m (lone (c.raise ch) cs w'):=fun {m a ch w' todo} hd hs=>by
  have hl:Frame.leaving P { b.atR a todo with mode:=.panicking ch } w' (.panicked ch):=⟨rfl,hd,hfn⟩
  exact StepsIn.trans hs (.one (fenced_leaving (fr:={ b.atR a todo with mode:=.panicking ch }) hF' hr' hl) (step_leave_panicked hl))
 obtain⟨e,a₁,w₁,hq,harr⟩:=h b [.beginRound,.code body] (c :: cs) rfl hF' hr';rw[← hb0] at harr;cases e with
 | normal=>
  obtain ⟨w₂,hbr,hbody⟩:=hq;have s1:StepsIn (Machine.fenced P (F.inRound l)) P (lone (b.atR a₁ [.beginRound,.code body]) (c :: cs) w₁) (lone (b.atR a₁ [.code body]) (c :: cs) w₂) :=
   .one (fenced_calm (fr:=b.atR a₁ [.beginRound,.code body]) hF' hr' rfl) (stepR_beginRound rfl hbr)
  obtain⟨e₂,a₂,w₃,hq₂,harr₂⟩:=hbody b [] (c :: cs) rfl hF' hr';cases e₂ with
  | normal=>
   obtain⟨v,w₄,hend,hR⟩:=hq₂;exact⟨.returned v,w₄,hR,(StepsIn.trans harr s1).trans (StepsIn.trans harr₂ (.one (fenced_calm (fr:=b.atR a₂ []) hF' hr' rfl) (stepR_round_end rfl rfl hend)))⟩
  | ret=>
   obtain⟨v,w₄,hend,hR⟩:=hq₂;obtain⟨k₁,hs⟩:=harr₂.2 rfl;exact⟨.returned v,w₄,hR,(StepsIn.trans harr s1).trans (StepsIn.trans hs (.one (fenced_calm (fr:=b.atR a₂ (.code .ret :: k₁)) hF' hr' rfl) (stepR_round_ret rfl rfl hend)))⟩
  | exit id=>
   obtain⟨v,w₄,hend,hR⟩:=hq₂;obtain⟨k₁,hk,hs⟩:=harr₂.2 rfl rfl;exact⟨.returned v,w₄,hR,(StepsIn.trans harr s1).trans (StepsIn.trans hs (.one (fenced_calm (fr:=b.atR a₂ (.code (.exit id) :: k₁)) hF' hr' rfl) (stepR_round_exit rfl rfl hk hend)))⟩
  | goto t=>
   obtain⟨v,w₄,hend,hR⟩:=hq₂;obtain⟨k₁,hk,hs⟩:=harr₂.2 rfl rfl;exact⟨.returned v,w₄,hR,(StepsIn.trans harr s1).trans (StepsIn.trans hs (.one (fenced_calm (fr:=b.atR a₂ (.code (.goto t) :: k₁)) hF' hr' rfl) (stepR_round_goto rfl rfl hk hend)))⟩
  | panic chain=>
   obtain⟨hd,hR⟩:=hq₂;obtain⟨todo,hs⟩:=harr₂;exact⟨.panicked chain,w₃,hR,(StepsIn.trans harr s1).trans (thrown hd hs)⟩
  | outgrown=>exact hq₂.elim
 | panic chain=>
  obtain⟨hd,hR⟩:=hq;obtain⟨todo,hs⟩:=harr;exact⟨.panicked chain,w₁,hR,thrown hd hs⟩
 | exit id=>exact hq.elim
 | goto t=>exact hq.elim
 | ret=>exact hq.elim
 | outgrown=>exact hq.elim
structure Q0 (w0:G4) (μ:Mu) (H:A2) (w:World) (k:Nat):Prop where
 old:¬ w0.S k
 lt:k<w.heap.size
 blk:∀ b x m,H.get b=some x→x.ro=false→μ b=some m→m.blk≠k
 z:∀ o,μ.z k≠some o
theorem HR.turn {w0:G4} {μ:Mu} {H:A2} {w w':World} (h:HR w0 μ H w) (T:Nat→Prop) (hT:∀ k,T k→Q0 w0 μ H w k) (hs:w.heap.size≤w'.heap.size) (ho:w'.os=w.os) (ht:w'.tape=w.tape) (hp:w'.output=w.output)
  (hk:∀ k,¬ T k→k<w.heap.size→w'.heap[k]?=w.heap[k]?):HR w0 μ H w':=by
 constructor
 ·exact h.dom
 ·intro b x hb;obtain⟨m,hm,hbr⟩:=h.blk b x hb;refine⟨m,hm,hbr.keep (Mu.le_refl _) (hk _ (fun e=>?_) hbr.lt)⟩;cases hr:x.ro with
  | false=>exact (hT _ e).blk b x m hb hr hm rfl
  | true=>
   exact (hT _ e).old (h.below.sub _ (hbr.low hr))
 ·exact h.inj
 ·exact h.below.step ho ht hp hs fun k hS=>by
   have h1:=h.below.lt _ hS;have h2:=h.below.size;exact hk k (fun e=>(hT k e).old hS) (by omega)
 ·refine h.zr.step rfl (fun k o hz'=>hk k (fun e=>(hT k e).z o hz') (h.zr.lt hz')) fun b x m hx hr hm=>.inl ⟨b,x,hx,hr,m,hm,rfl⟩
theorem Q0.world{w0:G4}{μ:Mu}{H:A2}{w w':World}{k:Nat}(h:Q0 w0 μ H w k)(hs:w.heap.size≤w'.heap.size):Q0 w0 μ H w' k:=⟨h.old,Nat.lt_of_lt_of_le h.lt hs,h.blk,h.z⟩
theorem HR.fresh{w0:G4}{μ:Mu}{H:A2}{w:World}(h:HR w0 μ H w)(o:Obj):Q0 w0 μ H (w.alloc o) w.heap.size:=by
 refine⟨fun hS=>by have h1:=h.below.lt _ hS; have h2:=h.below.size; omega,by show w.heap.size<(w.heap.push o).size; simp,fun b x m hb hr hm e=>?_,fun o ho=>by have:=h.zr.lt ho; omega⟩;obtain⟨m',hm',hbr⟩:=h.blk b x hb;rw[hm] at hm'; injection hm' with hm'; subst hm';have:=hbr.lt;omega
theorem Q0.run{w0:G4}{μ0 μ:Mu}{H0 H:A2}{w w':World}{T:Nat→Prop}(h:HR (w0.more μ0 w T) μ H w'){k:Nat}(hT:T k)(h0:Q0 w0 μ0 H0 w k):Q0 w0 μ H w' k:=by
 refine⟨h0.old,Nat.lt_of_lt_of_le h0.lt h.below.size,fun b x m hb hr hm e=>?_,h.ζkb hT h0.z⟩;obtain⟨m',hm',hbr⟩:=h.blk b x hb;rw[hm] at hm'; injection hm' with hm'; subst hm';exact hbr.own hr (.inr (e ▸ hT))
theorem HR.hold{w0:G4}{μ:Mu}{H:A2}{w:World}(h:HR w0 μ H w)(T:Nat→Prop)(hT:∀ k,T k→Q0 w0 μ H w k):HR (w0.more μ w T) μ H w :=
 h.toMore T (fun k hk=>(hT k hk).lt) fun b x m hb hr hm ht=>(hT _ ht).blk b x m hb hr hm rfl
theorem HR.held{w0:G4}{μ0 μ:Mu}{H:A2}{w w':World}{T:Nat→Prop}(h:HR (w0.more μ0 w T) μ H w'){k:Nat}(hT:T k):w'.heap[k]?=w.heap[k]?:=h.below.block k (.inr hT)
def B6l(x:List Int):Array Value:=(x.map fun n=>Value.int .i64 n).toArray
def B9e (P:Program) (it:Value→A2→Option (List (List Int))):Prop :=
 ∀ v H l,it v H=some l→∀ (w0:G4) μ w v',HR w0 μ H w→VR μ v v' →
  ∃ g lb,v'=.func (.func g) #[] lb∧(∃ fn,P.funcs[g]?=some fn∧fn.body.isSome=true∧(fn.name == "runtime.NumGoroutine")=false) ∧
   ∀ (l0:Nat) (J:Nat→(Nat→Prop)→World→Prop) (Jx:World→Prop) (Jp:List PanicEntry→World→Prop),
    (∀ i T W o,J i T W→J i (fun k=>T k∨k=W.heap.size) (W.alloc o)) →
    (∀ i T W W',J i T W→W.heap.size=W'.heap.size→W'.os=W.os→W'.tape=W.tape→W'.output=W.output→(∀ k,¬ T k→W'.heap[k]?=W.heap[k]?)→J i T W') →
    (∀ i T W,J i T W→∀ k o,μ.z k=some o→W.heap[k]?=some o) →
    (∀ i T W x,J i T W→l[i]?=some x→YieldAt Fence.wide 0 P l0 (B6l x) W fun e W'=>
     (e=.returned (.bool true)∧J (i+1) T W'∧(∀ k,T k→W'.heap[k]?=W.heap[k]?)∧W.heap.size≤W'.heap.size)∨(e=.returned (.bool false)∧Jx W')∨∃ ch,e=.panicked ch∧Jp ch W') →
    J 0 (fun _=>False) w →
    Calls P g (#[.func (.yield l0) #[] #[]]++lb) w fun e W'=>((∃ v,e=.returned v)∧((∃ T,J l.length T W')∨Jx W'))∨∃ ch,e=.panicked ch∧Jp ch W'
theorem G7f{m m':Nat}{P:Program}{l:Nat}{f:FuncId}{tmps:Array Value}{assign body:Code}{w:World}{R:Ending→World→Prop}(h:RoundIn Fence.wide m P l f tmps assign body w R):RoundIn Fence.wide m' P l f tmps assign body w R :=
 ⟨h.1,fun c cs _=>h.2 c cs (room_wide _)⟩
theorem J01(x:List Int):(B6l x).size=x.length:=by simp[B6l]
theorem ER.args{μ:Mu}{nt:Nat}:∀ (ps:List Tmp) (x:List Int) (e:Env) (tmps:Array Value),ER μ nt e tmps→(∀ p,p ∈ ps→p<nt)→ER μ nt (A36 e ps x) ((ps.zip (x.map fun n=>Value.int .i64 n)).foldl (fun t (p,v)=>t.setIfInBounds p v) tmps)
 | [],x,e,tmps,h,_=>by cases x <;> exact h
 | p :: ps,[],e,tmps,h,_=>h
 | p :: ps,n :: x,e,tmps,h,hp=>by
  simp only[A36,List.map_cons,List.zip_cons_cons,List.foldl_cons];refine ER.args ps x _ _ ?_ (fun q hq=>hp q (by simp[hq]));have:=h.put (d:=some p) (v:=.int .i64 n) (v':=.int .i64 n) (a:=⟨tmps,[]⟩) (by unfold A38; exact Nat.ble_eq_true_of_le (hp p (by simp))) (.int _ _);exact this
def A47(f0:FuncId)(P:Program)(c:Code)(Q:Exit→Act→World→Prop)(a:Act)(w:World):Prop :=
 ∀ (b:Frame) (k:List Item) (cs:List Frame),b.roundOf=none→b.fn=f0 →
  ∃ e a' w',Q e a' w'∧ArrivesIn (Machine.fenced P Fence.wide) P (lone (b.atR a (.code c :: k)) cs w) b k cs e a' w'
section
variable {f0:FuncId} {P:Program} {Q:Exit→Act→World→Prop} {a:Act} {w:World}
theorem A7f{c:Code}(h:c.wp P Q a w):A47 f0 P c Q a w:=fun b k cs hro _=>wpIn_wide (n:=0).2 h b k cs hro trivial (room_wide _)
theorem B2b{c:Code}{Q':Exit→Act→World→Prop}(h:A47 f0 P c Q a w)(hq:∀ e a w,Q e a w→Q' e a w):A47 f0 P c Q' a w :=
 fun b k cs hro hb=>let ⟨e,a',w',q,r⟩:=h b k cs hro hb; ⟨e,a',w',hq _ _ _ q,r⟩
theorem B1w{x y:Code}(h:A47 f0 P x (Exit.then (A47 f0 P y Q) Q) a w):A47 f0 P (.seq x y) Q a w:=by
 intro b k cs hro hb;have h0:=fenced_wide P (lone (b.atR a (.code (.seq x y) :: k)) cs w);obtain⟨e,a₁,w₁,hq,harr⟩:=h b (.code y :: k) cs hro hb;cases e with
 | normal=>
  obtain⟨e₂,a₂,w₂,hq₂,harr₂⟩:=hq b k cs hro hb;exact⟨e₂,a₂,w₂,hq₂,.of_steps (.head h0 stepR_seq harr) harr₂⟩
 | exit id=>exact⟨_,a₁,w₁,hq,.of_steps (.one h0 stepR_seq) (.pass (x:=.code y) rfl (fun _ _=>.inl (by simp)) harr)⟩
 | goto l=>exact⟨_,a₁,w₁,hq,.of_steps (.one h0 stepR_seq) (.pass (x:=.code y) rfl (fun _ _=>.inl (by simp)) harr)⟩
 | ret=>exact⟨_,a₁,w₁,hq,.of_steps (.one h0 stepR_seq) (.pass (x:=.code y) rfl (fun _ _=>.inl (by simp)) harr)⟩
 | panic ch=>exact⟨_,a₁,w₁,hq,.of_steps (.one h0 stepR_seq) (.pass (x:=.code y) rfl (fun _ _=>.inl (by simp)) harr)⟩
 | outgrown=>exact⟨_,a₁,w₁,hq,.of_steps (.one h0 stepR_seq) (.pass (x:=.code y) rfl (fun _ _=>.inl (by simp)) harr)⟩
theorem G9a {id:Nat} {c:Code} (h:A47 f0 P c (Exit.inBlock id Q) a w):A47 f0 P (.block id c) Q a w:=by
 intro b k cs hro hb;have h0:=fenced_wide P (lone (b.atR a (.code (.block id c) :: k)) cs w);obtain⟨e,a₁,w₁,hq,harr⟩:=h b (.inBlock id :: k) cs hro hb;cases e with
 | normal=>exact⟨.normal,a₁,w₁,hq,.head h0 stepR_block (StepsIn.trans harr (.one (fenced_wide _ _) stepR_inBlock))⟩
 | exit id'=>
  by_cases hid:id'=id
  ·simp only[Exit.inBlock,hid,if_true] at hq;exact⟨.normal,a₁,w₁,hq,.head h0 stepR_block (harr.1 k (by simp[exitTo,hid]))⟩
  ·simp only[Exit.inBlock,hid,if_false] at hq;have this:(id == id')=false:=by simp; exact fun h=>hid h.symm
   have hx:exitTo id' (.inBlock id :: k)=exitTo id' k:=by simp[exitTo,this]
   exact ⟨.exit id',a₁,w₁,hq,fun k' hk=>.head h0 stepR_block (harr.1 k' (by rw[hx]; exact hk)),
    fun hr' hk=>let ⟨k₁,h1,h2⟩:=harr.2 hr' (by rw[hx]; exact hk); ⟨k₁,h1,.head h0 stepR_block h2⟩⟩
 | goto l=>
  have hx:gotoIn l (.inBlock id :: k)=gotoIn l k:=by simp[gotoIn]
  exact ⟨_,a₁,w₁,hq,fun k' hk=>.head h0 stepR_block (harr.1 k' (by rw[hx]; exact hk)),
   fun hr' hk=>let ⟨k₁,h1,h2⟩:=harr.2 hr' (by rw[hx]; exact hk); ⟨k₁,h1,.head h0 stepR_block h2⟩⟩
 | ret=>exact⟨_,a₁,w₁,hq,.of_steps (.one h0 stepR_block) harr⟩
 | panic ch=>exact⟨_,a₁,w₁,hq,.of_steps (.one h0 stepR_block) harr⟩
 | outgrown=>exact⟨_,a₁,w₁,hq,.of_steps (.one h0 stepR_block) harr⟩
def B2i (f0:FuncId) (P:Program) (l:Nat) (Q:Exit→Act→World→Prop) (a':Act):Ending→World→Prop
  | .returned _,w₃=>∃ jump w₄,(Instr.endLoop l).run P w₃=.ok jump w₄ ∧
      (match jump with
       | none=>Q .normal a' w₄
       | some c=>A47 f0 P c Q a' w₄)
  | .panicked chain,w₃=>Q (.panic chain) a' w₃
  | .outgrown,_=>False
theorem G4x {g:Operand} {ps:Array Tmp} {assign body:Code} {l:Nat} {mark:List Deferred} {w₁:World} {d:Deferred} {w₁':World} {f:FuncId} {args:Array Value} {w₂:World}
  (he:(Instr.enterLoop f0 a.tmps ps assign body none).run P w=.ok (l,mark) w₁) (hres:(resolve a.eval (rangeCall g l) 0).run P w₁=.ok d w₁') (hinv:(invoke d.target d.args).run P w₁'=.ok (.enter f args) w₂)
  (hcall:Calls P f args w₂ (B2i f0 P l Q { a with defers:=mark++a.defers })):A47 f0 P (.rangeFunc g ps assign body) Q a w:=by
 intro b k cs hro hb;subst hb;rw[← hro] at he;have henter:=stepR_rangeFunc (P:=P) (b:=b) (a:=a) (k:=k) (cs:=cs) (w:=w) he hres hinv;obtain⟨e,w₃,fr,hR,hsteps,hfn,hleave⟩:=(callsIn_wide (n:=0).2 hcall).2 (b.atR { a with defers:=mark++a.defers } (.inRangeFunc l :: k) :: cs) (room_wide _);cases e with
 | outgrown=>exact hR.elim
 | returned v=>
  obtain ⟨jump,w₄,hend,hj⟩:=hR;have sback:StepsIn (Machine.fenced P Fence.wide) P (lone (b.atR a (.code (.rangeFunc g ps assign body) :: k)) cs w) (lone (b.atR { a with defers:=mark++a.defers } ((jump.map Item.code).toList++k)) cs w₄):=by
   refine .head (fenced_wide _ _) henter (StepsIn.trans hsteps (.head (fenced_wide _ _) ?_ (.one (fenced_wide _ _) (stepR_endRangeFunc hend))));rw[← finish_atR_inRangeFunc l v]; exact step_leave_returned hleave
  cases jump with
  | none=>exact⟨.normal,_,w₄,hj,sback⟩
  | some c=>
   obtain⟨e',a'',w₅,hq,harr⟩:=hj b k cs hro rfl;exact⟨e',a'',w₅,hq,.of_steps sback harr⟩
 | panicked chain=>
  refine⟨.panic chain,_,w₃,hR,.inRangeFunc l :: k,.head (fenced_wide _ _) henter (StepsIn.trans hsteps (.one (fenced_wide _ _) ?_))⟩;rw[← Frame.raise_atR]; exact step_leave_panicked hleave
theorem G5b{f:FuncId}{fn:Func}{c:Code}{args:Array Value}{w:World}{R:Ending→World→Prop}(hf:P.funcs[f]?=some fn)(hb:fn.body=some c)
  (h:A47 f P c (bodyPostM Fence.wide 0 P fn R) { tmps:=args++Array.replicate (fn.ntmps - args.size) undef,defers:=[] } w):Calls P f args w R:=by
 refine callsIn_wide (n:=0).1 ⟨trivial,fun cs hr=>?_⟩
 let b:Frame:={ (default:Frame) with fn:=f,kind:=.normal,roundOf:=none }
 have henter:Frame.enter P f args .normal=b.atR { tmps:=args++Array.replicate (fn.ntmps - args.size) undef,defers:=[] } [.code c]:=by
  simp[Frame.enter,Frame.atR,hf,hb,b]
 obtain⟨e,a',w',hq,harr⟩:=h b [] cs rfl rfl;rw[← henter] at harr;have hF:Fence.wide.fn f:=trivial;cases e with
 | normal=>
  obtain⟨e',w'',fr',hR,hs,hfn,hl⟩:=leaves_stepsInM a'.defers .returning w' { b.atR a' [] with mode:=.returning } cs rfl rfl rfl hf rfl hF hr hq;exact⟨e',w'',fr',hR,ComesIn.of_steps (StepsIn.trans harr (.one (fenced_wide _ _) (stepR_end rfl))) hs,hfn,hl⟩
 | ret=>
  obtain⟨todo,hs₀⟩:=harr.1 rfl;obtain⟨e',w'',fr',hR,hs,hfn,hl⟩:=leaves_stepsInM a'.defers .returning w' { b.atR a' todo with mode:=.returning } cs rfl rfl rfl hf rfl hF hr hq;exact⟨e',w'',fr',hR,ComesIn.of_steps hs₀ hs,hfn,hl⟩
 | panic chain=>
  obtain⟨todo,hs₀⟩:=harr;obtain⟨e',w'',fr',hR,hs,hfn,hl⟩:=leaves_stepsInM a'.defers (.panicking chain) w' { b.atR a' todo with mode:=.panicking chain } cs rfl rfl rfl hf rfl hF hr hq;exact⟨e',w'',fr',hR,ComesIn.of_steps hs₀ hs,hfn,hl⟩
 | exit id=>exact hq.elim
 | goto l=>exact hq.elim
 | outgrown=>exact⟨.outgrown,w',b,hq,harr.resolve_left (by simp[b]),rfl,trivial⟩
end
def D2l(D:Nat):Deferred:={ target:=.collected D,args:=#[] }
def A67(w0:G4)(μ:Mu)(nt:Nat)(r:Res (D0 × Env))(x:Exit)(a':Act)(w':World):Prop :=
 Out [] w0 μ nt r x a' w'∨∃ D μ1 H1 W1,μ.le μ1∧HR w0 μ1 H1 W1∧Q0 w0 μ1 H1 W1 D∧W1.heap[D]?=some (.deferred (some []))∧Out [D2l D] (w0.more μ1 W1 (· = D)) μ1 nt r x a' w'
theorem A67.up{w0:G4}{μ μ':Mu}{nt:Nat}{r:Res (D0 × Env)}{x:Exit}{a':Act}{w':World}(hle:μ.le μ')(h:A67 w0 μ' nt r x a' w'):A67 w0 μ nt r x a' w':=by
 rcases h with h | ⟨D,μ1,H1,W1,h1,h2⟩
 ·exact .inl (h.up hle)
 ·exact .inr ⟨D,μ1,H1,W1,Mu.le_trans hle h1,h2⟩
section
variable {c:Cfg} {call:A8} {draw:A2h} {w0:G4} {nt:Nat} {kp:Nat→List Nat}
theorem A67.then {μ:Mu} {r:Res (D0 × Env)} {k:Env→A2→Res (D0 × Env)} {f0:FuncId} {y:Code}
  (hk:∀ (ds:List Deferred) (w1:G4) (μ':Mu) (e:Env) (H:A2) (a:Act) (w:World),r=.ok (.normal,e) H→k e H≠.stuck→HR w1 μ' H w→ER μ' nt e a.tmps→a.defers=ds→A47 f0 c.P y (Out ds w1 μ' nt (k e H)) a w)
  (hne:(r.bind fun r H=>A5x r H k)≠.stuck) {q:Exit} {a:Act} {w:World} (h:A67 w0 μ nt r q a w):Exit.then (A47 f0 c.P y (A67 w0 μ nt (r.bind fun r H=>A5x r H k))) (A67 w0 μ nt (r.bind fun r H=>A5x r H k)) q a w:=by
 have one:∀ (ds:List Deferred) (w1:G4) (μ':Mu),Out ds w1 μ' nt r q a w→Exit.then (A47 f0 c.P y (Out ds w1 μ' nt (r.bind fun r H=>A5x r H k))) (Out ds w1 μ' nt (r.bind fun r H=>A5x r H k)) q a w:=fun ds w1 μ' ho=>by
  unfold Out at ho;split at ho
  ·rename_i z e' H';obtain⟨μ2,h1,h2,h3,h4,h5⟩:=ho;simp only[Res.bind,A5x] at hne ⊢;cases z with
   | normal=>
    simp only at h5 hne ⊢;subst h5;simp only[Exit.then];exact B2b (hk ds w1 μ2 e' H' a w rfl hne h2 h3 h4) fun x a w=>Out.up h1
   | exit i=>
    simp only at h5 ⊢;subst h5;exact⟨μ2,h1,h2,h3,h4,rfl⟩
   | ret=>
    simp only at h5 ⊢;subst h5;exact⟨μ2,h1,h2,h3,h4,rfl⟩
  ·rename_i v H';obtain⟨μ2,v',h1,h2,h3,h4,rfl⟩:=ho;exact⟨μ2,v',h1,h2,h3,h4,rfl⟩
  ·exact ho.elim
 rcases h with h | ⟨D,μ1,H1,W1,h1,h2,h3,h4,h5⟩
 ·have:=one _ _ _ h;cases q with
  | normal=>exact B2b this fun x a w=>.inl
  | _=>exact .inl this
 ·have:=one _ _ _ h5;cases q with
  | normal=>exact B2b this fun x a w h=>.inr ⟨D,μ1,H1,W1,h1,h2,h3,h4,h⟩
  | _=>exact .inr ⟨D,μ1,H1,W1,h1,h2,h3,h4,this⟩
theorem Out.blockM {ds:List Deferred} {w1:G4} {μ:Mu} {r:Res (D0 × Env)} {id:Nat} {q:Exit} {a:Act} {w:World} (ho:Out ds w1 μ nt r q a w):Exit.inBlock id (Out ds w1 μ nt (r.bind fun r H=>.ok (A03 id r) H)) q a w:=by
 unfold Out at ho;split at ho
 ·rename_i z e' H';obtain⟨μ',h1,h2,h3,h4,h5⟩:=ho;simp only[Res.bind,A03];cases z with
  | normal=>
   simp only at h5 ⊢;subst h5;exact⟨μ',h1,h2,h3,h4,rfl⟩
  | exit i=>
   simp only at h5 ⊢;subst h5;simp only[Exit.inBlock];by_cases hi:i=id
   ·rw[if_pos hi,if_pos (by simpa using hi)];exact⟨μ',h1,h2,h3,h4,rfl⟩
   ·rw[if_neg hi,if_neg (by simpa using hi)];exact⟨μ',h1,h2,h3,h4,rfl⟩
  | ret=>
   simp only at h5 ⊢;subst h5;exact⟨μ',h1,h2,h3,h4,rfl⟩
 ·rename_i v H';obtain⟨μ',v',h1,h2,h3,h4,rfl⟩:=ho;exact⟨μ',v',h1,h2,h3,h4,rfl⟩
 ·exact ho.elim
theorem A67.blockM {μ:Mu} {r:Res (D0 × Env)} {id:Nat} {q:Exit} {a:Act} {w:World} (h:A67 w0 μ nt r q a w):Exit.inBlock id (A67 w0 μ nt (r.bind fun r H=>.ok (A03 id r) H)) q a w:=by
 rcases h with h | ⟨D,μ1,H1,W1,h1,h2,h3,h4,h5⟩
 ·have:=Out.blockM (id:=id) h;cases q with
  | exit i=>
   simp only[Exit.inBlock] at this ⊢;split <;> rename_i hi
   ·rw[if_pos hi] at this; exact .inl this
   ·rw[if_neg hi] at this; exact .inl this
  | _=>exact .inl this
 ·have:=Out.blockM (id:=id) h5;cases q with
  | exit i=>
   simp only[Exit.inBlock] at this ⊢;split <;> rename_i hi
   ·rw[if_pos hi] at this; exact .inr ⟨D,μ1,H1,W1,h1,h2,h3,h4,this⟩
   ·rw[if_neg hi] at this; exact .inr ⟨D,μ1,H1,W1,h1,h2,h3,h4,this⟩
  | _=>exact .inr ⟨D,μ1,H1,W1,h1,h2,h3,h4,this⟩
end
end Go.Sw
end
section
namespace Go.Sw
open Go.RowKit
def A6n(w:World)(G:Nat)(ks:List Int):Prop :=
 ∃ es clock,w.heap[G]?=some (.map es clock)∧(∀ x,x ∈ es.toList→x.val=.agg #[]∧∃ n,x.key=.int .i64 n)∧∀ n,n ∈ ks↔∃ x,x ∈ es.toList∧x.key=.int .i64 n
theorem A6n.same{w w':World}{G:Nat}{ks:List Int}(h:A6n w G ks)(e:w'.heap[G]?=w.heap[G]?):A6n w' G ks:=by
 obtain⟨es,clock,h1,h2,h3⟩:=h;exact⟨es,clock,e.trans h1,h2,h3⟩
theorem B7r(w:World):A6n (w.alloc (.map #[] 0)) w.heap.size [] :=
 ⟨#[],0,(Go.MapKept.heap_alloc w _).1,fun x hx=>(by simp at hx),fun n=>by simp⟩
theorem B1q{es:Array MapEntry}(h2:∀ x,x ∈ es.toList→x.val=.agg #[]∧∃ n,x.key=.int .i64 n)(n:Int) :
  (Instr.findNow (.int .i64) (.int .i64 n) es.toList 0=some none∧¬ ∃ x,x ∈ es.toList∧x.key=.int .i64 n) ∨
  (∃ i,Instr.findNow (.int .i64) (.int .i64 n) es.toList 0=some (some (i,.agg #[]))∧∃ x,x ∈ es.toList∧x.key=.int .i64 n):=by
 have hk:Go.MapKept.IsKey (.int .i64) (.int .i64 n):=rfl;rcases Go.MapKept.findNow_spec hk es.toList 0 (fun x hx=>by obtain⟨_,m,e⟩:=h2 x hx; rw[e]; rfl) with⟨h,hn⟩ | ⟨j,e,h,hj,he⟩
 ·exact .inl ⟨h,fun⟨x,hx,e⟩=>hn x hx e⟩
 ·have hm:=List.mem_of_getElem? hj;refine .inr ⟨0+j,by rw[h,(h2 e hm).1],e,hm,he⟩
theorem G8z{P:Program}{w:World}{G:Nat}{ks:List Int}(h:A6n w G ks){mt kt et:TypeId}(hm:P.underlying mt=some (.map kt et))(hd:P.underlying kt=some (.int .i64))(hz:(zeroValue et).run P w=.ok (.agg #[]) w)(n:Int) :
  (Instr.lookup mt (.map (some G)) (.int .i64 n) true).run P w=.ok (.tuple #[.agg #[],.bool (decide (n ∈ ks))]) w:=by
 obtain⟨es,clock,h1,h2,h3⟩:=h;have hk:Go.MapKept.IsKey (.int .i64) (.int .i64 n):=rfl;rcases B1q h2 n with⟨e,hn⟩ | ⟨i,e,hn⟩
 ·rw[decide_eq_false (fun hh=>hn ((h3 n).1 hh))];simp[Instr.lookup,run_underlying hm,Go.MapKept.run_getObj_map h1,Go.MapKept.run_checkKey hd hk,Go.MapKept.run_findKey hd e,Result.andThen,hz]
 ·rw[decide_eq_true ((h3 n).2 hn)];simp[Instr.lookup,run_underlying hm,Go.MapKept.run_getObj_map h1,Go.MapKept.run_checkKey hd hk,Go.MapKept.run_findKey hd e,Result.andThen]
theorem G90 {P:Program} {w:World} {G:Nat} {ks:List Int} (h:A6n w G ks) {mt kt et:TypeId} (hm:P.underlying mt=some (.map kt et)) (hd:P.underlying kt=some (.int .i64)) {n:Int} (hn:n ∉ ks) :
  ∃ w',(Instr.mapUpdate mt (.map (some G)) (.int .i64 n) (.agg #[])).run P w=.ok () w'∧A6n w' G (n :: ks)∧(∀ k,k≠G→w'.heap[k]?=w.heap[k]?)∧w'.heap.size=w.heap.size∧w'.os=w.os∧w'.tape=w.tape∧w'.output=w.output:=by
 obtain⟨es,clock,h1,h2,h3⟩:=h;have hk:Go.MapKept.IsKey (.int .i64) (.int .i64 n):=rfl;rcases B1q h2 n with⟨e,hn'⟩ | ⟨i,e,hn'⟩
 ·refine ⟨{ w with heap:=w.heap.setIfInBounds G (.map (es.push { key:=.int .i64 n,val:=.agg #[],born:=clock }) (clock+1)) },?_,⟨_,_,(Go.MapKept.heap_set h1).1,fun x hx=>?_,fun m=>?_⟩,fun k hk'=>(Go.MapKept.heap_set h1).2 k hk',by simp,rfl,rfl,rfl⟩
  ·simp[Instr.mapUpdate,run_underlying hm,Go.MapKept.run_getObj_map h1,Go.MapKept.run_checkKey hd hk,Go.MapKept.run_findKey hd e,Go.MapKept.run_setObj_map _ h1,Result.andThen]
  ·simp only[Array.toList_push,List.mem_append,List.mem_singleton] at hx;rcases hx with hx | rfl
   ·exact h2 x hx
   ·exact⟨rfl,n,rfl⟩
  ·rw [List.mem_cons,h3 m];constructor
   ·rintro (rfl | ⟨x,hx,ex⟩)
    ·exact⟨_,by simp only[Array.toList_push,List.mem_append,List.mem_singleton]; exact .inr rfl,rfl⟩
    ·exact⟨x,by simp only[Array.toList_push,List.mem_append]; exact .inl hx,ex⟩
   ·rintro ⟨x,hx,ex⟩;simp only[Array.toList_push,List.mem_append,List.mem_singleton] at hx;rcases hx with hx | rfl
    ·exact .inr ⟨x,hx,ex⟩
    ·injection ex with _ ex;exact .inl ex.symm
 ·exact absurd ((h3 n).2 hn') hn
def GOk(w0:G4)(μ:Mu)(H:A2)(w:World)(gs:Gs):Prop:=∀ b ks,gs=some (b,ks)→∃ m,μ b=some m∧A6n w m.blk ks∧Q0 w0 μ H w m.blk
def gT(μ:Mu)(gs:Gs)(k:Nat):Prop:=∃ b ks m,gs=some (b,ks)∧μ b=some m∧m.blk=k
theorem GOk.free{w0:G4}{μ:Mu}{H:A2}{w:World}{gs:Gs}(h:GOk w0 μ H w gs):∀ k,gT μ gs k→Q0 w0 μ H w k:=by
 rintro k ⟨b,ks,m,e,hm,rfl⟩;obtain⟨m',h1,_,h3⟩:=h b ks e;rw[hm] at h1; injection h1 with h1; subst h1;exact h3
theorem GOk.hold{w0:G4}{μ:Mu}{H:A2}{w:World}{gs:Gs}(h:GOk w0 μ H w gs)(hH:HR w0 μ H w):HR (w0.more μ w (gT μ gs)) μ H w:=hH.hold _ h.free
theorem GOk.after{w0:G4}{μ μ':Mu}{H H':A2}{w w':World}{gs:Gs}(h:GOk w0 μ H w gs)(hle:μ.le μ')(hr:HR (w0.more μ w (gT μ gs)) μ' H' w'):GOk w0 μ' H' w' gs:=by
 intro b ks e;obtain⟨m,h1,h2,h3⟩:=h b ks e;have ht:gT μ gs m.blk:=⟨b,ks,m,e,h1,rfl⟩
 exact⟨m,hle.f b m h1,h2.same (hr.held ht),Q0.run hr ht h3⟩
def A12(ds:List Deferred)(w0:G4)(μ:Mu)(nt:Nat)(r:Res ((D0 × Env) × Gs))(x:Exit)(a':Act)(w':World):Prop :=
 match r with
 | .ok ((y,e'),gs') H'=>∃ μ',μ.le μ'∧HR w0 μ' H' w'∧ER μ' nt e' a'.tmps∧a'.defers=ds∧GOk w0 μ' H' w' gs'∧(match y with | .normal=>x=.normal | .exit i=>x=.exit i | .ret=>x=.ret)
 | .panic v H'=>∃ μ' v',μ.le μ'∧HR w0 μ' H' w'∧VR μ' v v'∧a'.defers=ds∧x=.panic [{ v:=v',recovered:=false }]
 | .stuck=>False
theorem A12.up{ds:List Deferred}{w0:G4}{μ μ':Mu}{nt:Nat}{r:Res ((D0 × Env) × Gs)}{x:Exit}{a':Act}{w':World}(hle:μ.le μ')(h:A12 ds w0 μ' nt r x a' w'):A12 ds w0 μ nt r x a' w':=by
 unfold A12 at *;split at h
 ·obtain⟨μ2,h1,h2⟩:=h; exact⟨μ2,Mu.le_trans hle h1,h2⟩
 ·obtain⟨μ2,v',h1,h2⟩:=h; exact⟨μ2,v',Mu.le_trans hle h1,h2⟩
 ·exact h
theorem Out.beside{ds:List Deferred}{w0:G4}{μ:Mu}{nt:Nat}{H:A2}{w:World}{gs:Gs}(hH:HR w0 μ H w)(hg:GOk w0 μ H w gs){r:Res (D0 × Env)}{x:Exit}{a':Act}{w':World}(h:Out ds (w0.more μ w (gT μ gs)) μ nt r x a' w') :
  A12 ds w0 μ nt (r.bind fun q H'=>.ok (q,gs) H') x a' w':=by
 unfold Out at h;unfold A12;split at h
 ·obtain⟨μ',h1,h2,h3,h4,h5⟩:=h;exact⟨μ',h1,HR.ofMore hH h2,h3,h4,hg.after h1 h2,h5⟩
 ·obtain⟨μ',v',h1,h2,h3,h4,h5⟩:=h;exact⟨μ',v',h1,HR.ofMore hH h2,h3,h4,h5⟩
 ·exact h
theorem B95(H:A2)(b:Nat):(A0g H).get b=H.get b:=by
 unfold A2.get A0g;dsimp only;by_cases h:b<H.n
 ·rw[if_pos (by omega),if_pos h,show H.n+1 - 1 - b=(H.n - 1 - b)+1 by omega,List.getElem?_cons_succ]
 ·rw[if_neg h];by_cases e:b=H.n
  ·subst e;rw[if_pos (by omega),show H.n+1 - 1 - H.n=0 by omega]; rfl
  ·rw[if_neg (by omega)]
theorem HR.ghost{w0:G4}{μ:Mu}{H:A2}{w:World}(h:HR w0 μ H w)(mb:MB):HR w0 (μ.set H.n mb) (A0g H) w:=by
 have hle:μ.le (μ.set H.n mb):=Mu.le_set h.dom mb;have old:∀ b k m,H.get b=some k→(μ.set H.n mb) b=some m→μ b=some m:=fun b k m hk hm=>by
  rw[Mu.set_get,if_neg (by have:=A2.get_lt hk; omega)] at hm;exact hm
 constructor
 ·intro b m hb;show b<H.n+1;rw[Mu.set_get] at hb;split at hb
  ·omega
  ·have:=h.dom b m hb; omega
 ·intro b k hk;rw[B95] at hk;obtain⟨m,hm,hb⟩:=h.blk b k hk;exact⟨m,hle.f _ _ hm,hb.keep hle rfl⟩
 ·intro b b' k k' m m' hk hk' r r' hm hm' he;rw[B95] at hk hk';exact h.inj b b' k k' m m' hk hk' r r' (old b k m hk hm) (old b' k' m' hk' hm') he
 ·exact h.below
 ·refine⟨fun k o hz=>h.zr.at_ k o hz,fun k o hz=>h.zr.old k o hz,fun k o b x m hz hx hr hm=>?_⟩;rw[B95] at hx;exact h.zr.apart k o b x m hz hx hr (old b x m hx hm)
theorem B9x{w0:G4}{μ:Mu}{H:A2}{w:World}(h:HR w0 μ H w):∃ μ',μ.le μ'∧HR w0 μ' (A0g H) (w.alloc (.map #[] 0))∧VR μ' (.map (some H.n)) (.map (some w.heap.size))∧GOk w0 μ' (A0g H) (w.alloc (.map #[] 0)) (some (H.n,[])):=by
 have hle:μ.le (μ.set H.n ⟨w.heap.size,0,0,0,false⟩):=Mu.le_set h.dom _;have hm:(μ.set H.n ⟨w.heap.size,0,0,0,false⟩) H.n=some ⟨w.heap.size,0,0,0,false⟩:=by rw[Mu.set_get,if_pos rfl]
 refine⟨_,hle,(h.extra (.map #[] 0)).ghost _,.map _ _ hm,fun b ks e=>?_⟩;injection e with e; injection e with e1 e2; subst e1 e2;have hf:=h.fresh (.map #[] 0);refine⟨_,hm,B7r w,hf.old,hf.lt,fun b x m hx hr hm'=>?_,hf.z⟩;rw[B95] at hx;rw[Mu.set_get,if_neg (by have:=A2.get_lt hx; omega)] at hm';exact hf.blk b x m hx hr hm'
theorem B9y{P:Program}{w0:G4}{μ:Mu}{H:A2}{w:World}(h:HR w0 μ H w){b:Nat}{ks:List Int}(hg:GOk w0 μ H w (some (b,ks))){m:MB}(hb:μ b=some m){mt kt et:TypeId}(hm:P.underlying mt=some (.map kt et))(hd:P.underlying kt=some (.int .i64)){n:Int}(hn:n ∉ ks) :
  ∃ w',(Instr.mapUpdate mt (.map (some m.blk)) (.int .i64 n) (.agg #[])).run P w=.ok () w'∧HR w0 μ H w'∧GOk w0 μ H w' (some (b,n :: ks)):=by
 obtain⟨m',h1,h2,h3⟩:=hg b ks rfl;rw[hb] at h1; injection h1 with h1; subst h1;obtain⟨w',e,s1,s2,s3,s4,s5,s6⟩:=G90 h2 hm hd hn;refine⟨w',e,h.turn (fun k=>k=m.blk) (fun k hk=>by subst hk; exact h3) (by omega) s4 s5 s6 (fun k hk _=>s2 k hk),fun b' ks' e'=>?_⟩;injection e' with e'; injection e' with e1 e2; subst e1 e2;exact⟨m,hb,s1,h3.world (by omega)⟩
theorem B4d {P:Program} {t:TypeId} (h:B4q P t=true):∃ k e,P.underlying t=some (.map k e)∧P.underlying k=some (.int .i64)∧Z1 P e=some (.agg #[]):=by
 unfold B4q at h;split at h
 ·rename_i k e hu;obtain⟨h1,h2⟩:=Bool.and_eq_true_iff.1 h;refine⟨k,e,hu,?_,?_⟩
  ·split at h1
   ·assumption
   ·cases h1
  ·split at h2
   ·rename_i xs hz;have:=Nat.eq_of_beq_eq_true h2;have:xs=#[]:=Array.eq_empty_of_size_eq_zero this;subst this; exact hz
   ·cases h2
 ·cases h
def D2r(w0:G4)(μ:Mu)(a:Act)(dst:Option Tmp)(r:Res (Value × Gs))(K:Act→World→Prop)(Q:Exit→Act→World→Prop):Prop :=
 match r with
 | .ok (v,gs) H'=>∀ μ' v' w',μ.le μ'→HR w0 μ' H' w'→VR μ' v v'→GOk w0 μ' H' w' gs→K (a.put dst v') w'
 | .panic v H'=>∀ μ' v' w',μ.le μ'→HR w0 μ' H' w'→VR μ' v v'→Q (.panic [{ v:=v',recovered:=false }]) a w'
 | .stuck=>False
theorem VR.okSet{μ:Mu}(b:Bool):VR μ (.tuple #[.agg #[],.bool b]) (.tuple #[.agg #[],.bool b]) :=
 .tuple _ _ rfl fun i v v' hv hv'=>by
  rw[hv] at hv'; injection hv' with hv'; subst hv';have hm:=List.mem_of_getElem? (by rw[Array.getElem?_toList]; exact hv);simp at hm;rcases hm with rfl | rfl
  ·exact .agg _ _ (fun v hv=>by simp at hv) rfl fun i v v' hv=>by simp at hv
  ·exact .bool _
section
variable {c:Cfg} {call:A8} {ds:List Deferred} {w0:G4} {nt:Nat}
theorem J15 (hc:N7 c.P call) {μ:Mu} {H:A2} {w:World} {e:Env} {a:Act} {gs:Gs} (hH:HR w0 μ H w) (hE:ER μ nt e a.tmps) (hg:GOk w0 μ H w gs) {o:Oper} {op:Op} (ho:o.op=op) {K:Act→World→Prop} {Q:Exit→Act→World→Prop}
  (hne:stepM c call e H gs op≠.stuck) (hend:D2r w0 μ a o.dst (stepM c call e H gs op) K Q):o.wp c.P a w K Q:=by
 unfold stepM at hne hend;cases hm:B43 op with
 | false=>
  rw[hm,cond_false] at hne hend;refine A5y hc (hg.hold hH) hE ho (Res.bind_ne hne) ?_;cases hs:stepOp c call e H op with
  | stuck=>rw[hs] at hne; exact absurd rfl hne
  | panic v H'=>
   rw[hs] at hend;intro μ' v' w' h1 h2 h3;exact hend μ' v' w' h1 (HR.ofMore hH h2) h3
  | ok v H'=>
   rw[hs] at hend;intro μ' v' w' h1 h2 h3;exact hend μ' v' w' h1 (HR.ofMore hH h2) h3 (hg.after h1 h2)
 | true=>
  rw[hm,cond_true] at hne hend;cases op with
  | makeMap t r=>
   cases r with
   | some r=>exact absurd rfl hne
   | none=>
    cases gs with
    | some g=>exact absurd rfl hne
    | none=>
     obtain⟨μ',h1,h2,h3,h4⟩:=B9x hH;refine Z0 (w':=w.alloc (.map #[] 0)) (v:=.map (some w.heap.size)) ?_ (hend μ' _ _ h1 h2 h3 h4);simp[execOp,ho,run_makeMap]
  | lookup t x k ok=>
   cases ok with
   | false=>exact absurd rfl hne
   | true=>
    simp only[B06] at hne hend;split at hne
    ·rename_i b n b' ks e1 e2;rw[e1,e2] at hend;simp only at hend;cases hq:(Nat.beq b b' && B4q c.P t) with
     | false=>rw[hq] at hne; exact absurd rfl hne
     | true=>
      rw[hq] at hend;simp only[cond_true] at hend;obtain⟨q1,q2⟩:=Bool.and_eq_true_iff.1 hq;have q1:=Nat.eq_of_beq_eq_true q1;subst q1;obtain⟨kt,et,u1,u2,u3⟩:=B4d q2;obtain⟨m,g1,g2,g3⟩:=hg b ks rfl;have r1:=E3 hE e1;have r2:=E3 hE e2;have hl:=G8z (P:=c.P) g2 u1 u2 (B5l u3 w) n;cases hx:a.eval x <;> rw[hx] at r1 <;> cases r1;rename_i m' hm';rw[g1] at hm'; injection hm' with hm'; subst hm';cases hk:a.eval k <;> rw[hk] at r2 <;> cases r2;refine Z0 (w':=w) (v:=.tuple #[.agg #[],.bool (decide (n ∈ ks))]) ?_ (hend μ _ _ (Mu.le_refl _) hH (VR.okSet _) hg);simp[execOp,ho,hx,hk,hl]
    ·exact absurd rfl hne
  | mapUpdate t x k v=>
   simp only[B06] at hne hend;split at hne
   ·rename_i b n xs b' ks e1 e2 e3;rw[e1,e2,e3] at hend;simp only at hend;cases hq:(Nat.beq b b' && B4q c.P t && Nat.beq xs.size 0 && !(decide (n ∈ ks))) with
    | false=>rw[hq] at hne; exact absurd rfl hne
    | true=>
     rw[hq] at hend;simp only[cond_true] at hend;obtain⟨q,q4⟩:=Bool.and_eq_true_iff.1 hq;obtain⟨q,q3⟩:=Bool.and_eq_true_iff.1 q;obtain⟨q1,q2⟩:=Bool.and_eq_true_iff.1 q;have q1:=Nat.eq_of_beq_eq_true q1;have q3:xs=#[]:=Array.eq_empty_of_size_eq_zero (Nat.eq_of_beq_eq_true q3);subst q1 q3;have q4:n ∉ ks:=by simpa using q4
     obtain ⟨kt,et,u1,u2,u3⟩:=B4d q2;obtain⟨m,g1,g2,g3⟩:=hg b ks rfl;have r1:=E3 hE e1;have r2:=E3 hE e2;have r3:=E3 hE e3;obtain⟨w',s1,s2,s3⟩:=B9y (P:=c.P) hH hg g1 u1 u2 q4;cases hx:a.eval x <;> rw[hx] at r1 <;> cases r1;rename_i m' hm';rw[g1] at hm'; injection hm' with hm'; subst hm';cases hk:a.eval k <;> rw[hk] at r2 <;> cases r2;have hv:a.eval v=.agg #[]:=by
      cases hv:a.eval v <;> rw[hv] at r3 <;> cases r3;rename_i xs' h0 h1 h2;have:xs'=#[]:=Array.eq_empty_of_size_eq_zero h1.symm;rw[this]
     refine B1y (w':=w') ?_ (hend μ undef w' (Mu.le_refl _) s2 VR.undef s3);simp[execOp,ho,hx,hk,hv,s1]
   ·exact absurd rfl hne
  | _=>cases hm
theorem D1t (hc:N7 c.P call) (ops:Array Oper):∀ (os:List Oper) (i:Nat) (e:Env) (H:A2) (gs:Gs) (μ:Mu) (a:Act) (w:World),ops.toList.drop i=os →
  runOpsM c call nt ops os e H gs≠.stuck→HR w0 μ H w→ER μ nt e a.tmps→a.defers=ds→GOk w0 μ H w gs →
  wpOps c.P ops (A12 ds w0 μ nt ((runOpsM c call nt ops os e H gs).bind fun q H'=>.ok ((.normal,q.1),q.2) H')) (List.range' i os.length) a w
 | [],i,e,H,gs,μ,a,w,hd,hne,hH,hE,hdf,hg=>by
  simp only[runOpsM,Res.bind,List.length_nil,List.range'_zero,wpOps];exact⟨μ,Mu.le_refl _,hH,hE,hdf,hg,rfl⟩
 | o :: os,i,e,H,gs,μ,a,w,hd,hne,hH,hE,hdf,hg=>by
  have hi:ops[i]?=some o:=by
   rw[← Array.getElem?_toList];have:(ops.toList.drop i)[0]?=some o:=by rw[hd]; rfl
   rwa [List.getElem?_drop,Nat.add_zero] at this
  have hd':ops.toList.drop (i+1)=os:=by
   rw[← List.drop_drop,hd]; rfl
  simp only[List.length_cons,List.range'_succ];rw[wpOps_cons];unfold wpOp;rw[hi];simp only;simp only[runOpsM] at hne ⊢;cases hdst:A38 nt o.dst with
  | false=>rw[hdst] at hne; exact absurd rfl hne
  | true=>
   rw[hdst] at hne;simp only[cond_true] at hne ⊢;have hst:=Res.bind_ne hne;cases hw:Y4 ops e o with
   | none=>rw[hw] at hst; exact absurd rfl hst
   | some b=>
    rw[hw] at hne hst;simp only at hne hst ⊢;have hwant:=D25 hE hw;rw[hwant];cases b with
    | false=>
     simp only[cond_false,Res.bind,Bool.false_eq_true,if_false] at hne ⊢;exact D1t hc ops os (i+1) _ _ _ μ _ _ hd' hne hH (hE.put hdst VR.undef) (by rw[B5e]; exact hdf) hg
    | true=>
     simp only[cond_true,if_true] at hne hst ⊢;refine .inl (J15 hc hH hE hg rfl hst ?_);cases hs:stepM c call e H gs o.op with
     | stuck=>exact absurd hs hst
     | panic v H'=>
      intro μ' v' w' h1 h2 h3;simp only[Res.bind];exact⟨μ',v',h1,h2,h3,hdf,rfl⟩
     | ok v H'=>
      rw[hs] at hne;intro μ' v' w' h1 h2 h3 h4;simp only[Res.bind] at hne ⊢;have ih:=D1t hc ops os (i+1) _ _ _ μ' (a.put o.dst v') w' hd' hne h2 ((hE.up h1).put hdst h3) (by rw[B5e]; exact hdf) h4;refine B0j.wpOps_mono _ ?_ ih;intro x a2 w2 hx;exact A12.up h1 hx
theorem A12.noOut{μ:Mu}{r:Res ((D0 × Env) × Gs)}:¬ LetsOut (A12 ds w0 μ nt r):=by
 rintro ⟨a,w,h⟩;unfold A12 at h;split at h
 ·rename_i y e gs H;obtain⟨_,_,_,_,_,_,h⟩:=h;cases y <;> cases h
 ·obtain⟨_,_,_,_,_,_,h⟩:=h;cases h
 ·exact h
theorem A12.keep{μ:Mu}{r:Res (Env × Gs)}{ks:List Nat}{x:Exit}{a:Act}{w:World}(h:A12 ds w0 μ nt (r.bind fun q H'=>.ok ((.normal,q.1),q.2) H') x a w) :
  A12 ds w0 μ nt (r.bind fun q H'=>.ok ((.normal,Env.keep ks q.1),q.2) H') x a w:=by
 cases r with
 | ok e H=>obtain⟨μ',h1,h2,h3,h4,h5⟩:=h; exact⟨μ',h1,h2,h3.keep ks,h4,h5⟩
 | panic v H=>exact h
 | stuck=>exact h
variable {draw:Array Oper→Env→A2→Res Env} {kp:Nat→List Nat} {l n:Nat}
theorem B3b (hc:N7 c.P call) (hdr:A2t c.P nt draw) (hmix:c.P.follows .mixedOrders=true):∀ (code:Code),G6 code=true→∀ e H gs,execM c call draw nt kp code e H gs≠.stuck→∀ μ a w,HR w0 μ H w→ER μ nt e a.tmps→a.defers=ds→GOk w0 μ H w gs →
  code.wpIn (A1b l) n c.P (A12 ds w0 μ nt (execM c call draw nt kp code e H gs)) a w
 | .skip,hp,e,H,gs,hne,μ,a,w,hH,hE,hd,hg=>wpIn_skip ⟨μ,Mu.le_refl _,hH,hE,hd,hg,rfl⟩
 | .label l,hp,e,H,gs,hne,μ,a,w,hH,hE,hd,hg=>absurd rfl hne
 | .exit i,hp,e,H,gs,hne,μ,a,w,hH,hE,hd,hg=>wpIn_exit ⟨μ,Mu.le_refl _,hH,hE,hd,hg,rfl⟩
 | .ret,hp,e,H,gs,hne,μ,a,w,hH,hE,hd,hg=>wpIn_ret ⟨μ,Mu.le_refl _,hH,hE,hd,hg,rfl⟩
 | .region id ops d,hp,e,H,gs,hne,μ,a,w,hH,hE,hd,hg=>by
  cases d with
  | false=>
   simp only[execM] at hne ⊢;refine wpIn_region ?_;have h:=D1t (ds:=ds) (w0:=w0) (nt:=nt) hc ops ops.toList 0 e H gs μ a w rfl (Res.bind_ne hne) hH hE hd hg;rw[Array.length_toList,← List.range_eq_range'] at h;exact D7a hp A12.noOut _ (B0j.wpOps_mono _ (fun x a w hx=>hx.keep) h)
  | true=>
   simp only[execM] at hne ⊢;exact wpIn_mono (B3d hc hdr hmix (.region id ops true) hp e H (Res.bind_ne hne) μ a w (hg.hold hH) hE hd) fun _ _ _ h=>Out.beside hH hg h
 | .seq x y,hp,e,H,gs,hne,μ,a,w,hH,hE,hd,hg=>by
  have hp:=(Bool.and_eq_true _ _ ▸ hp:_∧_)
  simp only[execM] at hne ⊢;refine wpIn_seq (wpIn_mono (B3b hc hdr hmix x hp.1 e H gs (Res.bind_ne hne) μ a w hH hE hd hg) fun q a' w' ho=>?_);unfold A12 at ho;split at ho
  ·rename_i z e' gs' H' hr;obtain⟨μ',h1,h2,h3,h4,hg',h5⟩:=ho;rw[hr] at hne ⊢;simp only[Res.bind,B7q] at hne ⊢;cases z with
   | normal=>
    simp only at h5 hne ⊢;subst h5;simp only[Exit.then];exact wpIn_mono (B3b hc hdr hmix y hp.2 e' H' gs' hne μ' a' w' h2 h3 h4 hg') fun x a w=>A12.up h1
   | exit i=>
    simp only at h5 ⊢;subst h5;exact⟨μ',h1,h2,h3,h4,hg',rfl⟩
   | ret=>
    simp only at h5 ⊢;subst h5;exact⟨μ',h1,h2,h3,h4,hg',rfl⟩
  ·rename_i v H' hr;obtain⟨μ',v',h1,h2,h3,h4,rfl⟩:=ho;rw[hr];exact⟨μ',v',h1,h2,h3,h4,rfl⟩
  ·exact ho.elim
 | .cond x y z,hp,e,H,gs,hne,μ,a,w,hH,hE,hd,hg=>by
  have hp:=(Bool.and_eq_true _ _ ▸ hp:_∧_)
  simp only[execM] at hne ⊢;obtain⟨t,hb,he⟩:=A3l hne;rw[he] at hne ⊢;refine wpIn_cond (E3 hE hb).bool_inv ?_;cases t with
  | true=>exact B3b hc hdr hmix y hp.1 e H gs hne μ a w hH hE hd hg
  | false=>exact B3b hc hdr hmix z hp.2 e H gs hne μ a w hH hE hd hg
 | .block id x,hp,e,H,gs,hne,μ,a,w,hH,hE,hd,hg=>by
  simp only[execM] at hne ⊢;refine wpIn_block (wpIn_mono (B3b hc hdr hmix x hp e H gs (Res.bind_ne hne) μ a w hH hE hd hg) fun q a' w' ho=>?_);unfold A12 at ho;split at ho
  ·rename_i z e' gs' H' hr;obtain⟨μ',h1,h2,h3,h4,hg',h5⟩:=ho;rw[hr] at hne ⊢;simp only[Res.bind,A03] at hne ⊢;cases z with
   | normal=>
    simp only at h5 ⊢;subst h5;exact⟨μ',h1,h2,h3,h4,hg',rfl⟩
   | exit i=>
    simp only at h5 ⊢;subst h5;simp only[Exit.inBlock];by_cases hi:i=id
    ·rw[if_pos hi,if_pos (by simpa using hi)];exact⟨μ',h1,h2,h3,h4,hg',rfl⟩
    ·rw[if_neg hi,if_neg (by simpa using hi)];exact⟨μ',h1,h2,h3,h4,hg',rfl⟩
   | ret=>
    simp only at h5 ⊢;subst h5;exact⟨μ',h1,h2,h3,h4,hg',rfl⟩
  ·rename_i v H' hr;obtain⟨μ',v',h1,h2,h3,h4,rfl⟩:=ho;rw[hr];exact⟨μ',v',h1,h2,h3,h4,rfl⟩
  ·exact ho.elim
 | .loop x,hp,e,H,gs,hne,μ,a,w,hH,hE,hd,hg=>absurd rfl hne
 | .scope x,hp,e,H,gs,hne,μ,a,w,hH,hE,hd,hg=>by cases hp
 | .rangeFunc f ps x y,hp,e,H,gs,hne,μ,a,w,hH,hE,hd,hg=>by cases hp
 | .goto _,hp,e,H,gs,hne,μ,a,w,hH,hE,hd,hg=>by cases hp
 | .refuse _,hp,e,H,gs,hne,μ,a,w,hH,hE,hd,hg=>by cases hp
theorem B5i (hc:N7 c.P call) (hdr:A2t c.P nt draw) (hmix:c.P.follows .mixedOrders=true):∀ (code:Code),G6 code=true→∀ e H gs,execM c call draw nt kp code e H gs≠.stuck→∀ μ a w,HR w0 μ H w→ER μ nt e a.tmps→a.defers=ds→GOk w0 μ H w gs →
  code.wp c.P (A12 ds w0 μ nt (execM c call draw nt kp code e H gs)) a w
 | .skip,hp,e,H,gs,hne,μ,a,w,hH,hE,hd,hg=>wp_skip ⟨μ,Mu.le_refl _,hH,hE,hd,hg,rfl⟩
 | .label l,hp,e,H,gs,hne,μ,a,w,hH,hE,hd,hg=>absurd rfl hne
 | .exit i,hp,e,H,gs,hne,μ,a,w,hH,hE,hd,hg=>wp_exit ⟨μ,Mu.le_refl _,hH,hE,hd,hg,rfl⟩
 | .ret,hp,e,H,gs,hne,μ,a,w,hH,hE,hd,hg=>wp_ret ⟨μ,Mu.le_refl _,hH,hE,hd,hg,rfl⟩
 | .region id ops d,hp,e,H,gs,hne,μ,a,w,hH,hE,hd,hg=>by
  cases d with
  | false=>
   simp only[execM] at hne ⊢;refine wp_region ?_;have h:=D1t (ds:=ds) (w0:=w0) (nt:=nt) hc ops ops.toList 0 e H gs μ a w rfl (Res.bind_ne hne) hH hE hd hg;rw[Array.length_toList,← List.range_eq_range'] at h;exact B0j.wpOps_mono _ (fun x a w hx=>hx.keep) h
  | true=>
   simp only[execM] at hne ⊢;exact wp_mono (A0h hc hdr hmix (.region id ops true) (.inr hp) e H (Res.bind_ne hne) μ a w (hg.hold hH) hE hd) fun _ _ _ h=>Out.beside hH hg h
 | .seq x y,hp,e,H,gs,hne,μ,a,w,hH,hE,hd,hg=>by
  have hp:=(Bool.and_eq_true _ _ ▸ hp:_∧_)
  simp only[execM] at hne ⊢;refine wp_seq (wp_mono (B5i hc hdr hmix x hp.1 e H gs (Res.bind_ne hne) μ a w hH hE hd hg) fun q a' w' ho=>?_);unfold A12 at ho;split at ho
  ·rename_i z e' gs' H' hr;obtain⟨μ',h1,h2,h3,h4,hg',h5⟩:=ho;rw[hr] at hne ⊢;simp only[Res.bind,B7q] at hne ⊢;cases z with
   | normal=>
    simp only at h5 hne ⊢;subst h5;simp only[Exit.then];exact wp_mono (B5i hc hdr hmix y hp.2 e' H' gs' hne μ' a' w' h2 h3 h4 hg') fun x a w=>A12.up h1
   | exit i=>
    simp only at h5 ⊢;subst h5;exact⟨μ',h1,h2,h3,h4,hg',rfl⟩
   | ret=>
    simp only at h5 ⊢;subst h5;exact⟨μ',h1,h2,h3,h4,hg',rfl⟩
  ·rename_i v H' hr;obtain⟨μ',v',h1,h2,h3,h4,rfl⟩:=ho;rw[hr];exact⟨μ',v',h1,h2,h3,h4,rfl⟩
  ·exact ho.elim
 | .cond x y z,hp,e,H,gs,hne,μ,a,w,hH,hE,hd,hg=>by
  have hp:=(Bool.and_eq_true _ _ ▸ hp:_∧_)
  simp only[execM] at hne ⊢;obtain⟨t,hb,he⟩:=A3l hne;rw[he] at hne ⊢;refine wp_cond (E3 hE hb).bool_inv ?_;cases t with
  | true=>exact B5i hc hdr hmix y hp.1 e H gs hne μ a w hH hE hd hg
  | false=>exact B5i hc hdr hmix z hp.2 e H gs hne μ a w hH hE hd hg
 | .block id x,hp,e,H,gs,hne,μ,a,w,hH,hE,hd,hg=>by
  simp only[execM] at hne ⊢;refine wp_block (wp_mono (B5i hc hdr hmix x hp e H gs (Res.bind_ne hne) μ a w hH hE hd hg) fun q a' w' ho=>?_);unfold A12 at ho;split at ho
  ·rename_i z e' gs' H' hr;obtain⟨μ',h1,h2,h3,h4,hg',h5⟩:=ho;rw[hr] at hne ⊢;simp only[Res.bind,A03] at hne ⊢;cases z with
   | normal=>
    simp only at h5 ⊢;subst h5;exact⟨μ',h1,h2,h3,h4,hg',rfl⟩
   | exit i=>
    simp only at h5 ⊢;subst h5;simp only[Exit.inBlock];by_cases hi:i=id
    ·rw[if_pos hi,if_pos (by simpa using hi)];exact⟨μ',h1,h2,h3,h4,hg',rfl⟩
    ·rw[if_neg hi,if_neg (by simpa using hi)];exact⟨μ',h1,h2,h3,h4,hg',rfl⟩
   | ret=>
    simp only at h5 ⊢;subst h5;exact⟨μ',h1,h2,h3,h4,hg',rfl⟩
  ·rename_i v H' hr;obtain⟨μ',v',h1,h2,h3,h4,rfl⟩:=ho;rw[hr];exact⟨μ',v',h1,h2,h3,h4,rfl⟩
  ·exact ho.elim
 | .loop x,hp,e,H,gs,hne,μ,a,w,hH,hE,hd,hg=>absurd rfl hne
 | .scope x,hp,e,H,gs,hne,μ,a,w,hH,hE,hd,hg=>by cases hp
 | .rangeFunc f ps x y,hp,e,H,gs,hne,μ,a,w,hH,hE,hd,hg=>by cases hp
 | .goto _,hp,e,H,gs,hne,μ,a,w,hH,hE,hd,hg=>by cases hp
 | .refuse _,hp,e,H,gs,hne,μ,a,w,hH,hE,hd,hg=>by cases hp
end
theorem GOk.deep{w0:G4}{μ:Mu}{H:A2}{w:World}{gs:Gs}(h:GOk w0 μ H w gs){T:Nat→Prop}(hT:∀ k,gT μ gs k→¬ T k):GOk (w0.more μ w T) μ H w gs:=by
 intro b ks e;obtain⟨m,h1,h2,h3⟩:=h b ks e;exact⟨m,h1,h2,fun hS=>hS.elim h3.old (hT _ ⟨b,ks,m,e,h1,rfl⟩),h3.lt,h3.blk,h3.z⟩
theorem GOk.shallow{w0:G4}{μ0 μ:Mu}{H:A2}{w w':World}{gs:Gs}{T:Nat→Prop}(h:GOk (w0.more μ0 w T) μ H w' gs):GOk w0 μ H w' gs∧∀ k,gT μ gs k→¬ T k:=by
 refine⟨fun b ks e=>?_,fun k hk ht=>(h.free k hk).old (.inr ht)⟩;obtain⟨m,h1,h2,h3⟩:=h b ks e;exact⟨m,h1,h2,fun hS=>h3.old (.inl hS),h3.lt,h3.blk,h3.z⟩
theorem GOk.turn{w0:G4}{μ:Mu}{H:A2}{w w':World}{gs:Gs}(h:GOk w0 μ H w gs)(hs:w.heap.size≤w'.heap.size)(hk:∀ k,gT μ gs k→w'.heap[k]?=w.heap[k]?):GOk w0 μ H w' gs:=by
 intro b ks e;obtain⟨m,h1,h2,h3⟩:=h b ks e;exact⟨m,h1,h2.same (hk _ ⟨b,ks,m,e,h1,rfl⟩),h3.world hs⟩
section
variable {c:Cfg} {call:A8} {draw:A2h} {w0:G4} {nt:Nat} {kp:Nat→List Nat}
set_option maxHeartbeats 2000000 in
theorem G8q (hc:N7 c.P call) (hdr:A2t c.P nt draw) (hmix:c.P.follows .mixedOrders=true) (hit:B9e c.P c.it) {f0:FuncId} (hf0:∃ fn,c.P.funcs[f0]?=some fn) (f:Operand) (ps:Array Tmp) (x y:Code) (hpx:G6 x=true) (hpy:G6 y=true) (hpt:∀ p,p ∈ ps.toList→p<nt) (e:Env) (H:A2) (gs:Gs) {v:Value} {l:List (List Int)} (hv:P1 e f=some v) (hl:c.it v H=some l)
  (hne:rangeM (roundM c call draw nt kp x y) ps.toList (Env.keep (kp (A0i y)) e) l H gs≠.stuck) (μ:Mu) (a:Act) (w:World) (hH:HR w0 μ H w) (hE:ER μ nt e a.tmps) (hd:a.defers=[]) (hg:GOk w0 μ H w gs) :
  A47 f0 c.P (.rangeFunc f ps x y) (A67 w0 μ nt (rangeM (roundM c call draw nt kp x y) ps.toList (Env.keep (kp (A0i y)) e) l H gs)) a w:=by
 have hEk:=hE.keep (kp (A0i y));generalize Env.keep (kp (A0i y)) e=ek at hne hEk ⊢;obtain⟨r,hr⟩:∃ r,rangeM (roundM c call draw nt kp x y) ps.toList ek l H gs=r:=⟨_,rfl⟩
 rw[hr] at hne ⊢;have hvr:=E3 hE hv
 -- the record
 obtain⟨Rec,hRec⟩:∃ Rec:LoopState→Option Code→Loop,Rec=fun st pe=>{ state:=st,pending:=pe,fn:=f0,tmps:=a.tmps,params:=ps,assign:=x,body:=y,defers:=w.heap.size }:=⟨_,rfl⟩
 obtain⟨W1,hW1⟩:∃ W1,(w.alloc (.deferred (some []))).alloc (.loop (Rec .ready none))=W1:=⟨_,rfl⟩
 have hH1:HR w0 μ H W1:=by rw[← hW1]; exact (hH.extra _).extra _
 have hsz:W1.heap.size=w.heap.size+2:=by rw[← hW1]; simp
 have fD:Q0 w0 μ H W1 w.heap.size:=(hH.fresh (.deferred (some []))).world (by rw[hsz]; simp);have fR:Q0 w0 μ H W1 (w.heap.size+1):=by
  have:=(hH.extra (.deferred (some []))).fresh (.loop (Rec .ready none));rw[World.size_alloc] at this;rw[← hW1];exact this
 have hRh:W1.heap[w.heap.size+1]?=some (.loop (Rec .ready none)):=by
  rw[← hW1]; have:=World.alloc_heap_new (w.alloc (.deferred (some []))) (.loop (Rec .ready none)); rwa [World.size_alloc] at this
 have hDh:W1.heap[w.heap.size]?=some (.deferred (some [])):=by
  rw[← hW1]; exact (Below.heap_alloc _ _ _ (by simp)).trans (World.alloc_heap_new w _)
 obtain ⟨g,lb,heq,⟨fg,e1,e2,e3⟩,hiter⟩:=hit v H l hl w0 μ W1 _ hH1 hvr;have eg:∀ args w,(callFunc g args).run c.P w=.ok (.enter g args) w:=fun args w=>by
  have hn':fg.name ≠ "runtime.NumGoroutine" := by simpa using e3
  obtain⟨code,hcode⟩:=Option.isSome_iff_exists.1 e2;simp[callFunc,e1,hn',hcode]
 have putH:∀ {μ':Mu} {H':A2} {W:World} (o:Obj),HR w0 μ' H' W→Q0 w0 μ' H' W (w.heap.size+1)→HR w0 μ' H' (W.putObj (w.heap.size+1) o):=fun {μ' H' W} o h hf=>
  h.turn (· = w.heap.size+1) (fun k hk=>hk ▸ hf) (by simp) rfl rfl rfl fun k hk _=>World.putObj_heap_other hk
 have hlN:∀ (i:Nat) (Hi:A2) (gi:Gs) (z:List Int),rangeM (roundM c call draw nt kp x y) ps.toList ek (l.drop i) Hi gi=r→l[i]?=some z→z.length=ps.toList.length ∧
   (roundM c call draw nt kp x y (A36 ek ps.toList z) Hi gi).bind (fun r H'=>match r.1 with | .normal=>rangeM (roundM c call draw nt kp x y) ps.toList ek (l.drop (i+1)) H' r.2 | y=>.ok (y,ek) H')=r:=fun i Hi gi z hrun hz=>by
  have hi:=(List.getElem?_eq_some_iff.1 hz).1;rw[List.drop_eq_getElem_cons hi,(List.getElem?_eq_some_iff.1 hz).2] at hrun;simp only[rangeM] at hrun;cases hb:Nat.beq z.length ps.toList.length with
  | false=>rw[hb] at hrun; exact absurd hrun.symm hne
  | true=>rw[hb] at hrun; exact⟨Nat.eq_of_beq_eq_true hb,hrun⟩
 refine G4x (l:=w.heap.size+1) (mark:=[D2l w.heap.size]) (w₁:=W1) (d:={ target:=.fn (.func g) lb,args:=#[.func (.yield (w.heap.size+1)) #[] #[]] }) (w₁':=W1) (f:=g) (args:=#[.func (.yield (w.heap.size+1)) #[] #[]]++lb) (w₂:=W1) ?_ ?_ ?_ ?_
 ·rw[← hW1,hRec]; exact run_enterLoop_outer _ _ _ _ _
 ·simp only[resolve,heq];simp[go_sem]
 ·simp[invoke,go_sem,eg]
 have hg1:GOk w0 μ H W1 gs:=hg.turn (by omega) fun k hk=>by rw[← hW1]; exact (A63 _ _ _ (by have:=(hg.free k hk).lt; simp; omega)).trans (A63 _ _ _ (hg.free k hk).lt)
 have hgn:∀ k,gT μ gs k→¬ (fun _=>False:Nat→Prop) k∧k≠w.heap.size+1∧k≠w.heap.size:=fun k hk=>⟨fun h=>h,by have:=(hg.free k hk).lt; omega,by have:=(hg.free k hk).lt; omega⟩
 refine Calls.mono (hiter (w.heap.size+1)
  (fun i T W=>∃ μi Hi gi,GOk w0 μi Hi W gi∧(∀ k,gT μi gi k→¬ T k∧k≠w.heap.size+1∧k≠w.heap.size)∧μ.le μi∧HR w0 μi Hi W∧rangeM (roundM c call draw nt kp x y) ps.toList ek (l.drop i) Hi gi=r∧Q0 w0 μi Hi W (w.heap.size+1)∧Q0 w0 μi Hi W w.heap.size∧W.heap[w.heap.size+1]?=some (.loop (Rec .ready none))∧W.heap[w.heap.size]?=some (.deferred (some []))∧∀ k,T k→Q0 w0 μi Hi W k∧k≠w.heap.size+1∧k≠w.heap.size)
  (fun W=>∃ jc y' μi Hi,μ.le μi∧HR w0 μi Hi W∧r=.ok (y',ek) Hi∧((∃ id,jc=.exit id∧y'=.exit id)∨(jc=.ret∧y'=.ret))∧Q0 w0 μi Hi W (w.heap.size+1)∧Q0 w0 μi Hi W w.heap.size∧W.heap[w.heap.size+1]?=some (.loop (Rec .done (some jc)))∧W.heap[w.heap.size]?=some (.deferred (some [])))
  (fun ch W=>∃ μi Hi u u',μ.le μi∧HR w0 μi Hi W∧r=.panic u Hi∧VR μi u u'∧ch=[{ v:=u',recovered:=false }]∧Q0 w0 μi Hi W w.heap.size∧W.heap[w.heap.size]?=some (.deferred (some [])))
  ?alloc ?turn ?froz ?round ⟨μ,H,gs,hg1,hgn,Mu.le_refl _,hH1,hr,fR,fD,hRh,hDh,fun k hk=>hk.elim⟩) ?post
 case alloc=>
  rintro i T W o ⟨μi,Hi,gi,kg,kn,k1,k2,k3,k4,k5,k6,k7,k8⟩;have lt:∀ {k},Q0 w0 μi Hi W k→Q0 w0 μi Hi (W.alloc o) k:=fun h=>h.world (by simp);refine⟨μi,Hi,gi,kg.turn (by simp) (fun k hk=>A63 _ _ _ (kg.free k hk).lt),fun k hk=>⟨fun h=>h.elim (kn k hk).1 fun e=>by have:=(kg.free k hk).lt; omega,(kn k hk).2⟩,k1,k2.extra o,k3,lt k4,lt k5,(A63 _ _ _ k4.lt).trans k6,(A63 _ _ _ k5.lt).trans k7,fun k hk=>?_⟩;rcases hk with hk | rfl
  ·exact⟨lt (k8 k hk).1,(k8 k hk).2⟩
  ·refine⟨k2.fresh o,fun e=>?_,fun e=>?_⟩
   ·have:=k4.lt; omega
   ·have:=k5.lt; omega
 case turn=>
  rintro i T W W' ⟨μi,Hi,gi,kg,kn,k1,k2,k3,k4,k5,k6,k7,k8⟩ hs ho ht hp hk;refine⟨μi,Hi,gi,kg.turn (by omega) (fun k h=>hk k (kn k h).1),kn,k1,k2.turn T (fun k hk=>(k8 k hk).1) (by omega) ho ht hp (fun k hn _=>hk k hn),k3,k4.world (by omega),k5.world (by omega),(hk _ fun h=>(k8 _ h).2.1 rfl).trans k6,(hk _ fun h=>(k8 _ h).2.2 rfl).trans k7,fun k h=>⟨(k8 k h).1.world (by omega),(k8 k h).2⟩⟩
 case froz=>
  rintro i T W ⟨μi,Hi,gi,_,_,k1,k2,_⟩ k o hz;exact k2.zr.at_ k o (k1.z k o hz)
 case round=>
  rintro i T W z ⟨μi,Hi,gi,kg,kn,k1,k2,k3,k4,k5,k6,k7,k8⟩ hz;obtain⟨hzl,hrun⟩:=hlN i Hi gi z k3 hz;have hyi:=run_yield (P:=c.P) (args:=B6l z) k6 (by rw[hRec,J01,hzl]; simp);rw[hRec] at hyi;refine⟨f0,_,x,y,hyi,G3n trivial hf0 ?_⟩;have htm:(ps.zip (B6l z)).foldl (fun tmps (t,a)=>tmps.setIfInBounds t a) a.tmps=(ps.toList.zip (z.map fun n=>Value.int .i64 n)).foldl (fun t (p,v)=>t.setIfInBounds p v) a.tmps:=by
   rw[← Array.foldl_toList,Array.toList_zip];rfl
  rw [htm];have hER:=(ER.args ps.toList z ek a.tmps hEk hpt).up k1;have hT0:∀ k,(T k∨k=w.heap.size+1∨k=w.heap.size)→Q0 w0 μi Hi W k:=fun k hk=>by
   rcases hk with hk | rfl | rfl
   ·exact (k8 k hk).1
   ·exact k4
   ·exact k5
  have hb0:=k2.hold _ hT0;have hgd0:=kg.deep (T:=fun k=>T k∨k=w.heap.size+1∨k=w.heap.size) fun k hk h=>by
   obtain⟨q1,q2,q3⟩:=kn k hk;rcases h with h | h | h
   ·exact q1 h
   ·exact q2 h
   ·exact q3 h
  have hne1:roundM c call draw nt kp x y (A36 ek ps.toList z) Hi gi≠.stuck:=fun h=>by rw[h] at hrun; exact hne hrun.symm
  unfold roundM at hne1 hrun;refine wpIn_mono (B3b (l:=w.heap.size+1) (n:=0 - 1) hc hdr hmix x hpx (A36 ek ps.toList z) Hi gi (Res.bind_ne hne1) μi _ W hb0 hER rfl hgd0) fun q a1 W2 ho=>?_;unfold A12 at ho;split at ho;rotate_left
  ·rename_i u H1 hx;obtain⟨μ1,u',j1,j2,j3,j4,rfl⟩:=ho;rw[hx] at hrun;exact⟨j4,.inr (.inr ⟨_,rfl,μ1,H1,u,u',Mu.le_trans k1 j1,HR.ofMore k2 j2,hrun.symm,j3,rfl,Q0.run j2 (.inr (.inr rfl)) k5,(j2.held (.inr (.inr rfl))).trans k7⟩)⟩
  ·exact ho.elim
  rename_i y1 e1' g1 H1 hx;rw[hx] at hrun hne1;obtain⟨μ1,j1,j2,j3,j4,jg,j5⟩:=ho;cases y1 with
  | exit id=>exact absurd rfl hne1
  | ret=>exact absurd rfl hne1
  | normal=>
  simp only at j5;subst j5;simp only[Exit.then];have m6:W2.heap[w.heap.size+1]?=some (.loop (Rec .ready none)):=(j2.held (.inr (.inl rfl))).trans k6;have hbr:=run_beginRound (P:=c.P) m6 (by rw[hRec]);refine⟨_,hbr,?_⟩;have hbusy:({ Rec .ready none with state:=.busy }:Loop)=Rec .busy none:=by rw[hRec]
  rw[hbusy];have f1:∀ k,(T k∨k=w.heap.size+1∨k=w.heap.size)→Q0 w0 μ1 H1 W2 k:=fun k hk=>Q0.run j2 hk (hT0 k hk);have n2:=HR.ofMore k2 j2;have n3:=putH (.loop (Rec .busy none)) n2 (f1 _ (.inr (.inl rfl)));obtain⟨W2',hW2'⟩:∃ W2',W2.putObj (w.heap.size+1) (.loop (Rec .busy none))=W2':=⟨_,rfl⟩
  have hs2:W2'.heap.size=W2.heap.size:=by rw[← hW2']; simp
  have b6:W2'.heap[w.heap.size+1]?=some (.loop (Rec .busy none)):=by rw[← hW2']; exact World.putObj_heap_same (f1 _ (.inr (.inl rfl))).lt
  have b7:∀ k,k≠w.heap.size+1→W2'.heap[k]?=W2.heap[k]?:=fun k hk=>by rw[← hW2']; exact World.putObj_heap_other hk
  rw[hW2'] at n3 ⊢;have f2:∀ k,(T k∨k=w.heap.size+1∨k=w.heap.size)→Q0 w0 μ1 H1 W2' k:=fun k hk=>(f1 k hk).world (by omega);have hb2:=n3.hold _ f2;obtain⟨jg1,jg2⟩:=jg.shallow;have jg3:GOk w0 μ1 H1 W2' g1:=jg1.turn (by omega) fun k hk=>b7 k fun e=>jg2 k hk (.inr (.inl e));have hgd2:=jg3.deep (T:=fun k=>T k∨k=w.heap.size+1∨k=w.heap.size) jg2;simp only[Res.bind] at hrun hne1;have hne2:execM c call draw nt kp y e1' H1 g1≠.stuck:=Res.bind_ne hne1;refine wpIn_mono (B3b (l:=w.heap.size+1) (n:=0 - 1) hc hdr hmix y hpy e1' H1 g1 hne2 μ1 a1 W2' hb2 j3 j4 hgd2) fun q a2 W3 ho=>?_;unfold A12 at ho;split at ho
  ·rename_i y2 e2' g2 H2 hy;rw[hy] at hrun;obtain⟨μ2,i1,i2,i3,i4,ig,i5⟩:=ho;obtain⟨ig1,ig2⟩:=ig.shallow;have f3:∀ k,(T k∨k=w.heap.size+1∨k=w.heap.size)→Q0 w0 μ2 H2 W3 k:=fun k hk=>Q0.run i2 hk (f2 k hk);have n4:=HR.ofMore n3 i2;have c6:W3.heap[w.heap.size+1]?=some (.loop (Rec .busy none)):=(i2.held (.inr (.inl rfl))).trans b6;have c7:W3.heap[w.heap.size]?=some (.deferred (some [])):=((i2.held (.inr (.inr rfl))).trans (b7 _ (by omega))).trans ((j2.held (.inr (.inr rfl))).trans k7);have hs3:W.heap.size≤W3.heap.size:=by have:=j2.below.size; have:=i2.below.size; show W.heap.size≤_; simp only[G4.more] at *; omega
   have le2:=Mu.le_trans k1 (Mu.le_trans j1 i1);have fin:∀ (jump:Option Code),(Instr.endRound (w.heap.size+1) jump).run c.P W3=.ok (.bool jump.isNone) (W3.putObj (w.heap.size+1) (.loop (Rec (if jump.isNone then .ready else .done) jump))):=fun jump=>by
    have:=run_endRound (P:=c.P) jump c6;rw[hRec] at this ⊢;exact this
   have d6:∀ o,(W3.putObj (w.heap.size+1) o).heap[w.heap.size+1]?=some o:=fun o=>World.putObj_heap_same (f3 _ (.inr (.inl rfl))).lt;have d7:∀ o k,k≠w.heap.size+1→(W3.putObj (w.heap.size+1) o).heap[k]?=W3.heap[k]?:=fun o k hk=>World.putObj_heap_other hk;have n5:∀ o,HR w0 μ2 H2 (W3.putObj (w.heap.size+1) o):=fun o=>putH o n4 (f3 _ (.inr (.inl rfl)));have f4:∀ o k,(T k∨k=w.heap.size+1∨k=w.heap.size)→Q0 w0 μ2 H2 (W3.putObj (w.heap.size+1) o) k:=fun o k hk=>(f3 k hk).world (by simp);cases y2 with
   | normal=>
    simp only at i5;subst i5;refine⟨_,_,fin none,.inl ⟨rfl,⟨μ2,H2,g2,ig1.turn (by simp) (fun k hk=>d7 _ k fun e=>ig2 k hk (.inr (.inl e))),(fun k hk=>⟨fun h=>ig2 k hk (.inl h),fun e=>ig2 k hk (.inr (.inl e)),fun e=>ig2 k hk (.inr (.inr e))⟩),le2,n5 _,hrun,f4 _ _ (.inr (.inl rfl)),f4 _ _ (.inr (.inr rfl)),d6 _,(d7 _ _ (by omega)).trans c7,fun k hk=>⟨f4 _ k (.inl hk),(k8 k hk).2⟩⟩,fun k hk=>?_,by rw[World.putObj_size]; exact hs3⟩⟩;have hk1:=(k8 k hk).2.1;exact (d7 _ k hk1).trans ((i2.held (.inl hk)).trans ((b7 k hk1).trans (j2.held (.inl hk))))
   | exit id=>
    simp only at i5;subst i5;exact⟨_,_,fin (some (.exit id)),.inr (.inl ⟨rfl,_,_,μ2,H2,le2,n5 _,hrun.symm,.inl ⟨id,rfl,rfl⟩,f4 _ _ (.inr (.inl rfl)),f4 _ _ (.inr (.inr rfl)),d6 _,(d7 _ _ (by omega)).trans c7⟩)⟩
   | ret=>
    simp only at i5;subst i5;exact⟨_,_,fin (some .ret),.inr (.inl ⟨rfl,_,_,μ2,H2,le2,n5 _,hrun.symm,.inr ⟨rfl,rfl⟩,f4 _ _ (.inr (.inl rfl)),f4 _ _ (.inr (.inr rfl)),d6 _,(d7 _ _ (by omega)).trans c7⟩)⟩
  ·rename_i u H2 hy;rw[hy] at hrun;obtain⟨μ2,u',i1,i2,i3,i4,rfl⟩:=ho;refine⟨i4,.inr (.inr ⟨_,rfl,μ2,H2,u,u',Mu.le_trans k1 (Mu.le_trans j1 i1),HR.ofMore n3 i2,hrun.symm,i3,rfl,Q0.run i2 (.inr (.inr rfl)) (f2 _ (.inr (.inr rfl))),?_⟩)⟩;exact ((i2.held (.inr (.inr rfl))).trans (b7 _ (by omega))).trans ((j2.held (.inr (.inr rfl))).trans k7)
  ·exact ho.elim
 case post=>
  rintro e' W' (⟨⟨vv,rfl⟩,(⟨T,μi,Hi,gi,_,_,k1,k2,k3,k4,k5,k6,k7,k8⟩ | ⟨jc,y',μi,Hi,k1,k2,rfl,k3,k4,k5,k6,k7⟩)⟩ | ⟨ch,rfl,μi,Hi,u,u',k1,k2,rfl,k3,rfl,k4,k5⟩)
  ·
   rw [List.drop_length] at k3;have hend:(Instr.endLoop (w.heap.size+1)).run c.P W'=.ok none (W'.putObj (w.heap.size+1) (.loop { Rec .ready none with state:=.exhausted })):=by
    have:=run_endLoop (P:=c.P) k6 (by rw[hRec]; simp);rw[hRec] at this ⊢;exact this
   refine⟨none,_,hend,?_⟩;simp only[rangeM] at k3;subst k3;have fDx:=k5.world (w':=W'.putObj (w.heap.size+1) (.loop { Rec .ready none with state:=.exhausted })) (by simp);have hHx:=putH (.loop { Rec .ready none with state:=.exhausted }) k2 k4;refine .inr ⟨w.heap.size,μi,Hi,_,k1,hHx,fDx,(World.putObj_heap_other (by omega)).trans k7,?_⟩;exact⟨μi,Mu.le_refl _,hHx.hold (· = w.heap.size) (fun k hk=>hk ▸ fDx),hEk.up k1,by simp[hd],rfl⟩
  ·
   have hend:(Instr.endLoop (w.heap.size+1)).run c.P W'=.ok (some jc) (W'.putObj (w.heap.size+1) (.loop { Rec .done (some jc) with state:=.exhausted })):=by
    have:=run_endLoop (P:=c.P) k6 (by rw[hRec]; simp);rw[hRec] at this ⊢;exact this
   refine⟨some jc,_,hend,?_⟩;have fDx:=k5.world (w':=W'.putObj (w.heap.size+1) (.loop { Rec .done (some jc) with state:=.exhausted })) (by simp);have hHx:=putH (.loop { Rec .done (some jc) with state:=.exhausted }) k2 k4;rcases k3 with⟨id,rfl,rfl⟩ | ⟨rfl,rfl⟩
   ·refine A7f (wp_exit (.inr ⟨w.heap.size,μi,Hi,_,k1,hHx,fDx,(World.putObj_heap_other (by omega)).trans k7,?_⟩));exact⟨μi,Mu.le_refl _,hHx.hold (· = w.heap.size) (fun k hk=>hk ▸ fDx),hEk.up k1,by simp[hd],rfl⟩
   ·refine A7f (wp_ret (.inr ⟨w.heap.size,μi,Hi,_,k1,hHx,fDx,(World.putObj_heap_other (by omega)).trans k7,?_⟩));exact⟨μi,Mu.le_refl _,hHx.hold (· = w.heap.size) (fun k hk=>hk ▸ fDx),hEk.up k1,by simp[hd],rfl⟩
  ·
   refine .inr ⟨w.heap.size,μi,Hi,W',k1,k2,k4,k5,?_⟩;exact⟨μi,u',Mu.le_refl _,k2.hold (· = w.heap.size) (fun k hk=>hk ▸ k4),k3,by simp[hd],rfl⟩
end
def okF:Code→Bool
 | .seq a b=>(G6 a && okF b) || (!G6 a && okF a && G6 b)
 | .block _ a=>okF a
 | .rangeFunc ..=>true
 | _=>false
section
variable {c:Cfg} {call:A8} {draw:A2h} {w0:G4} {nt:Nat} {kp:Nat→List Nat}
theorem J05 (hc:N7 c.P call) (hdr:A2t c.P nt draw) (hmix:c.P.follows .mixedOrders=true) (hit:B9e c.P c.it) {f0:FuncId} (hf0:∃ fn,c.P.funcs[f0]?=some fn):∀ (code:Code),okF code=true→∀ e H gs,execF c call draw nt kp code e H gs≠.stuck→∀ μ a w,HR w0 μ H w→ER μ nt e a.tmps→a.defers=[]→GOk w0 μ H w gs →
  A47 f0 c.P code (A67 w0 μ nt (execF c call draw nt kp code e H gs)) a w:=by
 have plain:∀ (code:Code),G6 code=true→∀ (ds:List Deferred) (w1:G4) e H,exec c call draw nt kp code e H≠.stuck→∀ μ a w,HR w1 μ H w→ER μ nt e a.tmps→a.defers=ds→A47 f0 c.P code (Out ds w1 μ nt (exec c call draw nt kp code e H)) a w :=
  fun code hp ds w1 e H hne μ a w hH hE hd=>A7f (A0h hc hdr hmix code (.inr hp) e H hne μ a w hH hE hd)
 intro code
 induction code with
 | rangeFunc f ps x y _ _=>
  intro _ e H gs hne μ a w hH hE hd hg;simp only[execF] at hne ⊢;cases hv:P1 e f with
  | none=>rw[hv] at hne; exact absurd rfl hne
  | some v=>
  simp only[hv,Option.bind_some] at hne ⊢;cases hl:c.it v H with
  | none=>rw[hl] at hne; exact absurd rfl hne
  | some l=>
  simp only[hl,opt,Res.bind] at hne ⊢;cases hok:(G6 x && G6 y && ps.toList.all (fun p=>Nat.blt p nt)) with
  | false=>rw[hok] at hne; exact absurd rfl hne
  | true=>
  simp only[hok,cond_true] at hne ⊢;simp only[Bool.and_eq_true,List.all_eq_true] at hok;obtain⟨⟨hpx,hpy⟩,hpt⟩:=hok;exact G8q hc hdr hmix hit hf0 f ps x y hpx hpy (fun p hp=>Nat.le_of_ble_eq_true (hpt p hp)) e H gs hv hl hne μ a w hH hE hd hg
 | seq x y ihx ihy=>
  intro hp e H gs hne μ a w hH hE hd hg;unfold okF at hp;simp only[execF] at hne ⊢;cases hx:G6 x with
  | true=>
   rw[hx] at hp;simp only[hx,cond_true] at hne ⊢;have hy:okF y=true:=by simpa using hp
   refine B1w (B2b (A7f (B5i (ds:=[]) hc hdr hmix x hx e H gs (Res.bind_ne hne) μ a w hH hE hd hg)) fun q a' w' ho=>?_);unfold A12 at ho;split at ho
   ·rename_i z e' gs' H' hr;obtain⟨μ',h1,h2,h3,h4,hg',h5⟩:=ho;rw[hr] at hne ⊢;simp only[Res.bind] at hne ⊢;cases z with
    | normal=>
     simp only at h5 hne ⊢;subst h5;simp only[Exit.then];exact B2b (ihy hy e' H' gs' hne μ' a' w' h2 h3 h4 hg') fun x a w=>A67.up h1
    | exit i=>
     simp only at h5 ⊢;subst h5;exact .inl ⟨μ',h1,h2,h3,h4,rfl⟩
    | ret=>
     simp only at h5 ⊢;subst h5;exact .inl ⟨μ',h1,h2,h3,h4,rfl⟩
   ·rename_i v H' hr;obtain⟨μ',v',h1,h2,h3,h4,rfl⟩:=ho;rw[hr];exact .inl ⟨μ',v',h1,h2,h3,h4,rfl⟩
   ·exact ho.elim
  | false=>
   rw[hx] at hp;simp only[hx,cond_false] at hne ⊢;have hp:okF x=true∧G6 y=true:=by simpa using hp
   refine B1w (B2b (ihx hp.1 e H gs (Res.bind_ne hne) μ a w hH hE hd hg) fun q a' w' ho=>?_);exact ho.then (fun ds w1 μ' e H a w hr hne hH hE hd=>plain y hp.2 ds w1 e H hne μ' a w hH hE hd) hne
 | block id x ihx=>
  intro hp e H gs hne μ a w hH hE hd hg;simp only[execF] at hne ⊢;exact G9a (B2b (ihx hp e H gs (Res.bind_ne hne) μ a w hH hE hd hg) fun q a' w' ho=>ho.blockM)
 | _=>intro hp; cases hp
end
theorem J0o {c:Cfg} (hN:Y2 c.P) (hmix:c.P.follows .mixedOrders=true) (hit:B9e c.P c.it) {f:FuncId} (hro:okF (J9 c.P f [])=true):A68 c.P f fun call args H=>bodyF c call f args H:=by
 intro call hc args H hne;dsimp only at hne ⊢;unfold bodyF at hne ⊢;cases hf:c.P.funcs[f]? with
 | none=>rw[hf] at hne; exact absurd rfl hne
 | some fn=>
  rw[hf] at hne;dsimp only at hne ⊢;cases hb:fn.body with
  | none=>rw[hb] at hne; exact absurd rfl hne
  | some code=>
   rw[hb] at hne;dsimp only at hne ⊢;have hpo:J9 c.P f []=code:=by unfold J9; rw[hf]; dsimp only; rw[hb]; cases code <;> rfl
   rw[hpo] at hro;cases hl:Nat.ble args.length fn.ntmps with
   | false=>rw[hl] at hne; exact absurd rfl hne
   | true=>
    rw[hl] at hne;simp only[cond_true] at hne ⊢;have hl:=Nat.le_of_ble_eq_true hl;refine⟨⟨fn,rfl,by rw[hb]; rfl,hN f fn hf (by rw[hb]; rfl)⟩,fun w0 μ w args' hH hargs=>?_⟩;refine G5b hf hb ?_;have hx:=J05 (kp:=c.kp f) (w0:=w0) hc (A77 hc fn.ntmps) hmix hit (f0:=f) ⟨fn,hf⟩ code hro (Env.of 0 args) H none (Res.bind_ne hne) μ { tmps:=args'.toArray++Array.replicate (fn.ntmps - args'.toArray.size) undef,defers:=[] } w hH (ER.start hargs hl) rfl (fun b ks e=>by cases e);refine B2b hx fun x a' w' ho=>?_
    -- what the results are, in a world in which the mark has been taken
    have key:∀ (w1:G4) (μ':Mu) (e':Env) (H':A2) (w2:World) (y:D0),execF c call (runDraw c call fn.ntmps) fn.ntmps (c.kp f) code (Env.of 0 args) H none=.ok (y,e') H'→(y=.normal∨y=.ret)→HR w1 μ' H' w2→ER μ' fn.ntmps e' a'.tmps→HR w0 μ' H' w2→μ.le μ' →
      ∃ v,(results fn a'.tmps).run c.P w2=.ok v w2∧Z3 w0 μ ((execF c call (runDraw c call fn.ntmps) fn.ntmps (c.kp f) code (Env.of 0 args) H none).bind fun r H'=>A4h c.P fn.results.toList (r.1,r.2) H') (.returned v) w2:=fun w1 μ' e' H' w2 y hr hy h2 h3 h20 hle=>by
     rw [hr] at hne ⊢;have hd:∀ q,A4h c.P fn.results.toList (y,e') H'=q→q≠.stuck→q=opt ((S8 c.P e' H' fn.results.toList).map A6g) H':=fun q hq _=>by
      rw[← hq]; rcases hy with rfl | rfl <;> rfl
     simp only[Res.bind] at hne ⊢;have hq:=hd _ rfl hne;rw[hq] at hne ⊢;cases hrv:S8 c.P e' H' fn.results.toList with
     | none=>rw[hrv] at hne; exact absurd rfl hne
     | some vs=>
      simp only[Option.map_some,opt];obtain⟨vs',e1,r1⟩:=D21 (c:=c) h2 h3 hrv;refine⟨_,?_,μ',_,hle,h20,E6k r1,rfl⟩;rw[E56];simp only[Sem.run_bind,Array.mapM_eq_mapM_toList,Sem.run_map,e1,Result.andThen_ok,Sem.run_pure]
    rcases ho with ho | ⟨D,μ1,H1,W1,g1,g2,g3,g4,ho⟩
    ·unfold Out at ho;split at ho
     ·rename_i y e' H' hr;obtain⟨μ',h1,h2,h3,h4,h5⟩:=ho;cases y with
      | normal=>
       simp only at h5;subst h5;obtain⟨v,q1,q2⟩:=key _ _ _ _ _ _ hr (.inl rfl) h2 h3 h2 h1;show LeavesInM _ _ _ _ _ _ a'.defers _ _;rw[h4];exact⟨v,q1,q2⟩
      | exit i=>rw[hr] at hne; exact absurd rfl hne
      | ret=>
       simp only at h5;subst h5;obtain⟨v,q1,q2⟩:=key _ _ _ _ _ _ hr (.inr rfl) h2 h3 h2 h1;show LeavesInM _ _ _ _ _ _ a'.defers _ _;rw[h4];exact⟨v,q1,q2⟩
     ·rename_i v H' hr;obtain⟨μ',v',h1,h2,h3,h4,rfl⟩:=ho;show LeavesInM _ _ _ _ _ _ a'.defers _ _;rw[h4,hr];exact⟨μ',v',h1,h2,h3,rfl⟩
     ·exact ho.elim
    ·have taken:∀ {μ':Mu} {H':A2},HR (w0.more μ1 W1 (· = D)) μ' H' w'→(Instr.takeDeferred D).run c.P w'=.ok [] (w'.putObj D (.deferred none))∧HR w0 μ' H' (w'.putObj D (.deferred none)):=fun {μ' H'} h=>by
      have hf:=Q0.run h rfl g3;exact⟨run_takeDeferred ((h.held rfl).trans g4),(HR.ofMore g2 h).turn (· = D) (fun k hk=>hk ▸ hf) (by simp) rfl rfl rfl fun k hk _=>World.putObj_heap_other hk⟩
     unfold Out at ho;split at ho
     ·rename_i y e' H' hr;obtain⟨μ',h1,h2,h3,h4,h5⟩:=ho;obtain⟨t1,t2⟩:=taken h2;cases y with
      | normal=>
       simp only at h5;subst h5;obtain⟨v,q1,q2⟩:=key _ _ _ _ _ _ hr (.inl rfl) t2 h3 t2 (Mu.le_trans g1 h1);show LeavesInM _ _ _ _ _ _ a'.defers _ _;rw[h4];exact⟨by simp,.inl ⟨D,_,rfl,t1,v,q1,q2⟩⟩
      | exit i=>rw[hr] at hne; exact absurd rfl hne
      | ret=>
       simp only at h5;subst h5;obtain⟨v,q1,q2⟩:=key _ _ _ _ _ _ hr (.inr rfl) t2 h3 t2 (Mu.le_trans g1 h1);show LeavesInM _ _ _ _ _ _ a'.defers _ _;rw[h4];exact⟨by simp,.inl ⟨D,_,rfl,t1,v,q1,q2⟩⟩
     ·rename_i v H' hr;obtain⟨μ',v',h1,h2,h3,h4,rfl⟩:=ho;obtain⟨t1,t2⟩:=taken h2;show LeavesInM _ _ _ _ _ _ a'.defers _ _;rw[h4,hr];exact⟨by simp,.inl ⟨D,_,rfl,t1,μ',v',Mu.le_trans g1 h1,t2,h3,rfl⟩⟩
     ·exact ho.elim
def A6q:Code→Bool
 | .skip | .exit _ | .ret=>true
 | .region _ ops d=>d || ops.toList.all fun o=>!B43 o.op
 | .seq a b=>A6q a && A6q b
 | .cond _ a b=>A6q a && A6q b
 | .block _ a=>A6q a
 | _=>false
theorem E3d {c:Cfg} {call:A8} {nt:Nat} {ops:Array Oper} (gs:Gs):∀ (os:List Oper),(∀ o,o ∈ os→B43 o.op=false)→∀ (e:Env) (H:A2),runOpsM c call nt ops os e H gs=(runOps c call nt ops os e H).bind fun e' H'=>.ok (e',gs) H'
 | [],_,e,H=>rfl
 | o :: os,h,e,H=>by
  have ih:=E3d (c:=c) (call:=call) (nt:=nt) (ops:=ops) gs os fun o ho=>h o (by simp[ho]);have h0:=h o (by simp);simp only[runOpsM,runOps];cases A38 nt o.dst with
  | false=>rfl
  | true=>
   simp only[cond_true];unfold stepO;cases Y4 ops e o with
   | none=>rfl
   | some b=>
    cases b with
    | false=>
     simp only[cond_false,Res.bind];exact ih _ _
    | true=>
     simp only[cond_true];unfold stepM;rw[h0,cond_false];cases stepOp c call e H o.op with
     | stuck=>rfl
     | panic v H'=>rfl
     | ok v H'=>
      simp only[Res.bind];exact ih _ _
theorem G6v {c:Cfg} {call:A8} {draw:A2h} {nt:Nat} {kp:Nat→List Nat}:∀ (code:Code),A6q code=true→∀ (e:Env) (H:A2) (gs:Gs),execM c call draw nt kp code e H gs=(exec c call draw nt kp code e H).bind fun q H'=>.ok (q,gs) H':=by
 intro code
 induction code with
 | skip=>intro _ e H gs; rfl
 | exit i=>intro _ e H gs; rfl
 | ret=>intro _ e H gs; rfl
 | region id ops d=>
  intro h e H gs;cases d with
  | true=>rfl
  | false=>
   simp only[execM,exec,cond_false];rw[E3d gs ops.toList (fun o ho=>by
    unfold A6q at h;simp only[Bool.false_or,List.all_eq_true] at h;simpa using h o ho)]
   cases runOps c call nt ops ops.toList e H <;> rfl
 | seq a b iha ihb=>
  intro h e H gs;have h:=(Bool.and_eq_true _ _ ▸ h:_∧_)
  simp only[execM,exec];rw[iha h.1];cases exec c call draw nt kp a e H with
  | stuck=>rfl
  | panic v H'=>rfl
  | ok q H'=>
   simp only[Res.bind,B7q,A5x];obtain⟨y,e'⟩:=q;cases y with
   | normal=>exact ihb h.2 e' H' gs
   | exit i=>rfl
   | ret=>rfl
 | cond x a b iha ihb=>
  intro h e H gs;have h:=(Bool.and_eq_true _ _ ▸ h:_∧_)
  simp only[execM,exec];rw[iha h.1,ihb h.2];unfold condV;split <;> first | rfl | (split <;> rfl) | (cases ‹Bool› <;> rfl)
 | block id a iha=>
  intro h e H gs;simp only[execM,exec];rw[iha h];cases exec c call draw nt kp a e H <;> rfl
 | _=>intro h; cases h
end Go.Sw
end
