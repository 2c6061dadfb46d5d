/-
  A speaking function, run by itself, answers true.
-/
import Derived.Test.YtanfippcmdialaaGreatSwLib2
section
namespace Go.Sw
open Go.RowKit
section
variable {P:Program}
theorem Oper.ζtd{o:Oper}{a:Act}{K K':Act→World→Prop}{Q Q':Exit→Act→World→Prop}(h:∀ a w,K a w→K' a w)(hq:∀ x a w,Q x a w→Q' x a w)(r:Result Next)(hh:o.upon P a K Q r):o.upon P a K' Q' r:=by
 unfold Oper.upon at *;split at hh
 ·exact h _ _ hh
 ·exact h _ _ hh
 ·exact h _ _ hh
 ·refine Calls.mono hh fun e w'' he=>?_;cases e with
  | returned v=>exact h _ _ he
  | panicked ch=>exact hq _ _ _ he
  | outgrown=>obtain⟨a₀,w₀,hx⟩:=he; exact⟨a₀,w₀,hq _ _ _ hx⟩
 ·exact Rows.mono hh fun v w'' he=>h _ _ he
 ·exact hq _ _ _ hh
 ·exact hh.elim
theorem Oper.wp_mono2{o:Oper}{a:Act}{w:World}{K K':Act→World→Prop}{Q Q':Exit→Act→World→Prop}(h:∀ a w,K a w→K' a w)(hq:∀ x a w,Q x a w→Q' x a w)(hh:o.wp P a w K Q):o.wp P a w K' Q' :=
 Oper.ζtd h hq _ hh
end
def Out(ds:List Deferred)(w0:G4)(μ:Mu)(nt:Nat)(r:Res (D0 × Env))(x:Exit)(a':Act)(w':World):Prop :=
 match r with
 | .ok (y,e') H'=>∃ μ',μ.le μ'∧HR w0 μ' H' w'∧ER μ' nt e' a'.tmps∧a'.defers=ds∧(match y with | .normal=>x=.normal | .exit i=>x=.exit i | .ret=>x=.ret)
 | .panic v H'=>∃ μ' v',μ.le μ'∧HR w0 μ' H' w'∧VR μ' v v'∧a'.defers=ds∧x=.panic [{ v:=v',recovered:=false }]
 | .stuck=>False
theorem Out.up{ds:List Deferred}{w0:G4}{μ μ':Mu}{nt:Nat}{r:Res (D0 × Env)}{x:Exit}{a':Act}{w':World}(hle:μ.le μ')(h:Out ds w0 μ' nt r x a' w'):Out ds w0 μ nt r x a' w':=by
 unfold Out at *;split at h
 ·obtain⟨μ2,h1,h2⟩:=h; exact⟨μ2,Mu.le_trans hle h1,h2⟩
 ·obtain⟨μ2,v',h1,h2⟩:=h; exact⟨μ2,v',Mu.le_trans hle h1,h2⟩
 ·exact h
section
variable {c:Cfg} {call:A8} {ds:List Deferred} {w0:G4} {nt:Nat}
theorem B5e{a:Act}(d:Option Tmp)(v:Value):(a.put d v).defers=a.defers:=by cases d <;> rfl
theorem D25 {μ:Mu} {ops:Array Oper} {e:Env} {a:Act} (hE:ER μ nt e a.tmps) {o:Oper} {b:Bool} (h:Y4 ops e o=some b):Region.wanted o (yielded ops a.tmps)=b:=by
 unfold Y4 at h;unfold Region.wanted;split at h
 ·rename_i hg;injection h with h;simp[hg,h]
 ·rename_i j want hg;simp only[hg];split at h
  ·rename_i d hd;obtain⟨v,hv,hb⟩:=Option.map_eq_some_iff.1 h;obtain⟨v',e1,r⟩:=hE.get d v hv;unfold yielded;rw[hd];simp only[Option.bind_some,e1];subst hb;cases r with
   | dark _ h hb=>cases v' <;> first | (simp[A4e]; done) | exact absurd rfl (hb _)
   | _=>simp[A4e]
  ·cases h
theorem B0j (hc:N7 c.P call) (ops:Array Oper):∀ (os:List Oper) (i:Nat) (e:Env) (H:A2) (μ:Mu) (a:Act) (w:World),ops.toList.drop i=os →
  runOps c call nt ops os e H≠.stuck→HR w0 μ H w→ER μ nt e a.tmps→a.defers=ds →
  wpOps c.P ops (Out ds w0 μ nt ((runOps c call nt ops os e H).bind fun e' H'=>.ok (.normal,e') H')) (List.range' i os.length) a w
 | [],i,e,H,μ,a,w,hd,hne,hH,hE,hdf=>by
  simp only[runOps,Res.bind,List.length_nil,List.range'_zero,wpOps];exact⟨μ,Mu.le_refl _,hH,hE,hdf,rfl⟩
 | o :: os,i,e,H,μ,a,w,hd,hne,hH,hE,hdf=>by
  have hi:ops[i]?=some o:=by
   rw[← Array.getElem?_toList];have:(ops.toList.drop i)[0]?=some o:=by rw[hd]; rfl
   rwa [List.getElem?_drop,Nat.add_zero] at this
  have hd':ops.toList.drop (i+1)=os:=by
   rw[← List.drop_drop,hd]; rfl
  simp only[List.length_cons,List.range'_succ];rw[wpOps_cons];unfold wpOp;rw[hi];simp only;simp only[runOps] at hne ⊢;cases hdst:A38 nt o.dst with
  | false=>rw[hdst] at hne; exact absurd rfl hne
  | true=>
   rw[hdst] at hne;simp only[cond_true] at hne ⊢;have hst:=Res.bind_ne hne;unfold stepO at hne hst ⊢;cases hw:Y4 ops e o with
   | none=>rw[hw] at hst; exact absurd rfl hst
   | some b=>
    rw[hw] at hne hst;simp only at hne hst ⊢;have hwant:=D25 hE hw;rw[hwant];cases b with
    | false=>
     simp only[cond_false,Res.bind,Bool.false_eq_true,if_false] at hne ⊢;exact B0j hc ops os (i+1) _ _ μ _ _ hd' hne hH (hE.put hdst VR.undef) (by rw[B5e]; exact hdf)
    | true=>
     simp only[cond_true,if_true] at hne hst ⊢;refine .inl (A5y hc hH hE rfl hst ?_);cases hs:stepOp c call e H o.op with
     | stuck=>exact absurd hs hst
     | panic v H'=>
      intro μ' v' w' h1 h2 h3;simp only[Res.bind];exact⟨μ',v',h1,h2,h3,hdf,rfl⟩
     | ok v H'=>
      rw[hs] at hne;intro μ' v' w' h1 h2 h3;simp only[Res.bind] at hne ⊢;have ih:=B0j hc ops os (i+1) _ _ μ' (a.put o.dst v') w' hd' hne h2 ((hE.up h1).put hdst h3) (by rw[B5e]; exact hdf);refine wpOps_mono _ ?_ ih;intro x a2 w2 hx;exact Out.up h1 hx
where
 wpOps_mono {Q Q':Exit→Act→World→Prop} {ops:Array Oper} (l:List Nat) {a:Act} {w:World} (hq:∀ x a w,Q x a w→Q' x a w) (h:wpOps c.P ops Q l a w):wpOps c.P ops Q' l a w:=by
  induction l generalizing a w with
  | nil=>exact hq _ _ _ h
  | cons i l ih=>
   rw[wpOps_cons] at h ⊢;unfold wpOp at h ⊢;cases ho:ops[i]? with
   | none=>rw[ho] at h; exact ih h
   | some o=>
    rw[ho] at h;simp only at h ⊢;split
    ·rename_i hw;rw[if_pos hw] at h;rcases h with h | ⟨h1,a₀,w₀,h2⟩
     ·exact .inl (Oper.wp_mono2 (fun a w=>ih) hq h)
     ·exact .inr ⟨h1,a₀,w₀,hq _ _ _ h2⟩
    ·rename_i hw;rw[if_neg hw] at h;exact ih h
end
end Go.Sw
end
section
namespace Go.Sw
open Go.RowKit
abbrev A2h:=Array Oper→Env→A2→Res Env
def A2t(P:Program)(nt:Nat)(draw:A2h):Prop :=
 ∀ ops e H,draw ops e H≠.stuck→∀ ds w0 μ a w,HR w0 μ H w→ER μ nt e a.tmps→a.defers=ds →
  wpAny P .any ops (Out ds w0 μ nt ((draw ops e H).bind fun e' H'=>.ok (.normal,e') H')) ops.size (Array.replicate ops.size false) a { w with drawn:=w.drawn+1 }
section
variable {c:Cfg} {call:A8} {draw:A2h} {ds:List Deferred} {w0:G4} {nt:Nat} {kp:Nat→List Nat}
theorem Out.keep{μ:Mu}{r:Res Env}{ks:List Nat}{x:Exit}{a:Act}{w:World}(h:Out ds w0 μ nt (r.bind fun e' H'=>.ok (.normal,e') H') x a w) :
  Out ds w0 μ nt (r.bind fun e' H'=>.ok (.normal,Env.keep ks e') H') x a w:=by
 cases r with
 | ok e H=>obtain⟨μ',h1,h2,h3,h4,h5⟩:=h; exact⟨μ',h1,h2,h3.keep ks,h4,h5⟩
 | panic v H=>exact h
 | stuck=>exact h
theorem Out.round{μ:Mu}{r:Res (D0 × Env)}{ks:List Nat}{x:Exit}{a:Act}{w:World}(h:Out ds w0 μ nt r x a w) :
  Out ds w0 μ nt (r.bind fun r H'=>.ok (A8f ks r) H') x a w:=by
 cases r with
 | ok r H=>
  obtain⟨y,e⟩:=r;obtain⟨μ',h1,h2,h3,h4,h5⟩:=h;cases y with
  | normal=>exact⟨μ',h1,h2,h3.keep ks,h4,h5⟩
  | exit i=>exact⟨μ',h1,h2,h3,h4,h5⟩
  | ret=>exact⟨μ',h1,h2,h3,h4,h5⟩
 | panic v H=>exact h
 | stuck=>exact h
theorem E57 {b:Code} {body:Env→A2→Res (D0 × Env)}
  (hb:∀ e H,body e H≠.stuck→∀ μ a w,HR w0 μ H w→ER μ nt e a.tmps→a.defers=ds→b.wp c.P (Out ds w0 μ nt (body e H)) a w) :
  ∀ n e H,loopN body n e H≠.stuck→∀ μ a w,HR w0 μ H w→ER μ nt e a.tmps→a.defers=ds→Code.rounds c.P b (Out ds w0 μ nt (loopN body n e H)) n a w
 | 0,e,H,hne,μ,a,w,_,_,_=>absurd rfl hne
 | n + 1,e,H,hne,μ,a,w,hH,hE,hd=>by
  rw[rounds_succ];simp only[loopN] at hne ⊢;refine wp_mono (hb e H (Res.bind_ne hne) μ a w hH hE hd) fun x a' w' ho=>?_;unfold Out at ho;split at ho
  ·rename_i y e' H' hr;obtain⟨μ',h1,h2,h3,h4,h5⟩:=ho;rw[hr] at hne ⊢;simp only[Res.bind] at hne ⊢;cases y with
   | normal=>
    simp only at h5 hne ⊢;subst h5;have ih:=E57 hb n e' H' hne μ' a' w' h2 h3 h4;simp only[Exit.then];exact mono n _ _ ih fun x a w=>Out.up h1
   | exit i=>
    simp only at h5 ⊢;subst h5;exact⟨μ',h1,h2,h3,h4,rfl⟩
   | ret=>
    simp only at h5 ⊢;subst h5;exact⟨μ',h1,h2,h3,h4,rfl⟩
  ·rename_i v H' hr;obtain⟨μ',v',h1,h2,h3,h4,rfl⟩:=ho;rw[hr];exact⟨μ',v',h1,h2,h3,h4,rfl⟩
  ·exact ho.elim
where
 mono {P:Program} {b:Code} {Q Q':Exit→Act→World→Prop} (n:Nat) (a:Act) (w:World) (h:Code.rounds P b Q n a w) (hq:∀ x a w,Q x a w→Q' x a w):Code.rounds P b Q' n a w:=by
  induction n generalizing a w with
  | zero=>exact h
  | succ n ih=>
   rw[rounds_succ] at h ⊢;refine wp_mono h fun x a w hx=>?_;cases x with
   | normal=>exact ih _ _ hx
   | _=>exact hq _ _ _ hx
theorem G9b {P:Program} {ops:Array Oper} {Q Q':Exit→Act→World→Prop} (hq:∀ x a w,Q x a w→Q' x a w) {i:Nat} {K K':Act→World→Prop} (hk:∀ a w,K a w→K' a w) {a:Act} {w:World} (h:wpOp P ops Q i K a w):wpOp P ops Q' i K' a w:=by
 unfold wpOp at h ⊢;cases ho:ops[i]? with
 | none=>rw[ho] at h; exact hk _ _ h
 | some o=>
  rw[ho] at h;simp only at h ⊢;split
  ·rename_i hw;rw[if_pos hw] at h;rcases h with h | ⟨h1,a₀,w₀,h2⟩
   ·exact .inl (Oper.wp_mono2 hk hq h)
   ·exact .inr ⟨h1,a₀,w₀,hq _ _ _ h2⟩
  ·rename_i hw;rw[if_neg hw] at h;exact hk _ _ h
theorem D6u{P:Program}{md:Region.Mode}{ops:Array Oper}{Q Q':Exit→Act→World→Prop}(hq:∀ x a w,Q x a w→Q' x a w):∀ (fuel:Nat) {listed:Array Bool} {a:Act} {w:World},wpAny P md ops Q fuel listed a w→wpAny P md ops Q' fuel listed a w
 | 0,_,_,_,h=>⟨h.1,hq _ _ _ h.2⟩
 | fuel+1,_,_,_,h=>⟨fun hr=>hq _ _ _ (h.1 hr),fun i hi=>G9b hq (fun _ _ h=>D6u hq fuel h) (h.2 i hi)⟩
theorem A0h (hc:N7 c.P call) (hdr:A2t c.P nt draw) (hmix:c.P.follows .mixedOrders=true):∀ (code:Code),(∀ v H,c.it v H=none)∨G6 code=true→∀ e H,exec c call draw nt kp code e H≠.stuck→∀ μ a w,HR w0 μ H w→ER μ nt e a.tmps→a.defers=ds →
  code.wp c.P (Out ds w0 μ nt (exec c call draw nt kp code e H)) a w
 | .skip,hp,e,H,hne,μ,a,w,hH,hE,hd=>wp_skip ⟨μ,Mu.le_refl _,hH,hE,hd,rfl⟩
 | .label l,hp,e,H,hne,μ,a,w,hH,hE,hd=>wp_label ⟨μ,Mu.le_refl _,hH,hE,hd,rfl⟩
 | .exit i,hp,e,H,hne,μ,a,w,hH,hE,hd=>wp_exit ⟨μ,Mu.le_refl _,hH,hE,hd,rfl⟩
 | .ret,hp,e,H,hne,μ,a,w,hH,hE,hd=>wp_ret ⟨μ,Mu.le_refl _,hH,hE,hd,rfl⟩
 | .region id ops d,hp,e,H,hne,μ,a,w,hH,hE,hd=>by
  cases d with
  | false=>
   simp only[exec,cond_false] at hne ⊢;refine wp_region ?_;have h:=B0j (w0:=w0) (nt:=nt) hc ops ops.toList 0 e H μ a w rfl (Res.bind_ne hne) hH hE hd;rw[Array.length_toList,← List.range_eq_range'] at h;exact B0j.wpOps_mono _ (fun x a w hx=>hx.keep) h
  | true=>
   simp only[exec,cond_true] at hne ⊢;exact wp_region_any hmix (D6u (fun x a w hx=>hx.keep) _ (hdr ops e H (Res.bind_ne hne) ds w0 μ a w hH hE hd))
 | .seq x y,hp,e,H,hne,μ,a,w,hH,hE,hd=>by
  simp only[exec] at hne ⊢;refine wp_seq (wp_mono (A0h hc hdr hmix x (hp.imp (fun h=>h) fun h=>(Bool.and_eq_true _ _ ▸ h:_∧_).1) e H (Res.bind_ne hne) μ a w hH hE hd) fun q a' w' ho=>?_);unfold Out at ho;split at ho
  ·rename_i z e' H' hr;obtain⟨μ',h1,h2,h3,h4,h5⟩:=ho;rw[hr] at hne ⊢;simp only[Res.bind,A5x] at hne ⊢;cases z with
   | normal=>
    simp only at h5 hne ⊢;subst h5;simp only[Exit.then];exact wp_mono (A0h hc hdr hmix y (hp.imp (fun h=>h) fun h=>(Bool.and_eq_true _ _ ▸ h:_∧_).2) e' H' hne μ' a' w' h2 h3 h4) fun x a w=>Out.up h1
   | exit i=>
    simp only at h5 ⊢;subst h5;exact⟨μ',h1,h2,h3,h4,rfl⟩
   | ret=>
    simp only at h5 ⊢;subst h5;exact⟨μ',h1,h2,h3,h4,rfl⟩
  ·rename_i v H' hr;obtain⟨μ',v',h1,h2,h3,h4,rfl⟩:=ho;rw[hr];exact⟨μ',v',h1,h2,h3,h4,rfl⟩
  ·exact ho.elim
 | .cond x y z,hp,e,H,hne,μ,a,w,hH,hE,hd=>by
  simp only[exec] at hne ⊢;obtain⟨t,hb,he⟩:=A3l hne;rw[he] at hne ⊢;refine wp_cond (E3 hE hb).bool_inv ?_;cases t with
  | true=>exact A0h hc hdr hmix y (hp.imp (fun h=>h) fun h=>(Bool.and_eq_true _ _ ▸ h:_∧_).1) e H hne μ a w hH hE hd
  | false=>exact A0h hc hdr hmix z (hp.imp (fun h=>h) fun h=>(Bool.and_eq_true _ _ ▸ h:_∧_).2) e H hne μ a w hH hE hd
 | .block id x,hp,e,H,hne,μ,a,w,hH,hE,hd=>by
  simp only[exec] at hne ⊢;refine wp_block (wp_mono (A0h hc hdr hmix x (hp.imp (fun h=>h) fun h=>h) e H (Res.bind_ne hne) μ a w hH hE hd) fun q a' w' ho=>?_);unfold Out at ho;split at ho
  ·rename_i z e' H' hr;obtain⟨μ',h1,h2,h3,h4,h5⟩:=ho;rw[hr] at hne ⊢;simp only[Res.bind,A03] at hne ⊢;cases z with
   | normal=>
    simp only at h5 ⊢;subst h5;exact⟨μ',h1,h2,h3,h4,rfl⟩
   | exit i=>
    simp only at h5 ⊢;subst h5;simp only[Exit.inBlock];by_cases hi:i=id
    ·rw[if_pos hi,if_pos (by simpa using hi)];exact⟨μ',h1,h2,h3,h4,rfl⟩
    ·rw[if_neg hi,if_neg (by simpa using hi)];exact⟨μ',h1,h2,h3,h4,rfl⟩
   | ret=>
    simp only at h5 ⊢;subst h5;exact⟨μ',h1,h2,h3,h4,rfl⟩
  ·rename_i v H' hr;obtain⟨μ',v',h1,h2,h3,h4,rfl⟩:=ho;rw[hr];exact⟨μ',v',h1,h2,h3,h4,rfl⟩
  ·exact ho.elim
 | .loop x,hp,e,H,hne,μ,a,w,hH,hE,hd=>by
  simp only[exec] at hne ⊢;exact wp_loop_rounds B8 (E57 (fun e H h μ a w hH hE hd=>wp_mono (A0h hc hdr hmix x (hp.imp (fun h=>h) fun h=>h) e H (Res.bind_ne h) μ a w hH hE hd) fun _ _ _ ho=>ho.round) B8 _ H hne μ a w hH (hE.keep _) hd)
 | .scope x,hp,e,H,hne,μ,a,w,hH,hE,hd=>absurd rfl hne
 | .rangeFunc f ps x y,hp,e,H,hne,μ,a,w,hH,hE,hd=>by
  rcases hp with hp | hp
  ·exfalso;simp only[exec] at hne;cases hf:P1 e f with
   | none=>rw[hf] at hne; exact hne rfl
   | some v=>rw[hf] at hne; simp only[Option.bind_some,hp v H] at hne; exact hne rfl
  ·cases hp
 | .goto _,hp,e,H,hne,μ,a,w,hH,hE,hd=>absurd rfl hne
 | .refuse _,hp,e,H,hne,μ,a,w,hH,hE,hd=>absurd rfl hne
theorem Env.get_of (i:Nat) (vs:List Value) (t:Nat):(Env.of i vs).get t=if i≤t then vs[t - i]? else none:=by
 induction vs generalizing i with
 | nil=>simp[Env.of,Env.get]
 | cons v vs ih=>
  simp only[Env.of,Env.get,ih];by_cases h:i=t
  ·subst h; simp
  ·rw[if_neg (by simpa using h)];by_cases h2:i≤t
   ·rw[if_pos h2,if_pos (by omega),show t - i=(t - (i+1))+1 by omega,List.getElem?_cons_succ]
   ·rw[if_neg h2,if_neg (by omega)]
theorem ER.start{μ:Mu}{args args':List Value}(h:VRs μ args args')(hl:args.length≤nt):ER μ nt (Env.of 0 args) (args'.toArray++Array.replicate (nt - args'.toArray.size) undef):=by
 have:=h.1;refine⟨by simp; omega,fun t v hv=>?_⟩;rw[Env.get_of] at hv;simp only[Nat.zero_le,if_true,Nat.sub_zero] at hv;obtain⟨v',e,r⟩:=h.get hv;have hlt:t<args'.length:=(List.getElem?_eq_some_iff.1 e).1;exact⟨v',by rw[Array.getElem?_append_left (by simpa using hlt)]; simpa using e,r⟩
def B02(tmps:Array Value):ResultVar→Sem Value
 | .tmp t=>pure (tmps.getD t undef)
 | .cell a t=>do loadVar t (← asAddr (tmps.getD a undef))
theorem E56(fn:Func)(tmps:Array Value):results fn tmps=(do let vs ← fn.results.mapM (B02 tmps); pure (if h:vs.size=1 then vs[0] else .tuple vs)):=by
 unfold results;congr 1
theorem D21 {μ:Mu} {H:A2} {w:World} (hH:HR w0 μ H w) {e:Env} {tmps:Array Value} (hE:ER μ nt e tmps):∀ {rs:List ResultVar} {vs:List Value},S8 c.P e H rs=some vs →
  ∃ vs',(rs.mapM (B02 tmps)).run c.P w=.ok vs' w∧VRs μ vs vs'
 | [],vs,h=>by simp[S8] at h; subst h; exact⟨[],by simp,VRs.nil⟩
 | .tmp t :: rs,vs,h=>by
  simp only[S8] at h;cases hg:e.get t with
  | none=>simp[hg] at h
  | some v=>
   simp only[hg,Option.bind_some] at h;obtain⟨vs2,h2,rfl⟩:=Option.map_eq_some_iff.1 h;obtain⟨v',e1,r⟩:=hE.get t v hg;obtain⟨vs',e2,r2⟩:=D21 hH hE h2;refine⟨v' :: vs',?_,VRs.cons r r2⟩;have:tmps.getD t undef=v':=by simp[e1]
   simp only[List.mapM_cons,Sem.run_bind,B02,this,Sem.run_pure,Result.andThen_ok,e2]
 | .cell x t :: rs,vs,h=>by
  simp only[S8] at h;cases hg:e.get x with
  | none=>simp[hg] at h
  | some p=>
   simp only[hg,Option.bind_some] at h;cases hl:A5g c.P t p H with
   | none=>simp[hl] at h
   | some v=>
    simp only[hl,Option.bind_some] at h;obtain⟨vs2,h2,rfl⟩:=Option.map_eq_some_iff.1 h;obtain⟨p',e1,r⟩:=hE.get x p hg;obtain⟨v',e3,r3⟩:=B1d (P:=c.P) hH r hl;obtain⟨vs',e2,r2⟩:=D21 hH hE h2;refine⟨v' :: vs',?_,VRs.cons r3 r2⟩;have hp:∃ q,p'=.pointer (some q):=by
     unfold A5g at hl;split at hl
     ·cases r; exact⟨_,rfl⟩
     ·cases r; exact⟨_,rfl⟩
     ·cases hl
    obtain⟨q,rfl⟩:=hp;have e3:(loadVar t q).run c.P w=.ok v' w:=by simpa[Instr.loadAt,Instr.sureAddr] using e3
    have:tmps.getD x undef=.pointer (some q):=by simp[e1]
    simp only[List.mapM_cons,Sem.run_bind,B02,this,asAddr,Sem.run_pure,Result.andThen_ok,e3,e2]
end
def A7o (c:Cfg) (draw:A8→Nat→A2h):Nat→A8
 | 0=>fun _ _ _=>.stuck
 | n + 1=>fun f args H=>
  match c.sp f with
  | some s=>s (A7o c draw n) args H
  | none=>
   match c.P.funcs[f]? with
   | some fn=>
    match fn.body with
    | some code=>
     bif Nat.ble args.length fn.ntmps then
      (exec c (A7o c draw n) (draw (A7o c draw n) fn.ntmps) fn.ntmps (c.kp f) code (Env.of 0 args) H).bind (A4h c.P fn.results.toList)
     else .stuck
    | none=>.stuck
   | none=>.stuck
def Y2(P:Program):Prop:=∀ (f:FuncId) (fn:Func),P.funcs[f]?=some fn→fn.body.isSome=true→(fn.name == "runtime.NumGoroutine")=false
def A4p(c:Cfg):Prop :=
 (∀ v H,c.it v H=none)∧∀ f s,c.sp f=some s→∀ call,N7 c.P call→∀ args H,s call args H≠.stuck →
  (∃ fn,c.P.funcs[f]?=some fn∧fn.body.isSome=true∧(fn.name == "runtime.NumGoroutine")=false) ∧
  ∀ w0 μ w args',HR w0 μ H w→VRs μ args args'→Calls c.P f args'.toArray w fun e w'=>Z3 w0 μ (s call args H) e w'
theorem E6k {μ:Mu} {vs vs':List Value} (h:VRs μ vs vs'):VR μ (A6g vs) (if h:vs'.toArray.size=1 then vs'.toArray[0] else .tuple vs'.toArray):=by
 unfold A6g;split
 ·rename_i v;obtain⟨v',r',rfl,hv,hr⟩:=h.cons_inv;have:=hr.nil_inv;subst this;simpa using hv
 ·rename_i hne;have hl:=h.1;have:vs'.toArray.size≠1:=by
   intro h1;cases vs with
   | nil=>simp at hl h1; omega
   | cons v vs=>
    cases vs with
    | nil=>exact hne v rfl
    | cons u vs=>simp at hl h1; omega
  rw[dif_neg this];exact .tuple _ _ (by simpa using hl) fun i v v' a b=>h.2 i v v' (by simpa using a) (by simpa using b)
theorem A9j {c:Cfg} {call:A8} {draw:Nat→A2h} (hN:Y2 c.P) (hmix:c.P.follows .mixedOrders=true) (hit:∀ v H,c.it v H=none) (ih:N7 c.P call) (hdr:∀ nt,A2t c.P nt (draw nt)) {f:FuncId} {fn:Func} {code:Code} {args:List Value} {H:A2}
  (hf:c.P.funcs[f]?=some fn) (hb:fn.body=some code) (hl:args.length≤fn.ntmps) (hne:(exec c call (draw fn.ntmps) fn.ntmps (c.kp f) code (Env.of 0 args) H).bind (A4h c.P fn.results.toList)≠.stuck) :
  (∃ fn,c.P.funcs[f]?=some fn∧fn.body.isSome=true∧(fn.name == "runtime.NumGoroutine")=false) ∧
  ∀ w0 μ w args',HR w0 μ H w→VRs μ args args'→Calls c.P f args'.toArray w fun e w'=>Z3 w0 μ ((exec c call (draw fn.ntmps) fn.ntmps (c.kp f) code (Env.of 0 args) H).bind (A4h c.P fn.results.toList)) e w':=by
 refine⟨⟨fn,hf,by rw[hb]; rfl,hN f fn hf (by rw[hb]; rfl)⟩,fun w0 μ w args' hH hargs=>?_⟩;refine calls_of_wp hf hb ?_;have hx:=A0h (kp:=c.kp f) (w0:=w0) (ds:=[]) ih (hdr fn.ntmps) hmix code (.inl hit) (Env.of 0 args) H (Res.bind_ne hne) μ { tmps:=args'.toArray++Array.replicate (fn.ntmps - args'.toArray.size) undef,defers:=[] } w hH (ER.start hargs hl) rfl;refine wp_mono hx fun x a' w' ho=>?_;unfold Out at ho;split at ho
 ·rename_i y e' H' hr;obtain⟨μ',h1,h2,h3,h4,h5⟩:=ho;rw[hr] at hne ⊢;simp only[Res.bind,A4h] at hne ⊢;have fin:∀ q:Res Value,q=opt ((S8 c.P e' H' fn.results.toList).map A6g) H'→q≠.stuck→(a'.defers=[]∧∃ v,(results fn a'.tmps).run c.P w'=.ok v w'∧Z3 w0 μ q (.returned v) w'):=by
   intro q hq hqne;refine⟨h4,?_⟩;cases hrv:S8 c.P e' H' fn.results.toList with
   | none=>rw[hrv] at hq; subst hq; exact absurd rfl hqne
   | some vs=>
    rw[hrv] at hq;simp only[Option.map_some,opt] at hq;subst hq;obtain⟨vs',e1,r1⟩:=D21 (c:=c) h2 h3 hrv;refine⟨_,?_,μ',_,h1,h2,E6k r1,rfl⟩;rw[E56];simp only[Sem.run_bind,Array.mapM_eq_mapM_toList,Sem.run_map,e1,Result.andThen_ok,Sem.run_pure]
  cases y with
  | normal=>
   simp only at h5 hne ⊢;subst h5;exact fin _ rfl hne
  | exit i=>exact absurd rfl hne
  | ret=>
   simp only at h5 hne ⊢;subst h5;exact fin _ rfl hne
 ·rename_i v H' hr;obtain⟨μ',v',h1,h2,h3,h4,rfl⟩:=ho;rw[hr];exact⟨h4,μ',v',h1,h2,h3,rfl⟩
 ·exact ho.elim
theorem B0w (c:Cfg) (draw:A8→Nat→A2h) (hN:Y2 c.P) (hmix:c.P.follows .mixedOrders=true) (hsp:A4p c) (hdr:∀ call nt,N7 c.P call→A2t c.P nt (draw call nt)):∀ n,N7 c.P (A7o c draw n)
 | 0=>fun f args H hne=>absurd rfl hne
 | n + 1=>by
  intro f args H hne;have ih:=B0w c draw hN hmix hsp hdr n;simp only[A7o] at hne ⊢;cases hs:c.sp f with
  | some s=>
   rw[hs] at hne;exact hsp.2 f s hs _ ih args H hne
  | none=>
   rw[hs] at hne;simp only at hne ⊢;cases hf:c.P.funcs[f]? with
   | none=>rw[hf] at hne; exact absurd rfl hne
   | some fn=>
    rw[hf] at hne;simp only at hne ⊢;cases hb:fn.body with
    | none=>rw[hb] at hne; exact absurd rfl hne
    | some code=>
     rw[hb] at hne;simp only at hne ⊢;cases hl:Nat.ble args.length fn.ntmps with
     | false=>rw[hl] at hne; exact absurd rfl hne
     | true=>
      rw[hl] at hne;simp only[cond_true] at hne ⊢;have hl:=Nat.le_of_ble_eq_true hl;have:=A9j (draw:=draw (A7o c draw n)) hN hmix hsp.1 ih (fun nt=>hdr _ nt ih) hf hb hl hne;rw[hf] at this;exact this
end Go.Sw
end
section
namespace Go.Sw
open Go.RowKit
def E8:Op→Bool
 | .alloc _ | .box _ _ | .store _ _ _ | .makeSlice _ _ _ | .panic _=>true
 | .buildSlice _ n _=>!(Nat.beq n 0)
 | .call k=>match k.callee with
  | .builtin .len | .builtin .min | .builtin .max=>false
  | _=>true
 | _=>false
def A21(o:Oper):Bool :=
 o.guard.isNone && match o.op with
 | .alloc _ | .box _ _=>true
 | .buildSlice _ n _=>!(Nat.beq n 0)
 | _=>false
def A33:Op→Bool
 | .load _ _ | .slice _ _ _ _ _=>true
 | _=>false
def A3s(ms:List Nat)(o:Oper):List Edge→Nat
 | []=>0
 | e :: es=>if Region.binds .any e then (2 ^ e.on) ||| ((ms.getD e.on 0) ||| A3s ms o es) else A3s ms o es
def S2(acc:List Nat):List Oper→List Nat
 | []=>acc
 | o :: os=>S2 (acc++[A3s acc o o.after.toList]) os
def A5q(ops:Array Oper)(m:Nat)(o:Oper):Nat→List Oper→Bool
 | _,[]=>true
 | i,x :: xs=>((Oper.apart ops x o && !(E8 x.op && E8 o.op && !A21 o)) || m.testBit i) && A5q ops m o (i+1) xs
def A85(m:Nat)(k:Nat):Nat→List Oper→Bool
 | _,[]=>true
 | i,x :: xs=>(!(E8 x.op && Nat.blt i k) || m.testBit i) && A85 m k (i+1) xs
def B72(m:Nat)(all:List Oper):Nat→List Oper→Bool
 | _,[]=>true
 | k,x :: xs=>(!(A21 x && m.testBit k) || A85 m k 0 all) && B72 m all (k+1) xs
def A0m(ops:Array Oper)(ms:List Nat)(nt:Nat):Nat→List Oper→Bool
 | _,[]=>true
 | j,o :: os=>A38 nt o.dst && (o.after.toList.all fun e=>!Region.binds .any e || Nat.blt e.on j) && (ms.getD j 0 == A3s ms o o.after.toList) &&
  A5q ops (ms.getD j 0) o 0 (ops.toList.take j) && B72 (ms.getD j 0) ops.toList 0 ops.toList && A0m ops ms nt (j+1) os
structure Rec where
 e:Env
 H:A2
 v:Value
 H':A2
 o:Oper
def A5d(e:Env):List Rec→Env
 | []=>e
 | r :: rs=>A5d (U1 e r.o.dst r.v) rs
mutual
def veq:Value→Value→Bool
 | .bool a,.bool b=>a == b
 | .int k a,.int l b=>k == l && a == b
 | .pointer none,.pointer none=>true
 | .pointer (some a),.pointer (some b)=>a == b
 | .slice none a b,.slice none c d=>a == c && b == d
 | .slice (some x) a b,.slice (some y) c d=>x == y && a == c && b == d
 | .map none,.map none=>true
 | .map (some a),.map (some b)=>a == b
 | .nilFunc,.nilFunc=>true
 | .nilIface,.nilIface=>true
 | .func f ⟨xs⟩ ⟨ys⟩,.func g ⟨us⟩ ⟨vs⟩=>f == g && (A3h xs us && A3h ys vs)
 | .iface t a,.iface u b=>t == u && veq a b
 | .agg ⟨xs⟩,.agg ⟨ys⟩=>A3h xs ys
 | .tuple ⟨xs⟩,.tuple ⟨ys⟩=>A3h xs ys
 | _,_=>false
def A3h:List Value→List Value→Bool
 | [],[]=>true
 | a :: x,b :: y=>veq a b && A3h x y
 | _,_=>false
end
mutual
theorem B2p:∀ {a b:Value},veq a b=true→a=b
 | .bool a,.bool b,h=>by simp[veq] at h; rw[h]
 | .int k a,.int l b,h=>by simp[veq] at h; rw[h.1,h.2]
 | .pointer none,.pointer none,_=>rfl
 | .pointer (some a),.pointer (some b),h=>by simp[veq] at h; rw[h]
 | .slice none a b,.slice none c d,h=>by simp[veq] at h; rw[h.1,h.2]
 | .slice (some x) a b,.slice (some y) c d,h=>by simp[veq] at h; rw[h.1.1,h.1.2,h.2]
 | .map none,.map none,_=>rfl
 | .map (some a),.map (some b),h=>by simp[veq] at h; rw[h]
 | .nilFunc,.nilFunc,_=>rfl
 | .nilIface,.nilIface,_=>rfl
 | .func f ⟨xs⟩ ⟨ys⟩,.func g ⟨us⟩ ⟨vs⟩,h=>by
  simp only[veq,Bool.and_eq_true,beq_iff_eq] at h;rw[h.1,A60 h.2.1,A60 h.2.2]
 | .iface t a,.iface u b,h=>by
  simp only[veq,Bool.and_eq_true,beq_iff_eq] at h;rw[h.1,B2p h.2]
 | .agg ⟨xs⟩,.agg ⟨ys⟩,h=>by
  simp only[veq] at h;rw[A60 h]
 | .tuple ⟨xs⟩,.tuple ⟨ys⟩,h=>by
  simp only[veq] at h;rw[A60 h]
theorem A60:∀ {a b:List Value},A3h a b=true→a=b
 | [],[],_=>rfl
 | [],_ :: _,h=>by simp[A3h] at h
 | _ :: _,[],h=>by simp[A3h] at h
 | a :: x,b :: y,h=>by
  simp only[A3h,Bool.and_eq_true] at h;rw[B2p h.1,A60 h.2]
end
def A4(r:Res Value)(v:Value):Bool :=
 match r with
 | .ok u _=>veq u v
 | _=>false
def A2w (ms:List Nat) (j:Nat) (l:Option Nat):Nat→List Rec→Bool
  | _,[]=>true
  | i, r :: rs=>(!E8 r.o.op ||
      (match l with
       | none=>!(ms.getD j 0).testBit i
       | some l=>(!(ms.getD j 0).testBit i || Nat.ble i l) && (!Nat.ble i l || !(ms.getD i 0).testBit j))) && A2w ms j l (i+1) rs
def A1h(lo hi:Nat):Nat→List Rec→Bool
 | _,[]=>false
 | i,r :: rs=>(E8 r.o.op && Nat.ble lo i && Nat.blt i hi) || A1h lo hi (i+1) rs
def A19(c:Cfg)(call:A8)(ops:Array Oper)(ms:List Nat)(D:Nat→Bool)(all:List Rec)(j:Nat)(r:Rec):Nat→List Rec→Bool
 | _,[]=>true
 | l,s :: ss=>(!(E8 s.o.op && !D l && A2w ms j (some l) 0 all && !(Nat.blt l j && !A1h (l+1) j 0 all)) || A4 (stepO c call ops r.e s.H' r.o) r.v) && A19 c call ops ms D all j r (l+1) ss
def Y9(c:Cfg)(call:A8)(ops:Array Oper)(ms:List Nat)(D:Nat→Bool)(H0:A2)(all:List Rec):Nat→List Rec→Bool
 | _,[]=>true
 | j,r :: rs=>(D j || !A33 r.o.op || ((!(A2w ms j none 0 all && A1h 0 j 0 all) || A4 (stepO c call ops r.e H0 r.o) r.v) && A19 c call ops ms D all j r 0 all)) && Y9 c call ops ms D H0 all (j+1) rs
def Res.bindP{α β:Type}(r:Res α)(f:α→A2→Res β)(g:Value→A2→Res β):Res β :=
 match r with
 | .ok a H=>f a H
 | .panic v H=>g v H
 | .stuck=>.stuck
def Res.bindN{α β:Type}(r:Res α)(f:α→A2→Res β):Res β :=
 match r with
 | .ok a H=>f a H
 | _=>.stuck
def A14:Op→Bool
 | .call k=>match k.callee with
  | .builtin _=>false
  | _=>true
 | _=>false
def A0q(ms:List Nat)(p i:Nat):Bool:=Nat.beq i p || (ms.getD i 0).testBit p
def tailK{β:Type}(c:Cfg)(call:A8)(ops:Array Oper)(D:Nat→Bool):List Oper→List Rec→Nat→Env→A2→(List Rec→Res β)→Res β
 | [],acc,_,_,_,K=>K acc
 | o :: os,acc,i,e,H,K=>bif D i then tailK c call ops D os (acc++[⟨e,H,undef,H,o⟩]) (i+1) e H K
  else (stepO c call ops e H o).bindN fun v H'=>tailK c call ops D os (acc++[⟨e,H,v,H',o⟩]) (i+1) (U1 e o.dst v) H' K
def drawK {β:Type} (c:Cfg) (call:A8) (ops:Array Oper) (ms:List Nat) (H0:A2):List Oper→List Rec→Nat→Env→A2→(List Rec→A2→Res β)→Res β
 | [],acc,_,_,H,K=>K acc H
 | o :: os,acc,i,e,H,K=>
  bif A14 o.op then
   (stepO c call ops e H o).bindP (fun v H'=>drawK c call ops ms H0 os (acc++[⟨e,H,v,H',o⟩]) (i+1) (U1 e o.dst v) H' K)
    (fun v H'=>tailK c call ops (A0q ms i) os (acc++[⟨e,H,undef,H,o⟩]) (i+1) e H fun rs=>
     bif Y9 c call ops ms (A0q ms i) H0 rs 0 rs then .panic v H' else .stuck)
  else (stepO c call ops e H o).bindN fun v H'=>drawK c call ops ms H0 os (acc++[⟨e,H,v,H',o⟩]) (i+1) (U1 e o.dst v) H' K
def runDrawK {β:Type} (c:Cfg) (call:A8) (nt:Nat) (ops:Array Oper) (e:Env) (H:A2) (K:Env→A2→Res β):Res β :=
 bif A0m ops (S2 [] ops.toList) nt 0 ops.toList then
  drawK c call ops (S2 [] ops.toList) H ops.toList [] 0 e H fun rs H'=>
   bif Y9 c call ops (S2 [] ops.toList) (fun _=>false) H rs 0 rs then K (A5d e rs) H' else .stuck
 else .stuck
def runDraw(c:Cfg)(call:A8)(nt:Nat):A2h:=fun ops e H=>runDrawK c call nt ops e H Res.ok
def W9(L:Nat→Bool)(e:Env):Nat→List Rec→Env
 | _,[]=>e
 | i,r :: rs=>W9 L (bif L i then U1 e r.o.dst r.v else e) (i+1) rs
def L4(L:Nat→Bool)(H:A2):Nat→List Rec→A2
 | _,[]=>H
 | i,r :: rs=>L4 L (bif L i && E8 r.o.op then r.H' else H) (i+1) rs
theorem D6y{L:Nat→Bool}(e:Env):∀ (i:Nat) (rs:List Rec),(∀ x,i≤x→L x=false)→W9 L e i rs=e
 | _,[],_=>rfl
 | i,r :: rs,h=>by simp only[W9,h i (Nat.le_refl _)]; exact D6y e (i+1) rs fun x hx=>h x (by omega)
theorem D1z{L:Nat→Bool}(H:A2):∀ (i:Nat) (rs:List Rec),(∀ x,i≤x→L x=false)→L4 L H i rs=H
 | _,[],_=>rfl
 | i,r :: rs,h=>by simp only[L4,h i (Nat.le_refl _)]; exact D1z H (i+1) rs fun x hx=>h x (by omega)
section
variable {c:Cfg} {call:A8} {ops:Array Oper}
theorem G8p {e:Env} {H H':A2} {op:Op} {v:Value} (hq:E8 op=false) (h:stepOp c call e H op=.ok v H'):H'=H:=by
 have ho:∀ {x:Option Value} {H H':A2} {v:Value},opt x H=.ok v H'→H'=H:=by
  intro x H H' v h;cases x <;> simp[opt] at h;exact h.2.symm
 have hb:∀ {α:Type} {x:Option α} {f:α→A2→Res Value} {H H':A2} {v:Value},(opt x H).bind f=.ok v H'→∃ y,x=some y∧f y H=.ok v H':=by
  intro α x f H H' v h;cases x with
  | none=>cases h
  | some y=>exact⟨y,rfl,h⟩
 cases op <;> simp only[E8,Bool.true_eq_false] at hq <;> simp only[stepOp,E0,A3,G8,A5,unR,M9,A6b,A06,A1,A31,A9,A9t,B5,invokeR] at h;case move=>exact ho h
 case assign=>exact ho h
 case pick b x y=>
  unfold condV at h;split at h
  ·exact ho h
  ·exact ho h
  ·cases h
 case build=>obtain⟨y,_,h⟩:=hb h; obtain⟨y,_,h⟩:=hb h; exact ho h
 case load=>obtain⟨y,_,h⟩:=hb h; exact ho h
 case buildSlice t n ps=>
  obtain ⟨y,_,h⟩:=hb h;unfold B9 at h;obtain⟨y,_,h⟩:=hb h;have hn:n=0:=by
   cases n with
   | zero=>rfl
   | succ n=>simp at hq
  subst hn;unfold U3 at h
  repeat' split at h
  all_goals first | (cases h; done) | (simp only[show Nat.beq 0 0=true from rfl,cond_true] at h; injection h with _ h; exact h.symm)
 case nilCheck=>
  obtain⟨y,_,h⟩:=hb h;split at h
  ·injection h with _ h; exact h.symm
  ·injection h with _ h; exact h.symm
  ·cases h
 case binOp=>obtain⟨y,_,h⟩:=hb h; obtain⟨y,_,h⟩:=hb h; exact ho h
 case unOp=>obtain⟨y,_,h⟩:=hb h; exact ho h
 case convert src dst x=>
  obtain⟨y,_,h⟩:=hb h;cases hs:(c.P.underlying src).isSome with
  | false=>rw[hs] at h; cases h
  | true=>rw[hs] at h; exact ho h
 case makeInterface=>
  obtain⟨y,_,h⟩:=hb h;split at h
  ·cases h
  ·cases h
  ·injection h with _ h; exact h.symm
 case makeFunc=>
  obtain⟨y,_,h⟩:=hb h;obtain⟨y,_,h⟩:=hb h;unfold A4b at h;split at h
  ·injection h with _ h; exact h.symm
  ·cases h
 case slice=>obtain⟨y,_,h⟩:=hb h; obtain⟨y,_,h⟩:=hb h; obtain⟨y,_,h⟩:=hb h; obtain⟨y,_,h⟩:=hb h; exact ho h
 case fieldAddr=>obtain⟨y,_,h⟩:=hb h; exact ho h
 case field=>obtain⟨y,_,h⟩:=hb h; exact ho h
 case indexAddr=>obtain⟨y,_,h⟩:=hb h; obtain⟨y,_,h⟩:=hb h; exact ho h
 case index=>obtain⟨y,_,h⟩:=hb h; obtain⟨y,_,h⟩:=hb h; exact ho h
 case extract=>
  obtain⟨y,_,h⟩:=hb h;split at h
  ·exact ho h
  ·cases h
 case call k=>
  obtain⟨y,_,h⟩:=hb h;obtain⟨callee,xs,ts⟩:=k;cases callee with
  | builtin b=>cases b <;> simp at hq <;> simp only[A6] at h <;> exact ho h
  | value f=>simp at hq
  | invoke r n=>simp at hq
 all_goals cases h
theorem J0n {e:Env} {H H':A2} {op:Op} {v:Value} (hq:E8 op=false) (hr:A33 op=false) (h:stepOp c call e H op=.ok v H') (H2:A2):stepOp c call e H2 op=.ok v H2:=by
 have ho:∀ {x:Option Value} {H H':A2} {v:Value},opt x H=.ok v H'→x=some v:=by
  intro x H H' v h;cases x <;> simp[opt] at h;rw[h.1]
 have hb:∀ {α:Type} {x:Option α} {f:α→A2→Res Value} {H H':A2} {v:Value},(opt x H).bind f=.ok v H'→∃ y,x=some y∧f y H=.ok v H':=by
  intro α x f H H' v h;cases x with
  | none=>cases h
  | some y=>exact⟨y,rfl,h⟩
 cases op <;> simp only[E8,Bool.true_eq_false] at hq <;> simp only[A33,Bool.true_eq_false] at hr <;> simp only[stepOp,E0,G8,A5,unR,M9,A6b,A1,A31,A9,A9t,B5,invokeR] at h ⊢;case move=>rw[ho h]; rfl
 case assign=>rw[ho h]; rfl
 case pick b x y=>
  unfold condV at h ⊢;split at h
  ·rw[ho h]; rfl
  ·rw[ho h]; rfl
  ·cases h
 case build=>obtain⟨y,e1,h⟩:=hb h; obtain⟨z,e2,h⟩:=hb h; rw[e1]; simp only[opt,Res.bind]; rw[e2]; simp only; rw[ho h]
 case buildSlice t n ps=>
  obtain ⟨y,e1,h⟩:=hb h;unfold B9 at h ⊢;obtain⟨z,e2,h⟩:=hb h;rw[e1]; simp only[opt,Res.bind]; rw[e2]; simp only;have hn:n=0:=by
   cases n with
   | zero=>rfl
   | succ n=>simp at hq
  subst hn;unfold U3 at h ⊢
  repeat' split at h
  all_goals first | (cases h; done) | (simp only[show Nat.beq 0 0=true from rfl,cond_true] at h ⊢; injection h with h _; simp_all)
 case nilCheck=>
  obtain⟨y,e1,h⟩:=hb h;rw[e1]; simp only[opt,Res.bind];split at h
  ·injection h with h _; rw[← h]
  ·injection h with h _; rw[← h]
  ·cases h
 case binOp=>obtain⟨y,e1,h⟩:=hb h; obtain⟨z,e2,h⟩:=hb h; rw[e1,e2]; simp only[opt,Res.bind]; rw[ho h]
 case unOp=>obtain⟨y,e1,h⟩:=hb h; rw[e1]; simp only[opt,Res.bind]; rw[ho h]
 case convert src dst x=>
  obtain⟨y,e1,h⟩:=hb h;rw[e1]; simp only[opt,Res.bind];cases hs:(c.P.underlying src).isSome with
  | false=>rw[hs] at h; cases h
  | true=>rw[hs] at h; simp only[cond_true] at h ⊢; rw[ho h]
 case makeInterface=>
  obtain⟨y,e1,h⟩:=hb h;rw[e1]; simp only[opt,Res.bind];split at h
  ·cases h
  ·cases h
  ·injection h with h _; rw[h]
 case makeFunc=>
  obtain⟨y,e1,h⟩:=hb h;obtain⟨z,e2,h⟩:=hb h;rw[e1,e2]; simp only[opt,Res.bind];unfold A4b at h ⊢;split at h
  ·injection h with h _; rw[h]
  ·cases h
 case fieldAddr=>obtain⟨y,e1,h⟩:=hb h; rw[e1]; simp only[opt,Res.bind]; rw[ho h]
 case field=>obtain⟨y,e1,h⟩:=hb h; rw[e1]; simp only[opt,Res.bind]; rw[ho h]
 case indexAddr=>obtain⟨y,e1,h⟩:=hb h; obtain⟨z,e2,h⟩:=hb h; rw[e1,e2]; simp only[opt,Res.bind]; rw[ho h]
 case index=>obtain⟨y,e1,h⟩:=hb h; obtain⟨z,e2,h⟩:=hb h; rw[e1,e2]; simp only[opt,Res.bind]; rw[ho h]
 case extract=>
  obtain⟨y,e1,h⟩:=hb h;rw[e1]; simp only[opt,Res.bind];split at h
  ·rw[ho h]
  ·cases h
 case call k=>
  obtain⟨y,e1,h⟩:=hb h;rw[e1]; simp only[opt,Res.bind];obtain⟨callee,xs,ts⟩:=k;cases callee with
  | builtin b=>cases b <;> simp at hq <;> simp only[A6] at h ⊢ <;> (rw[ho h]; rfl)
  | value f=>simp at hq
  | invoke r n=>simp at hq
 all_goals cases h
theorem D6m{e e':Env}{x:Operand}(h:∀ t,x=.tmp t→e.get t=e'.get t):P1 e x=P1 e' x:=by
 cases x with
 | tmp t=>exact h t rfl
 | _=>rfl
theorem D1r{e e':Env}:∀ {xs:List Operand},(∀ x,x ∈ xs→∀ t,x=.tmp t→e.get t=e'.get t)→A3b e xs=A3b e' xs
 | [],_=>rfl
 | x :: xs,h=>by
  simp only[A3b];rw[D6m (h x (by simp)),D1r fun y hy=>h y (by simp[hy])]
theorem D68{e e':Env}:∀ {xs:List (Nat × Operand)},(∀ x,x ∈ xs→∀ t,x.2=.tmp t→e.get t=e'.get t)→A25 e xs=A25 e' xs
 | [],_=>rfl
 | (i,x) :: xs,h=>by
  simp only[A25];rw[D6m (h (i,x) (by simp)),D68 fun y hy=>h y (by simp[hy])]
theorem E3s {e e':Env} {H:A2} {op:Op} (h:∀ t,Operand.tmp t ∈ op.operands.toList→e.get t=e'.get t):stepOp c call e H op=stepOp c call e' H op:=by
 have h1:∀ x,x ∈ op.operands.toList→P1 e x=P1 e' x:=fun x hx=>D6m fun t ht=>h t (ht ▸ hx);cases op <;> simp only[stepOp];case move x=>rw[h1 x (by simp[Op.operands])]
 case assign x=>rw[h1 x (by simp[Op.operands])]
 case pick b x y=>rw[h1 b (by simp[Op.operands]),h1 x (by simp[Op.operands]),h1 y (by simp[Op.operands])]
 case box t x=>rw[h1 x (by simp[Op.operands])]
 case build t ps=>rw[D68 fun x hx t ht=>h t (by simp only[Op.operands,List.toList_toArray]; exact ht ▸ List.mem_map_of_mem hx)]
 case buildSlice t n ps=>rw[D68 fun x hx t ht=>h t (by simp only[Op.operands,List.toList_toArray]; exact ht ▸ List.mem_map_of_mem hx)]
 case load t x=>rw[h1 x (by simp[Op.operands])]
 case store t x y=>rw[h1 x (by simp[Op.operands]),h1 y (by simp[Op.operands])]
 case nilCheck x=>rw[h1 x (by simp[Op.operands])]
 case binOp b t x y yT=>rw[h1 x (by simp[Op.operands]),h1 y (by simp[Op.operands])]
 case unOp b t x=>rw[h1 x (by simp[Op.operands])]
 case convert s d x=>rw[h1 x (by simp[Op.operands])]
 case makeInterface t x=>rw[h1 x (by simp[Op.operands])]
 case makeFunc f xs ys=>rw[D1r fun x hx t ht=>h t (by simp[Op.operands,← ht]; exact .inl (by simpa using hx)),D1r fun x hx t ht=>h t (by simp[Op.operands,← ht]; exact .inr (by simpa using hx))]
 case makeSlice t x y=>rw[h1 x (by simp[Op.operands]),h1 y (by simp[Op.operands])]
 case slice t x lo hi mx=>
  have ho:∀ y:Option Operand,(∀ z,y=some z→z ∈ (Op.slice t x lo hi mx).operands.toList)→A5p e y=A5p e' y:=by
   intro y hy;cases y with
   | none=>rfl
   | some z=>simp only[A5p]; rw[h1 z (hy z rfl)]
  rw[h1 x (by simp[Op.operands]),ho lo (fun z hz=>by subst hz; simp[Op.operands]),ho hi (fun z hz=>by subst hz; simp[Op.operands]),ho mx (fun z hz=>by subst hz; simp[Op.operands])]
 case fieldAddr t x i=>rw[h1 x (by simp[Op.operands])]
 case field t x i=>rw[h1 x (by simp[Op.operands])]
 case indexAddr t x i=>rw[h1 x (by simp[Op.operands]),h1 i (by simp[Op.operands])]
 case index t x i=>rw[h1 x (by simp[Op.operands]),h1 i (by simp[Op.operands])]
 case extract x i=>rw[h1 x (by simp[Op.operands])]
 case call k=>
  obtain⟨callee,xs,ts⟩:=k;have ha:A3b e xs.toList=A3b e' xs.toList:=D1r fun x hx t ht=>h t (by subst ht; simp only[Op.operands,Call.operands,Array.toList_append,List.mem_append]; exact .inr hx);dsimp only;rw[ha];cases callee with
  | builtin b=>rfl
  | value f=>dsimp only; rw[h1 f (by simp[Op.operands,Call.operands])]
  | invoke r n=>dsimp only; rw[h1 r (by simp[Op.operands,Call.operands])]
 case panic x=>rw[h1 x (by simp[Op.operands])]
end
end Go.Sw
end
section
namespace Go.Sw
open Go.RowKit
section
variable {c:Cfg} {call:A8} {ops:Array Oper}
theorem B5a {L L':Nat→Bool} {t:Nat}:∀ (i:Nat) (rs:List Rec) (e e':Env),(∀ (k:Nat) (r:Rec),rs[k]?=some r→r.o.dst=some t→L (i+k)=L' (i+k))→e.get t=e'.get t→(W9 L e i rs).get t=(W9 L' e' i rs).get t
 | _,[],e,e',_,h=>h
 | i, r :: rs,e,e',hL,h=>by
  simp only[W9];refine B5a (i+1) rs _ _ (fun k q hq hd=>by have:=hL (k+1) q (by simpa using hq) hd; rwa [show i+1+k=i+(k+1) by omega]) ?_;by_cases hd:r.o.dst=some t
  ·have:=hL 0 r rfl hd;simp only[Nat.add_zero] at this;rw[this];cases L' i with
   | true=>rw[hd]; simp[U1,Env.get_put]
   | false=>exact h
  ·have hne:∀ e0:Env,(U1 e0 r.o.dst r.v).get t=e0.get t:=by
    intro e0;cases hdd:r.o.dst with
    | none=>rfl
    | some s=>simp only[U1,Env.get_put]; rw[if_neg]; intro q; subst q; exact hd hdd
   cases L i <;> cases L' i <;> simp only[hne,cond_true,cond_false] <;> exact h
theorem B39 {L L':Nat→Bool}:∀ (i:Nat) (rs:List Rec) (H:A2),(∀ (k:Nat) (r:Rec),rs[k]?=some r→E8 r.o.op=true→L (i+k)=L' (i+k))→L4 L H i rs=L4 L' H i rs
 | _,[],H,_=>rfl
 | i,r :: rs,H,hL=>by
  simp only[L4];have hrest:=fun H=>B39 (L:=L) (L':=L') (i+1) rs H (fun k q hq hd=>by have:=hL (k+1) q (by simpa using hq) hd; rwa [show i+1+k=i+(k+1) by omega]);by_cases hd:E8 r.o.op=true
  ·have:=hL 0 r rfl hd;simp only[Nat.add_zero] at this;rw[this,hrest]
  ·have hd:E8 r.o.op=false:=by simpa using hd
   rw[hd,Bool.and_false,Bool.and_false];exact hrest H
theorem B18 {L:Nat→Bool} {d:Option Tmp} {v:Value} {t:Nat}:∀ (i:Nat) (rs:List Rec) (e:Env),(∀ (k:Nat) (r:Rec) (s:Tmp),rs[k]?=some r→r.o.dst=some s→d=some s→L (i+k)=false) →
  (W9 L (U1 e d v) i rs).get t=(U1 (W9 L e i rs) d v).get t
 | _,[],e,_=>rfl
 | i, r :: rs,e,hL=>by
  have hrest:=fun e=>B18 (v:=v) (t:=t) (i+1) rs e (fun k q s hq hd hs=>by have:=hL (k+1) q s (by simpa using hq) hd hs; rwa [show i+1+k=i+(k+1) by omega]);simp only[W9];cases hLi:L i with
  | false=>exact hrest e
  | true=>
   simp only[cond_true];rw[← hrest];cases d with
   | none=>rfl
   | some s=>
    cases hdd:r.o.dst with
    | none=>rfl
    | some s'=>
     have hne:s'≠s:=by
      intro q;subst q;have:=hL 0 r s' rfl hdd rfl;simp only[Nat.add_zero] at this;rw[hLi] at this; cases this
     refine B5a (i+1) rs _ _ (fun _ _ _ _=>rfl) ?_;simp only[U1,Env.get_put];by_cases h1:t=s
     ·subst h1;rw[if_neg (fun q=>hne q.symm),if_pos rfl,if_pos rfl]
     ·by_cases h2:t=s'
      ·rw[if_pos h2,if_neg h1,if_pos h2]
      ·rw[if_neg h2,if_neg h1,if_neg h1,if_neg h2]
theorem A7x{L:Nat→Bool}{j:Nat}{t:Nat}{r0:Rec}:∀ (i k0:Nat) (rs:List Rec) (e:Env),i+k0=j→rs[k0]?=some r0→L j=false →
  (∀ (k:Nat) (r:Rec) (s:Tmp),k0<k→rs[k]?=some r→r.o.dst=some s→r0.o.dst=some s→L (i+k)=false) →
  (W9 (fun x=>x == j || L x) e i rs).get t=(U1 (W9 L e i rs) r0.o.dst r0.v).get t
 | i,0,[],e,_,h,_,_=>by simp at h
 | i,0,r :: rs,e,hij,hr,hLj,hlater=>by
  simp only[List.getElem?_cons_zero,Option.some.injEq] at hr;subst hr;have hij:i=j:=by omega
  subst hij;simp only[W9,beq_self_eq_true,Bool.true_or,cond_true,hLj,cond_false];rw[← B18 (i+1) rs e (fun k q s hq hd hs=>by have:=hlater (k+1) q s (by omega) (by simpa using hq) hd hs; rwa [show i+1+k=i+(k+1) by omega])];refine B5a (i+1) rs _ _ (fun k q _ _=>?_) rfl;have:(i+1+k == i)=false:=by simp; omega
  rw[this,Bool.false_or]
 | i,k0+1,[],e,_,h,_,_=>by simp at h
 | i,k0+1,r :: rs,e,hij,hr,hLj,hlater=>by
  simp only[List.getElem?_cons_succ] at hr;simp only[W9];have:(i == j)=false:=by simp; omega
  rw[this,Bool.false_or];exact A7x (i+1) k0 rs _ (by omega) hr hLj (fun k q s hk hq hd hs=>by have:=hlater (k+1) q s (by omega) (by simpa using hq) hd hs; rwa [show i+1+k=i+(k+1) by omega])
theorem D6z {L:Nat→Bool} {j:Nat} {r0:Rec}:∀ (i k0:Nat) (rs:List Rec) (H:A2),i+k0=j→rs[k0]?=some r0→E8 r0.o.op=true →
  (∀ (k:Nat) (r:Rec),k0<k→rs[k]?=some r→E8 r.o.op=true→L (i+k)=false) →
  L4 (fun x=>x == j || L x) H i rs=r0.H'
 | i,0,[],H,_,h,_,_=>by simp at h
 | i,0,r :: rs,H,hij,hr,hl,hlater=>by
  simp only[List.getElem?_cons_zero,Option.some.injEq] at hr;subst hr;have hij:i=j:=by omega
  subst hij;simp only[L4,beq_self_eq_true,Bool.true_or,hl,Bool.and_true,cond_true];rw[B39 (L':=fun _=>false) (i+1) rs _ (fun k q hq hd=>?_)]
  ·exact D1z _ _ _ fun _ _=>rfl
  ·have h1:(i+1+k == i)=false:=by simp; omega
   have h2:=hlater (k+1) q (by omega) (by simpa using hq) hd;rw[h1,Bool.false_or,show i+1+k=i+(k+1) by omega,h2]
 | i,k0+1,[],H,_,h,_,_=>by simp at h
 | i,k0+1,r :: rs,H,hij,hr,hl,hlater=>by
  simp only[List.getElem?_cons_succ] at hr;simp only[L4];exact D6z (i+1) k0 rs _ (by omega) hr hl (fun k q hk hq hd=>by have:=hlater (k+1) q (by omega) (by simpa using hq) hd; rwa [show i+1+k=i+(k+1) by omega])
theorem G6x{L:Nat→Bool}{j:Nat}(i:Nat)(rs:List Rec)(H:A2)(hq:∀ (k:Nat) (r:Rec),rs[k]?=some r→i+k=j→E8 r.o.op=false) :
  L4 (fun x=>x == j || L x) H i rs=L4 L H i rs:=by
 refine B39 i rs H fun k r hr hl=>?_;have:(i+k == j)=false:=by
  simp only[beq_eq_false_iff_ne];intro h;have:=hq k r hr h;rw[hl] at this; cases this
 rw[this,Bool.false_or]
theorem D1y {L:Nat→Bool}:∀ (i:Nat) (rs:List Rec) (H:A2),
  (L4 L H i rs=H∧∀ (k:Nat) (r:Rec),rs[k]?=some r→E8 r.o.op=true→L (i+k)=false) ∨
  (∃ (k:Nat) (r:Rec),rs[k]?=some r∧E8 r.o.op=true∧L (i+k)=true∧L4 L H i rs=r.H'∧∀ (k':Nat) (r':Rec),k<k'→rs[k']?=some r'→E8 r'.o.op=true→L (i+k')=false)
 | i,[],H=>.inl ⟨rfl,fun k r hr=>by simp at hr⟩
 | i, r :: rs,H=>by
  simp only[L4];rcases D1y (L:=L) (i+1) rs (bif (L i && E8 r.o.op) then r.H' else H) with⟨h1,h2⟩ | ⟨k,q,h1,h2,h3,h4,h5⟩
  ·by_cases hb:(L i && E8 r.o.op)=true
   ·rw[hb,cond_true] at h1 ⊢;simp only[Bool.and_eq_true] at hb;refine .inr ⟨0,r,rfl,hb.2,hb.1,h1,fun k' r' hk hr hl=>?_⟩;obtain⟨k',rfl⟩:∃ m,k'=m+1:=⟨k' - 1,by omega⟩
    have:=h2 k' r' (by simpa using hr) hl
    rwa [show i+1+k'=i+(k'+1) by omega] at this
   ·have hb:(L i && E8 r.o.op)=false:=by simpa using hb
    rw[hb,cond_false] at h1 ⊢;refine .inl ⟨h1,fun k q hq hl=>?_⟩;cases k with
    | zero=>
     simp only[List.getElem?_cons_zero,Option.some.injEq] at hq;subst hq;rw[hl,Bool.and_true] at hb;exact hb
    | succ k=>
     have:=h2 k q (by simpa using hq) hl
     rwa [show i+1+k=i+(k+1) by omega] at this
  ·refine .inr ⟨k+1,q,by simpa using h1,h2,by rwa [show i+(k+1)=i+1+k by omega],h4,fun k' r' hk hr hl=>?_⟩;obtain⟨k',rfl⟩:∃ m,k'=m+1:=⟨k' - 1,by omega⟩
   have:=h5 k' r' (by omega) (by simpa using hr) hl
   rwa [show i+1+k'=i+(k'+1) by omega] at this
theorem D20 (ms:List Nat) (o:Oper) (i:Nat):∀ (es:List Edge),(A3s ms o es).testBit i=true→∃ e ∈ es,Region.binds .any e=true∧(e.on=i∨(ms.getD e.on 0).testBit i=true)
 | [],h=>by simp[A3s] at h
 | e :: es,h=>by
  simp only[A3s] at h;split at h
  ·rename_i hb;simp only[Nat.testBit_or,Bool.or_eq_true,Nat.testBit_two_pow,decide_eq_true_eq] at h;rcases h with h | h | h
   ·exact⟨e,by simp,hb,.inl h⟩
   ·exact⟨e,by simp,hb,.inr h⟩
   ·obtain⟨e',h1,h2⟩:=D20 ms o i es h;exact⟨e',by simp[h1],h2⟩
  ·obtain⟨e',h1,h2⟩:=D20 ms o i es h;exact⟨e',by simp[h1],h2⟩
theorem B3a {ms:List Nat} {nt:Nat}:∀ (ol:List Oper) (j0:Nat),A0m ops ms nt j0 ol=true→∀ (k:Nat) (o:Oper),ol[k]?=some o →
  A38 nt o.dst=true∧(∀ e ∈ o.after.toList,Region.binds .any e=true→e.on<j0+k)∧ms.getD (j0+k) 0=A3s ms o o.after.toList∧A5q ops (ms.getD (j0+k) 0) o 0 (ops.toList.take (j0+k))=true∧B72 (ms.getD (j0+k) 0) ops.toList 0 ops.toList=true
 | [],_,_,k,o,h=>by simp at h
 | x :: xs,j0,hs,k,o,h=>by
  simp only[A0m,Bool.and_eq_true,List.all_eq_true,beq_iff_eq] at hs;obtain⟨⟨⟨⟨⟨h1,h2⟩,h3⟩,h4⟩,h6⟩,h5⟩:=hs;cases k with
  | zero=>
   simp only[List.getElem?_cons_zero,Option.some.injEq] at h;subst h;refine⟨h1,fun e he hb=>?_,h3,h4,h6⟩;have:=h2 e he;simp only[hb,Bool.not_true,Bool.false_or] at this;exact Nat.le_of_ble_eq_true this
  | succ k=>
   have:=B3a xs (j0+1) h5 k o (by simpa using h)
   rwa [show j0+1+k=j0+(k+1) by omega] at this
theorem E4z {m:Nat} {o:Oper}:∀ (i0:Nat) (l:List Oper),A5q ops m o i0 l=true→∀ (k:Nat) (x:Oper),l[k]?=some x→((Oper.apart ops x o=true∧(E8 x.op=false∨E8 o.op=false∨A21 o=true))∨m.testBit (i0+k)=true)
 | _,[],_,k,x,h=>by simp at h
 | i0,y :: ys,hp,k,x,h=>by
  simp only[A5q,Bool.and_eq_true,Bool.or_eq_true,Bool.not_eq_true'] at hp;cases k with
  | zero=>
   simp only[List.getElem?_cons_zero,Option.some.injEq] at h;subst h;rcases hp.1 with⟨h1,h2⟩ | h1
   ·refine .inl ⟨h1,?_⟩;cases h3:E8 y.op <;> cases h4:E8 o.op <;> cases h5:A21 o <;> simp_all
   ·exact .inr h1
  | succ k=>
   have:=E4z (i0+1) ys hp.2 k x (by simpa using h)
   rwa [show i0+1+k=i0+(k+1) by omega] at this
theorem E45 {m n:Nat}:∀ (i0:Nat) (l:List Oper),A85 m n i0 l=true→∀ (k:Nat) (x:Oper),l[k]?=some x→E8 x.op=true→i0+k<n→m.testBit (i0+k)=true
 | _,[],_,k,x,h,_,_=>by simp at h
 | i0,y :: ys,hp,k,x,h,hl,hk=>by
  simp only[A85,Bool.and_eq_true,Bool.or_eq_true,Bool.not_eq_true'] at hp;cases k with
  | zero=>
   simp only[List.getElem?_cons_zero,Option.some.injEq] at h;subst h;rcases hp.1 with h1 | h1
   ·rw[hl,Bool.true_and] at h1;rw[show Nat.blt i0 n=true from Nat.ble_eq_true_of_le hk] at h1; cases h1
   ·exact h1
  | succ k=>
   have:=E45 (i0+1) ys hp.2 k x (by simpa using h) hl (by omega)
   rwa [show i0+1+k=i0+(k+1) by omega] at this
theorem E67 {m:Nat} {all:List Oper}:∀ (k0:Nat) (l:List Oper),B72 m all k0 l=true→∀ (k:Nat) (x:Oper),l[k]?=some x→A21 x=true→m.testBit (k0+k)=true→A85 m (k0+k) 0 all=true
 | _,[],_,k,x,h,_,_=>by simp at h
 | k0,y :: ys,hp,k,x,h,hl,hk=>by
  simp only[B72,Bool.and_eq_true,Bool.or_eq_true,Bool.not_eq_true'] at hp;cases k with
  | zero=>
   simp only[List.getElem?_cons_zero,Option.some.injEq] at h;subst h;rcases hp.1 with h1 | h1
   ·rw[hl,Bool.true_and] at h1;simp only[Nat.add_zero] at hk;rw[hk] at h1; cases h1
   ·exact h1
  | succ k=>
   have:=E67 (k0+1) ys hp.2 k x (by simpa using h) hl (by rwa [show k0+1+k=k0+(k+1) by omega])
   rwa [show k0+1+k=k0+(k+1) by omega] at this
end
end Go.Sw
end
section
namespace Go.Sw
open Go.RowKit
def A5e(f:Option Nat)(b:Nat):Value :=
 match f with
 | none=>.pointer (some ⟨b,0,none⟩)
 | some n=>.slice (some ⟨b,0,none⟩) n n
section
variable {c:Cfg} {call:A8} {nt:Nat}
theorem D70{o:Oper}(h:A21 o=true):E8 o.op=true∧o.guard=none:=by
 unfold A21 at h;simp only[Bool.and_eq_true] at h;refine⟨?_,by simpa using h.1⟩;have h2:=h.2;split at h2 <;> simp_all [E8]
theorem D0b {e:Env} {H H1:A2} {o:Oper} {v:Value} (hm:A21 o=true) (h:stepOp c call e H o.op=.ok v H1) :
  ∃ f cells esz,v=A5e f H.n∧H1=H.push ⟨cells,esz,false⟩∧(∀ n,f=some n→True) ∧
   ∀ μ (a:Act) (w:World),ER μ nt e a.tmps→∃ cs el,(execOp a.eval o).run c.P w=.ok (.value (A5e f w.heap.size)) (w.alloc (.cells cs el))∧VRs μ cells cs.toList∧M7 cells:=by
 have hop:=(Bool.and_eq_true _ _ ▸ (show (o.guard.isNone && (match o.op with
  | .alloc _ | .box _ _=>true
  | .buildSlice _ n _=>!(Nat.beq n 0)
  | _=>false))=true from hm):_∧_).2
 generalize hog:o.op=op at h hop;split at hop
 ·rename_i t;simp only[stepOp,D1] at h;split at h
  ·rename_i z hz;simp only[A9y,Res.bind,Res.ok.injEq] at h;obtain⟨rfl,rfl⟩:=h;refine⟨none,z.cells.toList,1,rfl,rfl,fun _ _=>trivial,fun μ a w hE=>⟨z.cells,t,?_,(VR.zero hz μ).cells,(VR.zero hz μ).ζ66 (A98 hz).2.2⟩⟩;simp[execOp,hog,Instr.alloc,B5l hz,newVar,newRow,A5e]
  ·cases h
 ·rename_i t x;simp only[stepOp,K9] at h;cases hx:P1 e x with
  | none=>rw[hx] at h; cases h
  | some u=>
   rw[hx] at h;simp only[opt,Res.bind] at h;cases hs:storable u with
   | false=>rw[hs] at h; cases h
   | true=>
    rw[hs] at h;simp only[cond_true,A9y,Res.ok.injEq] at h;obtain⟨rfl,rfl⟩:=h;refine⟨none,u.cells.toList,1,rfl,rfl,fun _ _=>trivial,fun μ a w hE=>⟨(a.eval x).cells,t,?_,(E3 hE hx).cells,(E3 hE hx).ζ66 hs⟩⟩;simp[execOp,hog,Instr.box,newVar,newRow,A5e]
 ·rename_i t len ps;simp only[stepOp,B9] at h;cases hx0:A25 e ps.toList with
  | none=>rw[hx0] at h; cases h
  | some us=>
  rw[hx0] at h;simp only[opt,Res.bind] at h;cases hx:Z8 us with
  | none=>rw[hx] at h; cases h
  | some vs=>
   rw[hx] at h;simp only at h;unfold U3 at h;split at h;rotate_left
   ·cases h
   rename_i el hu;split at h;rotate_left
   ·cases h
   rename_i n z hn hz;split at h;rotate_left
   ·cases h
   rename_i hb;split at h;rotate_left
   ·cases h
   rename_i cs hcs;have hn0:Nat.beq len 0=false:=by simpa using hop
   rw[hn0] at h;simp only[cond_false,Res.ok.injEq] at h;obtain⟨rfl,rfl⟩:=h;refine⟨some len,cs.toList,n,rfl,rfl,fun _ _=>trivial,fun μ a w hE=>?_⟩;obtain⟨h1,h2⟩:=D75 hE hx0 hx;have harr:(ps.map fun (i,x)=>(i,a.eval x))=(ps.toList.map fun (i,x)=>(i,a.eval x)).toArray:=by apply Array.ext'; simp
   obtain⟨cs',hrun,hr,ho⟩:=buildSlice_cells (P:=c.P) (μ:=μ) h1 h2 hu hn hz hb hcs w;refine⟨cs',el,?_,hr,ho⟩;simp only[execOp,hog,Sem.run_bind];rw[harr,hrun];rfl
 ·cases hop
where
 buildSlice_cells {P:Program} {μ:Mu} {t e:TypeId} {len n:Nat} {ps ps':List (Nat × Value)} {z:List Value} {cs:Array Value} (hl:ps.length=ps'.length) (hp:∀ (i:Nat) a a',ps[i]?=some a→ps'[i]?=some a'→a.1=a'.1∧VR μ a.2 a'.2∧storable a.2=true)
   (hu:P.underlying t=some (.slice e)) (hn:M3 P e=some n) (hz:A62 P e len=some z) (hb:Nat.ble (len*n) (2 ^ 24)=true) (hcs:Instr.fill (fun i=>some (i*n,n)) z.toArray ps=some cs) (w:World) :
   ∃ cs',(Instr.buildSlice t len ps'.toArray).run P w=.ok (.slice (some ⟨w.heap.size,0,none⟩) len len) (w.alloc (.cells cs' e))∧VRs μ cs.toList cs'.toList∧M7 cs.toList:=by
  have hb:=Nat.le_of_ble_eq_true hb;obtain⟨hzr,hzo⟩:=D2h hz μ;obtain⟨cs',hcs',hr,ho⟩:=A3n (fun i=>some (i*n,n)) ps ps' z.toArray z.toArray cs hl hp (by simpa using hzr) (by simpa using hzo) hcs;obtain⟨zv,s,hz1,hz2,hz3,rfl⟩:=B93 hz;rw[hn] at hz2; injection hz2 with hz2; subst hz2;refine⟨cs',?_,hr,ho⟩;have hno:¬ (2 ^ 24<len*n):=by omega
  have harr:((Array.range (len*n)).map fun i=>(if len*n=0 then (#[]:Array Value) else zv.cells)[i % (if len*n=0 then (#[]:Array Value) else zv.cells).size]!)=(D5 zv.cells.toList len).toArray:=by
   by_cases h0:len*n=0
   ·rw[h0];apply Array.ext';have:D5 zv.cells.toList len=[]:=List.length_eq_zero_iff.1 (by rw[B51]; simp[hz3,h0]);simp[this]
   ·rw[if_neg h0];exact B92 zv.cells len (len*n) (by rw[hz3])
  simp only[Instr.buildSlice,Sem.run_bind,run_underlying hu,Result.andThen_ok,A1l hn,if_neg hno];by_cases h0:len*n=0
  ·simp only[if_pos h0] at harr;rw[h0] at harr;simp only[h0,if_true,Sem.run_bind,Sem.run_pure,Result.andThen_ok];rw[harr,hcs'];simp[newRow]
  ·simp only[if_neg h0] at harr;simp only[if_neg h0,Sem.run_bind,B5l hz1,Sem.run_pure,Result.andThen_ok];rw[harr,hcs'];simp[newRow]
end
theorem HR.adopt {w0:G4} {μ:Mu} {H:A2} {w:World} (h:HR w0 μ H w) (cells:List Value) (cs:Array Value) (el:TypeId) (esz B:Nat) (hB:w.heap[B]?=some (.cells cs el (0,0)))
  (hS:¬ w0.S B) (hfree:∀ b k m,H.get b=some k→k.ro=false→μ b=some m→m.blk≠B) (hr:VRs μ cells cs.toList) (h1:M7 cells) (hz:∀ o,μ.z B≠some o) :
  HR w0 (μ.set H.n ⟨B,0,cs.size,esz,false⟩) (H.push ⟨cells,esz,false⟩) w:=by
 have hle:=Mu.le_set h.dom (μ:=μ) (H:=H) ⟨B,0,cs.size,esz,false⟩;constructor
 ·intro b m hb;rw[A2.n_push];rw[Mu.set_get] at hb;split at hb
  ·omega
  ·have:=h.dom b m hb; omega
 ·intro b k hk;rw[A2.get_push] at hk;split at hk
  ·rename_i hb;injection hk with hk;subst hk hb;refine⟨⟨B,0,cs.size,esz,false⟩,by simp[Mu.set],rfl,rfl,⟨cs,el,(0,0),hB,fun _=>rfl,by simp,fun i v hi=>?_⟩,h1,?_,fun _=>hS,fun hf=>by cases hf⟩
   ·obtain⟨v',e,r⟩:=hr.get hi;exact⟨v',by simpa using e,r.up hle⟩
   ·have:=hr.1; simp at this ⊢; omega
  ·obtain⟨m,hm,hb⟩:=h.blk b k hk;exact⟨m,hle.f _ _ hm,hb.keep hle rfl⟩
 ·intro b b' k k' m m' hk hk' r r' hm hm' he;rw[A2.get_push] at hk hk';rw[Mu.set_get] at hm hm';by_cases e1:b=H.n <;> by_cases e2:b'=H.n
  ·omega
  ·rw[if_neg e2] at hk' hm';rw[if_pos e1] at hm;injection hm with hm; subst hm;exact absurd he.symm (hfree b' k' m' hk' r' hm')
  ·rw[if_neg e1] at hk hm;rw[if_pos e2] at hm';injection hm' with hm'; subst hm';exact absurd he (hfree b k m hk r hm)
  ·rw[if_neg e1] at hk hm;rw[if_neg e2] at hk' hm';exact h.inj b b' k k' m m' hk hk' r r' hm hm' he
 ·exact h.below
 ·refine⟨h.zr.at_,h.zr.old,fun k o b x m hk hx hr hm=>?_⟩;rw[A2.get_push] at hx;rw[Mu.set_get] at hm;split at hx
  ·rename_i hb;rw[if_pos hb] at hm;injection hm with hm; subst hm;intro he;have he:B=k:=he;exact hz o (by rw[he]; exact hk)
  ·rename_i hb;rw[if_neg hb] at hm;exact h.zr.apart k o b x m hk hx hr hm
theorem VR.form{μ:Mu}{n B ext esz:Nat}(f:Option Nat):VR (μ.set n ⟨B,0,ext,esz,false⟩) (A5e f n) (A5e f B):=by
 cases f with
 | none=>exact VR.ptr n 0 ⟨B,0,ext,esz,false⟩ (by simp[Mu.set])
 | some l=>exact VR.slice n 0 0 l l l ⟨B,0,ext,esz,false⟩ (by simp[Mu.set]) (Nat.le_refl _) (Nat.le_refl _) (.inr rfl) (.inl rfl)
def G4.more(w0:G4)(μ:Mu)(w:World)(T:Nat→Prop):G4:=⟨w,fun k=>w0.S k∨T k,w0.R,fun k=>∃ o,μ.z k=some o⟩
theorem HR.toMore{w0:G4}{μ:Mu}{H:A2}{w:World}(h:HR w0 μ H w)(T:Nat→Prop)(hT:∀ k,T k→k<w.heap.size)(hfree:∀ b k m,H.get b=some k→k.ro=false→μ b=some m→¬ T m.blk):HR (w0.more μ w T) μ H w:=by
 constructor
 ·exact h.dom
 ·intro b k hk;obtain⟨m,hm,hb⟩:=h.blk b k hk;refine⟨m,hm,hb.esz,hb.ro,hb.here,hb.ones,hb.ext,fun hr hS=>?_,hb.low⟩;rcases hS with hS | hS
  ·exact hb.own hr hS
  ·exact hfree b k m hk hr hm hS
 ·exact h.inj
 ·refine⟨rfl,rfl,rfl,Nat.le_refl _,fun _ _=>rfl,fun k hk=>?_,fun k hk=>.inl (h.below.sub k hk)⟩;rcases hk with hk | hk
  ·have:=h.below.lt k hk; have:=h.below.size; show k<w.heap.size; omega
  ·exact hT k hk
 ·exact⟨h.zr.at_,fun k o hk _=>⟨o,hk⟩,h.zr.apart⟩
theorem HR.ofMore{w0:G4}{μ μ0:Mu}{H H0:A2}{w w':World}{T:Nat→Prop}(h0:HR w0 μ0 H0 w)(h:HR (w0.more μ0 w T) μ H w'):HR w0 μ H w':=by
 have hb:=h.below;constructor
 ·exact h.dom
 ·intro b k hk;obtain⟨m,hm,hbr⟩:=h.blk b k hk;exact⟨m,hm,hbr.esz,hbr.ro,hbr.here,hbr.ones,hbr.ext,fun hr hS=>hbr.own hr (.inl hS),hbr.low⟩
 ·exact h.inj
 ·exact h0.below.step hb.os hb.tape hb.output hb.size fun k hk=>hb.block k (.inl hk)
 ·refine⟨h.zr.at_,fun k o hk hS=>?_,h.zr.apart⟩;obtain⟨o',ho⟩:=h.zr.old k o hk (.inl hS);exact h0.zr.old k o' ho hS
theorem HR.ζkb{w0:G4}{μ μ0:Mu}{H:A2}{w w':World}{T:Nat→Prop}(h:HR (w0.more μ0 w T) μ H w'){k:Nat}(hT:T k)(h0:∀ o,μ0.z k≠some o):∀ o,μ.z k≠some o:=by
 intro o ho;obtain⟨o',h1⟩:=h.zr.old k o ho (.inr hT);exact h0 o' h1
end Go.Sw
end
