/-
  Functions' forms, and what is proved of them, part 10.
-/
import Derived.Test.YtanfippcmdialaaGreatSwW9
import Derived.Test.YtanfippcmdialaaGreatSwLib10
import Derived.Test.YtanfippcmdialaaGreatSwCfg
import Derived.Test.YtanfippcmdialaaGreatSwW6
import Derived.Test.YtanfippcmdialaaGreatSwW8
import Derived.Test.YtanfippcmdialaaGreatSwW7
set_option linter.unusedSimpArgs false
set_option linter.unusedVariables false
set_option linter.unusedSectionVars false
section
namespace Go.Sw
open Go.RowKit
abbrev KontM (β:Type):=AExit → Env → Heap → Gs → Res β
section
variable {β:Type} {c:Cfg} {call:Caller} {f:FuncId} {p:List Nat} {e:Env} {H:Heap} {gs:Gs}
noncomputable def pieceM (c:Cfg) (call:Caller) (f:FuncId) (p:List Nat) (e:Env) (H:Heap) (gs:Gs) (K:KontM β):Res β :=
 (execM c call (runDraw c call (ntOf c.P f)) (ntOf c.P f) (c.kp f) (partOf c.P f p) e H gs).bind fun r H' => K r.1.1 r.1.2 H' r.2
noncomputable def pieceF (c:Cfg) (call:Caller) (f:FuncId) (p:List Nat) (e:Env) (H:Heap) (gs:Gs) (K:Kont β):Res β :=
 (execF c call (runDraw c call (ntOf c.P f)) (ntOf c.P f) (c.kp f) (partOf c.P f p) e H gs).bind fun r H' => K r.1 r.2 H'
def kSeqM (F:Env → Heap → Gs → KontM β → Res β) (K:KontM β):KontM β:=fun x e H gs =>
 match x with
 | .normal => F e H gs K
 | x => K x e H gs
def kSeqF (F:Env → Heap → Gs → Kont β → Res β) (K:Kont β):KontM β:=fun x e H gs =>
 match x with
 | .normal => F e H gs K
 | x => K x e H
theorem ζ3i (h:noMap (partOf c.P f p) = true) (K:KontM β):pieceM c call f p e H gs K = pieceK c call f p e H fun x e H => K x e H gs:=by
 unfold pieceM pieceK;rw [ζjg _ h,execK_eq,Res.bind_assoc];rfl
theorem ζcj {a b:List Nat} (h:partOf c.P f p = .seq (partOf c.P f a) (partOf c.P f b)) (K:KontM β):pieceM c call f p e H gs K = pieceM c call f a e H gs (kSeqM (pieceM c call f b) K):=by
 unfold pieceM;rw [h];simp only [execM,Res.bind_assoc];congr 1;funext r H';obtain ⟨⟨x,e'⟩,gs'⟩:=r;cases x <;> rfl
theorem ζho {a:List Nat} {i:Nat} (h:partOf c.P f p = .block i (partOf c.P f a)) (K:KontM β):pieceM c call f p e H gs K = pieceM c call f a e H gs fun x e H gs => match x with
  | .exit j => if j == i then K .normal e H gs else K (.exit j) e H gs
  | x => K x e H gs:=by
 unfold pieceM;rw [h];simp only [execM,Res.bind_assoc];congr 1;funext r H';obtain ⟨⟨x,e'⟩,gs'⟩:=r;cases x with
 | normal => rfl
 | ret => rfl
 | exit j =>
  show (Res.ok (blockK i (.exit j,e'),gs') H').bind _ = _;unfold blockK;dsimp only;split <;> rfl
theorem ζ5q {a b:List Nat} (h:partOf c.P f p = .seq (partOf c.P f a) (partOf c.P f b)) (hp:plainCode (partOf c.P f a) = true) (K:Kont β):pieceF c call f p e H gs K = pieceM c call f a e H gs (kSeqF (pieceF c call f b) K):=by
 unfold pieceF pieceM;rw [h];simp only [execF,hp,cond_true,Res.bind_assoc];congr 1;funext r H';obtain ⟨⟨x,e'⟩,gs'⟩:=r;cases x <;> rfl
theorem ζhn {a b:List Nat} (h:partOf c.P f p = .seq (partOf c.P f a) (partOf c.P f b)) (hp:plainCode (partOf c.P f a) = false) (K:Kont β):pieceF c call f p e H gs K = pieceF c call f a e H gs (kSeq (pieceK c call f b) K):=by
 unfold pieceF;rw [h];simp only [execF,hp,cond_false,Res.bind_assoc];congr 1;funext r H';obtain ⟨x,e'⟩:=r;cases x with
 | normal => exact (execK_eq _ _ _ _).symm
 | exit i => rfl
 | ret => rfl
theorem ζhm {a:List Nat} {i:Nat} (h:partOf c.P f p = .block i (partOf c.P f a)) (K:Kont β):pieceF c call f p e H gs K = pieceF c call f a e H gs (kBlock i K):=by
 unfold pieceF;rw [h];simp only [execF,Res.bind_assoc];congr 1;funext r H';obtain ⟨x,e'⟩:=r;cases x with
 | normal => rfl
 | ret => rfl
 | exit j =>
  show (Res.ok (blockK i (.exit j,e')) H').bind _ = _;unfold blockK kBlock;dsimp only;cases j == i <;> rfl
theorem ζf6 {r:Res ((AExit × Env) × Gs)} (h:execM c call (runDraw c call (ntOf c.P f)) (ntOf c.P f) (c.kp f) (partOf c.P f p) e H gs = r) (K:KontM β):pieceM c call f p e H gs K = r.bind fun r H' => K r.1.1 r.1.2 H' r.2:=by
 unfold pieceM;rw [h]
theorem ζjf (c:Cfg) (call:Caller) (f:FuncId) (p:List Nat) (e:Env) (H:Heap) (gs:Gs):execM c call (runDraw c call (ntOf c.P f)) (ntOf c.P f) (c.kp f) (partOf c.P f p) e H gs = pieceM c call f p e H gs fun x e H gs => .ok ((x,e),gs) H:=by
 unfold pieceM;cases execM c call (runDraw c call (ntOf c.P f)) (ntOf c.P f) (c.kp f) (partOf c.P f p) e H gs <;> rfl
theorem ζhr {a b:List Nat} {e e':Env} (h:∀ K:KontM ((AExit × Env) × Gs),pieceM c call f a e H gs K = K .normal e' H gs):roundM c call (runDraw c call (ntOf c.P f)) (ntOf c.P f) (c.kp f) (partOf c.P f a) (partOf c.P f b) e H gs = pieceM c call f b e' H gs fun x _ H gs => .ok (x,gs) H:=by
 unfold roundM;rw [ζjf,h];rfl
theorem bodyF_is (c:Cfg) (call:Caller) (f:FuncId) (args:List Value) (H:Heap) (hl:Nat.ble args.length (ntOf c.P f) = true):bodyF c call f args H = pieceF c call f [] (Env.of 0 args) H none (kDone c.P (resOf c.P f)):=by
 unfold bodyF pieceF;have hk:(fun (r:AExit × Env) H' => kDone c.P (resOf c.P f) r.1 r.2 H') = fun r H' => doneK c.P (resOf c.P f) r H':=by
  funext r H';exact kDone_eq _ _ _ _ _
 rw [hk];cases hf:c.P.funcs[f]? with
 | none =>
  have:partOf c.P f [] = .skip:=by unfold partOf; rw [hf]
  rw [this]; rfl
 | some fn =>
  dsimp only;cases hb:fn.body with
  | none =>
   have:partOf c.P f [] = .skip:=by unfold partOf; rw [hf]; dsimp only; rw [hb]
   rw [this]; rfl
  | some code =>
   have h1:partOf c.P f [] = code:=by unfold partOf; rw [hf]; dsimp only; rw [hb]; cases code <;> rfl
   have h2:ntOf c.P f = fn.ntmps:=by unfold ntOf; rw [hf]
   have h3:resOf c.P f = fn.results.toList:=by unfold resOf; rw [hf]
   rw [h1,h2,h3];rw [h2] at hl;dsimp only;rw [hl];rfl
end
def mapMk (H:Heap) (gs:Gs):Res (Value × Gs):=match gs with | none => .ok (.map (some H.n),some (H.n,[])) (deadH H) | some _ => .stuck
def mapLk (m n:Value) (H:Heap) (gs:Gs):Res (Value × Gs):=match some m,some n,gs with
 | some (.map (some b)),some (.int .i64 n),some (b',ks) => bif Nat.beq b b' && true then .ok (.tuple #[.agg #[],.bool (decide (n ∈ ks))],some (b',ks)) H else .stuck
 | _,_,_ => .stuck
def mapUp (m n v:Value) (H:Heap) (gs:Gs):Res (Value × Gs):=match some m,some n,some v,gs with
 | some (.map (some b)),some (.int .i64 n),some (.agg xs),some (b',ks) => bif Nat.beq b b' && true && Nat.beq xs.size 0 && !(decide (n ∈ ks)) then .ok (undef,some (b',n :: ks)) H else .stuck
 | _,_,_,_ => .stuck
def plM (r:Res Value) (gs:Gs):Res (Value × Gs):=r.bind fun v H => .ok (v,gs) H
def endM (ks:List Nat) (r:Res (Env × Gs)):Res ((AExit × Env) × Gs):=r.bind fun q H' => .ok ((.normal,Env.keep ks q.1),q.2) H'
theorem take_m3K (call:Caller) (draw:Draw) (a4 a5:Value) (H:Heap) (gs:Gs):execM CI call draw (ntOf Prog F.ζ0) (kpS F.ζ0) (partOf Prog F.ζ0 [1,1,1,0]) [(4,a4),(5,a5)] H gs =
  endM [4,5,6] ((mapMk H gs).bind fun q h1 => (plM (allocR Prog tyM h1) q.2).bind fun r h2 => (plM (storeR Prog tyM r.1 q.1 h2) r.2).bind fun s h3 => .ok ([(4,a4),(5,a5),(6,r.1),(27,q.1)],s.2) h3):=by kernel_rfl
theorem take_m3 (call:Caller) (draw:Draw) (a4 a5:Value) (H:Heap) (gs:Gs):execM CI call draw (ntOf Prog F.ζ0) (kpS F.ζ0) (partOf Prog F.ζ0 [1,1,1,0]) [(4,a4),(5,a5)] H gs =
  endM [4,5,6] ((mapMk H gs).bind fun q h1 => (plM (newP [.map none] h1) q.2).bind fun r h2 => (plM (stR 1 r.1 q.1 h2) r.2).bind fun s h3 => .ok ([(4,a4),(5,a5),(6,r.1),(27,q.1)],s.2) h3):=by
 have h:=take_m3K call draw a4 a5 H gs;simp only [alM,alU,ldM,stM,stU] at h;exact h
theorem take_m6K (call:Caller) (draw:Draw) (a5 a6 a8:Value) (H:Heap) (gs:Gs):execM CI call draw (ntOf Prog F.ζ0) (kpS F.ζ0) (partOf Prog F.ζ0 [1,1,1,1,0,1,0,1,0,0,0]) [(5,a5),(6,a6),(8,a8)] H gs =
  endM [5,6,8,10] ((plM (loadR Prog tyM a6 H) gs).bind fun m h1 => (mapLk m.1 a8 h1 m.2).bind fun q h2 => (plM (extractR q.1 0 h2) q.2).bind fun x h3 => (plM (extractR q.1 1 h3) x.2).bind fun y h4 => (plM (allocR Prog tyS h4) y.2).bind fun r h5 => (plM (storeR Prog tyS r.1 x.1 h5) r.2).bind fun s h6 =>
   .ok ([(5,a5),(6,a6),(8,a8),(9,r.1),(10,y.1),(35,q.1),(36,m.1),(37,a8),(38,q.1),(39,x.1),(40,y.1)],s.2) h6):=by kernel_rfl
theorem take_m6 (call:Caller) (draw:Draw) (a5 a6 a8:Value) (H:Heap) (gs:Gs):execM CI call draw (ntOf Prog F.ζ0) (kpS F.ζ0) (partOf Prog F.ζ0 [1,1,1,1,0,1,0,1,0,0,0]) [(5,a5),(6,a6),(8,a8)] H gs =
  endM [5,6,8,10] ((plM (ld1 a6 H) gs).bind fun m h1 => (mapLk m.1 a8 h1 m.2).bind fun q h2 => (plM (extractR q.1 0 h2) q.2).bind fun x h3 => (plM (extractR q.1 1 h3) x.2).bind fun y h4 => (plM (newP [] h4) y.2).bind fun r h5 => (plM (stR 0 r.1 x.1 h5) r.2).bind fun s h6 =>
   .ok ([(5,a5),(6,a6),(8,a8),(9,r.1),(10,y.1),(35,q.1),(36,m.1),(37,a8),(38,q.1),(39,x.1),(40,y.1)],s.2) h6):=by
 have h:=take_m6K call draw a5 a6 a8 H gs;simp only [alM,alU,ldM,stM,stU] at h;exact h
theorem take_m8K (call:Caller) (draw:Draw) (a5 a6 a8 a41:Value) (H:Heap) (gs:Gs):execM CI call draw (ntOf Prog F.ζ0) (kpS F.ζ0) (partOf Prog F.ζ0 [1,1,1,1,0,1,0,1,0,1,0]) [(5,a5),(6,a6),(8,a8),(41,a41)] H gs =
  endM [5,8] ((plM (loadR Prog tyM a6 H) gs).bind fun m h1 => (mapUp m.1 a8 (.agg #[]) h1 m.2).bind fun q h2 => .ok ([(5,a5),(6,a6),(8,a8),(41,a41),(42,m.1),(43,a8),(44,.agg #[])],q.2) h2):=by kernel_rfl
theorem take_m8 (call:Caller) (draw:Draw) (a5 a6 a8 a41:Value) (H:Heap) (gs:Gs):execM CI call draw (ntOf Prog F.ζ0) (kpS F.ζ0) (partOf Prog F.ζ0 [1,1,1,1,0,1,0,1,0,1,0]) [(5,a5),(6,a6),(8,a8),(41,a41)] H gs =
  endM [5,8] ((plM (ld1 a6 H) gs).bind fun m h1 => (mapUp m.1 a8 (.agg #[]) h1 m.2).bind fun q h2 => .ok ([(5,a5),(6,a6),(8,a8),(41,a41),(42,m.1),(43,a8),(44,.agg #[])],q.2) h2):=by
 have h:=take_m8K call draw a5 a6 a8 a41 H gs;simp only [alM,alU,ldM,stM,stU] at h;exact h
end Go.Sw
end
section
namespace Go.Sw
open Go.RowKit
section
variable {β:Type} {call:Caller} {e:Env} {H:Heap} {gs:Gs}
theorem ζnk (call:Caller) (a0 a1:Value) (H:Heap):bodyF CI call F.ζ0 [a0,a1] H = pieceF CI call F.ζ0 [] [(0,a0),(1,a1)] H none (kDone Prog (resOf Prog F.ζ0)):=bodyF_is CI call F.ζ0 [a0,a1] H (by kernel_rfl)
theorem tF0 (K:Kont β):pieceF CI call F.ζ0 [] e H gs K = pieceM CI call F.ζ0 [0] e H gs (kSeqF (pieceF CI call F.ζ0 [1]) K):=ζ5q (by kernel_rfl) (by kernel_rfl) K
theorem tF1 (K:Kont β):pieceF CI call F.ζ0 [1] e H gs K = pieceM CI call F.ζ0 [1,0] e H gs (kSeqF (pieceF CI call F.ζ0 [1,1]) K):=ζ5q (by kernel_rfl) (by kernel_rfl) K
theorem tF2 (K:Kont β):pieceF CI call F.ζ0 [1,1] e H gs K = pieceM CI call F.ζ0 [1,1,0] e H gs (kSeqF (pieceF CI call F.ζ0 [1,1,1]) K):=ζ5q (by kernel_rfl) (by kernel_rfl) K
theorem tF3 (K:Kont β):pieceF CI call F.ζ0 [1,1,1] e H gs K = pieceM CI call F.ζ0 [1,1,1,0] e H gs (kSeqF (pieceF CI call F.ζ0 [1,1,1,1]) K):=ζ5q (by kernel_rfl) (by kernel_rfl) K
theorem tF4 (K:Kont β):pieceF CI call F.ζ0 [1,1,1,1] e H gs K = pieceF CI call F.ζ0 [1,1,1,1,0] e H gs (kSeq (pieceK CI call F.ζ0 [1,1,1,1,1]) K):=ζhn (by kernel_rfl) (by kernel_rfl) K
theorem tF5 (K:Kont β):pieceF CI call F.ζ0 [1,1,1,1,0] e H gs K = pieceM CI call F.ζ0 [1,1,1,1,0,0] e H gs (kSeqF (pieceF CI call F.ζ0 [1,1,1,1,0,1]) K):=ζ5q (by kernel_rfl) (by kernel_rfl) K
theorem tF6 (K:Kont β):pieceF CI call F.ζ0 [1,1,1,1,0,1] e H gs K = pieceF CI call F.ζ0 [1,1,1,1,0,1,0] e H gs (kBlock 0 K):=ζhm (by kernel_rfl) K
noncomputable abbrev takeRound (call:Caller):Env → Heap → Gs → Res (AExit × Gs):=roundM CI call (runDraw CI call (ntOf Prog F.ζ0)) (ntOf Prog F.ζ0) (kpS F.ζ0) (partOf Prog F.ζ0 [1,1,1,1,0,1,0,0]) (partOf Prog F.ζ0 [1,1,1,1,0,1,0,1])
theorem tF7 (a4 a5 a6 a32:Value) (K:Kont β):pieceF CI call F.ζ0 [1,1,1,1,0,1,0] [(4,a4),(5,a5),(6,a6),(32,a32)] H gs K =
  ((opt (itS a32 H) H).bind fun l H => rangeM (takeRound call) [33,34] [(4,a4),(5,a5),(6,a6)] l H gs).bind fun r H' => K r.1 r.2 H':=by kernel_rfl
theorem tM0 (K:KontM β):pieceM CI call F.ζ0 [0] e H gs K = pieceK CI call F.ζ0 [0] e H fun x e H => K x e H gs:=ζ3i (by kernel_rfl) K
theorem tM1 (K:KontM β):pieceM CI call F.ζ0 [1,0] e H gs K = pieceK CI call F.ζ0 [1,0] e H fun x e H => K x e H gs:=ζ3i (by kernel_rfl) K
theorem tM2 (K:KontM β):pieceM CI call F.ζ0 [1,1,0] e H gs K = pieceK CI call F.ζ0 [1,1,0] e H fun x e H => K x e H gs:=ζ3i (by kernel_rfl) K
theorem tM4 (K:KontM β):pieceM CI call F.ζ0 [1,1,1,1,0,0] e H gs K = pieceK CI call F.ζ0 [1,1,1,1,0,0] e H fun x e H => K x e H gs:=ζ3i (by kernel_rfl) K
theorem tM5 (K:KontM β):pieceM CI call F.ζ0 [1,1,1,1,0,1,0,0] e H gs K = pieceK CI call F.ζ0 [1,1,1,1,0,1,0,0] e H fun x e H => K x e H gs:=ζ3i (by kernel_rfl) K
theorem tM7 (K:KontM β):pieceM CI call F.ζ0 [1,1,1,1,0,1,0,1,0,0,1] e H gs K = pieceK CI call F.ζ0 [1,1,1,1,0,1,0,1,0,0,1] e H fun x e H => K x e H gs:=ζ3i (by kernel_rfl) K
theorem tM9 (K:KontM β):pieceM CI call F.ζ0 [1,1,1,1,0,1,0,1,0,1,1] e H gs K = pieceK CI call F.ζ0 [1,1,1,1,0,1,0,1,0,1,1] e H fun x e H => K x e H gs:=ζ3i (by kernel_rfl) K
theorem tS0 (K:KontM β):pieceM CI call F.ζ0 [1,1,1,1,0,1,0,1] e H gs K = pieceM CI call F.ζ0 [1,1,1,1,0,1,0,1,0] e H gs fun x e H gs => match x with
  | .exit j => if j == 1 then K .normal e H gs else K (.exit j) e H gs
  | x => K x e H gs:=ζho (by kernel_rfl) K
theorem tS1 (K:KontM β):pieceM CI call F.ζ0 [1,1,1,1,0,1,0,1,0] e H gs K = pieceM CI call F.ζ0 [1,1,1,1,0,1,0,1,0,0] e H gs (kSeqM (pieceM CI call F.ζ0 [1,1,1,1,0,1,0,1,0,1]) K):=ζcj (by kernel_rfl) K
theorem tS2 (K:KontM β):pieceM CI call F.ζ0 [1,1,1,1,0,1,0,1,0,0] e H gs K = pieceM CI call F.ζ0 [1,1,1,1,0,1,0,1,0,0,0] e H gs (kSeqM (pieceM CI call F.ζ0 [1,1,1,1,0,1,0,1,0,0,1]) K):=ζcj (by kernel_rfl) K
theorem tS3 (K:KontM β):pieceM CI call F.ζ0 [1,1,1,1,0,1,0,1,0,1] e H gs K = pieceM CI call F.ζ0 [1,1,1,1,0,1,0,1,0,1,0] e H gs (kSeqM (pieceM CI call F.ζ0 [1,1,1,1,0,1,0,1,0,1,1]) K):=ζcj (by kernel_rfl) K
theorem pM3 (a4 a5:Value) (K:KontM β):pieceM CI call F.ζ0 [1,1,1,0] [(4,a4),(5,a5)] H gs K = (endM [4,5,6] ((mapMk H gs).bind fun q h1 => (plM (newP [.map none] h1) q.2).bind fun r h2 => (plM (stR 1 r.1 q.1 h2) r.2).bind fun s h3 => .ok ([(4,a4),(5,a5),(6,r.1),(27,q.1)],s.2) h3)).bind fun r H' => K r.1.1 r.1.2 H' r.2 :=
 ζf6 (take_m3 call _ a4 a5 H gs) K
theorem pM6 (a5 a6 a8:Value) (K:KontM β):pieceM CI call F.ζ0 [1,1,1,1,0,1,0,1,0,0,0] [(5,a5),(6,a6),(8,a8)] H gs K = (endM [5,6,8,10] ((plM (ld1 a6 H) gs).bind fun m h1 => (mapLk m.1 a8 h1 m.2).bind fun q h2 => (plM (extractR q.1 0 h2) q.2).bind fun x h3 => (plM (extractR q.1 1 h3) x.2).bind fun y h4 => (plM (newP [] h4) y.2).bind fun r h5 => (plM (stR 0 r.1 x.1 h5) r.2).bind fun s h6 =>
   .ok ([(5,a5),(6,a6),(8,a8),(9,r.1),(10,y.1),(35,q.1),(36,m.1),(37,a8),(38,q.1),(39,x.1),(40,y.1)],s.2) h6)).bind fun r H' => K r.1.1 r.1.2 H' r.2 :=
 ζf6 (take_m6 call _ a5 a6 a8 H gs) K
theorem pM8 (a5 a6 a8 a41:Value) (K:KontM β):pieceM CI call F.ζ0 [1,1,1,1,0,1,0,1,0,1,0] [(5,a5),(6,a6),(8,a8),(41,a41)] H gs K = (endM [5,8] ((plM (ld1 a6 H) gs).bind fun m h1 => (mapUp m.1 a8 (.agg #[]) h1 m.2).bind fun q h2 => .ok ([(5,a5),(6,a6),(8,a8),(41,a41),(42,m.1),(43,a8),(44,.agg #[])],q.2) h2)).bind fun r H' => K r.1.1 r.1.2 H' r.2 :=
 ζf6 (take_m8 call _ a5 a6 a8 a41 H gs) K
end
theorem ζh3 (k:Nat) (call:Caller) (a4 a5 a6 id at_:Value) (H:Heap) (gs:Gs):takeRound call [(4,a4),(5,a5),(6,a6),(33,id),(34,at_)] H gs =
  pieceM CI call F.ζ0 [1,1,1,1,0,1,0,1] [(5,a5),(6,a6),(8,at_)] H gs fun x _ H gs => .ok (x,gs) H :=
 ζhr fun K => by rw [tM5,ζfk k]
theorem ζn7 (k:Nat) (a4 a5 id:Value) (pM G:Nat) (n:Int) (ks:List Int) (hn:n ∈ ks) (H:Heap) (hM:H.get pM = some ⟨[.map (some G)],1,false⟩) :
  takeRound (R (T k)) [(4,a4),(5,a5),(6,ptrV pM),(33,id),(34,.int .i64 n)] H (some (G,ks)) = .ok (.normal,some (G,ks)) (H.push ⟨[],1,false⟩):=by
 rw [ζh3 k,tS0,tS1,tS2,pM6];have hl:ld1 (ptrV pM) H = .ok (.map (some G)) H:=by simp [hM]
 simp only [hl,plM,Res.bind_ok,mapLk,Nat.beq_refl,Bool.and_true,cond_true,decide_eq_true hn];have e0:∀ h:Heap,extractR (.tuple #[.agg #[],.bool true]) 0 h = .ok (.agg #[]) h:=fun _ => rfl;have e1:∀ h:Heap,extractR (.tuple #[.agg #[],.bool true]) 1 h = .ok (.bool true) h:=fun _ => rfl;have e2:newP [] H = .ok (ptrV H.n) (H.push ⟨[],1,false⟩):=rfl;have e3:stR 0 (ptrV H.n) (.agg #[]) (H.push ⟨[],1,false⟩) = .ok undef (H.push ⟨[],1,false⟩):=by simp
 simp only [e0,e1,e2,e3,Res.bind_ok,endM];show (kSeqM _ _) .normal [(5,a5),(6,ptrV pM),(8,.int .i64 n),(10,.bool true)] _ _ = _;unfold kSeqM;dsimp only;rw [tM7,ζao k,ζap k];unfold kSeq;dsimp only;rw [ζaq k,ζfl k];rfl
theorem ζn6 (k:Nat) (a4 id:Value) (pM pT pB G:Nat) (n:Int) (hn0:0 ≤ n ∧ n < 4294967296) (ks:List Int) (hn:n ∉ ks) (tab:Int × List Pt) (d:List Int) (hd:Byt d) (hl:d.length < 2 ^ 31) (H:Heap) (hM:H.get pM = some ⟨[.map (some G)],1,false⟩) (hT:H.get pT = some ⟨[ptrV pB],1,false⟩) (hB:H.get pB = some ⟨[tabV tab,lv encB d],1,false⟩) :
  takeRound (R (T k)) [(4,a4),(5,ptrV pT),(6,ptrV pM),(33,id),(34,.int .i64 n)] H (some (G,ks)) = match (uS d n 4).bind fun m => rowsS d (n + 4) m 4 with
   | some _ => .ok (.normal,some (G,n :: ks)) (H.push ⟨[],1,false⟩)
   | none => .panic failV (H.push ⟨[],1,false⟩):=by
 rw [ζh3 k,tS0,tS1,tS2,pM6];have hl1:ld1 (ptrV pM) H = .ok (.map (some G)) H:=by simp [hM]
 have hM':(H.push ⟨[],1,false⟩).get pM = some ⟨[.map (some G)],1,false⟩:=((Ext.refl H).push _).get hM;have hT':(H.push ⟨[],1,false⟩).get pT = some ⟨[ptrV pB],1,false⟩:=((Ext.refl H).push _).get hT;have hB':(H.push ⟨[],1,false⟩).get pB = some ⟨[tabV tab,lv encB d],1,false⟩:=((Ext.refl H).push _).get hB;have hl2:ld1 (ptrV pM) (H.push ⟨[],1,false⟩) = .ok (.map (some G)) (H.push ⟨[],1,false⟩):=by simp [hM']
 simp only [hl1,plM,Res.bind_ok,mapLk,Nat.beq_refl,Bool.and_true,cond_true,decide_eq_false hn];have e0:∀ h:Heap,extractR (.tuple #[.agg #[],.bool false]) 0 h = .ok (.agg #[]) h:=fun _ => rfl;have e1:∀ h:Heap,extractR (.tuple #[.agg #[],.bool false]) 1 h = .ok (.bool false) h:=fun _ => rfl;have e2:newP [] H = .ok (ptrV H.n) (H.push ⟨[],1,false⟩):=rfl;have e3:stR 0 (ptrV H.n) (.agg #[]) (H.push ⟨[],1,false⟩) = .ok undef (H.push ⟨[],1,false⟩):=by simp
 simp only [e0,e1,e2,e3,Res.bind_ok,endM];show (kSeqM _ _) .normal [(5,ptrV pT),(6,ptrV pM),(8,.int .i64 n),(10,.bool false)] _ _ = _;unfold kSeqM;dsimp only;rw [tM7,ζao k,ζap k];unfold kSeq;dsimp only;rw [ζaq k,ζfm k];have cf:∀ x y:Res (AExit × Gs),condV (some (.bool false)) x y = y:=fun _ _ => rfl;rw [cf];dsimp only;rw [tS3,pM8];simp only [hl2,plM,Res.bind_ok,mapUp,Nat.beq_refl,Bool.and_true,cond_true,decide_eq_false hn,Bool.not_false,endM,Array.size_empty];show (kSeqM _ _) .normal [(5,ptrV pT),(8,.int .i64 n)] _ _ = _;unfold kSeqM;dsimp only;rw [tM9,ζfn k];have hU:=fun H' => U32_run k (Sl.lv H' 1 d) hd n (by omega);have hR:=fun m H' => Rows_lv k d (n + 4) m 4 (by omega) H';have w1:IntKind.i64.wrap (n + 4) = n + 4:=wrap_i64 (by omega) (by omega);have vb:veq (vwB d) (vwB d) = true:=veq_agg (l:=[lv encB d]) fun u hu => by simp at hu; subst hu; exact veq_B d
 cases h:uS d n 4 with
 | none =>
  rw [h] at hU;simp -implicitDefEqProofs (disch:=omega) [hT',hB',w1,hU,orF]
 | some m =>
  rw [h] at hU;have hR:=hR m;cases h2:rowsS d (n + 4) m 4 with
  | none =>
   rw [h2] at hR;simp -implicitDefEqProofs (disch:=omega) [hT',hB',w1,hU,hR,orF,vb,h2]
  | some r =>
   rw [h2] at hR;simp -implicitDefEqProofs (disch:=omega) [hT',hB',w1,hU,hR,orF,vb,h2]
end Go.Sw
end
section
namespace Go.Sw
open Go.RowKit
def ptOk (d:List Int) (n:Int):Bool:=((uS d n 4).bind fun m => rowsS d (n + 4) m 4).isSome
def ankS (b:List Int) (g:Int):Option ATab:=(uS b 0 2).bind fun z => if z = 0 then (uS b 4 4).bind fun w => (restS b w).bind fun of => (lookS of g 2).bind fun tab => (uS b 8 4).bind fun w2 => (restS b w2).bind fun d =>
 if (tab.2.flatMap ptL).all (fun x => ptOk d (x.getD 1 0)) then some ⟨tab,d⟩ else none else none
theorem Flat.ank (t:ATab):Flat (ankV t):=.boxV (.cons (Flat.tab t.of) (.cons (Flat.B _) .nil))
theorem ptL_mem {ps:List Pt} (hok:∀ p,p ∈ ps → p.ok) {x:List Int} (h:x ∈ ps.flatMap ptL):∃ id n,x = [id,n] ∧ 0 ≤ n ∧ n < 4294967296:=by
 obtain ⟨p,hp,hx⟩:=List.mem_flatMap.1 h;unfold ptL at hx;obtain ⟨j,hj,rfl⟩:=List.mem_map.1 hx;obtain ⟨x,hx,h0,h1⟩:=Pt.num_some (hok p hp) (id:=p.first + (j:Nat)) (by omega);exact ⟨_,_,rfl,by rw [hx]; exact ⟨h0,h1⟩⟩
theorem ptL_has {ps:List Pt} {id n:Int} (h:getS ps id = some n):[id,n] ∈ ps.flatMap ptL:=by
 unfold getS at h;obtain ⟨p,hp,h⟩:=Option.bind_eq_some_iff.1 h;split at h
 ·rename_i hf;have hm:=List.mem_of_find?_eq_some hp;have hl:=List.find?_some hp;simp at hl;refine List.mem_flatMap.2 ⟨p,hm,List.mem_map.2 ⟨(id - p.first).toNat,List.mem_range.2 (by omega),?_⟩⟩;rw [show p.first + (((id - p.first).toNat:Nat):Int) = id by omega,h];rfl
 ·cases h
theorem ζed (k:Nat) (a4:Value) (pM pT pB G:Nat) (tab:Int × List Pt) (d:List Int) (hd:Byt d) (hl:d.length < 2 ^ 31):∀ (l:List (List Int)),(∀ x,x ∈ l → ∃ id n,x = [id,n] ∧ 0 ≤ n ∧ n < 4294967296) → ∀ (ks:List Int),(∀ n,n ∈ ks → ptOk d n = true) → ∀ (H:Heap),
  H.get pM = some ⟨[.map (some G)],1,false⟩ → H.get pT = some ⟨[ptrV pB],1,false⟩ → H.get pB = some ⟨[tabV tab,lv encB d],1,false⟩ →
  (l.all (fun x => ptOk d (x.getD 1 0)) = true ∧ ∃ H',rangeM (takeRound (R (T k))) [33,34] [(4,a4),(5,ptrV pT),(6,ptrV pM)] l H (some (G,ks)) = .ok (.normal,[(4,a4),(5,ptrV pT),(6,ptrV pM)]) H' ∧ Ext H H') ∨
  (l.all (fun x => ptOk d (x.getD 1 0)) = false ∧ ∃ H',rangeM (takeRound (R (T k))) [33,34] [(4,a4),(5,ptrV pT),(6,ptrV pM)] l H (some (G,ks)) = .panic failV H' ∧ Ext H H')
 | [],_,ks,_,H,_,_,_ => .inl ⟨rfl,H,rfl,Ext.refl H⟩
 | x :: l,hx,ks,hks,H,hM,hT,hB => by
  obtain ⟨id,n,rfl,h0,h1⟩:=hx x (by simp);have hx1:Ext H (H.push ⟨[],1,false⟩):=(Ext.refl H).push _;have ih:=fun ks hks => ζed k a4 pM pT pB G tab d hd hl l (fun y hy => hx y (by simp [hy])) ks hks (H.push ⟨[],1,false⟩) (hx1.get hM) (hx1.get hT) (hx1.get hB);have hput:putAll [(4,a4),(5,ptrV pT),(6,ptrV pM)] [33,34] [id,n] = [(4,a4),(5,ptrV pT),(6,ptrV pM),(33,.int .i64 id),(34,.int .i64 n)]:=rfl;have hlen:Nat.beq [id,n].length [33,34].length = true:=rfl;unfold rangeM;rw [hlen,cond_true,hput];by_cases hn:n ∈ ks
  ·rw [ζn7 k a4 (ptrV pT) (.int .i64 id) pM G n ks hn H hM];have hp:=hks n hn;rw [Res.bind_ok];rcases ih ks hks with ⟨i1,H',i2,i3⟩ | ⟨i1,H',i2,i3⟩
   ·exact .inl ⟨by simp only [List.all_cons,i1]; simpa using hp,H',i2,hx1.trans i3⟩
   ·exact .inr ⟨by simp only [List.all_cons,i1,Bool.and_false],H',i2,hx1.trans i3⟩
  ·rw [ζn6 k a4 (.int .i64 id) pM pT pB G n ⟨h0,h1⟩ ks hn tab d hd hl H hM hT hB];cases hp:(uS d n 4).bind fun m => rowsS d (n + 4) m 4 with
   | none => exact .inr ⟨by simp [ptOk,hp],_,rfl,hx1⟩
   | some r =>
    have hpn:ptOk d n = true:=by unfold ptOk; rw [hp]; rfl
    rw [Res.bind_ok];rcases ih (n :: ks) (fun m hm => by rcases List.mem_cons.1 hm with rfl | hm; exact hpn; exact hks m hm) with ⟨i1,H',i2,i3⟩ | ⟨i1,H',i2,i3⟩
    ·exact .inl ⟨by simp only [List.all_cons,i1]; simpa using hpn,H',i2,hx1.trans i3⟩
    ·exact .inr ⟨by simp only [List.all_cons,i1,Bool.and_false],H',i2,hx1.trans i3⟩
theorem Ext.dead {H0 H:Heap} (h:Ext H0 H):Ext H0 (deadH H):=⟨Nat.le_succ_of_le h.1,fun c hc hs => (ζ9l H c).trans (h.2 c hc hs)⟩
theorem ζkc (k:Nat) (a0 a1:Value) (h:Heap):R (T k) F.ζ0 [a0,a1] h = nrm .fz h (bodyF CI (R (T k)) F.ζ0 [a0,a1] h) :=
 (R_sp (t:=T k) (T_scott k) (s:=fun call args H => bodyF CI call F.ζ0 args H) (by kernel_rfl) [a0,a1] h).trans (by
  show nrm ((T k).md F.ζ0) h _ = _;rfl)
theorem ζh8 (k:Nat) (b:List Int) (hb:Byt b) (g:Int) (hg:1 ≤ g ∧ g ≤ 65535) (hl:b.length < 2 ^ 31) (H:Heap):R (T k) F.ζ0 [vwB b,.int .i64 g] H = orF (ankS b g) ankV H:=by
 rw [ζkc];refine fz_orF ?_ fun _ _ => (Flat.ank _).alive;have hx:Ext H (H.push ⟨[lv encB b],1,false⟩):=(Ext.refl H).push _;have hvb:veq (vwB b) (vwB b) = true:=veq_agg (l:=[lv encB b]) fun u hu => by simp at hu; subst hu; exact veq_B b
 have gH:(H.push ⟨[lv encB b],1,false⟩).get H.n = some ⟨[lv encB b],1,false⟩:=ζd _ _ _ rfl;rw [ζnk,tF0,tM0,ζha k];simp -implicitDefEqProofs (disch:=omega) only [boxR_vw,newP,Res.bind_ok,kSeqF];rw [tF1,tM1,ζhb k];unfold ankS;simp -implicitDefEqProofs (disch:=omega) [kSeqF];refine Cp.call (U16_run k (Sl.lv _ 1 b) hb 0 (by omega)) hx fun z hz => ?_;have hzb:=uS_two hb hz;rw [bin_eql,Res.bind_ok,show (z == 0) = decide (z = 0) from rfl];refine Cp.need hx fun h0 => ?_;simp -implicitDefEqProofs (disch:=omega) only [kSeqF];rw [tF2,tM2,ζhc k];simp -implicitDefEqProofs (disch:=omega) [gH,hvb];refine Cp.callT (U32_run k (Sl.lv _ 1 b) hb 4 (by omega)) (fun _ => ⟨_,by simp -implicitDefEqProofs (disch:=omega) [gH,hvb],hx⟩) fun w hw => ?_;have hwb:=uS_four hb hw;simp -implicitDefEqProofs (disch:=omega) [gH,hvb];refine Cp.callT (Rest_lv k b w (by omega) (by omega) _) (fun _ => ⟨_,by simp -implicitDefEqProofs (disch:=omega) [gH,hvb],hx⟩) fun of hof => ?_;have lof:=ζ4l hof;simp -implicitDefEqProofs (disch:=omega) [gH,hvb];refine Cp.callT (ζce k (Sl.lv _ 1 of) (hb.rest hof) g 2 hg.1 hg.2 (.inl rfl) (by omega)) (fun _ => ⟨_,by simp -implicitDefEqProofs (disch:=omega) [gH,hvb],hx⟩) fun tab htab => ?_;have hok:=lookS_ok (hb.rest hof) hg.1 hg.2 (.inl rfl) htab;have hpl:=ζf0 (hb.rest hof) htab;simp -implicitDefEqProofs (disch:=omega) [gH,hvb];refine Cp.callT (U32_run k (Sl.lv _ 1 b) hb 8 (by omega)) (fun _ => ⟨_,by simp -implicitDefEqProofs (disch:=omega) [gH,hvb],hx⟩) fun w2 hw2 => ?_;have hwb2:=uS_four hb hw2;simp -implicitDefEqProofs (disch:=omega) [gH,hvb];refine Cp.callT (Rest_lv k b w2 (by omega) (by omega) _) (fun _ => ⟨_,by simp -implicitDefEqProofs (disch:=omega) [gH,hvb],hx⟩) fun d hd => ?_;have ld:=ζ4l hd;simp -implicitDefEqProofs (disch:=omega) [gH,hvb];have hx3:Ext H (((H.push ⟨[lv encB b],1,false⟩).push ⟨[tabV tab,lv encB d],1,false⟩).push ⟨[ptrV (H.n + 1)],1,false⟩):=(hx.push _).push _;have hB:(((H.push ⟨[lv encB b],1,false⟩).push ⟨[tabV tab,lv encB d],1,false⟩).push ⟨[ptrV (H.n + 1)],1,false⟩).get (H.n + 1) = some ⟨[tabV tab,lv encB d],1,false⟩:=by simp
 have hT:(((H.push ⟨[lv encB b],1,false⟩).push ⟨[tabV tab,lv encB d],1,false⟩).push ⟨[ptrV (H.n + 1)],1,false⟩).get (H.n + 2) = some ⟨[ptrV (H.n + 1)],1,false⟩:=by simp
 generalize hH3:((H.push ⟨[lv encB b],1,false⟩).push ⟨[tabV tab,lv encB d],1,false⟩).push ⟨[ptrV (H.n + 1)],1,false⟩ = H3 at hx3 hB hT ⊢;simp -implicitDefEqProofs only [kSeqF];rw [tF3,pM3];have e1:∀ h:Heap,newP [.map none] h = .ok (ptrV h.n) (h.push ⟨[.map none],1,false⟩):=fun _ => rfl;have e2:stR 1 (ptrV (deadH H3).n) (.map (some H3.n)) ((deadH H3).push ⟨[.map none],1,false⟩) = .ok undef ((deadH H3).push ⟨[.map (some H3.n)],1,false⟩):=by
  have c1:(Value.map (some H3.n)).cells = #[.map (some H3.n)]:=rfl;have c2:storable (.map (some H3.n)) = true:=rfl;simp [c1,c2]
 simp only [mapMk,plM,Res.bind_ok,e1,e2,endM];show Cp failV (Ext H) ((kSeqF _ _) .normal [(4,.pointer none),(5,ptrV (H.n + 2)),(6,ptrV (deadH H3).n)] _ _) _ _;have hx4:Ext H3 ((deadH H3).push ⟨[.map (some H3.n)],1,false⟩):=(Ext.refl H3).dead.push _;have hM:((deadH H3).push ⟨[.map (some H3.n)],1,false⟩).get (deadH H3).n = some ⟨[.map (some H3.n)],1,false⟩:=ζd _ _ _ rfl;have hB:=hx4.get hB;have hT:=hx4.get hT;have hx4:=hx3.trans hx4;generalize ((deadH H3).push ⟨[.map (some H3.n)],1,false⟩) = H4 at hx4 hM hB hT ⊢;simp -implicitDefEqProofs only [kSeqF];rw [tF4,tF5,tM4,ζfj k];have hall:=fun H' => ζjr k tab H';simp -implicitDefEqProofs (disch:=omega) [hT,hB,hall];have hx5:Ext H4 (H4.push ⟨[tabV tab],1,false⟩):=(Ext.refl H4).push _;have hit:=itS_tab tab hok.2.1 hpl H4.n (H4.push ⟨[tabV tab],1,false⟩) (ζd _ _ _ rfl);simp -implicitDefEqProofs only [kSeqF];rw [tF6,tF7,hit];simp only [opt,Res.bind_ok];have hrd:=ζed k (.pointer none) (deadH H3).n (H.n + 2) (H.n + 1) H3.n tab d (hb.rest hd) (by omega) (tab.2.flatMap ptL) (fun x hx => ptL_mem hok.2.1 hx) [] (fun n hn => by cases hn) (H4.push ⟨[tabV tab],1,false⟩) (hx5.get hM) (hx5.get hT) (hx5.get hB);have hiff:((tab.2.flatMap ptL).all (fun x => ptOk d (x.getD 1 0)) = true) ↔ (∀ (x:Pt),x ∈ tab.snd → ∀ (x_1:List Int),x_1 ∈ ptL x → ptOk d (x_1[1]?.getD 0) = true):=by simp
 rcases hrd with ⟨h1,H',h2,h3⟩ | ⟨h1,H',h2,h3⟩
 ·rw [if_pos (hiff.1 h1)];show Cp failV (Ext H) ((rangeM (takeRound (R (T k))) [33,34] [(4,.pointer none),(5,ptrV (H.n + 2)),(6,ptrV (deadH H3).n)] _ _ _).bind _) _ _;rw [h2,Res.bind_ok];have hT':=h3.get (hx5.get hT);have hB':=h3.get (hx5.get hB);have hx6:=(hx4.trans hx5).trans h3;unfold kBlock kSeq;dsimp only;rw [ζfo k,ζfp k];simp -implicitDefEqProofs (disch:=omega) [hT'];unfold kSeq;dsimp only;rw [ζfq k,ζfr];refine .ok hx6 ?_;exact ⟨_,fz_box (by omega) hB' (ζ1s (v:=tabV tab) (u:=tabV tab) (L1:=[]) rfl (mapF_one (v:=lv encB d) (u:=lv encB d) (L:=[]) rfl))⟩
 ·rw [if_neg (fun hc => by rw [hiff.2 hc] at h1; cases h1)];show Cp failV (Ext H) ((rangeM (takeRound (R (T k))) [33,34] [(4,.pointer none),(5,ptrV (H.n + 2)),(6,ptrV (deadH H3).n)] _ _ _).bind _) _ _;rw [h2];exact ⟨H',rfl,(hx4.trans hx5).trans h3⟩
theorem ankS_ok {b:List Int} (hb:Byt b) {g:Int} (h1:1 ≤ g) (h2:g ≤ 65535) (hl:b.length < 2 ^ 31) {t:ATab} (h:ankS b g = some t):t.ok:=by
 unfold ankS at h;obtain ⟨z,hz,h⟩:=Option.bind_eq_some_iff.1 h;split at h
 ·obtain ⟨w,hw,h⟩:=Option.bind_eq_some_iff.1 h;obtain ⟨of,hof,h⟩:=Option.bind_eq_some_iff.1 h;obtain ⟨tab,htab,h⟩:=Option.bind_eq_some_iff.1 h;obtain ⟨w2,hw2,h⟩:=Option.bind_eq_some_iff.1 h;obtain ⟨d,hd,h⟩:=Option.bind_eq_some_iff.1 h;split at h
  ·rename_i hall;injection h with h;subst h;have hok:=lookS_ok (hb.rest hof) h1 h2 (.inl rfl) htab;have:=ζ4l hof;have ld:=ζ4l hd;refine ⟨hok.2.1,hok.2.2,ζf0 (hb.rest hof) htab,hb.rest hd,by dsimp only; omega,fun id at_ hg => ?_⟩;dsimp only at hg ⊢;have hm:=ptL_has hg;obtain ⟨id',n,e,b0,b1⟩:=ptL_mem hok.2.1 hm;injection e with e1 e2;injection e2 with e2 _;subst e1 e2;have hp:=List.all_eq_true.1 hall _ hm;unfold ptOk at hp;obtain ⟨r,hr⟩:=Option.isSome_iff_exists.1 hp;obtain ⟨m,hm,hr⟩:=Option.bind_eq_some_iff.1 hr;have hr:rowsS d (at_ + 4) m 4 = some r:=hr;have hr:=(ζa0 (by decide)).1 hr;have hm':uS d at_ 4 = some m:=hm;exact ⟨b0,m,hm',by omega⟩
  ·cases h
 ·cases h
end Go.Sw
end
section
namespace Go.Sw
open Go.RowKit
def ankrP (o:Option ATab):Value:=match o with | some t => ankV t | none => .pointer none
theorem ζkb (o:Option ATab):Flat (ankrP o):=by
 cases o with
 | none => exact .nilPtr
 | some t => exact Flat.ank t
theorem ζhd (k:Nat) {H:Heap} (b:List Int) (hb:Byt b) (g:Int) (hg:1 ≤ g ∧ g ≤ 65535) (hl:b.length < 2 ^ 31) (p2 p3 p4:Nat) (old:Value)
  (h2:H.get p2 = some ⟨[lv encB b],1,false⟩) (h3:H.get p3 = some ⟨[.int .i64 g],1,false⟩) (h4:H.get p4 = some ⟨[old],1,false⟩) (ht:∀ H',R (T k) F.ζ0 [vwB b,.int .i64 g] H' = orF (ankS b g) ankV H') :
  R (T k) F.ζ21 [ptrV p2,ptrV p3,ptrV p4] H = match ankS b g with
   | some t => .ok (.tuple #[]) (H.set p4 (some ⟨[ankV t],1,false⟩))
   | none => .panic failV H:=by
 rw [ζd5];have ht:=ht H;cases h:ankS b g with
 | none =>
  rw [h] at ht;refine ζv ⟨H,?_,Ext.refl H⟩ Flat.fail.alive;simp -implicitDefEqProofs (disch:=omega) [ζ21,h2,h3,ht]
 | some x =>
  rw [h] at ht;simp -implicitDefEqProofs (disch:=omega) [ζ21,h2,h3,h4,ht]
def ankrO (b:List Int) (g:Int):Option ATab:=if 1 ≤ g ∧ g ≤ 65535 then ankS b g else none
def ankrN (b:List Int) (g:Int):Int:=if 1 ≤ g ∧ g ≤ 65535 then (if (ankS b g).isSome then 0 else 2) else 1
theorem ζh7 (k:Nat) {H:Heap} {v:Value} {b:List Int} (hv:Sl H 1 v encB b) (hb:Byt b) (g:Int) (hl:b.length ≤ 2 ^ 30) (ht:(1 ≤ g ∧ g ≤ 65535) → ∀ H',R (T k) F.ζ0 [vwB b,.int .i64 g] H' = orF (ankS b g) ankV H') :
  R (T k) F.ζ57 [v,.int .i64 g] H = .ok (.tuple #[ankrP (ankrO b g),.int .i64 (ankrN b g)]) H:=by
 rw [ζj6];have hx2:=(Ext.refl H).push ⟨[.int .i64 g],1,false⟩;have al:∀ o n,Alive H (.tuple #[ankrP o,.int .i64 n]):=fun o n => (Flat.tupleL (l:=[ankrP o,.int .i64 n]) (.cons (ζkb o) (.cons (.int _ _) .nil))).alive;have fz:∀ H' o n,fzV H.n H' fzDepth (.tuple #[ankrP o,.int .i64 n]) = some (.tuple #[ankrP o,.int .i64 n],[]):=fun H' o n => by
  cases o <;> rfl
 by_cases hgg:1 ≤ g ∧ g ≤ 65535
 ·have c1:¬ g < 1:=by omega
  have c2:¬ g > 65535:=by omega
  have hx3:=hx2.push ⟨[.pointer none],1,false⟩;have o3:=Of_run k (hv.up hx3);have by3:=ζhx k (hv.up hx3) hl;have o4:=fun H => Of_lv k b H;have hin:=ζhd k (H:=((H.push ⟨[.int .i64 g],1,false⟩).push ⟨[.pointer none],1,false⟩).push ⟨[lv encB b],1,false⟩) b hb g hgg (by omega) (H.n + 2) H.n (H.n + 1) (.pointer none) (by simp) (by simp) (by simp) (ht hgg);cases hlk:ankS b g with
  | none =>
   rw [hlk] at hin;have ht:=Try_no k F.ζ21 #[ptrV (H.n + 2),ptrV H.n,ptrV (H.n + 1)] hin;refine nrm_fz (H':=((H.push ⟨[.int .i64 g],1,false⟩).push ⟨[.pointer none],1,false⟩).push ⟨[lv encB b],1,false⟩) (v:=.tuple #[ankrP none,.int .i64 2]) ?_ (by unfold ankrO ankrN; rw [if_pos hgg,if_pos hgg,hlk]; exact fz _ _ _) (hx3.push _) (al _ _);simp -implicitDefEqProofs (disch:=omega) [ζ57,c1,c2,o3,by3,o4,ht,ankrP]
  | some x =>
   rw [hlk] at hin;have ht:=Try_ok k F.ζ21 #[ptrV (H.n + 2),ptrV H.n,ptrV (H.n + 1)] hin;refine nrm_fz (H':=((H.push ⟨[.int .i64 g],1,false⟩).push ⟨[ankV x],1,false⟩).push ⟨[lv encB b],1,false⟩) (v:=.tuple #[ankrP (some x),.int .i64 0]) ?_ (by unfold ankrO ankrN; rw [if_pos hgg,if_pos hgg,hlk]; exact fz _ _ _) ((hx2.push _).push _) (al _ _);simp at ht;simp -implicitDefEqProofs (disch:=omega) [ζ57,c1,c2,o3,by3,o4,ht,ankrP]
 ·refine nrm_fz (H':=(H.push ⟨[.int .i64 g],1,false⟩).push ⟨[.pointer none],1,false⟩) (v:=.tuple #[ankrP none,.int .i64 1]) ?_ (by unfold ankrO ankrN; rw [if_neg hgg,if_neg hgg]; exact fz _ _ _) (hx2.push _) (al _ _);by_cases c1:g < 1
  ·simp -implicitDefEqProofs (disch:=omega) [ζ57,c1,ankrP]
  ·have c2:g > 65535:=by omega
   simp -implicitDefEqProofs (disch:=omega) [ζ57,c1,c2,ankrP]
end Go.Sw
end
section
set_option maxRecDepth 100000
set_option linter.unusedVariables false
namespace Go.Sw
noncomputable section
def ζ46 (k:Nat) (call:Caller):Env → Heap → Res (AExit × Env):=loopB (C k) call F.ζm [1,1,1,1,0,1,0,0]
def ζ60 (k:Nat) (call:Caller):Kont Value:=kBlock 0 (kSeq (pieceK (C k) call F.ζm [1,1,1,1,1]) (kDone Prog (resOf Prog F.ζm)))
def ζ2r (k:Nat) (call:Caller):Env → Heap → Res (AExit × Env):=loopB (C k) call F.ζm [1,1,1,1,0,1,0,0,1,1,0,0,1,1,1,1,0,0]
def ζ61 (k:Nat) (call:Caller):Kont (AExit × Env):=kBlock 2 (kBlock 1 (kSeq (pieceK (C k) call F.ζm [1,1,1,1,0,1,0,0,1,1,1]) (kRound (ownOf (C k) F.ζm [1,1,1,1,0,1,0,0]))))
def ζm (k:Nat) (call:Caller) (a0:Value) (h:Heap):Res Value :=
 (buildSliceR Prog 22 4 [(0,(.int .u8 0)),(1,(.int .u8 0)),(2,(.int .u8 0)),(3,(.int .u8 0))] h).bind fun v1 h2 =>
 (buildSliceR Prog 22 4 [(0,(.int .u8 0)),(1,(.int .u8 0)),(2,(.int .u8 0)),(3,(.int .u8 12))] h2).bind fun v3 h4 =>
 (builtinV Prog .append [22,22] [v1,v3] h4).bind fun v5 h6 =>
 (call F.ζ3 [(.slice none 0 0),(.int .i64 8),(.int .i64 2)] h6).bind fun v7 h8 =>
 (call F.ζ3 [v7,(.int .i64 0),(.int .i64 2)] h8).bind fun v9 h10 =>
 (builtinV Prog .len [70] [a0] h10).bind fun v11 h12 =>
 (call F.ζ3 [v9,v11,(.int .i64 2)] h12).bind fun v13 h14 =>
 (builtinV Prog .len [70] [a0] h14).bind fun v15 h16 =>
 (loopN (ζ46 k call) loopFuel [(3,v5),(4,v13),(5,(.slice none 0 0)),(18,a0),(19,v15),(20,(.int .i64 0))] h16).bind fun r17 h18 =>
 ζ60 k call r17.1 r17.2 h18
theorem ζal (k:Nat) (a0:Value) (h:Heap):R (T k) F.ζm [a0] h = nrm (own k) h (ζm k (R (T k)) a0 h) :=
 (R_body (t:=T k) (T_scott k) (by kernel_rfl) (by kernel_rfl) _ _).trans (by kernel_rfl)
theorem ζ4v (k:Nat) (call:Caller) (a3 a4 a5 a18 a19 a20:Value) (h:Heap):ζ46 k call [(3,a3),(4,a4),(5,a5),(18,a18),(19,a19),(20,a20)] h =
 (binR Prog .lss 3 a20 a19 h).bind fun v19 h20 =>
 condV (some v19) (
 (indexAddrR Prog 70 a18 a20 h20).bind fun v21 h22 =>
 (loadR Prog 130 v21 h22).bind fun v23 h24 =>
 (builtinV Prog .len [22] [a5] h24).bind fun v25 h26 =>
 (call F.ζ3 [a4,v25,(.int .i64 2)] h26).bind fun v27 h28 =>
 (builtinV Prog .len [130] [v23] h28).bind fun v29 h30 =>
 (call F.ζ3 [a5,v29,(.int .i64 4)] h30).bind fun v31 h32 =>
 (builtinV Prog .len [130] [v23] h32).bind fun v33 h34 =>
 (loopN (ζ2r k call) loopFuel [(3,a3),(4,v27),(5,v31),(18,a18),(19,a19),(20,a20),(32,v23),(33,v33),(34,(.int .i64 0))] h34).bind fun r35 h36 =>
 ζ61 k call r35.1 r35.2 h36)
 (
 .ok ((.exit 0),[(3,a3),(4,a4),(5,a5),(18,a18),(19,a19),(20,a20),(21,v19)]) h20) :=
 (loopB_eq _ _).trans (by kernel_rfl)
theorem ζ4w (k:Nat) (call:Caller) (a3 a4 a5 a18 a19 a20 a32 a33 a34:Value) (h:Heap):ζ2r k call [(3,a3),(4,a4),(5,a5),(18,a18),(19,a19),(20,a20),(32,a32),(33,a33),(34,a34)] h =
 (binR Prog .lss 3 a34 a33 h).bind fun v37 h38 =>
 condV (some v37) (
 (indexAddrR Prog 130 a32 a34 h38).bind fun v39 h40 =>
 (loadR Prog 126 v39 h40).bind fun v41 h42 =>
 (allocR Prog 126 h42).bind fun v43 h44 =>
 (storeR Prog 126 v43 v41 h44).bind fun _v45 h46 =>
 (indexAddrR Prog 126 v43 (.int .i64 0) h46).bindN fun v47 h48 =>
 (loadR Prog 125 v47 h48).bindN fun v49 h50 =>
 (convR Prog 125 135 v49 h50).bindN fun v51 h52 =>
 (convR Prog 135 3 v51 h52).bindN fun v53 h54 =>
 (call F.ζ3 [a5,v53,(.int .i64 2)] h54).bindT (fun p57 h58 => (indexAddrR Prog 126 v43 (.int .i64 1) h54).bindN fun v59 h60 => (loadR Prog 125 v59 h60).bindN fun v61 h62 => (convR Prog 125 135 v61 h62).bindN fun v63 h64 => (convR Prog 135 3 v63 h64).bindN fun v65 h66 => chkR ((okVal (loadR Prog 125 v59 h46) v61 && true) && true) (.panic p57 h58)) fun v55 h56 =>
 (indexAddrR Prog 126 v43 (.int .i64 1) h56).bindN fun v67 h68 =>
 (loadR Prog 125 v67 h68).bindN fun v69 h70 =>
 (convR Prog 125 135 v69 h70).bindN fun v71 h72 =>
 (convR Prog 135 3 v71 h72).bindN fun v73 h74 =>
 (call F.ζ3 [v55,v73,(.int .i64 2)] h74).bindT (fun p77 h78 => chkR ((okVal (loadR Prog 125 v67 h46) v69 && true) && true) (.panic p77 h78)) fun v75 h76 =>
 chkR ((okVal (loadR Prog 125 v67 h46) v69 && true) && true) (
 (binR Prog .add 3 a34 (.int .i64 1) h76).bind fun v79 h80 =>
 .ok (.normal,[(3,a3),(4,a4),(5,v75),(18,a18),(19,a19),(20,a20),(32,a32),(33,a33),(34,v79)]) h80))
 (
 .ok ((.exit 2),[(3,a3),(4,a4),(5,a5),(18,a18),(19,a19),(20,a20),(32,a32),(33,a33),(34,a34),(35,v37)]) h38) :=
 (loopB_eq _ _).trans (by kernel_rfl)
theorem ζ7o (k:Nat) (call:Caller) (a3 a4 a5 a18 a19 a20 a21:Value) (h:Heap):ζ60 k call (.exit 0) [(3,a3),(4,a4),(5,a5),(18,a18),(19,a19),(20,a20),(21,a21)] h =
 (builtinV Prog .len [22] [a4] h).bind fun v81 h82 =>
 (binR Prog .add 3 (.int .i64 12) v81 h82).bind fun v83 h84 =>
 (call F.ζ3 [a3,v83,(.int .i64 4)] h84).bind fun v85 h86 =>
 (builtinV Prog .append [22,22] [v85,a4] h86).bind fun v87 h88 =>
 (builtinV Prog .append [22,22] [v87,a5] h88).bind fun v89 h90 =>
 .ok v89 h90:=by kernel_rfl
theorem ζ7p (k:Nat) (call:Caller) (a3 a4 a5 a18 a19 a20 a32 a33 a34 a35:Value) (h:Heap):ζ61 k call (.exit 2) [(3,a3),(4,a4),(5,a5),(18,a18),(19,a19),(20,a20),(32,a32),(33,a33),(34,a34),(35,a35)] h =
 (binR Prog .add 3 a20 (.int .i64 1) h).bind fun v91 h92 =>
 .ok (.normal,[(3,a3),(4,a4),(5,a5),(18,a18),(19,a19),(20,v91)]) h92:=by kernel_rfl
end
end Go.Sw
end
section
namespace Go.Sw
open Go.RowKit
end Go.Sw
end
section
namespace Go.Sw
open Go.RowKit
abbrev enc2 (p:Int × Int):List Value:=[.int .i16 p.1,.int .i16 p.2]
theorem enc2_len (p:Int × Int):(enc2 p).length = 2:=rfl
def ptB (p:Int × Int):List Int:=bytesOf (m16 p.1) 2 ++ bytesOf (m16 p.2) 2
def ptsB (l:List (Int × Int)):List Int:=(l.map ptB).flatten
def glB (l:List (Int × Int)):List Int:=bytesOf l.length 4 ++ ptsB l
def dataB (ls:List (List (Int × Int))):List Int:=(ls.map glB).flatten
def offB (ls:List (List (Int × Int))) (j:Nat):List Int:=bytesOf ((dataB (ls.take j)).length:Nat) 2
def aoffB (ls:List (List (Int × Int))) (n:Nat):List Int:=((List.range n).map (offB ls)).flatten
def ofA (ls:List (List (Int × Int))) (n:Nat):List Int:=(bytesOf 8 2 ++ bytesOf 0 2 ++ bytesOf ls.length 2) ++ aoffB ls n
def ankB (ls:List (List (Int × Int))):List Int:=[0,0,0,0,0,0,0,12] ++ bytesOf (12 + (ofA ls ls.length).length:Nat) 4 ++ ofA ls ls.length ++ dataB ls
theorem ptB_len (p:Int × Int):(ptB p).length = 4:=by simp [ptB]
theorem ptsB_len (l:List (Int × Int)):(ptsB l).length = 4 * l.length:=by
 unfold ptsB;rw [flat_len (z:=4) (fun r hr => by obtain ⟨p,_,rfl⟩:=List.mem_map.1 hr; exact ptB_len p),List.length_map];omega
theorem glB_len (l:List (Int × Int)):(glB l).length = 4 + 4 * l.length:=by unfold glB; rw [List.length_append,ptsB_len,ζo]
theorem ζn1 (l:List (Int × Int)) (p:Int × Int):ptsB (l ++ [p]) = ptsB l ++ ptB p:=by simp [ptsB]
theorem ζkn (ls:List (List (Int × Int))) (l:List (Int × Int)):dataB (ls ++ [l]) = dataB ls ++ glB l:=by simp [dataB]
theorem ζ9k:∀ (ls:List (List (Int × Int))),(∀ l,l ∈ ls → l.length ≤ 30) → (dataB ls).length ≤ ls.length * 124
 | [],_ => by simp [dataB]
 | l :: ls,h => by
  have h1:=ζ9k ls fun x hx => h x (by simp [hx]);have h2:=h l (by simp);have h3:=glB_len l;unfold dataB at h1 ⊢;simp only [List.map_cons,List.flatten_cons,List.length_append,List.length_cons];omega
theorem ζkd (ls:List (List (Int × Int))) (n:Nat):aoffB ls (n + 1) = aoffB ls n ++ offB ls n:=by simp [aoffB,List.range_succ]
theorem ζhz (ls:List (List (Int × Int))) (n:Nat):(aoffB ls n).length = n * 2:=by
 unfold aoffB;rw [flat_len (z:=2) (fun r hr => by obtain ⟨p,_,rfl⟩:=List.mem_map.1 hr; simp [offB]),List.length_map,List.length_range]
theorem ixA2_0 (b:Nat) (h:Heap):ixA 2 1 (.pointer (some ⟨b,0,none⟩)) (.int .i64 0) h = .ok (.pointer (some ⟨b,0,none⟩)) h:=by simp [ixA]
theorem ixA2_1 (b:Nat) (h:Heap):ixA 2 1 (.pointer (some ⟨b,0,none⟩)) (.int .i64 1) h = .ok (.pointer (some ⟨b,1,none⟩)) h:=by simp [ixA]
theorem w24_l2 (k:Nat) {H0 H:Heap} {A B:It} {o:Option Nat} {s5:Value} {lk:List Int} (a3 a4 a18 a19 a20:Value) {v:Value} {l:List (Int × Int)} (hv:Sl H0 2 v enc2 l) (hl:l.length ≤ 30) (hk:lk.length < 2 ^ 29)
  (g:Star H0 H [A,B,itRow o 1 s5 encB lk]) :
  ∃ s' o' zz H',loopN (ζ2r k (R (T k))) loopFuel [(3,a3),(4,a4),(5,s5),(18,a18),(19,a19),(20,a20),(32,v),(33,.int .i64 l.length),(34,.int .i64 0)] H =
   .ok (.exit 2,[(3,a3),(4,a4),(5,s'),(18,a18),(19,a19),(20,a20),(32,v),(33,.int .i64 l.length),(34,zz),(35,.bool false)]) H' ∧ Star H0 H' [A,B,itRow o' 1 s' encB (lk ++ ptsB l)]:=by
 obtain ⟨xx,e',H1,hr1,rfl,s',o',rfl,g1⟩:=loop_up (body:=ζ2r k (R (T k))) l.length
  (fun j e H' => ∃ s' o',e = [(3,a3),(4,a4),(5,s'),(18,a18),(19,a19),(20,a20),(32,v),(33,.int .i64 l.length),(34,.int .i64 j)] ∧ Star H0 H' [A,B,itRow o' 1 s' encB (lk ++ ptsB (l.take j))])
  (fun xx e H' => xx = .exit 2 ∧ ∃ s' o',e = [(3,a3),(4,a4),(5,s'),(18,a18),(19,a19),(20,a20),(32,v),(33,.int .i64 l.length),(34,.int .i64 l.length),(35,.bool false)] ∧ Star H0 H' [A,B,itRow o' 1 s' encB (lk ++ ptsB l)])
  (e0:=[(3,a3),(4,a4),(5,s5),(18,a18),(19,a19),(20,a20),(32,v),(33,.int .i64 l.length),(34,.int .i64 0)]) (H0:=H) ⟨s5,o,rfl,by simpa [ptsB] using g⟩ (by omega)
  (fun j e H' hj ⟨s',o',he,g⟩ => by
   subst he;have hjl:(j:Int) < l.length:=by omega
   obtain ⟨p,hp⟩:∃ p,l[j]? = some p:=⟨_,List.getElem?_eq_getElem hj⟩
   obtain ⟨q,i1,i2⟩:=((hv.up g.ext).rd (by decide) enc2_len).2 j p hp;have hlen:(lk ++ ptsB (l.take j)).length < 2 ^ 30:=by rw [List.length_append,ptsB_len,List.length_take]; omega
   have g:=g.push ⟨enc2 p,1,false⟩;simp only [List.cons_append,List.nil_append] at g;have b1:=m16_lt p.1;have b2:=m16_lt p.2;have hw1:=wrap16 p.1;have hw2:=wrap16 p.2;have hb:=g.get 3 rfl;obtain ⟨s1,o1,H1,e1,g1⟩:=Put_star k g 2 rfl (m16 p.1) 2 2 rfl b1.1 (by omega) (by omega) hlen;simp only [List.set_cons_zero,List.set_cons_succ] at g1;have hb1:=g1.get 3 rfl;obtain ⟨s2,o2,H2,e2,g2⟩:=Put_star k g1 2 rfl (m16 p.2) 2 2 rfl b2.1 (by omega) (by omega) (by rw [List.length_append,List.length_append,ptsB_len,List.length_take,ζo]; omega);simp only [List.set_cons_zero,List.set_cons_succ] at g2;have w1:IntKind.i64.wrap (m16 p.1) = m16 p.1:=wrap_i64 (by omega) (by omega);have w2:IntKind.i64.wrap (m16 p.2) = m16 p.2:=wrap_i64 (by omega) (by omega);have hb2:=g2.get 3 rfl;refine .inl ⟨_,H2,?_,s2,o2,rfl,by rw [ζ2j hp,ζn1]; simpa [ptB] using g2.take 3⟩;rw [ζ4w];simp -implicitDefEqProofs (disch:=omega) [hjl,i1,i2,hb,hb1,hb2,ixA2_0,ixA2_1,hw1,hw2,w1,w2,e1,e2])
  (fun e H' ⟨s',o',he,g⟩ => by
   subst he;rw [List.take_length] at g;refine ⟨.exit 2,_,H',?_,by simp,rfl,s',o',rfl,g⟩;rw [ζ4w];simp -implicitDefEqProofs)
 exact ⟨s',o',_,H1,hr1,g1⟩
abbrev encV (x:List (Int × Int) × Value):List Value:=[x.2]
theorem encV_len (x:List (Int × Int) × Value):(encV x).length = 1:=rfl
structure PtsSl (H:Heap) (ls:List (List (Int × Int))) (v:Value) (rv:List (List (Int × Int) × Value)):Prop where
 fst:rv.map Prod.fst = ls
 each:∀ x,x ∈ rv → Sl H 2 x.2 enc2 x.1
 all:Sl H 1 v encV rv
theorem PtsSl.up {H H':Heap} {ls:List (List (Int × Int))} {v:Value} {rv:List (List (Int × Int) × Value)} (h:PtsSl H ls v rv) (he:Ext H H'):PtsSl H' ls v rv:=⟨h.fst,fun x hx => (h.each x hx).up he,h.all.up he⟩
set_option maxHeartbeats 1000000 in
theorem ζhv (k:Nat) {H:Heap} {ls:List (List (Int × Int))} {v:Value} {rv:List (List (Int × Int) × Value)} (hP:PtsSl H ls v rv) (hn:ls.length ≤ 30) (hl:∀ l,l ∈ ls → l.length ≤ 30) :
  ∃ s o H',ζm k (R (T k)) v H = .ok s H' ∧ Star H H' [itRow o 1 s encB (ankB ls)]:=by
 have hrvl:rv.length = ls.length:=by rw [← hP.fst]; simp
 have hvl:=fun H' => hP.all.len H';rw [hrvl] at hvl;have dl:=fun j => ζ9k (ls.take j) fun l h => hl l (List.mem_of_mem_take h);have ho1:OwnO (H.push ⟨[.int .u8 0,.int .u8 0,.int .u8 0,.int .u8 0],1,false⟩) (some H.n) 1 (.slice (some ⟨H.n,0,none⟩) 4 4) encB [0,0,0,0]:=.inr ⟨H.n,rfl,rfl,ζd _ _ _ rfl⟩;have g:=(Star.nil H).more_row ((Ext.refl H).push ⟨[.int .u8 0,.int .u8 0,.int .u8 0,.int .u8 0],1,false⟩) ho1 (fun b hb => by injection hb with hb; subst hb; simp);have ho2:OwnO ((H.push ⟨[.int .u8 0,.int .u8 0,.int .u8 0,.int .u8 0],1,false⟩).push ⟨[.int .u8 0,.int .u8 0,.int .u8 0,.int .u8 12],1,false⟩) (some (H.n + 1)) 1 (.slice (some ⟨H.n + 1,0,none⟩) 4 4) encB [0,0,0,12]:=.inr ⟨H.n + 1,rfl,rfl,ζd _ _ _ (by simp)⟩;have g:=g.more_row ((Ext.refl _).push ⟨[.int .u8 0,.int .u8 0,.int .u8 0,.int .u8 12],1,false⟩) ho2 (fun b hb => by injection hb with hb; subst hb; simp);simp only [List.nil_append,List.cons_append] at g;obtain ⟨s0,o0,H1,e0,g⟩:=g.appendRow (bytes:=1) 0 1 encB_len rfl rfl (by simp) (by decide);simp only [List.set_cons_zero,List.set_cons_succ] at g;have g:=g.take 1;simp only [List.take_succ_cons,List.take_zero] at g;have g:=g.more_row (Ext.refl _) (OwnO.nil encB _ 1) (fun b hb => by cases hb);simp only [List.nil_append,List.cons_append] at g;obtain ⟨t1,u1,J1,f1,g⟩:=Put_star k g 1 rfl 8 2 2 rfl (by omega) (by omega) (by omega) (by simp);simp only [List.set_cons_zero,List.set_cons_succ] at g;obtain ⟨t2,u2,J2,f2,g⟩:=Put_star k g 1 rfl 0 2 2 rfl (by omega) (by omega) (by omega) (by simp);simp only [List.set_cons_zero,List.set_cons_succ] at g;obtain ⟨t3,u3,J3,f3,g⟩:=Put_star k g 1 rfl ls.length 2 2 rfl (by omega) (by omega) (by omega) (by simp);simp only [List.set_cons_zero,List.set_cons_succ,List.nil_append] at g;have g:=g.more_row (Ext.refl _) (OwnO.nil encB _ 1) (fun b hb => by cases hb);simp only [List.nil_append,List.cons_append] at g
 obtain ⟨xx,e',J4,hr4,rfl,z4,s4,o4,s5,o5,rfl,g⟩:=loop_up (body:=ζ46 k (R (T k))) ls.length
  (fun j e H' => ∃ s o s5 o5,e = [(3,s0),(4,s),(5,s5),(18,v),(19,.int .i64 ls.length),(20,.int .i64 j)] ∧ Star H H' [itRow o0 1 s0 encB ([0,0,0,0] ++ [0,0,0,12]),itRow o 1 s encB (ofA ls j),itRow o5 1 s5 encB (dataB (ls.take j))])
  (fun xx e H' => xx = .exit 0 ∧ ∃ z s o s5 o5,e = [(3,s0),(4,s),(5,s5),(18,v),(19,.int .i64 ls.length),(20,z),(21,.bool false)] ∧ Star H H' [itRow o0 1 s0 encB ([0,0,0,0] ++ [0,0,0,12]),itRow o 1 s encB (ofA ls ls.length),itRow o5 1 s5 encB (dataB ls)])
  (e0:=[(3,s0),(4,t3),(5,.slice none 0 0),(18,v),(19,.int .i64 ls.length),(20,.int .i64 0)]) (H0:=J3) ⟨t3,u3,.slice none 0 0,none,rfl,by simpa [ofA,aoffB,dataB] using g⟩ (by omega)
  (fun j e H' hj ⟨s,o,s5,o5,he,g⟩ => by
   subst he;have hlt:(j:Int) < ls.length:=by omega
   obtain ⟨l,hl2⟩:∃ l,ls[j]? = some l:=⟨_,List.getElem?_eq_getElem hj⟩
   obtain ⟨x,hx⟩:∃ x,rv[j]? = some x:=⟨_,List.getElem?_eq_getElem (by omega)⟩
   have hxr:x.1 = l:=by
    have h0:(rv.map Prod.fst)[j]? = some x.1:=by rw [List.getElem?_map,hx]; rfl
    rw [hP.fst,hl2] at h0;exact (Option.some.inj h0).symm
   obtain ⟨pp,i1,i2⟩:=hP.all.ix1 encV_len j x hx _ rfl;have i2:=i2 H' g.ext;have hxs:=hP.each x (List.mem_of_getElem? hx);rw [hxr] at hxs;have hll:=hl l (List.mem_of_getElem? hl2);have hln:=fun H' => hxs.len H';have d1:=dl j;rw [List.length_take] at d1;have hofl:(ofA ls j).length = 6 + j * 2:=by unfold ofA; rw [List.length_append,ζhz]; simp
   have q5:∀ H',lnS s5 H' = .ok (.int .i64 (dataB (ls.take j)).length) H':=(g.row 2 rfl).len;obtain ⟨s1,o1,H1,e1,g1⟩:=Put_star k g 1 rfl (dataB (ls.take j)).length 2 2 rfl (by omega) (by omega) (by omega) (by omega);simp only [List.set_cons_zero,List.set_cons_succ] at g1;obtain ⟨s2,o2,H2,e2,g2⟩:=Put_star k g1 2 rfl l.length 4 4 rfl (by omega) (by omega) (by omega) (by omega);simp only [List.set_cons_zero,List.set_cons_succ] at g2;obtain ⟨s3,o3,zz,H3,e3,g3⟩:=w24_l2 k s0 s1 v (.int .i64 ls.length) (.int .i64 j) hxs hll (by rw [List.length_append,ζo]; omega) g2;refine .inl ⟨_,H3,?_,s1,o1,s3,o3,rfl,?_⟩
   ·rw [ζ4v];simp -implicitDefEqProofs (disch:=omega) [hlt,i1,i2,hln,q5,e1,e2,e3,ζ7p]
   ·have h1:ofA ls (j + 1) = ofA ls j ++ bytesOf ((dataB (ls.take j)).length:Nat) 2:=by unfold ofA; rw [ζkd,← List.append_assoc]; rfl
    have h2:dataB (ls.take (j + 1)) = dataB (ls.take j) ++ bytesOf l.length 4 ++ ptsB l:=by rw [ζ2j hl2,ζkn]; unfold glB; rw [List.append_assoc]
    rw [h1,h2];exact g3)
  (fun e H' ⟨s,o,s5,o5,he,g⟩ => by
   subst he;rw [List.take_length] at g;refine ⟨.exit 0,_,H',?_,by simp,rfl,.int .i64 ls.length,s,o,s5,o5,rfl,g⟩;rw [ζ4v];simp -implicitDefEqProofs)
 have hofl:(ofA ls ls.length).length = 6 + ls.length * 2:=by unfold ofA; rw [List.length_append,ζhz]; simp
 have hdl:=dl ls.length;rw [List.take_length] at hdl;have q4:∀ H',lnS s4 H' = .ok (.int .i64 (ofA ls ls.length).length) H':=(g.row 1 rfl).len;obtain ⟨t6,u6,J6,f6,g⟩:=Put_star k g 0 rfl (12 + (ofA ls ls.length).length:Nat) 4 4 rfl (by omega) (by omega) (by omega) (by simp);simp only [List.set_cons_zero,List.set_cons_succ] at g;obtain ⟨t7,u7,J7,f7,g⟩:=g.appendRow (bytes:=1) 0 1 encB_len rfl rfl (by simp; omega) (by decide);simp only [List.set_cons_zero,List.set_cons_succ] at g;obtain ⟨t8,u8,J8,f8,g⟩:=g.appendRow (bytes:=1) 0 2 encB_len rfl rfl (by simp; omega) (by decide);simp only [List.set_cons_zero,List.set_cons_succ] at g;have g:=g.take 1;simp only [List.take_succ_cons,List.take_zero] at g;refine ⟨t8,u8,J8,?_,by unfold ankB; simpa using g⟩;have w1:IntKind.i64.wrap (12 + ((ofA ls ls.length).length:Int)) = 12 + (ofA ls ls.length).length:=wrap_i64 (by omega) (by omega)
 push_cast at f6
 simp -implicitDefEqProofs (disch:=omega) [ζm,e0,f1,f2,f3,hvl,hr4,ζ7o,q4,w1,f6,f7,f8]
theorem ζlt (k:Nat) (hk:k < 1000000) {H:Heap} {ls:List (List (Int × Int))} {v:Value} {rv:List (List (Int × Int) × Value)} (hP:PtsSl H ls v rv) (hn:ls.length ≤ 30) (hl:∀ l,l ∈ ls → l.length ≤ 30) :
  R (T k) F.ζm [v] H = .ok (lv encB (ankB ls)) H:=by
 obtain ⟨s,o,H',e,g⟩:=ζhv k hP hn hl;rw [ζal];have ho:own k = .fz:=by
  unfold own;rw [show Nat.blt k 1000000 = true from Nat.ble_eq_true_of_le hk];rfl
 rw [ho];obtain ⟨L,hf⟩:=(g.own 0 rfl).freeze encB_len (fun n _ v hv => by simp at hv; subst hv; trivial) 6;exact nrm_fz (v:=s) (H':=H') e hf g.ext (Flat.B _).alive
end Go.Sw
end
section
namespace Go.Sw
open Go.RowKit
def aoffs (ls:List (List (Int × Int))):List Int:=(List.range ls.length).map fun j => ((dataB (ls.take j)).length:Int)
theorem ζ4h (ls:List (List (Int × Int))):(aoffs ls).length = ls.length:=by simp [aoffs]
theorem ofA_twos (ls:List (List (Int × Int))):ofA ls ls.length = ofS (aoffs ls):=by
 unfold ofA ofS aoffs aoffB twos offB;rw [List.map_map,List.length_map,List.length_range];rfl
theorem ζi0 (ls:List (List (Int × Int))) {j:Nat} (hj:j < ls.length):(aoffs ls)[j]? = some ((dataB (ls.take j)).length:Int):=by
 unfold aoffs;rw [List.getElem?_map,List.getElem?_range hj];rfl
theorem ζa7 (ls:List (List (Int × Int))) {j:Nat} {l:List (Int × Int)} (h:ls[j]? = some l):dataB ls = dataB (ls.take j) ++ (glB l ++ dataB (ls.drop (j + 1))):=by
 obtain ⟨hj,hl⟩:=List.getElem?_eq_some_iff.1 h;have:ls = ls.take j ++ (l :: ls.drop (j + 1)):=by
  rw [← hl,← List.drop_eq_getElem_cons,List.take_append_drop]
 conv => lhs; rw [this]
 simp [dataB]
theorem ζj7 {ls:List (List (Int × Int))} (hn:ls.length ≤ 30) (hl:∀ l,l ∈ ls → l.length ≤ 30):∀ x,x ∈ aoffs ls → 0 ≤ x ∧ x < 65536:=fun x hx => by
 unfold aoffs at hx;obtain ⟨j,hj,rfl⟩:=List.mem_map.1 hx;have h1:=ζ9k (ls.take j) fun l h => hl l (List.mem_of_mem_take h);rw [List.length_take] at h1;omega
theorem ptB_byt (p:Int × Int):Byt (ptB p):=(ζ1o _ _).app (ζ1o _ _)
theorem ζma (ls:List (List (Int × Int))):Byt (dataB ls):=Byt.flat fun r hr => by
 obtain ⟨l,_,rfl⟩:=List.mem_map.1 hr;exact (ζ1o _ _).app (Byt.flat fun r hr => by obtain ⟨p,_,rfl⟩:=List.mem_map.1 hr; exact ptB_byt p)
theorem data_cnt (ls:List (List (Int × Int))) {j:Nat} {l:List (Int × Int)} (h:ls[j]? = some l) (hl:l.length ≤ 30):uS (dataB ls) ((dataB (ls.take j)).length:Int) 4 = some (l.length:Int):=by
 rw [ζa7 ls h];unfold glB;rw [List.append_assoc];exact uS_at _ _ _ _ rfl rfl (by omega) (by omega)
theorem ζn2 (l:List (Int × Int)) {i:Nat} {p:Int × Int} (h:l[i]? = some p):ptsB l = ptsB (l.take i) ++ (ptB p ++ ptsB (l.drop (i + 1))):=by
 obtain ⟨hj,hl⟩:=List.getElem?_eq_some_iff.1 h;have:l = l.take i ++ (p :: l.drop (i + 1)):=by
  rw [← hl,← List.drop_eq_getElem_cons,List.take_append_drop]
 conv => lhs; rw [this]
 simp [ptsB]
theorem data_pt (ls:List (List (Int × Int))) {j:Nat} {l:List (Int × Int)} (h:ls[j]? = some l) {i:Nat} {p:Int × Int} (hp:l[i]? = some p) :
  uS (dataB ls) (((dataB (ls.take j)).length:Int) + 4 + 4 * (i:Int)) 2 = some (m16 p.1) ∧ uS (dataB ls) (((dataB (ls.take j)).length:Int) + 6 + 4 * (i:Int)) 2 = some (m16 p.2):=by
 have hi:=(List.getElem?_eq_some_iff.1 hp).1;have hlen:(ptsB (l.take i)).length = 4 * i:=by rw [ptsB_len,List.length_take]; omega
 have b1:=m16_lt p.1;have b2:=m16_lt p.2;rw [ζa7 ls h];unfold glB;rw [ζn2 l hp];unfold ptB;constructor
 ·rw [show dataB (ls.take j) ++ (bytesOf (↑l.length) 4 ++ (ptsB (l.take i) ++ (bytesOf (m16 p.1) 2 ++ bytesOf (m16 p.2) 2 ++ ptsB (l.drop (i + 1)))) ++ dataB (ls.drop (j + 1))) = (dataB (ls.take j) ++ bytesOf (↑l.length) 4 ++ ptsB (l.take i)) ++ (bytesOf (m16 p.1) 2 ++ (bytesOf (m16 p.2) 2 ++ ptsB (l.drop (i + 1)) ++ dataB (ls.drop (j + 1)))) by simp only [List.append_assoc]];exact uS_at _ _ _ _ (by simp only [List.length_append,ζo,hlen]; push_cast; omega) rfl b1.1 (by omega)
 ·rw [show dataB (ls.take j) ++ (bytesOf (↑l.length) 4 ++ (ptsB (l.take i) ++ (bytesOf (m16 p.1) 2 ++ bytesOf (m16 p.2) 2 ++ ptsB (l.drop (i + 1)))) ++ dataB (ls.drop (j + 1))) = (dataB (ls.take j) ++ bytesOf (↑l.length) 4 ++ ptsB (l.take i) ++ bytesOf (m16 p.1) 2) ++ (bytesOf (m16 p.2) 2 ++ (ptsB (l.drop (i + 1)) ++ dataB (ls.drop (j + 1)))) by simp only [List.append_assoc]];exact uS_at _ _ _ _ (by simp only [List.length_append,ζo,hlen]; push_cast; omega) rfl b2.1 (by omega)
theorem data_fit (ls:List (List (Int × Int))) {j:Nat} {l:List (Int × Int)} (h:ls[j]? = some l):(dataB (ls.take j)).length + 4 + 4 * l.length ≤ (dataB ls).length:=by
 conv => rhs; rw [ζa7 ls h]
 simp only [List.length_append,glB_len];omega
theorem ζbl (ls:List (List (Int × Int))) (hn:ls.length ≤ 30):uS (ankB ls) 0 2 = some 0 ∧ uS (ankB ls) 4 4 = some 12 ∧ uS (ankB ls) 8 4 = some (12 + ((ofS (aoffs ls)).length:Int)) ∧ (ankB ls).drop 12 = ofS (aoffs ls) ++ dataB ls ∧ (ankB ls).drop (12 + (ofS (aoffs ls)).length) = dataB ls ∧ (ankB ls).length = 12 + (ofS (aoffs ls)).length + (dataB ls).length:=by
 have hol:(ofS (aoffs ls)).length = 6 + ls.length * 2:=by unfold ofS; simp [twos_len,ζ4h]; omega
 have e:ankB ls = [0,0,0,0,0,0,0,12] ++ (bytesOf ((12 + (ofS (aoffs ls)).length:Nat):Int) 4 ++ (ofS (aoffs ls) ++ dataB ls)):=by unfold ankB; rw [ofA_twos]; simp only [List.append_assoc]
 have e3:ankB ls = ([0,0,0,0,0,0,0,12] ++ bytesOf ((12 + (ofS (aoffs ls)).length:Nat):Int) 4) ++ (ofS (aoffs ls) ++ dataB ls):=by rw [e]; simp only [List.append_assoc]
 refine ⟨?_,?_,?_,?_,?_,?_⟩
 ·rw [e,show ([0,0,0,0,0,0,0,12]:List Int) = [] ++ (bytesOf 0 2 ++ [0,0,0,0,0,12]) by decide,List.append_assoc,List.append_assoc];exact uS_at _ _ _ _ (by simp) rfl (by omega) (by omega)
 ·rw [e,show ([0,0,0,0,0,0,0,12]:List Int) = [0,0,0,0] ++ (bytesOf 12 4 ++ []) by decide,List.append_assoc,List.append_assoc];exact uS_at _ _ _ _ (by simp) rfl (by omega) (by omega)
 ·rw [e];have:=uS_at [0,0,0,0,0,0,0,12] (ofS (aoffs ls) ++ dataB ls) (n:=((12 + (ofS (aoffs ls)).length:Nat):Int)) (k:=4) 8 4 (by simp) rfl (by omega) (by omega);rw [this]; simp
 ·rw [e3,List.drop_append_of_le_length (by simp)];rw [List.drop_of_length_le (by simp)];rfl
 ·rw [e3,← List.append_assoc,List.drop_append_of_le_length (by simp; omega),List.drop_of_length_le (by simp; omega)];rfl
 ·rw [e]; simp; omega
theorem ankB_byt (ls:List (List (Int × Int))):Byt (ankB ls):=by
 unfold ankB;rw [ofA_twos];refine (((Byt.app ?_ (ζ1o _ _)).app ?_)).app (ζma ls)
 ·intro x hx;simp at hx;omega
 ·unfold ofS;exact (((ζ1o _ _).app (ζ1o _ _)).app (ζ1o _ _)).app (twos_byt _)
abbrev tabA (ls:List (List (Int × Int))):ATab:=⟨tabOf (aoffs ls),dataB ls⟩
theorem ζhy (ls:List (List (Int × Int))) (hn:ls.length ≤ 30) (hl:∀ l,l ∈ ls → l.length ≤ 30) (g:Int):ankS (ankB ls) g = some (tabA ls):=by
 obtain ⟨p1,p2,p3,p4,p5,p6⟩:=ζbl ls hn;have hb:=ζj7 hn hl;have hlk:=look_ofS (aoffs ls) hb (by rw [ζ4h]; omega) (dataB ls) g;unfold ankS;have r1:restS (ankB ls) 12 = some (ofS (aoffs ls) ++ dataB ls):=by
  unfold restS;rw [if_pos ⟨by omega,by omega⟩];exact congrArg some p4
 have r2:restS (ankB ls) (12 + (ofS (aoffs ls)).length) = some (dataB ls):=by
  unfold restS;rw [if_pos ⟨by omega,by omega⟩];rw [show (12 + ((ofS (aoffs ls)).length:Int)).toNat = 12 + (ofS (aoffs ls)).length by omega,p5]
 simp only [p1,p2,r1,hlk,p3,r2,Option.bind_some,if_true];rw [if_pos];rw [List.all_eq_true];intro x hx;have hok:∀ p,p ∈ (tabOf (aoffs ls)).2 → p.ok:=by
  intro p hp;unfold tabOf at hp;dsimp only at hp;split at hp
  ·cases hp
  ·rename_i hne;simp only [List.mem_singleton] at hp;subst hp;have:0 < (aoffs ls).length:=List.length_pos_iff.2 hne;rw [ζ4h] at this;refine ⟨by simp,by simp [ζ4h]; omega,by simp [ζ4h]; omega,hne,by simp [ζ4h]; omega,fun x hx => ?_⟩;have:=hb x hx;omega
 obtain ⟨p,hp,hx⟩:=List.mem_flatMap.1 hx;unfold tabOf at hp;dsimp only at hp;split at hp
 ·cases hp
 ·simp only [List.mem_singleton] at hp;subst hp;unfold ptL at hx;obtain ⟨j,hj,rfl⟩:=List.mem_map.1 hx;have hj:=List.mem_range.1 hj;dsimp only at hj;rw [ζ4h] at hj;have hj:j < ls.length:=by omega
  have hnum:Pt.num ⟨0,((aoffs ls).length:Int) - 1,aoffs ls⟩ (0 + (j:Nat)) = some ((dataB (ls.take j)).length:Int):=by
   unfold Pt.num;dsimp only;rw [ζ4h,show (min (0 + (j:Int) - 0) ((ls.length:Int) - 1)).toNat = j by omega];exact ζi0 ls hj
  obtain ⟨l,hl2⟩:∃ l,ls[j]? = some l:=⟨_,List.getElem?_eq_getElem hj⟩
  have h30:=hl l (List.mem_of_getElem? hl2);dsimp only;rw [hnum];show ptOk (dataB ls) ((dataB (ls.take j)).length:Int) = true;unfold ptOk;rw [data_cnt ls hl2 h30,Option.bind_some];have hf:=data_fit ls hl2;rw [(ζa0 (r:=((dataB ls).drop (((dataB (ls.take j)).length:Int) + 4).toNat).take ((l.length:Int) * 4).toNat) (by decide)).2 ⟨⟨by omega,by omega,by omega,by omega⟩,rfl⟩];rfl
theorem s16_m16 {x:Int} (h0:-32768 ≤ x) (h1:x < 32768):s16 (m16 x) = x:=by unfold s16 m16; split <;> omega
theorem tabA_get (ls:List (List (Int × Int))) (hl:∀ l,l ∈ ls → l.length ≤ 30) {j i:Nat} {l:List (Int × Int)} (h:ls[j]? = some l):getA (tabA ls) j i = (l[i]?).map fun p => (s16 (m16 p.1),s16 (m16 p.2)):=by
 unfold getA;dsimp only;rw [tab_get,if_pos (by omega),show ((j:Int)).toNat = j from rfl,ζi0 ls (List.getElem?_eq_some_iff.1 h).1];dsimp only;rw [gU_some (data_cnt ls h (hl l (List.mem_of_getElem? h)))];cases hp:l[i]? with
 | none =>
  have:=List.getElem?_eq_none_iff.1 hp;rw [if_neg (by omega)];rfl
 | some p =>
  have:=(List.getElem?_eq_some_iff.1 hp).1;rw [if_pos (by omega),gU_some (data_pt ls h hp).1,gU_some (data_pt ls h hp).2];rfl
end Go.Sw
end
section
namespace Go.Sw
open Go.RowKit
theorem tabA_ok (ls:List (List (Int × Int))) (hn:ls.length ≤ 30) (hl:∀ l,l ∈ ls → l.length ≤ 30):(tabA ls).ok:=by
 obtain ⟨p1,p2,p3,p4,p5,p6⟩:=ζbl ls hn;have hdl:=ζ9k ls hl;have hol:(ofS (aoffs ls)).length = 6 + ls.length * 2:=by unfold ofS; simp [twos_len,ζ4h]; omega
 exact ankS_ok (ankB_byt ls) (g:=60) (by omega) (by omega) (by omega) (ζhy ls hn hl 60)
end Go.Sw
end
