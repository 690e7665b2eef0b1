/- Joined texts: IterP, IterB. -/
import Derived.Test.YtjjkfgjnadaheaaGreatDoorG10
set_option linter.unusedVariables false
set_option linter.unusedSimpArgs false
/- A range over a function whose body may panic: contract of the iterator, law of the statement. (written by tools/gen_iterp.py) -/
namespace Go.Chalk
open Go.RowKit
def roundPostP (P:Program) (l:Nat) (R:Ending->World->Prop):Exit->Act->World->Prop
 | .panic ch,a,w=>a.defers=[]/\R (.panicked ch) w
 | e,a,w=>roundPost P l R e a w
theorem roundIn_p {F:Fence} {n:Nat} {P:Program} {l:Nat} {f:FuncId} {fnc:Func} {tmps:Array Value} {assign body:Code} {w:World} {R:Ending->World->Prop} (hF:F.fn f) (hfn:P.funcs[f]?=some fnc)
  (h:assign.wpIn (F.inRound l) n P (Exit.then (fun a₁ w₁=>∃ w₂,(Instr.beginRound l).run P w₁=.ok () w₂/\body.wpIn (F.inRound l) n P (roundPostP P l R) a₁ w₂) (fun _ _ _=>False)) { tmps:=tmps,defers:=[] } w) :
  RoundIn F n P l f tmps assign body w R:=by
 refine ⟨hF,fun c cs hr=>?_⟩
 obtain ⟨b,hb⟩:∃ b:Frame,b = { (default:Frame) with fn:=f,kind:=.normal,roundOf:=some l }:=⟨_,rfl⟩
 have hb0:Frame.round l f tmps assign body .normal=b.atR { tmps:=tmps,defers:=[] } [.code assign,.beginRound,.code body]:=by
  rw [hb];simp [Frame.round,Frame.atR]
 have hbf:b.fn=f:=by rw [hb]
 have hbr:b.roundOf=some l:=by rw [hb]
 have hr':(F.inRound l).room ((c :: cs).length+1+n):=hr
 have hF':(F.inRound l).fn b.fn:=by rw [hbf];exact hF
 obtain ⟨e,a₁,w₁,hq,harr⟩:=h b [.beginRound,.code body] (c :: cs) (by rw [hbr];rfl) hF' hr'
 rw [<- hb0] at harr
 cases e with
 | normal =>
  obtain ⟨w₂,hbeg,hbody⟩:=hq
  have s1:StepsIn (Machine.fenced P (F.inRound l)) P (lone (b.atR a₁ [.beginRound,.code body]) (c :: cs) w₁) (lone (b.atR a₁ [.code body]) (c :: cs) w₂) :=
   .one (fenced_calm (fr:=b.atR a₁ [.beginRound,.code body]) hF' hr' (by first | (rw [hb];done) | (rw [hb];rfl))) (stepR_beginRound (by first | (rw [hb];done) | (rw [hb];rfl)) hbeg)
  obtain ⟨e₂,a₂,w₃,hq₂,harr₂⟩:=hbody b [] (c :: cs) (by rw [hbr];rfl) hF' hr'
  cases e₂ with
  | normal =>
   obtain ⟨v,w₄,hend,hR⟩:=hq₂
   exact ⟨.returned v,w₄,hR,(StepsIn.trans harr s1).trans (StepsIn.trans harr₂ (.one (fenced_calm (fr:=b.atR a₂ []) hF' hr' (by first | (rw [hb];done) | (rw [hb];rfl))) (stepR_round_end (by first | (rw [hb];done) | (rw [hb];rfl)) (by first | (rw [hb];done) | (rw [hb];rfl)) hend)))⟩
  | ret =>
   obtain ⟨v,w₄,hend,hR⟩:=hq₂
   obtain ⟨k₁,hs⟩:=harr₂.2 (by first | (rw [hb];done) | (rw [hb];rfl))
   exact ⟨.returned v,w₄,hR,(StepsIn.trans harr s1).trans (StepsIn.trans hs (.one (fenced_calm (fr:=b.atR a₂ (.code .ret :: k₁)) hF' hr' (by first | (rw [hb];done) | (rw [hb];rfl))) (stepR_round_ret (by first | (rw [hb];done) | (rw [hb];rfl)) (by first | (rw [hb];done) | (rw [hb];rfl)) hend)))⟩
  | exit id =>
   obtain ⟨v,w₄,hend,hR⟩:=hq₂
   obtain ⟨k₁,hk,hs⟩:=harr₂.2 (by first | (rw [hb];done) | (rw [hb];rfl)) rfl
   exact ⟨.returned v,w₄,hR,(StepsIn.trans harr s1).trans (StepsIn.trans hs (.one (fenced_calm (fr:=b.atR a₂ (.code (.exit id) :: k₁)) hF' hr' (by first | (rw [hb];done) | (rw [hb];rfl))) (stepR_round_exit (by first | (rw [hb];done) | (rw [hb];rfl)) (by first | (rw [hb];done) | (rw [hb];rfl)) hk hend)))⟩
  | goto t =>
   obtain ⟨v,w₄,hend,hR⟩:=hq₂
   obtain ⟨k₁,hk,hs⟩:=harr₂.2 (by first | (rw [hb];done) | (rw [hb];rfl)) rfl
   exact ⟨.returned v,w₄,hR,(StepsIn.trans harr s1).trans (StepsIn.trans hs (.one (fenced_calm (fr:=b.atR a₂ (.code (.goto t) :: k₁)) hF' hr' (by first | (rw [hb];done) | (rw [hb];rfl))) (stepR_round_goto (by first | (rw [hb];done) | (rw [hb];rfl)) (by first | (rw [hb];done) | (rw [hb];rfl)) hk hend)))⟩
  | panic chain =>
   obtain ⟨hd,hR⟩:=hq₂
   obtain ⟨todo,hs⟩:=harr₂
   have hl:({ b.atR a₂ todo with mode:=.panicking chain }:Frame).leaving P w₃ (.panicked chain):=⟨rfl,hd,fnc,by show P.funcs[b.fn]?=_;rw [hbf];exact hfn⟩
   exact ⟨.panicked chain,w₃,hR,(StepsIn.trans harr s1).trans (StepsIn.trans hs (.one (fenced_leaving hF' hr' hl) (step_leave_panicked hl)))⟩
  | outgrown=>exact hq₂.elim
 | exit id=>exact hq.elim
 | goto t=>exact hq.elim
 | ret=>exact hq.elim
 | panic chain=>exact hq.elim
 | outgrown=>exact hq.elim
def WpFix (f0:FuncId) (P:Program) (c:Code) (Q:Exit->Act->World->Prop) (a:Act) (w:World):Prop :=
 ∀ (b:Frame) (k:List Item) (cs:List Frame),b.roundOf=none->b.fn=f0->∃ e a' w',Q e a' w'/\ArrivesIn (Machine.fenced P Fence.wide) P (lone (b.atR a (.code c :: k)) cs w) b k cs e a' w'
theorem WpFix.of {f0:FuncId} {P:Program} {c:Code} {Q:Exit->Act->World->Prop} {a:Act} {w:World} (h:c.wpIn Fence.wide 0 P Q a w):WpFix f0 P c Q a w:=fun b k cs hro _=>h b k cs hro trivial (room_wide _)
theorem fix_seq {f0:FuncId} {P:Program} {x y:Code} {Q:Exit->Act->World->Prop} {a:Act} {w:World} (h:WpFix f0 P x (Exit.then (WpFix f0 P y Q) Q) a w):WpFix f0 P (.seq x y) Q a w:=by
 intro b k cs hro hb
 obtain ⟨e,a1,w1,hq,harr⟩:=h b (.code y :: k) cs hro hb
 have s0:StepsIn (Machine.fenced P Fence.wide) P (lone (b.atR a (.code (.seq x y) :: k)) cs w) (lone (b.atR a (.code x :: .code y :: k)) cs w):=.one (fenced_wide _ _) stepR_seq
 cases e with
 | normal =>
  obtain ⟨e2,a2,w2,hq2,harr2⟩:=hq b k cs hro hb
  exact ⟨e2,a2,w2,hq2,.of_steps (StepsIn.trans s0 harr) harr2⟩
 | exit id=>exact ⟨_,a1,w1,hq,.of_steps s0 (.pass (x:=.code y) rfl (fun _ _=>.inl (by simp)) harr)⟩
 | goto l=>exact ⟨_,a1,w1,hq,.of_steps s0 (.pass (x:=.code y) rfl (fun _ _=>.inl (by simp)) harr)⟩
 | ret=>exact ⟨_,a1,w1,hq,.of_steps s0 (.pass (x:=.code y) rfl (fun _ _=>.inl (by simp)) harr)⟩
 | panic ch=>exact ⟨_,a1,w1,hq,.of_steps s0 (.pass (x:=.code y) rfl (fun _ _=>.inl (by simp)) harr)⟩
 | outgrown=>exact ⟨_,a1,w1,hq,.of_steps s0 (.pass (x:=.code y) rfl (fun _ _=>.inl (by simp)) harr)⟩
theorem WpFix.mono {f0:FuncId} {P:Program} {c:Code} {Q Q':Exit->Act->World->Prop} {a:Act} {w:World} (h:WpFix f0 P c Q a w) (hq:∀ e a w,Q e a w->Q' e a w):WpFix f0 P c Q' a w :=
 fun b k cs hro hb=>let ⟨e,a',w',q,r⟩:=h b k cs hro hb;⟨e,a',w',hq _ _ _ q,r⟩
theorem calls_fix {P:Program} {f:FuncId} {fn:Func} {c:Code} {args:Array Value} {w:World} {R:Ending->World->Prop} (hf:P.funcs[f]?=some fn) (hc:fn.body=some c)
  (h:WpFix f P c (bodyPostM Fence.wide 0 P fn R) { tmps:=args++Array.replicate (fn.ntmps - args.size) undef,defers:=[] } w):Calls P f args w R:=by
 refine (callsIn_wide (n:=0)).1 ⟨trivial,fun cs _=>?_⟩
 obtain ⟨b,hb⟩:∃ b:Frame,b = { (default:Frame) with fn:=f,kind:=.normal,roundOf:=none }:=⟨_,rfl⟩
 have henter:Frame.enter P f args .normal=b.atR { tmps:=args++Array.replicate (fn.ntmps - args.size) undef,defers:=[] } [.code c]:=by rw [hb];simp [Frame.enter,Frame.atR,hf,hc]
 obtain ⟨e,a',w',hq,harr⟩:=h b [] cs (by rw [hb]) (by rw [hb])
 rw [<- henter] at harr
 cases e with
 | normal =>
  obtain ⟨e2,w2,fr2,hR,hs,hfn,hl⟩:=leaves_stepsInM (F:=Fence.wide) (n:=0) a'.defers .returning w' { b.atR a' [] with mode:=.returning } cs rfl rfl rfl (by rw [hb];exact hf) (by rw [hb];rfl) trivial (room_wide _) hq
  exact ⟨e2,w2,fr2,hR,ComesIn.of_steps (StepsIn.trans harr (.one (fenced_wide _ _) (stepR_end (by rw [hb])))) hs,hfn.trans (by rw [hb];rfl),hl⟩
 | ret =>
  obtain ⟨todo,hs0⟩:=harr.1 (by rw [hb])
  obtain ⟨e2,w2,fr2,hR,hs,hfn,hl⟩:=leaves_stepsInM (F:=Fence.wide) (n:=0) a'.defers .returning w' { b.atR a' todo with mode:=.returning } cs rfl rfl rfl (by rw [hb];exact hf) (by rw [hb];rfl) trivial (room_wide _) hq
  exact ⟨e2,w2,fr2,hR,ComesIn.of_steps hs0 hs,hfn.trans (by rw [hb];rfl),hl⟩
 | panic ch =>
  obtain ⟨todo,hs0⟩:=harr
  obtain ⟨e2,w2,fr2,hR,hs,hfn,hl⟩:=leaves_stepsInM (F:=Fence.wide) (n:=0) a'.defers (.panicking ch) w' { b.atR a' todo with mode:=.panicking ch } cs rfl rfl rfl (by rw [hb];exact hf) (by rw [hb];rfl) trivial (room_wide _) hq
  exact ⟨e2,w2,fr2,hR,ComesIn.of_steps hs0 hs,hfn.trans (by rw [hb];rfl),hl⟩
 | exit id=>exact hq.elim
 | goto l=>exact hq.elim
 | outgrown=>exact ⟨.outgrown,w',b,hq,harr.resolve_left (by rw [hb];simp),by rw [hb],trivial⟩
theorem fix_range {f0:FuncId} {P:Program} {g:Operand} {ps:Array Tmp} {assign body:Code} {Q:Exit->Act->World->Prop} {a:Act} {w:World} (l:Nat) (mark:List Deferred) (w1:World) (d:Deferred) (w1':World) (f:FuncId) (args:Array Value) (w2:World)
  (he:(Instr.enterLoop f0 a.tmps ps assign body none).run P w=.ok (l,mark) w1) (hres:(resolve a.eval (rangeCall g l) 0).run P w1=.ok d w1') (hinv:(invoke d.target d.args).run P w1'=.ok (.enter f args) w2)
  (hcall:CallsIn Fence.wide 0 P f args w2 (rangePost Fence.wide 0 P l Q { a with defers:=mark++a.defers })):WpFix f0 P (.rangeFunc g ps assign body) Q a w:=by
 intro b k cs hro hb
 rw [<- hro,<- hb] at he
 have h0:StepsIn (Machine.fenced P Fence.wide) P (lone (b.atR a (.code (.rangeFunc g ps assign body) :: k)) cs w) _:=.one (fenced_wide _ _) (stepR_rangeFunc (cs:=cs) (k:=k) he hres hinv)
 obtain ⟨e,w3,fr,hR,hsteps,hfn,hleave⟩:=hcall.2 (b.atR { a with defers:=mark++a.defers } (.inRangeFunc l :: k) :: cs) (room_wide _)
 cases e with
 | outgrown =>
  obtain ⟨a0,w0,hq⟩:=hR
  exact ⟨.outgrown,a0,w0,hq,.inr (Outgrown.of_steps h0.steps hsteps)⟩
 | returned v =>
  obtain ⟨jump,w4,hend,hj⟩:=hR
  have hb1:=step_leave_returned (c:=b.atR { a with defers:=mark++a.defers } (.inRangeFunc l :: k)) (cs:=cs) hleave
  rw [finish_atR_inRangeFunc] at hb1
  have sback:StepsIn (Machine.fenced P Fence.wide) P (lone (b.atR a (.code (.rangeFunc g ps assign body) :: k)) cs w) (lone (b.atR { a with defers:=mark++a.defers } ((jump.map Item.code).toList++k)) cs w4) :=
   (h0.trans hsteps).trans ((StepsIn.one (fenced_wide _ _) hb1).trans (.one (fenced_wide _ _) (stepR_endRangeFunc hend)))
  cases jump with
  | none=>exact ⟨.normal,_,w4,hj,sback⟩
  | some c =>
   obtain ⟨e',a'',w5,hq,harr⟩:=hj b k cs hro trivial (room_wide _)
   exact ⟨e',a'',w5,hq,.of_steps sback harr⟩
 | panicked chain =>
  have hb1:=step_leave_panicked (c:=b.atR { a with defers:=mark++a.defers } (.inRangeFunc l :: k)) (cs:=cs) hleave
  rw [Frame.raise_atR] at hb1
  exact ⟨.panic chain,_,w3,hR,.inRangeFunc l :: k,(h0.trans hsteps).trans (.one (fenced_wide _ _) hb1)⟩
def RoundPostP (J Jx:Nat->(Nat->Prop)->World->Prop) (Jp:List PanicEntry->(Nat->Prop)->World->Prop) (T:Nat->Prop) (W:World) (i:Nat) (e:Ending) (W':World):Prop :=
 ∃ T',Ext T T' W W'/\Mod T W W'/\((e=.returned (.bool true)/\J (i+1) T' W')∨(e=.returned (.bool false)/\Jx (i+1) T' W')∨∃ ch,e=.panicked ch/\Jp ch T' W')
def IterPostP (J Jx:Nat->(Nat->Prop)->World->Prop) (Jp:List PanicEntry->(Nat->Prop)->World->Prop) (T:Nat->Prop) (W:World) (m:Nat) (e:Ending) (W':World):Prop :=
 ∃ T',Ext T T' W W'/\Mod T W W'/\(((∃ v,e=.returned v)/\(J m T' W'∨∃ i,0<i/\i<=m/\Jx i T' W'))∨∃ ch,e=.panicked ch/\Jp ch T' W')
def IterP (P:Program) (g:Nat) (lb:Array Value) (m sz:Nat) (E:Nat->Array Value->(Nat->Prop)->World->Prop) (Kw:World->Prop) (D:Nat->Prop) (w:World):Prop :=
 ∀ (l:Nat) (J Jx:Nat->(Nat->Prop)->World->Prop) (Jp:List PanicEntry->(Nat->Prop)->World->Prop) (T:Nat->Prop) (W:World),
  Agree D w W->(∀ k,D k->k<W.heap.size/\¬ T k)->(∀ k,T k->k<W.heap.size)->Stab W.heap.size J->Stab W.heap.size Jx->(∀ i T1 W1,J i T1 W1->Kw W1) ->
  (∀ i T1 W1 v S,i<m->J i T1 W1->(∀ k,T1 k->k<W1.heap.size)->(∀ k,S k->W.heap.size<=k/\k<W1.heap.size/\¬ T1 k)->E i v S W1->v.size=sz->YieldAt Fence.wide 0 P l v W1 (RoundPostP J Jx Jp (fun k=>T1 k∨S k) W1 i)) ->
  J 0 T W->Calls P g (#[.func (.yield l) #[] #[]]++lb) W (IterPostP J Jx Jp T W m)
def BodyPostP (I:Nat->(Nat->Prop)->World->Prop) (Ix:Code->Nat->(Nat->Prop)->World->Prop) (Ip:List PanicEntry->(Nat->Prop)->World->Prop) (T:Nat->Prop) (W:World) (i:Nat):Exit->Act->World->Prop
 | .panic ch,a,W'=>a.defers=[]/\∃ T',Ext T T' W W'/\Mod T W W'/\Ip ch T' W'
 | e,a,W'=>BodyPost I Ix T W i e a W'
variable {P:Program}
theorem fix_rangeP {f0:FuncId} {fnc:Func} (hf0:P.funcs[f0]?=some fnc) {g:Operand} {ps:Array Tmp} {assign body:Code} {Q:Exit->Act->World->Prop} {a:Act} {w:World}
  {gf:Nat} {lb:Array Value} (hg:a.eval g=.func (.func gf) #[] lb) (eg:∀ args w,(callFunc gf args).run P w=.ok (.enter gf args) w)
  {m sz:Nat} {E:Nat->Array Value->(Nat->Prop)->World->Prop} {D:Nat->Prop} {Kw:World->Prop} (hseq:IterP P gf lb m sz E Kw D w) (hps:sz=ps.size)
  (T:Nat->Prop) (hD:∀ k,D k->k<w.heap.size/\¬ T k) (hT:∀ k,T k->k<w.heap.size)
  (I:Nat->(Nat->Prop)->World->Prop) (Ix:Code->Nat->(Nat->Prop)->World->Prop) (Ip:List PanicEntry->(Nat->Prop)->World->Prop) (hKw:∀ i T1 W1,I i T1 W1->Kw W1) (hI:Stab w.heap.size I) (hIx:∀ c,Stab w.heap.size (Ix c)) (h0:I 0 T w)
  (Ax:Nat->Nat->Act->(Nat->Prop)->World->Prop) (hAx:∀ l i a' T1 W W',Ax l i a' T1 W->Mod (fun k=>k=l) W W'->Ax l i a' T1 W')
  (hassign:∀ (l i:Nat) (v:Array Value) (S T1:Nat->Prop) (W:World) (K:Act->World->Prop),i<m->E i v S W->v.size=ps.size->(∀ k,S k->w.heap.size+2<=k/\k<W.heap.size/\¬ T1 k/\k ≠ l)->Ext T T1 w W->Mod T w W->I i T1 W->(∀ k,T1 k->k<W.heap.size)->l<W.heap.size ->
   (∀ a' T' W',Ext (fun k=>T1 k∨S k) T' W W'->Mod (fun k=>T1 k∨S k) W W'->I i T' W'->Ax l i a' T' W'->K a' W') ->
   assign.wpIn (Fence.wide.inRound l) 0 P (Exit.then K (fun _ _ _=>False)) { tmps:=(ps.zip v).foldl (fun t (p,v)=>t.setIfInBounds p v) a.tmps,defers:=[] } W)
  (hbody:∀ (l i:Nat) (T1:Nat->Prop) (a':Act) (W:World),i<m->Ext T T1 w W->Mod T w W->I i T1 W->Ax l i a' T1 W->(∀ k,T1 k->k<W.heap.size)->w.heap.size<=l->¬ T1 l->(∃ r,W.heap[l]?=some (.loop r)) ->
   body.wpIn (Fence.wide.inRound l) 0 P (BodyPostP I Ix Ip T1 W (i+1)) a' W)
  (hdone:∀ (D0:Nat) (T':Nat->Prop) (W:World),w.heap.size<=D0->D0<W.heap.size->¬ T' D0->Ext T T' w W->Mod T w W->I m T' W->W.heap[D0]?=some (.deferred (some []))->Q .normal { a with defers:={ target:=.collected D0,args:=#[] } :: a.defers } W)
  (hstop:∀ (D0:Nat) (c:Code) (i:Nat) (T':Nat->Prop) (W:World),w.heap.size<=D0->D0<W.heap.size->¬ T' D0->0<i->i<=m->Ext T T' w W->Mod T w W->Ix c i T' W->W.heap[D0]?=some (.deferred (some []))->c.wpIn Fence.wide 0 P Q { a with defers:={ target:=.collected D0,args:=#[] } :: a.defers } W)
  (hpanic:∀ (D0:Nat) (ch:List PanicEntry) (T':Nat->Prop) (W:World),w.heap.size<=D0->D0<W.heap.size->¬ T' D0->Ext T T' w W->Mod T w W->Ip ch T' W->W.heap[D0]?=some (.deferred (some []))->Q (.panic ch) { a with defers:={ target:=.collected D0,args:=#[] } :: a.defers } W) :
  WpFix f0 P (Code.rangeFunc g ps assign body) Q a w:=by
 obtain ⟨rec,hrec⟩:∃ rec:LoopState->Option Code->Loop,rec=fun st pe=>{ state:=st,pending:=pe,fn:=f0,tmps:=a.tmps,params:=ps,assign,body,defers:=w.heap.size }:=⟨_,rfl⟩
 obtain ⟨W1,hW1⟩:∃ W1,(w.alloc (.deferred (some []))).alloc (.loop (rec .ready none))=W1:=⟨_,rfl⟩
 have hsz:W1.heap.size=w.heap.size+2:=by rw [<- hW1];simp
 have hL1:W1.heap[w.heap.size+1]?=some (.loop (rec .ready none)):=by
  rw [<- hW1];have:=World.alloc_heap_new (w.alloc (.deferred (some []))) (.loop (rec .ready none));rwa [World.size_alloc] at this
 have hK1:W1.heap[w.heap.size]?=some (.deferred (some [])):=by
  rw [<- hW1];exact (Below.heap_alloc _ _ _ (by simp)).trans (World.alloc_heap_new w _)
 have hm1:Mod (fun _=>False) w W1:=by rw [<- hW1];exact ((Mod.refl _ w).alloc _).alloc _
 have hI1:I 0 T W1:=hI _ _ _ _ _ h0 hm1 (fun _ h=>h.elim)
 refine fix_range (w.heap.size+1) [{ target:=.collected w.heap.size,args:=#[] }] W1 { target:=.fn (.func gf) lb,args:=#[.func (.yield (w.heap.size+1)) #[] #[]] } W1 gf
  (#[.func (.yield (w.heap.size+1)) #[] #[]]++lb) W1 ?_ ?_ ?_ ?_
 ·rw [<- hW1,hrec];exact run_enterLoop_outer _ _ _ _ _
 ·simp only [resolve,hg]
  simp [go_sem]
 ·simp [invoke,go_sem,eg]
 ·let T0:=T
  let X:(Nat->Prop)->Nat->Prop:=fun T1 k=>T1 k∨k=w.heap.size∨k=w.heap.size+1
  let J:Nat->(Nat->Prop)->World->Prop:=fun i T W=>∃ T1,(∀ k,T k ↔ X T1 k)/\¬ T1 w.heap.size/\¬ T1 (w.heap.size+1)/\(Ext T0 T1 w W/\Mod T0 w W)/\I i T1 W/\W.heap[w.heap.size+1]?=some (.loop (rec .ready none))/\W.heap[w.heap.size]?=some (.deferred (some []))
  let Jx:Nat->(Nat->Prop)->World->Prop:=fun i T W=>∃ T1 c,(∀ k,T k ↔ X T1 k)/\¬ T1 w.heap.size/\¬ T1 (w.heap.size+1)/\(Ext T0 T1 w W/\Mod T0 w W)/\Ix c i T1 W/\W.heap[w.heap.size+1]?=some (.loop (rec .done (some c)))/\W.heap[w.heap.size]?=some (.deferred (some []))
  let Jp:List PanicEntry->(Nat->Prop)->World->Prop:=fun ch T W=>∃ T1,(∀ k,T k ↔ X T1 k)/\¬ T1 w.heap.size/\¬ T1 (w.heap.size+1)/\(Ext T0 T1 w W/\Mod T0 w W)/\Ip ch T1 W/\W.heap[w.heap.size]?=some (.deferred (some []))
  have hST:∀ {T T1:Nat->Prop} {W W':World} {S:Nat->Prop},(∀ k,T k ↔ X T1 k)->(∀ k,S k->W1.heap.size<=k/\¬ T k)->∀ k,S k->w.heap.size<=k/\¬ T1 k:=fun e hS k hk=>⟨by have:=(hS k hk).1;omega,fun h=>(hS k hk).2 ((e k).2 (.inl h))⟩
  have hEM:∀ {T1:Nat->Prop} {W W':World} {S:Nat->Prop},Ext T0 T1 w W/\Mod T0 w W->Mod S W W'->(∀ k,S k->w.heap.size<=k)->Ext T0 T1 w W'/\Mod T0 w W':=fun h hm hS =>
   ⟨fun k hk=>by rcases h.1 k hk with g | g;exact .inl g;exact .inr ⟨g.1,by have:=hm.size;omega⟩,h.2.trans hm (fun k hk g=>by have:=hS k g;omega)⟩
  have hJ:Stab W1.heap.size J:=fun i T W W' S ⟨T1,e,n1,n2,hem,hi,hl,hk⟩ hm hS=>⟨T1,e,n1,n2,hEM hem hm (fun k hk=>by have:=(hS k hk).1;omega),hI _ _ _ _ _ hi hm (hST (W:=W) (W':=W') e hS),heap_kept hl hm (fun h=>(hS _ h).2 ((e _).2 (.inr (.inr rfl)))),heap_kept hk hm (fun h=>(hS _ h).2 ((e _).2 (.inr (.inl rfl))))⟩
  have hJx:Stab W1.heap.size Jx:=fun i T W W' S ⟨T1,c,e,n1,n2,hem,hi,hl,hk⟩ hm hS=>⟨T1,c,e,n1,n2,hEM hem hm (fun k hk=>by have:=(hS k hk).1;omega),hIx c _ _ _ _ _ hi hm (hST (W:=W) (W':=W') e hS),heap_kept hl hm (fun h=>(hS _ h).2 ((e _).2 (.inr (.inr rfl)))),heap_kept hk hm (fun h=>(hS _ h).2 ((e _).2 (.inr (.inl rfl))))⟩
  refine callsIn_wide.2 ((hseq (w.heap.size+1) J Jx Jp (X T) W1 (hm1.agree (fun k hk=>⟨(hD k hk).1,id⟩)) (fun k hk=>⟨by have:=(hD k hk).1;omega,fun h=>?_⟩) (fun k hk=>?_) hJ hJx (fun i T2 W2 hj=>by obtain ⟨T1,_,_,_,_,hi,_⟩:=hj;exact hKw _ _ _ hi) ?_ ⟨T,fun _=>Iff.rfl,fun h=>by have:=hT _ h;omega,fun h=>by have:=hT _ h;omega,⟨Ext.refl _ _ _,hm1.mono (fun _ h=>h.elim)⟩,hI1,hL1,hK1⟩).mono ?_)
  ·have:=(hD k hk).1
   rcases h with h | h | h
   ·exact (hD k hk).2 h
   ·omega
   ·omega
  ·rcases hk with h | h | h
   ·have:=hT k h;omega
   ·omega
   ·omega
  ·-- ONE ROUND
   rintro i TT0 W v S him ⟨T10,e0,n10,n20,hem0,hi,hl,hk⟩ hTT0 hSS hEv hvs
   have hT10:∀ k,T10 k->k<W.heap.size:=fun k hk=>hTT0 k ((e0 k).2 (.inl hk))
   let TT:Nat->Prop:=fun k=>TT0 k∨S k
   let T1:Nat->Prop:=fun k=>T10 k∨S k
   have e:∀ k,TT k ↔ X T1 k:=fun k=>⟨fun h=>by
    rcases h with h | h
    ·rcases (e0 k).1 h with h | h
     ·exact .inl (.inl h)
     ·exact .inr h
    ·exact .inl (.inr h),fun h=>by
    rcases h with (h | h) | h
    ·exact .inl ((e0 k).2 (.inl h))
    ·exact .inr h
    ·exact .inl ((e0 k).2 (.inr h))⟩
   have n1:¬ T1 w.heap.size:=fun h=>by
    rcases h with h | h
    ·exact n10 h
    ·have:=(hSS _ h).1;omega
   have n2:¬ T1 (w.heap.size+1):=fun h=>by
    rcases h with h | h
    ·exact n20 h
    ·have:=(hSS _ h).1;omega
   have hem:Ext T0 T1 w W/\Mod T0 w W:=⟨fun k hk=>by
    rcases hk with h | h
    ·exact hem0.1 k h
    ·exact .inr ⟨by have:=(hSS _ h).1;omega,(hSS _ h).2.1⟩,hem0.2⟩
   have hTT:∀ k,TT k->k<W.heap.size:=fun k hk=>by
    rcases hk with h | h
    ·exact hTT0 k h
    ·exact (hSS _ h).2.1
   have hSw:∀ k,S k->w.heap.size+2<=k/\k<W.heap.size/\¬ T10 k:=fun k hk=>⟨by have:=(hSS _ hk).1;omega,(hSS _ hk).2.1,fun h=>(hSS _ hk).2.2 ((e0 k).2 (.inl h))⟩
   have hT1:∀ k,T1 k->k<W.heap.size:=fun k hk=>hTT k ((e k).2 (.inl hk))
   have hy:=run_yield (P:=P) (args:=v) hl (by rw [hrec];exact hvs.trans hps)
   rw [hrec] at hy
   refine ⟨f0,_,assign,body,hy,roundIn_p trivial hf0 (hassign _ i v S T10 W _ him hEv (hvs.trans hps) (fun k hk=>⟨(hSw k hk).1,(hSw k hk).2.1,(hSw k hk).2.2,by have:=(hSw k hk).1;omega⟩) hem0.1 hem0.2 hi hT10 (gS hl).1 ?_)⟩
   clear hy
   intro a' T2 Wa he2 hm2 hi2 hax
   have hs2:=hm2.size
   have hl2:=heap_kept hl hm2 n2
   have hk2:=heap_kept hk hm2 n1
   have hlt:w.heap.size+1<W.heap.size:=(gS hl).1
   have hlt2:w.heap.size+1<Wa.heap.size:=by omega
   have n1':¬ T2 w.heap.size:=he2.not (by omega) n1
   have n2':¬ T2 (w.heap.size+1):=he2.not hlt n2
   have hT2:=he2.lt hs2 hT1
   refine ⟨_,run_beginRound hl2 (by rw [hrec]),?_⟩
   obtain ⟨Wb,hWb⟩:∃ Wb,Wa.putObj (w.heap.size+1) (.loop { rec .ready none with state:=.busy })=Wb:=⟨_,rfl⟩
   have hmb:Mod (fun k=>k=w.heap.size+1) Wa Wb:=by rw [<- hWb];exact Mod.putObj _ _ _
   have hlb:Wb.heap[w.heap.size+1]?=some (.loop { rec .ready none with state:=.busy }):=by rw [<- hWb];exact World.putObj_heap_same hlt2
   have hkb:=heap_kept hk2 hmb (by omega)
   have hd2:∀ k,k=w.heap.size+1->w.heap.size<=k/\¬ T2 k:=fun k hk=>⟨by omega,fun h=>n2' (hk ▸ h)⟩
   have hs0:=hem.2.size
   have hemb:Ext T0 T2 w Wb/\Mod T0 w Wb:=hEM ⟨hem.1.trans he2 hs0 hs2,hem.2.ext hm2 hem.1⟩ hmb (fun k hk=>by omega)
   have hib:=hI _ _ _ _ _ hi2 hmb hd2
   have haxb:=hAx _ _ _ _ _ _ hax hmb
   have hsb:Wb.heap.size=Wa.heap.size:=by rw [<- hWb];simp
   rw [hWb]
   refine wpIn_mono (hbody _ i T2 a' Wb him hemb.1 hemb.2 hib haxb (by rw [hsb];exact hT2) (by omega) n2' ⟨_,hlb⟩) ?_
   -- what a way out of the body comes to
   have fin:∀ (jump:Option Code) (T3:Nat->Prop) (W3:World),Ext T2 T3 Wb W3->Mod T2 Wb W3 ->
     ∃ W4,(Instr.endRound (w.heap.size+1) jump).run P W3=.ok (.bool jump.isNone) W4/\Mod (fun k=>k=w.heap.size+1) W3 W4 /\
     W4.heap[w.heap.size+1]?=some (.loop (rec (if jump.isNone then .ready else .done) jump))/\W4.heap[w.heap.size]?=some (.deferred (some [])) /\
     ¬ T3 w.heap.size/\¬ T3 (w.heap.size+1)/\Ext TT (X T3) W W4/\Mod TT W W4/\(Ext T0 T3 w W4/\Mod T0 w W4):=fun jump T3 W3 he3 hm3=>by
    have hl3:=heap_kept hlb hm3 n2'
    have hk3:=heap_kept hkb hm3 n1'
    have hs3:=hm3.size
    have hr:=run_endRound (P:=P) jump hl3
    refine ⟨W3.putObj (w.heap.size+1) (.loop (rec (if jump.isNone then .ready else .done) jump)),by rw [hrec] at hr ⊢;exact hr,Mod.putObj _ _ _,World.putObj_heap_same (gS hl3).1,(World.putObj_heap_other (by omega)).trans hk3,he3.not (by omega) n1',he3.not (by omega) n2',?_,?_,hEM ⟨hemb.1.trans he3 hemb.2.size hs3,hemb.2.ext hm3 hemb.1⟩ (Mod.putObj _ _ _) (fun k hk=>by omega)⟩
    ·intro k hk
     have hs4:(W3.putObj (w.heap.size+1) (.loop (rec (if jump.isNone then .ready else .done) jump))).heap.size=W3.heap.size:=by simp
     rcases hk with h | h | h
     ·rcases he3 k h with g | g
      ·rcases he2 k g with g | g
       ·exact .inl ((e k).2 (.inl g))
       ·exact .inr (by omega)
      ·exact .inr (by omega)
     ·exact .inl ((e k).2 (.inr (.inl h)))
     ·exact .inl ((e k).2 (.inr (.inr h)))
    ·have g1:Mod TT W Wa:=hm2.mono (fun k hk=>(e k).2 (.inl hk))
     have g2:Mod TT W Wb:=g1.trans hmb (fun k _ hk=>(e k).2 (.inr (.inr hk)))
     have g3:Mod TT W W3:=g2.trans hm3 (fun k hk1 hk2=>by
      rcases he2 k hk2 with g | g
      ·exact (e k).2 (.inl g)
      ·omega)
     exact g3.trans (Mod.putObj _ _ _) (fun k _ hk=>(e k).2 (.inr (.inr hk)))
   rintro ex a3 W3 hp
   cases ex with
   | normal =>
    obtain ⟨T3,he3,hm3,hi3⟩:=hp
    obtain ⟨W4,hr,hm4,hl4,hk4,n3,n4,hE,hM,hem4⟩:=fin none T3 W3 he3 hm3
    exact ⟨_,_,hr,_,hE,hM,.inl ⟨rfl,T3,fun _=>Iff.rfl,n3,n4,hem4,hI _ _ _ _ _ hi3 hm4 (fun k hk=>⟨by omega,fun h=>n4 (hk ▸ h)⟩),hl4,hk4⟩⟩
   | ret =>
    obtain ⟨T3,he3,hm3,hi3⟩:=hp
    obtain ⟨W4,hr,hm4,hl4,hk4,n3,n4,hE,hM,hem4⟩:=fin (some .ret) T3 W3 he3 hm3
    exact ⟨_,_,hr,_,hE,hM,.inr (.inl ⟨rfl,T3,.ret,fun _=>Iff.rfl,n3,n4,hem4,hIx _ _ _ _ _ _ hi3 hm4 (fun k hk=>⟨by omega,fun h=>n4 (hk ▸ h)⟩),hl4,hk4⟩)⟩
   | exit id =>
    obtain ⟨T3,he3,hm3,hi3⟩:=hp
    obtain ⟨W4,hr,hm4,hl4,hk4,n3,n4,hE,hM,hem4⟩:=fin (some (.exit id)) T3 W3 he3 hm3
    exact ⟨_,_,hr,_,hE,hM,.inr (.inl ⟨rfl,T3,.exit id,fun _=>Iff.rfl,n3,n4,hem4,hIx _ _ _ _ _ _ hi3 hm4 (fun k hk=>⟨by omega,fun h=>n4 (hk ▸ h)⟩),hl4,hk4⟩)⟩
   | goto t =>
    obtain ⟨T3,he3,hm3,hi3⟩:=hp
    obtain ⟨W4,hr,hm4,hl4,hk4,n3,n4,hE,hM,hem4⟩:=fin (some (.goto t)) T3 W3 he3 hm3
    exact ⟨_,_,hr,_,hE,hM,.inr (.inl ⟨rfl,T3,.goto t,fun _=>Iff.rfl,n3,n4,hem4,hIx _ _ _ _ _ _ hi3 hm4 (fun k hk=>⟨by omega,fun h=>n4 (hk ▸ h)⟩),hl4,hk4⟩)⟩
   | panic ch =>
    obtain ⟨hd,T3,he3,hm3,hi3⟩:=hp
    have hk3:=heap_kept hkb hm3 n1'
    have hs3:=hm3.size
    refine ⟨hd,X T3,?_,?_,.inr (.inr ⟨ch,rfl,T3,fun _=>Iff.rfl,he3.not (by omega) n1',he3.not (by omega) n2',⟨hemb.1.trans he3 hemb.2.size hs3,hemb.2.ext hm3 hemb.1⟩,hi3,hk3⟩)⟩
    ·intro k hk
     rcases hk with h | h | h
     ·rcases he3 k h with g | g
      ·rcases he2 k g with g | g
       ·exact .inl ((e k).2 (.inl g))
       ·exact .inr (by omega)
      ·exact .inr (by omega)
     ·exact .inl ((e k).2 (.inr (.inl h)))
     ·exact .inl ((e k).2 (.inr (.inr h)))
    ·have g1:Mod TT W Wa:=hm2.mono (fun k hk=>(e k).2 (.inl hk))
     have g2:Mod TT W Wb:=g1.trans hmb (fun k _ hk=>(e k).2 (.inr (.inr hk)))
     exact g2.trans hm3 (fun k hk1 hk2=>by
      rcases he2 k hk2 with g | g
      ·exact (e k).2 (.inl g)
      ·omega)
   | outgrown=>exact hp.elim
  ·-- BEHIND THE ITERATOR
   rintro ee W2 ⟨TT,hE,hM,hor⟩
   have hs2:=hM.size
   have hMw:Mod T w W2:=(hm1.mono (T:=T) (fun _ h=>h.elim)).trans hM (fun k hk h=>by
    rcases h with h | h | h
    ·exact h
    ·omega
    ·omega)
   rcases hor with ⟨⟨v,rfl⟩,hor⟩ | ⟨ch,rfl,T1,e,n1,n2,⟨hE1,hM1⟩,hi,hk⟩
   rotate_left
   ·exact hpanic _ ch T1 W2 (Nat.le_refl _) (gS hk).1 n1 hE1 hM1 hi hk
   have hfin:∀ (st:LoopState) (pe:Option Code) (T1:Nat->Prop),st ≠ .busy->(∀ k,TT k ↔ X T1 k)->¬ T1 w.heap.size->¬ T1 (w.heap.size+1)->W2.heap[w.heap.size+1]?=some (.loop (rec st pe))->W2.heap[w.heap.size]?=some (.deferred (some [])) ->
     ∃ W4,(Instr.endLoop (w.heap.size+1)).run P W2=.ok pe W4/\Mod (fun k=>k=w.heap.size+1) W2 W4/\W4.heap[w.heap.size]?=some (.deferred (some []))/\Ext T T1 w W4/\Mod T w W4/\w.heap.size<W4.heap.size:=fun st pe T1 hst e n1 n2 hl hk=>by
    have hr:=run_endLoop (P:=P) hl (by rw [hrec];exact hst)
    have hmm:Mod (fun k=>k=w.heap.size+1) W2 (W2.putObj (w.heap.size+1) (.loop { rec st pe with state:=.exhausted })):=Mod.putObj _ _ _
    refine ⟨W2.putObj (w.heap.size+1) (.loop { rec st pe with state:=.exhausted }),by rw [hrec] at hr ⊢;exact hr,hmm,(World.putObj_heap_other (by omega)).trans hk,?_,?_,?_⟩
    ·intro k hk
     rcases hE k ((e k).2 (.inl hk)) with h | h
     ·rcases h with h | h | h
      ·exact .inl h
      ·subst h;exact absurd hk n1
      ·subst h;exact absurd hk n2
     ·refine .inr ⟨by omega,?_⟩
      simp;omega
    ·exact hMw.trans (Mod.putObj _ _ _) (fun k hk h=>by omega)
    ·simp;omega
   rcases hor with ⟨T1,e,n1,n2,_,hi,hl,hk⟩ | ⟨i,hi0,him,T1,c,e,n1,n2,_,hi,hl,hk⟩
   ·obtain ⟨W4,hr,hm4,hk4,hE4,hM4,hlt4⟩:=hfin _ _ T1 (by simp) e n1 n2 hl hk
    exact ⟨none,W4,hr,hdone _ T1 W4 (Nat.le_refl _) hlt4 n1 hE4 hM4 (hI _ _ _ _ _ hi hm4 (fun k hk=>⟨by omega,fun h=>n2 (hk ▸ h)⟩)) hk4⟩
   ·obtain ⟨W4,hr,hm4,hk4,hE4,hM4,hlt4⟩:=hfin _ _ T1 (by simp) e n1 n2 hl hk
    exact ⟨some c,W4,hr,hstop _ c i T1 W4 (Nat.le_refl _) hlt4 n1 hi0 him hE4 hM4 (hIx c _ _ _ _ _ hi hm4 (fun k hk=>⟨by omega,fun h=>n2 (hk ▸ h)⟩)) hk4⟩

end Go.Chalk
/- A block, in an activation of a function that is known. -/
namespace Go.Chalk
open Go.RowKit
theorem fix_block {f0:FuncId} {P:Program} {id:Nat} {c:Code} {Q:Exit->Act->World->Prop} {a:Act} {w:World} (h:WpFix f0 P c (Exit.inBlock id Q) a w):WpFix f0 P (.block id c) Q a w:=by
 intro b k cs hro hb
 obtain ⟨e,a1,w1,hq,harr⟩:=h b (.inBlock id :: k) cs hro hb
 have s0:StepsIn (Machine.fenced P Fence.wide) P (lone (b.atR a (.code (.block id c) :: k)) cs w) (lone (b.atR a (.code c :: .inBlock id :: k)) cs w):=.one (fenced_wide _ _) stepR_block
 cases e with
 | normal=>exact ⟨.normal,a1,w1,hq,StepsIn.trans s0 (StepsIn.trans harr (.one (fenced_wide _ _) stepR_inBlock))⟩
 | ret=>exact ⟨_,a1,w1,hq,.of_steps s0 harr⟩
 | panic ch=>exact ⟨_,a1,w1,hq,.of_steps s0 harr⟩
 | outgrown=>exact ⟨_,a1,w1,hq,.of_steps s0 harr⟩
 | goto l =>
  have hx:gotoIn l (.inBlock id :: k)=gotoIn l k:=by simp [gotoIn]
  refine ⟨_,a1,w1,hq,fun k' hk=>StepsIn.trans s0 (harr.1 k' (by rw [hx];exact hk)),fun hr' hk=>?_⟩
  obtain ⟨k1,h1,h2⟩:=harr.2 hr' (by rw [hx];exact hk)
  exact ⟨k1,h1,StepsIn.trans s0 h2⟩
 | exit j =>
  by_cases hid:j=id
  ·subst hid
   simp only [Exit.inBlock,if_true] at hq
   exact ⟨.normal,a1,w1,hq,StepsIn.trans s0 (harr.1 k (by simp [exitTo]))⟩
  ·simp only [Exit.inBlock,hid,if_false] at hq
   have hx:exitTo j (.inBlock id :: k)=exitTo j k:=by
    have:(id==j)=false:=by simp;exact fun h=>hid h.symm
    simp [exitTo,this]
   refine ⟨.exit j,a1,w1,hq,fun k' hk=>StepsIn.trans s0 (harr.1 k' (by rw [hx];exact hk)),fun hr' hk=>?_⟩
   obtain ⟨k1,h1,h2⟩:=harr.2 hr' (by rw [hx];exact hk)
   exact ⟨k1,h1,StepsIn.trans s0 h2⟩
end Go.Chalk
