/- Joined texts: PPn, PPo, PPp, PPq, PPr, PPs, PPt, PPu. -/
import Derived.Test.YtpmalchlecnjbaaGreatDoorV37
import Derived.Defers
import Derived.Recover
import Derived.RegionTactic
import Derived.BigQuiet
import Derived.Test.YtpmalchlecnjbaaGreatDoorV28
import Derived.Test.YtpmalchlecnjbaaGreatDoorV02
import Derived.Test.YtpmalchlecnjbaaGreatDoorV34
import Derived.Deep.AppendLies
import Derived.Deep.RegionLaw
set_option maxHeartbeats 4000000
set_option maxRecDepth 100000
set_option linter.unusedVariables false
set_option linter.unusedSimpArgs false
/- The parser of layer syntax: rule. (written by tools/gen_ppn.py) -/
namespace Go.Proofs.YtpmalchlecnjbaaGreatDoor
open Go.RowKit Go.Chalk
attribute [local go_sem] Oper.semAt_some
theorem RulIn.modB {lo:Nat} {w w':World} {r:Rul} {x:RulA} {S:Nat->Prop} (h:RulIn w (Fr lo w) r x) (hm:Chalk.Mod S w w') (hS:∀ k,S k->k<lo):RulIn w' (Fr lo w') r x :=
 ⟨h.name,h.weight,h.each.modB hm hS,h.body.modB hm hS⟩
def PRul (w:World) (P:Nat) (R:Rs Rul) (e:Ending) (w':World):Prop :=
 Chalk.Mod (fun k=>k=P) w w'/\match R with
  | .ok r t=>(∃ x:RulA,e=.returned (.agg #[.string ⟨r.name.toArray⟩,.bool r.hard,.int .i64 r.weight,.slice x.each.a r.each.length x.each.cap,.int .i64 r.body.kind,.string ⟨r.body.name.toArray⟩,.int .i64 r.body.n,.slice x.body.t.a r.body.terms.length x.body.t.cap,.slice x.body.b.a r.body.binds.length x.body.b.cap,.slice x.body.l.a r.body.l.length x.body.l.cap])/\RulIn w' (Fr w.heap.size w') r x)/\PAt w' P t
  | .bad n=>e=.panicked (wrongP n)
theorem PRul.bad {w w':World} {P n:Nat} {R:Rs Rul} (hR:R=.bad n) (hm:Chalk.Mod (fun k=>k=P) w w'):PRul w P R (.panicked (wrongP n)) w':=by subst hR;exact ⟨hm,rfl⟩
theorem PRul.gets {w w':World} {P:Nat} {R:Rs Rul} {r:Rul} {t:List Tok} {e:Ending} (h:PRul w P R e w') (hR:R=.ok r t):∃ x:RulA,e=.returned (.agg #[.string ⟨r.name.toArray⟩,.bool r.hard,.int .i64 r.weight,.slice x.each.a r.each.length x.each.cap,.int .i64 r.body.kind,.string ⟨r.body.name.toArray⟩,.int .i64 r.body.n,.slice x.body.t.a r.body.terms.length x.body.t.cap,.slice x.body.b.a r.body.binds.length x.body.b.cap,.slice x.body.l.a r.body.l.length x.body.l.cap])/\RulIn w' (Fr w.heap.size w') r x/\PAt w' P t/\Chalk.Mod (fun k=>k=P) w w':=by
 subst hR
 obtain ⟨x,h1,h2⟩:=h.2.1
 exact ⟨x,h1,h2,h.2.2,h.1⟩
theorem PRul.fails {w w':World} {P n:Nat} {R:Rs Rul} {e:Ending} (h:PRul w P R e w') (hR:R=.bad n):e=.panicked (wrongP n)/\Chalk.Mod (fun k=>k=P) w w':=by
 subst hR;exact ⟨h.2,h.1⟩
theorem prule_hard_each (P:Nat) (w0:World) (hP:w0.heap.size<=P) (l:List Tok) (h1:isT [104,97,114,100] l=true) (he:∀ (s:Bs) (r:List Tok),pName l.tail=.ok s r->isT [101,97,99,104] r=true) (w:World) (h:PAt w P l) (hg:GB w0 w):Calls Tryz.prog 49 #[.pointer (some ⟨P,0,none⟩)] w (PRul w P (parRule l)):=by
 have hPl:=h.lt
 obtain ⟨RB,hRB⟩:∃ RB,RB=w.heap.size:=⟨_,rfl⟩
 obtain ⟨w1,hw1⟩:∃ w1,w1=w.alloc (.cells #[.string ⟨#[]⟩,.bool false,.int .i64 0,.slice none 0 0,.int .i64 0,.string ⟨#[]⟩,.int .i64 0,.slice none 0 0,.slice none 0 0,.slice none 0 0] 64):=⟨_,rfl⟩
 have hb:Below w.heap.size w w1:=by rw [hw1];exact below_new _ _
 have hx:w1.heap[RB]?=some (.cells #[.string ⟨#[]⟩,.bool false,.int .i64 0,.slice none 0 0,.int .i64 0,.string ⟨#[]⟩,.int .i64 0,.slice none 0 0,.slice none 0 0,.slice none 0 0] 64 (0,0)):=by rw [hw1,hRB];exact heap_alloc_new _ _
 have HGB:=Lh (fun (W:World) (hm:Chalk.Mod (fun k=>k=P) w W)=>hg.mod hP hm)
 have HPP:=Lh (aI hP hPl)
 have G1:=Lh (aI (h.below hb) (aI (Chalk.Mod.of_below (S:=fun k=>k=P) hb) hx))
 have HRP:Hid (P<RB/\w.heap.size<=RB):=Lh ⟨by omega,by omega⟩
 have HW1:=Lh hw1
 have HRB:=Lh hRB
 have HRQ:=Lh (show parRule l=(pName l.tail).bind fun s l=>(if isT [101,97,99,104] l then pBinds 6 l.tail else .ok [] l).bind fun e l=>(pWant [58] l).bind fun _ l=>(parF l).bind fun f l=>(pWant [59] l).bind fun _ l=>.ok ⟨s,true,0,e,f⟩ l from by unfold parRule pHead;rw [if_pos h1];cases pName l.tail <;> rfl)
 have HE2:=Lh he
 clear h hg hP hb hx hw1 hRB hPl he
 go_enter Tryz.func49,Tryz.ntmps49
 go_wp2_with fail
 rw [<- HW1.out,<- HRB.out]
 refine (ptook_yes P [104,97,114,100] _ w1 G1.out.1 (by assumption)).mono ?_
 rintro e w2 ⟨rfl,hp,hm⟩
 have G2:=Lh (aI hp (aI (G1.out.2.1.trans hm (fun _ _ h=>h)) (heap_kept G1.out.2.2 hm (by have:=HRP.out;omega))))
 clear hp hm
 clear h1
 go_wp2_with fail
 refine (pname_u P l.tail w2 G2.out.1 (HGB.out w2 G2.out.2.1).gs.gat).mono ?_
 rintro e w3 hp
 cases hO1:pName l.tail with
 | bad m =>
  obtain ⟨rfl,hm⟩:=hp.fails hO1
  exact ⟨rfl,PRul.bad (by rw [HRQ.out];simp only [Rs.bind,hO1]) (G2.out.2.1.trans hm (fun _ _ h=>h))⟩
 | ok nm r1 =>
  have HO1:=Lh hO1
  have HNA:=Lh (pName_len hO1 G2.out.1.2.1)
  have hea:=HE2.out _ _ hO1
  have HEA:=Lh hea
  obtain ⟨rfl,hp,hm⟩:=hp.gets hO1
  have G3:=Lh (aI hp (aI (G2.out.2.1.trans hm (fun _ _ h=>h)) (heap_kept G2.out.2.2 hm (by have:=HRP.out;omega))))
  clear hO1 hp hm
  have y0:w3.cell? ⟨RB,0,none⟩=some (.string ⟨#[]⟩):=cH G3.out.2.2 rfl
  have y1:w3.cell? ⟨RB,1,none⟩=some (.bool false):=cH G3.out.2.2 rfl
  have y2:w3.cell? ⟨RB,2,none⟩=some (.int .i64 0):=cH G3.out.2.2 rfl
  have y3:w3.cell? ⟨RB,3,none⟩=some (.slice none 0 0):=cH G3.out.2.2 rfl
  have y4:w3.cell? ⟨RB,4,none⟩=some (.int .i64 0):=cH G3.out.2.2 rfl
  have y5:w3.cell? ⟨RB,5,none⟩=some (.string ⟨#[]⟩):=cH G3.out.2.2 rfl
  have y6:w3.cell? ⟨RB,6,none⟩=some (.int .i64 0):=cH G3.out.2.2 rfl
  have y7:w3.cell? ⟨RB,7,none⟩=some (.slice none 0 0):=cH G3.out.2.2 rfl
  have y8:w3.cell? ⟨RB,8,none⟩=some (.slice none 0 0):=cH G3.out.2.2 rfl
  have y9:w3.cell? ⟨RB,9,none⟩=some (.slice none 0 0):=cH G3.out.2.2 rfl
  have yf0:w3.frozen? ⟨RB,0,none⟩=false:=fH G3.out.2.2
  have yf1:w3.frozen? ⟨RB,1,none⟩=false:=fH G3.out.2.2
  have yf2:w3.frozen? ⟨RB,2,none⟩=false:=fH G3.out.2.2
  have yf3:w3.frozen? ⟨RB,3,none⟩=false:=fH G3.out.2.2
  have yf4:w3.frozen? ⟨RB,4,none⟩=false:=fH G3.out.2.2
  have yf5:w3.frozen? ⟨RB,5,none⟩=false:=fH G3.out.2.2
  have yf6:w3.frozen? ⟨RB,6,none⟩=false:=fH G3.out.2.2
  have yf7:w3.frozen? ⟨RB,7,none⟩=false:=fH G3.out.2.2
  have yf8:w3.frozen? ⟨RB,8,none⟩=false:=fH G3.out.2.2
  have yf9:w3.frozen? ⟨RB,9,none⟩=false:=fH G3.out.2.2
  have hrl:RB<w3.heap.size:=(gS G3.out.2.2).1
  clear hea
  go_wp2_with fail
  clear hrl y0 yf0 y1 yf1 y2 yf2 y3 yf3 y4 yf4 y5 yf5 y6 yf6 y7 yf7 y8 yf8 y9 yf9
  have hm:Chalk.Mod (fun k=>k=RB) w3 (w3.setCell ⟨RB,1,none⟩ (.bool true)):=(Chalk.Mod.refl (fun k=>k=RB) w3).setCell (p:=⟨RB,1,none⟩) (fun _=>rfl) _
  have hx:=box_store (i:=1) (.bool true) G3.out.2.2
  simp only [ub1,ub2,ub3] at hx
  generalize w3.setCell ⟨RB,1,none⟩ (.bool true)=w4 at hm hx ⊢
  have G4:=Lh (aI (G3.out.1.one hm HRP.out.1) (aI (mod_one G3.out.2.1 hm HRP.out.2) hx))
  clear hm hx
  have hm:Chalk.Mod (fun k=>k=RB) w4 (w4.setCell ⟨RB,0,none⟩ (.string ⟨nm.toArray⟩)):=(Chalk.Mod.refl (fun k=>k=RB) w4).setCell (p:=⟨RB,0,none⟩) (fun _=>rfl) _
  have hx:=box_store (i:=0) (.string ⟨nm.toArray⟩) G4.out.2.2
  simp only [ub1,ub2,ub3] at hx
  generalize w4.setCell ⟨RB,0,none⟩ (.string ⟨nm.toArray⟩)=w5 at hm hx ⊢
  have G5:=Lh (aI (G4.out.1.one hm HRP.out.1) (aI (mod_one G4.out.2.1 hm HRP.out.2) hx))
  clear hm hx
  have hea:=HEA.out
  refine (ptook_yes P [101,97,99,104] _ w5 G5.out.1 (by assumption)).mono ?_
  rintro e w6 ⟨rfl,hp,hm⟩
  have G6:=Lh (aI hp (aI (G5.out.2.1.trans hm (fun _ _ h=>h)) (heap_kept G5.out.2.2 hm (by have:=HRP.out;omega))))
  clear hp hm
  go_wp2_with fail
  refine (pbinds_any P r1.tail w0 w6 G6.out.1 (HGB.out w6 G6.out.2.1) HPP.out.1).mono ?_
  rintro e w7 hp
  cases hO2:pBinds 6 r1.tail with
  | bad m =>
   obtain ⟨rfl,hm⟩:=hp.fails hO2
   exact ⟨rfl,PRul.bad (by rw [HRQ.out];simp only [Rs.bind,HO1.out,HEA.out,if_true,hO2]) (G6.out.2.1.trans hm (fun _ _ h=>h))⟩
  | ok bs r2 =>
   have HO2:=Lh hO2
   obtain ⟨z,rfl,hz,hp,hm⟩:=hp.gets hO2
   have HLO0:Hid (P<w6.heap.size/\RB<w6.heap.size/\w.heap.size<=w6.heap.size):=Lh ⟨G6.out.1.lt,(gS G6.out.2.2).1,G6.out.2.1.size⟩
   have G7:=Lh (aI hp (aI (G6.out.2.1.trans hm (fun _ _ h=>h)) (aI (heap_kept G6.out.2.2 hm (by have:=HRP.out;omega)) hz)))
   clear hO2 hp hm hz
   have y0:w7.cell? ⟨RB,0,none⟩=some (.string ⟨nm.toArray⟩):=cH G7.out.2.2.1 rfl
   have y1:w7.cell? ⟨RB,1,none⟩=some (.bool true):=cH G7.out.2.2.1 rfl
   have y2:w7.cell? ⟨RB,2,none⟩=some (.int .i64 0):=cH G7.out.2.2.1 rfl
   have y3:w7.cell? ⟨RB,3,none⟩=some (.slice none 0 0):=cH G7.out.2.2.1 rfl
   have y4:w7.cell? ⟨RB,4,none⟩=some (.int .i64 0):=cH G7.out.2.2.1 rfl
   have y5:w7.cell? ⟨RB,5,none⟩=some (.string ⟨#[]⟩):=cH G7.out.2.2.1 rfl
   have y6:w7.cell? ⟨RB,6,none⟩=some (.int .i64 0):=cH G7.out.2.2.1 rfl
   have y7:w7.cell? ⟨RB,7,none⟩=some (.slice none 0 0):=cH G7.out.2.2.1 rfl
   have y8:w7.cell? ⟨RB,8,none⟩=some (.slice none 0 0):=cH G7.out.2.2.1 rfl
   have y9:w7.cell? ⟨RB,9,none⟩=some (.slice none 0 0):=cH G7.out.2.2.1 rfl
   have yf0:w7.frozen? ⟨RB,0,none⟩=false:=fH G7.out.2.2.1
   have yf1:w7.frozen? ⟨RB,1,none⟩=false:=fH G7.out.2.2.1
   have yf2:w7.frozen? ⟨RB,2,none⟩=false:=fH G7.out.2.2.1
   have yf3:w7.frozen? ⟨RB,3,none⟩=false:=fH G7.out.2.2.1
   have yf4:w7.frozen? ⟨RB,4,none⟩=false:=fH G7.out.2.2.1
   have yf5:w7.frozen? ⟨RB,5,none⟩=false:=fH G7.out.2.2.1
   have yf6:w7.frozen? ⟨RB,6,none⟩=false:=fH G7.out.2.2.1
   have yf7:w7.frozen? ⟨RB,7,none⟩=false:=fH G7.out.2.2.1
   have yf8:w7.frozen? ⟨RB,8,none⟩=false:=fH G7.out.2.2.1
   have yf9:w7.frozen? ⟨RB,9,none⟩=false:=fH G7.out.2.2.1
   have hrl:RB<w7.heap.size:=(gS G7.out.2.2.1).1
   go_wp2_with fail
   clear hrl y0 yf0 y1 yf1 y2 yf2 y3 yf3 y4 yf4 y5 yf5 y6 yf6 y7 yf7 y8 yf8 y9 yf9
   have hm:Chalk.Mod (fun k=>k=RB) w7 (w7.setCell ⟨RB,3,none⟩ (.slice z.a bs.length z.cap)):=(Chalk.Mod.refl (fun k=>k=RB) w7).setCell (p:=⟨RB,3,none⟩) (fun _=>rfl) _
   have hx:=box_store (i:=3) (.slice z.a bs.length z.cap) G7.out.2.2.1
   simp only [ub1,ub2,ub3] at hx
   generalize w7.setCell ⟨RB,3,none⟩ (.slice z.a bs.length z.cap)=w8 at hm hx ⊢
   have G8:=Lh (aI (G7.out.1.one hm HRP.out.1) (aI (mod_one G7.out.2.1 hm HRP.out.2) (aI hx (G7.out.2.2.2.modB hm (fun k hk=>by have:=HRP.out;have:=HLO0.out;omega)))))
   clear hm hx
   refine (pwant_u P [58] r2 w8 G8.out.1).mono ?_
   rintro e w9 hp
   cases hO3:pWant [58] r2 with
   | bad m =>
    obtain ⟨rfl,hm⟩:=hp.fails hO3
    exact ⟨rfl,PRul.bad (by rw [HRQ.out];simp only [Rs.bind,HO1.out,HEA.out,if_true,HO2.out,hO3]) (G8.out.2.1.trans hm (fun _ _ h=>h))⟩
   | ok u1 r3 =>
    have HO3:=Lh hO3
    obtain ⟨rfl,hp,hm⟩:=hp.gets hO3
    have G9:=Lh (aI hp (aI (G8.out.2.1.trans hm (fun _ _ h=>h)) (aI (heap_kept G8.out.2.2.1 hm (by have:=HRP.out;omega)) (G8.out.2.2.2.modB hm (fun k hk=>by have:=HRP.out;have:=HLO0.out;omega)))))
    clear hO3 hp hm
    go_wp2_with fail
    refine (pf_any P w0 HPP.out.1 r3 w9 G9.out.1 (HGB.out w9 G9.out.2.1)).mono ?_
    rintro e w10 hp
    cases hO4:parF r3 with
    | bad m =>
     obtain ⟨rfl,hm⟩:=hp.fails hO4
     exact ⟨rfl,PRul.bad (by rw [HRQ.out];simp only [Rs.bind,HO1.out,HEA.out,if_true,HO2.out,HO3.out,hO4]) (G9.out.2.1.trans hm (fun _ _ h=>h))⟩
    | ok f r4 =>
     have HO4:=Lh hO4
     obtain ⟨x,rfl,hxf,hp,hm⟩:=hp.gets hO4
     have HLO1:Hid (P<w9.heap.size/\RB<w9.heap.size/\w.heap.size<=w9.heap.size):=Lh ⟨G9.out.1.lt,(gS G9.out.2.2.1).1,G9.out.2.1.size⟩
     have G10:=Lh (aI hp (aI (G9.out.2.1.trans hm (fun _ _ h=>h)) (aI (heap_kept G9.out.2.2.1 hm (by have:=HRP.out;omega)) (aI (G9.out.2.2.2.modB hm (fun k hk=>by have:=HRP.out;have:=HLO0.out;omega)) hxf))))
     clear hO4 hp hm hxf
     have y0:w10.cell? ⟨RB,0,none⟩=some (.string ⟨nm.toArray⟩):=cH G10.out.2.2.1 rfl
     have y1:w10.cell? ⟨RB,1,none⟩=some (.bool true):=cH G10.out.2.2.1 rfl
     have y2:w10.cell? ⟨RB,2,none⟩=some (.int .i64 0):=cH G10.out.2.2.1 rfl
     have y3:w10.cell? ⟨RB,3,none⟩=some (.slice z.a bs.length z.cap):=cH G10.out.2.2.1 rfl
     have y4:w10.cell? ⟨RB,4,none⟩=some (.int .i64 0):=cH G10.out.2.2.1 rfl
     have y5:w10.cell? ⟨RB,5,none⟩=some (.string ⟨#[]⟩):=cH G10.out.2.2.1 rfl
     have y6:w10.cell? ⟨RB,6,none⟩=some (.int .i64 0):=cH G10.out.2.2.1 rfl
     have y7:w10.cell? ⟨RB,7,none⟩=some (.slice none 0 0):=cH G10.out.2.2.1 rfl
     have y8:w10.cell? ⟨RB,8,none⟩=some (.slice none 0 0):=cH G10.out.2.2.1 rfl
     have y9:w10.cell? ⟨RB,9,none⟩=some (.slice none 0 0):=cH G10.out.2.2.1 rfl
     have yf0:w10.frozen? ⟨RB,0,none⟩=false:=fH G10.out.2.2.1
     have yf1:w10.frozen? ⟨RB,1,none⟩=false:=fH G10.out.2.2.1
     have yf2:w10.frozen? ⟨RB,2,none⟩=false:=fH G10.out.2.2.1
     have yf3:w10.frozen? ⟨RB,3,none⟩=false:=fH G10.out.2.2.1
     have yf4:w10.frozen? ⟨RB,4,none⟩=false:=fH G10.out.2.2.1
     have yf5:w10.frozen? ⟨RB,5,none⟩=false:=fH G10.out.2.2.1
     have yf6:w10.frozen? ⟨RB,6,none⟩=false:=fH G10.out.2.2.1
     have yf7:w10.frozen? ⟨RB,7,none⟩=false:=fH G10.out.2.2.1
     have yf8:w10.frozen? ⟨RB,8,none⟩=false:=fH G10.out.2.2.1
     have yf9:w10.frozen? ⟨RB,9,none⟩=false:=fH G10.out.2.2.1
     have hrl:RB<w10.heap.size:=(gS G10.out.2.2.1).1
     go_wp2_with fail
     clear hrl y0 yf0 y1 yf1 y2 yf2 y3 yf3 y4 yf4 y5 yf5 y6 yf6 y7 yf7 y8 yf8 y9 yf9
     have hm:Chalk.Mod (fun k=>k=RB) w10 (w10.setCell ⟨RB,4,none⟩ (.int .i64 f.kind)):=(Chalk.Mod.refl (fun k=>k=RB) w10).setCell (p:=⟨RB,4,none⟩) (fun _=>rfl) _
     have hx:=box_store (i:=4) (.int .i64 f.kind) G10.out.2.2.1
     simp only [ub1,ub2,ub3] at hx
     generalize w10.setCell ⟨RB,4,none⟩ (.int .i64 f.kind)=w11 at hm hx ⊢
     have G11:=Lh (aI (G10.out.1.one hm HRP.out.1) (aI (mod_one G10.out.2.1 hm HRP.out.2) (aI hx (aI (G10.out.2.2.2.1.modB hm (fun k hk=>by have:=HRP.out;have:=HLO0.out;omega)) (G10.out.2.2.2.2.modB hm (fun k hk=>by have:=HRP.out;have:=HLO1.out;omega))))))
     clear hm hx
     have hm:Chalk.Mod (fun k=>k=RB) w11 (w11.setCell ⟨RB,5,none⟩ (.string ⟨f.name.toArray⟩)):=(Chalk.Mod.refl (fun k=>k=RB) w11).setCell (p:=⟨RB,5,none⟩) (fun _=>rfl) _
     have hx:=box_store (i:=5) (.string ⟨f.name.toArray⟩) G11.out.2.2.1
     simp only [ub1,ub2,ub3] at hx
     generalize w11.setCell ⟨RB,5,none⟩ (.string ⟨f.name.toArray⟩)=w12 at hm hx ⊢
     have G12:=Lh (aI (G11.out.1.one hm HRP.out.1) (aI (mod_one G11.out.2.1 hm HRP.out.2) (aI hx (aI (G11.out.2.2.2.1.modB hm (fun k hk=>by have:=HRP.out;have:=HLO0.out;omega)) (G11.out.2.2.2.2.modB hm (fun k hk=>by have:=HRP.out;have:=HLO1.out;omega))))))
     clear hm hx
     have hm:Chalk.Mod (fun k=>k=RB) w12 (w12.setCell ⟨RB,6,none⟩ (.int .i64 f.n)):=(Chalk.Mod.refl (fun k=>k=RB) w12).setCell (p:=⟨RB,6,none⟩) (fun _=>rfl) _
     have hx:=box_store (i:=6) (.int .i64 f.n) G12.out.2.2.1
     simp only [ub1,ub2,ub3] at hx
     generalize w12.setCell ⟨RB,6,none⟩ (.int .i64 f.n)=w13 at hm hx ⊢
     have G13:=Lh (aI (G12.out.1.one hm HRP.out.1) (aI (mod_one G12.out.2.1 hm HRP.out.2) (aI hx (aI (G12.out.2.2.2.1.modB hm (fun k hk=>by have:=HRP.out;have:=HLO0.out;omega)) (G12.out.2.2.2.2.modB hm (fun k hk=>by have:=HRP.out;have:=HLO1.out;omega))))))
     clear hm hx
     have hm:Chalk.Mod (fun k=>k=RB) w13 (w13.setCell ⟨RB,7,none⟩ (.slice x.t.a f.terms.length x.t.cap)):=(Chalk.Mod.refl (fun k=>k=RB) w13).setCell (p:=⟨RB,7,none⟩) (fun _=>rfl) _
     have hx:=box_store (i:=7) (.slice x.t.a f.terms.length x.t.cap) G13.out.2.2.1
     simp only [ub1,ub2,ub3] at hx
     generalize w13.setCell ⟨RB,7,none⟩ (.slice x.t.a f.terms.length x.t.cap)=w14 at hm hx ⊢
     have G14:=Lh (aI (G13.out.1.one hm HRP.out.1) (aI (mod_one G13.out.2.1 hm HRP.out.2) (aI hx (aI (G13.out.2.2.2.1.modB hm (fun k hk=>by have:=HRP.out;have:=HLO0.out;omega)) (G13.out.2.2.2.2.modB hm (fun k hk=>by have:=HRP.out;have:=HLO1.out;omega))))))
     clear hm hx
     have hm:Chalk.Mod (fun k=>k=RB) w14 (w14.setCell ⟨RB,8,none⟩ (.slice x.b.a f.binds.length x.b.cap)):=(Chalk.Mod.refl (fun k=>k=RB) w14).setCell (p:=⟨RB,8,none⟩) (fun _=>rfl) _
     have hx:=box_store (i:=8) (.slice x.b.a f.binds.length x.b.cap) G14.out.2.2.1
     simp only [ub1,ub2,ub3] at hx
     generalize w14.setCell ⟨RB,8,none⟩ (.slice x.b.a f.binds.length x.b.cap)=w15 at hm hx ⊢
     have G15:=Lh (aI (G14.out.1.one hm HRP.out.1) (aI (mod_one G14.out.2.1 hm HRP.out.2) (aI hx (aI (G14.out.2.2.2.1.modB hm (fun k hk=>by have:=HRP.out;have:=HLO0.out;omega)) (G14.out.2.2.2.2.modB hm (fun k hk=>by have:=HRP.out;have:=HLO1.out;omega))))))
     clear hm hx
     have hm:Chalk.Mod (fun k=>k=RB) w15 (w15.setCell ⟨RB,9,none⟩ (.slice x.l.a f.l.length x.l.cap)):=(Chalk.Mod.refl (fun k=>k=RB) w15).setCell (p:=⟨RB,9,none⟩) (fun _=>rfl) _
     have hx:=box_store (i:=9) (.slice x.l.a f.l.length x.l.cap) G15.out.2.2.1
     simp only [ub1,ub2,ub3] at hx
     generalize w15.setCell ⟨RB,9,none⟩ (.slice x.l.a f.l.length x.l.cap)=w16 at hm hx ⊢
     have G16:=Lh (aI (G15.out.1.one hm HRP.out.1) (aI (mod_one G15.out.2.1 hm HRP.out.2) (aI hx (aI (G15.out.2.2.2.1.modB hm (fun k hk=>by have:=HRP.out;have:=HLO0.out;omega)) (G15.out.2.2.2.2.modB hm (fun k hk=>by have:=HRP.out;have:=HLO1.out;omega))))))
     clear hm hx
     refine (pwant_u P [59] r4 w16 G16.out.1).mono ?_
     rintro e w17 hp
     cases hO5:pWant [59] r4 with
     | bad m =>
      obtain ⟨rfl,hm⟩:=hp.fails hO5
      exact ⟨rfl,PRul.bad (by rw [HRQ.out];simp only [Rs.bind,HO1.out,HEA.out,if_true,HO2.out,HO3.out,HO4.out,hO5]) (G16.out.2.1.trans hm (fun _ _ h=>h))⟩
     | ok u2 r5 =>
      have HO5:=Lh hO5
      obtain ⟨rfl,hp,hm⟩:=hp.gets hO5
      have G17:=Lh (aI hp (aI (G16.out.2.1.trans hm (fun _ _ h=>h)) (aI (heap_kept G16.out.2.2.1 hm (by have:=HRP.out;omega)) (aI (G16.out.2.2.2.1.modB hm (fun k hk=>by have:=HRP.out;have:=HLO0.out;omega)) (G16.out.2.2.2.2.modB hm (fun k hk=>by have:=HRP.out;have:=HLO1.out;omega))))))
      clear hO5 hp hm
      have HB:=Lh (show parRule l=.ok ⟨nm,true,0,bs,f⟩ r5 from by rw [HRQ.out];simp only [Rs.bind,HO1.out,HEA.out,if_true,HO2.out,HO3.out,HO4.out,HO5.out])
      have y0:w17.cell? ⟨RB,0,none⟩=some (.string ⟨nm.toArray⟩):=cH G17.out.2.2.1 rfl
      have y1:w17.cell? ⟨RB,1,none⟩=some (.bool true):=cH G17.out.2.2.1 rfl
      have y2:w17.cell? ⟨RB,2,none⟩=some (.int .i64 0):=cH G17.out.2.2.1 rfl
      have y3:w17.cell? ⟨RB,3,none⟩=some (.slice z.a bs.length z.cap):=cH G17.out.2.2.1 rfl
      have y4:w17.cell? ⟨RB,4,none⟩=some (.int .i64 f.kind):=cH G17.out.2.2.1 rfl
      have y5:w17.cell? ⟨RB,5,none⟩=some (.string ⟨f.name.toArray⟩):=cH G17.out.2.2.1 rfl
      have y6:w17.cell? ⟨RB,6,none⟩=some (.int .i64 f.n):=cH G17.out.2.2.1 rfl
      have y7:w17.cell? ⟨RB,7,none⟩=some (.slice x.t.a f.terms.length x.t.cap):=cH G17.out.2.2.1 rfl
      have y8:w17.cell? ⟨RB,8,none⟩=some (.slice x.b.a f.binds.length x.b.cap):=cH G17.out.2.2.1 rfl
      have y9:w17.cell? ⟨RB,9,none⟩=some (.slice x.l.a f.l.length x.l.cap):=cH G17.out.2.2.1 rfl
      have yf0:w17.frozen? ⟨RB,0,none⟩=false:=fH G17.out.2.2.1
      have yf1:w17.frozen? ⟨RB,1,none⟩=false:=fH G17.out.2.2.1
      have yf2:w17.frozen? ⟨RB,2,none⟩=false:=fH G17.out.2.2.1
      have yf3:w17.frozen? ⟨RB,3,none⟩=false:=fH G17.out.2.2.1
      have yf4:w17.frozen? ⟨RB,4,none⟩=false:=fH G17.out.2.2.1
      have yf5:w17.frozen? ⟨RB,5,none⟩=false:=fH G17.out.2.2.1
      have yf6:w17.frozen? ⟨RB,6,none⟩=false:=fH G17.out.2.2.1
      have yf7:w17.frozen? ⟨RB,7,none⟩=false:=fH G17.out.2.2.1
      have yf8:w17.frozen? ⟨RB,8,none⟩=false:=fH G17.out.2.2.1
      have yf9:w17.frozen? ⟨RB,9,none⟩=false:=fH G17.out.2.2.1
      have hrl:RB<w17.heap.size:=(gS G17.out.2.2.1).1
      go_wp2_with fail
      refine bodyPost_ret (v:=.agg #[.string ⟨nm.toArray⟩,.bool true,.int .i64 0,.slice z.a bs.length z.cap,.int .i64 f.kind,.string ⟨f.name.toArray⟩,.int .i64 f.n,.slice x.t.a f.terms.length x.t.cap,.slice x.b.a f.binds.length x.b.cap,.slice x.l.a f.l.length x.l.cap]) (by simp [results,Tryz.results49,go_sem, *]) rfl ?_
      have hst:=st10_mod w17 RB (.string ⟨nm.toArray⟩) (.bool true) (.int .i64 0) (.slice z.a bs.length z.cap) (.int .i64 f.kind) (.string ⟨f.name.toArray⟩) (.int .i64 f.n) (.slice x.t.a f.terms.length x.t.cap) (.slice x.b.a f.binds.length x.b.cap) (.slice x.l.a f.l.length x.l.cap)
      unfold st10 at hst
      generalize (((((((((w17.setCell _ _).setCell _ _).setCell _ _).setCell _ _).setCell _ _).setCell _ _).setCell _ _).setCell _ _).setCell _ _).setCell _ _=w99 at hst ⊢
      rw [HB.out]
      exact ⟨mod_one G17.out.2.1 hst HRP.out.2,⟨⟨z,x⟩,rfl,⟨(show nm.length<=maxLen by have:=HNA.out;unfold maxLen;omega),(show I64 0 from i64_of' (by decide)),((G17.out.2.2.2.1.modB hst (fun k hk=>by have:=HRP.out;have:=HLO0.out;omega)).mono (fun k hk=>⟨by have:=hk.1;have:=HLO0.out;omega,hk.2⟩)),((G17.out.2.2.2.2.modB hst (fun k hk=>by have:=HRP.out;have:=HLO1.out;omega)).lower (by have:=HLO1.out;omega))⟩⟩,G17.out.1.one hst HRP.out.1⟩
theorem prule_hard_none (P:Nat) (w0:World) (hP:w0.heap.size<=P) (l:List Tok) (h1:isT [104,97,114,100] l=true) (he:∀ (s:Bs) (r:List Tok),pName l.tail=.ok s r->isT [101,97,99,104] r=false) (w:World) (h:PAt w P l) (hg:GB w0 w):Calls Tryz.prog 49 #[.pointer (some ⟨P,0,none⟩)] w (PRul w P (parRule l)):=by
 have hPl:=h.lt
 obtain ⟨RB,hRB⟩:∃ RB,RB=w.heap.size:=⟨_,rfl⟩
 obtain ⟨w1,hw1⟩:∃ w1,w1=w.alloc (.cells #[.string ⟨#[]⟩,.bool false,.int .i64 0,.slice none 0 0,.int .i64 0,.string ⟨#[]⟩,.int .i64 0,.slice none 0 0,.slice none 0 0,.slice none 0 0] 64):=⟨_,rfl⟩
 have hb:Below w.heap.size w w1:=by rw [hw1];exact below_new _ _
 have hx:w1.heap[RB]?=some (.cells #[.string ⟨#[]⟩,.bool false,.int .i64 0,.slice none 0 0,.int .i64 0,.string ⟨#[]⟩,.int .i64 0,.slice none 0 0,.slice none 0 0,.slice none 0 0] 64 (0,0)):=by rw [hw1,hRB];exact heap_alloc_new _ _
 have HGB:=Lh (fun (W:World) (hm:Chalk.Mod (fun k=>k=P) w W)=>hg.mod hP hm)
 have HPP:=Lh (aI hP hPl)
 have G1:=Lh (aI (h.below hb) (aI (Chalk.Mod.of_below (S:=fun k=>k=P) hb) hx))
 have HRP:Hid (P<RB/\w.heap.size<=RB):=Lh ⟨by omega,by omega⟩
 have HW1:=Lh hw1
 have HRB:=Lh hRB
 have HRQ:=Lh (show parRule l=(pName l.tail).bind fun s l=>(if isT [101,97,99,104] l then pBinds 6 l.tail else .ok [] l).bind fun e l=>(pWant [58] l).bind fun _ l=>(parF l).bind fun f l=>(pWant [59] l).bind fun _ l=>.ok ⟨s,true,0,e,f⟩ l from by unfold parRule pHead;rw [if_pos h1];cases pName l.tail <;> rfl)
 have HE2:=Lh he
 clear h hg hP hb hx hw1 hRB hPl he
 go_enter Tryz.func49,Tryz.ntmps49
 go_wp2_with fail
 rw [<- HW1.out,<- HRB.out]
 refine (ptook_yes P [104,97,114,100] _ w1 G1.out.1 (by assumption)).mono ?_
 rintro e w2 ⟨rfl,hp,hm⟩
 have G2:=Lh (aI hp (aI (G1.out.2.1.trans hm (fun _ _ h=>h)) (heap_kept G1.out.2.2 hm (by have:=HRP.out;omega))))
 clear hp hm
 clear h1
 go_wp2_with fail
 refine (pname_u P l.tail w2 G2.out.1 (HGB.out w2 G2.out.2.1).gs.gat).mono ?_
 rintro e w3 hp
 cases hO1:pName l.tail with
 | bad m =>
  obtain ⟨rfl,hm⟩:=hp.fails hO1
  exact ⟨rfl,PRul.bad (by rw [HRQ.out];simp only [Rs.bind,hO1]) (G2.out.2.1.trans hm (fun _ _ h=>h))⟩
 | ok nm r1 =>
  have HO1:=Lh hO1
  have HNA:=Lh (pName_len hO1 G2.out.1.2.1)
  have hea:=HE2.out _ _ hO1
  have HEA:=Lh hea
  obtain ⟨rfl,hp,hm⟩:=hp.gets hO1
  have G3:=Lh (aI hp (aI (G2.out.2.1.trans hm (fun _ _ h=>h)) (heap_kept G2.out.2.2 hm (by have:=HRP.out;omega))))
  clear hO1 hp hm
  have y0:w3.cell? ⟨RB,0,none⟩=some (.string ⟨#[]⟩):=cH G3.out.2.2 rfl
  have y1:w3.cell? ⟨RB,1,none⟩=some (.bool false):=cH G3.out.2.2 rfl
  have y2:w3.cell? ⟨RB,2,none⟩=some (.int .i64 0):=cH G3.out.2.2 rfl
  have y3:w3.cell? ⟨RB,3,none⟩=some (.slice none 0 0):=cH G3.out.2.2 rfl
  have y4:w3.cell? ⟨RB,4,none⟩=some (.int .i64 0):=cH G3.out.2.2 rfl
  have y5:w3.cell? ⟨RB,5,none⟩=some (.string ⟨#[]⟩):=cH G3.out.2.2 rfl
  have y6:w3.cell? ⟨RB,6,none⟩=some (.int .i64 0):=cH G3.out.2.2 rfl
  have y7:w3.cell? ⟨RB,7,none⟩=some (.slice none 0 0):=cH G3.out.2.2 rfl
  have y8:w3.cell? ⟨RB,8,none⟩=some (.slice none 0 0):=cH G3.out.2.2 rfl
  have y9:w3.cell? ⟨RB,9,none⟩=some (.slice none 0 0):=cH G3.out.2.2 rfl
  have yf0:w3.frozen? ⟨RB,0,none⟩=false:=fH G3.out.2.2
  have yf1:w3.frozen? ⟨RB,1,none⟩=false:=fH G3.out.2.2
  have yf2:w3.frozen? ⟨RB,2,none⟩=false:=fH G3.out.2.2
  have yf3:w3.frozen? ⟨RB,3,none⟩=false:=fH G3.out.2.2
  have yf4:w3.frozen? ⟨RB,4,none⟩=false:=fH G3.out.2.2
  have yf5:w3.frozen? ⟨RB,5,none⟩=false:=fH G3.out.2.2
  have yf6:w3.frozen? ⟨RB,6,none⟩=false:=fH G3.out.2.2
  have yf7:w3.frozen? ⟨RB,7,none⟩=false:=fH G3.out.2.2
  have yf8:w3.frozen? ⟨RB,8,none⟩=false:=fH G3.out.2.2
  have yf9:w3.frozen? ⟨RB,9,none⟩=false:=fH G3.out.2.2
  have hrl:RB<w3.heap.size:=(gS G3.out.2.2).1
  clear hea
  go_wp2_with fail
  clear hrl y0 yf0 y1 yf1 y2 yf2 y3 yf3 y4 yf4 y5 yf5 y6 yf6 y7 yf7 y8 yf8 y9 yf9
  have hm:Chalk.Mod (fun k=>k=RB) w3 (w3.setCell ⟨RB,1,none⟩ (.bool true)):=(Chalk.Mod.refl (fun k=>k=RB) w3).setCell (p:=⟨RB,1,none⟩) (fun _=>rfl) _
  have hx:=box_store (i:=1) (.bool true) G3.out.2.2
  simp only [ub1,ub2,ub3] at hx
  generalize w3.setCell ⟨RB,1,none⟩ (.bool true)=w4 at hm hx ⊢
  have G4:=Lh (aI (G3.out.1.one hm HRP.out.1) (aI (mod_one G3.out.2.1 hm HRP.out.2) hx))
  clear hm hx
  have hm:Chalk.Mod (fun k=>k=RB) w4 (w4.setCell ⟨RB,0,none⟩ (.string ⟨nm.toArray⟩)):=(Chalk.Mod.refl (fun k=>k=RB) w4).setCell (p:=⟨RB,0,none⟩) (fun _=>rfl) _
  have hx:=box_store (i:=0) (.string ⟨nm.toArray⟩) G4.out.2.2
  simp only [ub1,ub2,ub3] at hx
  generalize w4.setCell ⟨RB,0,none⟩ (.string ⟨nm.toArray⟩)=w5 at hm hx ⊢
  have G5:=Lh (aI (G4.out.1.one hm HRP.out.1) (aI (mod_one G4.out.2.1 hm HRP.out.2) hx))
  clear hm hx
  have hea:=HEA.out
  refine (ptook_no P [101,97,99,104] _ w5 G5.out.1 (by assumption)).mono ?_
  rintro e w6 ⟨rfl,hb⟩
  have hm:=Chalk.Mod.of_below (S:=fun k=>k=P) hb
  have G6:=Lh (aI (G5.out.1.below hb) (aI (G5.out.2.1.trans hm (fun _ _ h=>h)) (heap_kept G5.out.2.2 hm (by have:=HRP.out;omega))))
  clear hb hm
  go_wp2_with fail
  refine (pwant_u P [58] r1 w6 G6.out.1).mono ?_
  rintro e w7 hp
  cases hO2:pWant [58] r1 with
  | bad m =>
   obtain ⟨rfl,hm⟩:=hp.fails hO2
   exact ⟨rfl,PRul.bad (by rw [HRQ.out];simp only [Rs.bind,HO1.out,HEA.out,Bool.false_eq_true,if_false,hO2]) (G6.out.2.1.trans hm (fun _ _ h=>h))⟩
  | ok u1 r2 =>
   have HO2:=Lh hO2
   obtain ⟨rfl,hp,hm⟩:=hp.gets hO2
   have G7:=Lh (aI hp (aI (G6.out.2.1.trans hm (fun _ _ h=>h)) (heap_kept G6.out.2.2 hm (by have:=HRP.out;omega))))
   clear hO2 hp hm
   go_wp2_with fail
   refine (pf_any P w0 HPP.out.1 r2 w7 G7.out.1 (HGB.out w7 G7.out.2.1)).mono ?_
   rintro e w8 hp
   cases hO3:parF r2 with
   | bad m =>
    obtain ⟨rfl,hm⟩:=hp.fails hO3
    exact ⟨rfl,PRul.bad (by rw [HRQ.out];simp only [Rs.bind,HO1.out,HEA.out,Bool.false_eq_true,if_false,HO2.out,hO3]) (G7.out.2.1.trans hm (fun _ _ h=>h))⟩
   | ok f r3 =>
    have HO3:=Lh hO3
    obtain ⟨x,rfl,hxf,hp,hm⟩:=hp.gets hO3
    have HLO0:Hid (P<w7.heap.size/\RB<w7.heap.size/\w.heap.size<=w7.heap.size):=Lh ⟨G7.out.1.lt,(gS G7.out.2.2).1,G7.out.2.1.size⟩
    have G8:=Lh (aI hp (aI (G7.out.2.1.trans hm (fun _ _ h=>h)) (aI (heap_kept G7.out.2.2 hm (by have:=HRP.out;omega)) hxf)))
    clear hO3 hp hm hxf
    have y0:w8.cell? ⟨RB,0,none⟩=some (.string ⟨nm.toArray⟩):=cH G8.out.2.2.1 rfl
    have y1:w8.cell? ⟨RB,1,none⟩=some (.bool true):=cH G8.out.2.2.1 rfl
    have y2:w8.cell? ⟨RB,2,none⟩=some (.int .i64 0):=cH G8.out.2.2.1 rfl
    have y3:w8.cell? ⟨RB,3,none⟩=some (.slice none 0 0):=cH G8.out.2.2.1 rfl
    have y4:w8.cell? ⟨RB,4,none⟩=some (.int .i64 0):=cH G8.out.2.2.1 rfl
    have y5:w8.cell? ⟨RB,5,none⟩=some (.string ⟨#[]⟩):=cH G8.out.2.2.1 rfl
    have y6:w8.cell? ⟨RB,6,none⟩=some (.int .i64 0):=cH G8.out.2.2.1 rfl
    have y7:w8.cell? ⟨RB,7,none⟩=some (.slice none 0 0):=cH G8.out.2.2.1 rfl
    have y8:w8.cell? ⟨RB,8,none⟩=some (.slice none 0 0):=cH G8.out.2.2.1 rfl
    have y9:w8.cell? ⟨RB,9,none⟩=some (.slice none 0 0):=cH G8.out.2.2.1 rfl
    have yf0:w8.frozen? ⟨RB,0,none⟩=false:=fH G8.out.2.2.1
    have yf1:w8.frozen? ⟨RB,1,none⟩=false:=fH G8.out.2.2.1
    have yf2:w8.frozen? ⟨RB,2,none⟩=false:=fH G8.out.2.2.1
    have yf3:w8.frozen? ⟨RB,3,none⟩=false:=fH G8.out.2.2.1
    have yf4:w8.frozen? ⟨RB,4,none⟩=false:=fH G8.out.2.2.1
    have yf5:w8.frozen? ⟨RB,5,none⟩=false:=fH G8.out.2.2.1
    have yf6:w8.frozen? ⟨RB,6,none⟩=false:=fH G8.out.2.2.1
    have yf7:w8.frozen? ⟨RB,7,none⟩=false:=fH G8.out.2.2.1
    have yf8:w8.frozen? ⟨RB,8,none⟩=false:=fH G8.out.2.2.1
    have yf9:w8.frozen? ⟨RB,9,none⟩=false:=fH G8.out.2.2.1
    have hrl:RB<w8.heap.size:=(gS G8.out.2.2.1).1
    go_wp2_with fail
    clear hrl y0 yf0 y1 yf1 y2 yf2 y3 yf3 y4 yf4 y5 yf5 y6 yf6 y7 yf7 y8 yf8 y9 yf9
    have hm:Chalk.Mod (fun k=>k=RB) w8 (w8.setCell ⟨RB,4,none⟩ (.int .i64 f.kind)):=(Chalk.Mod.refl (fun k=>k=RB) w8).setCell (p:=⟨RB,4,none⟩) (fun _=>rfl) _
    have hx:=box_store (i:=4) (.int .i64 f.kind) G8.out.2.2.1
    simp only [ub1,ub2,ub3] at hx
    generalize w8.setCell ⟨RB,4,none⟩ (.int .i64 f.kind)=w9 at hm hx ⊢
    have G9:=Lh (aI (G8.out.1.one hm HRP.out.1) (aI (mod_one G8.out.2.1 hm HRP.out.2) (aI hx (G8.out.2.2.2.modB hm (fun k hk=>by have:=HRP.out;have:=HLO0.out;omega)))))
    clear hm hx
    have hm:Chalk.Mod (fun k=>k=RB) w9 (w9.setCell ⟨RB,5,none⟩ (.string ⟨f.name.toArray⟩)):=(Chalk.Mod.refl (fun k=>k=RB) w9).setCell (p:=⟨RB,5,none⟩) (fun _=>rfl) _
    have hx:=box_store (i:=5) (.string ⟨f.name.toArray⟩) G9.out.2.2.1
    simp only [ub1,ub2,ub3] at hx
    generalize w9.setCell ⟨RB,5,none⟩ (.string ⟨f.name.toArray⟩)=w10 at hm hx ⊢
    have G10:=Lh (aI (G9.out.1.one hm HRP.out.1) (aI (mod_one G9.out.2.1 hm HRP.out.2) (aI hx (G9.out.2.2.2.modB hm (fun k hk=>by have:=HRP.out;have:=HLO0.out;omega)))))
    clear hm hx
    have hm:Chalk.Mod (fun k=>k=RB) w10 (w10.setCell ⟨RB,6,none⟩ (.int .i64 f.n)):=(Chalk.Mod.refl (fun k=>k=RB) w10).setCell (p:=⟨RB,6,none⟩) (fun _=>rfl) _
    have hx:=box_store (i:=6) (.int .i64 f.n) G10.out.2.2.1
    simp only [ub1,ub2,ub3] at hx
    generalize w10.setCell ⟨RB,6,none⟩ (.int .i64 f.n)=w11 at hm hx ⊢
    have G11:=Lh (aI (G10.out.1.one hm HRP.out.1) (aI (mod_one G10.out.2.1 hm HRP.out.2) (aI hx (G10.out.2.2.2.modB hm (fun k hk=>by have:=HRP.out;have:=HLO0.out;omega)))))
    clear hm hx
    have hm:Chalk.Mod (fun k=>k=RB) w11 (w11.setCell ⟨RB,7,none⟩ (.slice x.t.a f.terms.length x.t.cap)):=(Chalk.Mod.refl (fun k=>k=RB) w11).setCell (p:=⟨RB,7,none⟩) (fun _=>rfl) _
    have hx:=box_store (i:=7) (.slice x.t.a f.terms.length x.t.cap) G11.out.2.2.1
    simp only [ub1,ub2,ub3] at hx
    generalize w11.setCell ⟨RB,7,none⟩ (.slice x.t.a f.terms.length x.t.cap)=w12 at hm hx ⊢
    have G12:=Lh (aI (G11.out.1.one hm HRP.out.1) (aI (mod_one G11.out.2.1 hm HRP.out.2) (aI hx (G11.out.2.2.2.modB hm (fun k hk=>by have:=HRP.out;have:=HLO0.out;omega)))))
    clear hm hx
    have hm:Chalk.Mod (fun k=>k=RB) w12 (w12.setCell ⟨RB,8,none⟩ (.slice x.b.a f.binds.length x.b.cap)):=(Chalk.Mod.refl (fun k=>k=RB) w12).setCell (p:=⟨RB,8,none⟩) (fun _=>rfl) _
    have hx:=box_store (i:=8) (.slice x.b.a f.binds.length x.b.cap) G12.out.2.2.1
    simp only [ub1,ub2,ub3] at hx
    generalize w12.setCell ⟨RB,8,none⟩ (.slice x.b.a f.binds.length x.b.cap)=w13 at hm hx ⊢
    have G13:=Lh (aI (G12.out.1.one hm HRP.out.1) (aI (mod_one G12.out.2.1 hm HRP.out.2) (aI hx (G12.out.2.2.2.modB hm (fun k hk=>by have:=HRP.out;have:=HLO0.out;omega)))))
    clear hm hx
    have hm:Chalk.Mod (fun k=>k=RB) w13 (w13.setCell ⟨RB,9,none⟩ (.slice x.l.a f.l.length x.l.cap)):=(Chalk.Mod.refl (fun k=>k=RB) w13).setCell (p:=⟨RB,9,none⟩) (fun _=>rfl) _
    have hx:=box_store (i:=9) (.slice x.l.a f.l.length x.l.cap) G13.out.2.2.1
    simp only [ub1,ub2,ub3] at hx
    generalize w13.setCell ⟨RB,9,none⟩ (.slice x.l.a f.l.length x.l.cap)=w14 at hm hx ⊢
    have G14:=Lh (aI (G13.out.1.one hm HRP.out.1) (aI (mod_one G13.out.2.1 hm HRP.out.2) (aI hx (G13.out.2.2.2.modB hm (fun k hk=>by have:=HRP.out;have:=HLO0.out;omega)))))
    clear hm hx
    refine (pwant_u P [59] r3 w14 G14.out.1).mono ?_
    rintro e w15 hp
    cases hO4:pWant [59] r3 with
    | bad m =>
     obtain ⟨rfl,hm⟩:=hp.fails hO4
     exact ⟨rfl,PRul.bad (by rw [HRQ.out];simp only [Rs.bind,HO1.out,HEA.out,Bool.false_eq_true,if_false,HO2.out,HO3.out,hO4]) (G14.out.2.1.trans hm (fun _ _ h=>h))⟩
    | ok u2 r4 =>
     have HO4:=Lh hO4
     obtain ⟨rfl,hp,hm⟩:=hp.gets hO4
     have G15:=Lh (aI hp (aI (G14.out.2.1.trans hm (fun _ _ h=>h)) (aI (heap_kept G14.out.2.2.1 hm (by have:=HRP.out;omega)) (G14.out.2.2.2.modB hm (fun k hk=>by have:=HRP.out;have:=HLO0.out;omega)))))
     clear hO4 hp hm
     have HB:=Lh (show parRule l=.ok ⟨nm,true,0,[],f⟩ r4 from by rw [HRQ.out];simp only [Rs.bind,HO1.out,HEA.out,Bool.false_eq_true,if_false,HO2.out,HO3.out,HO4.out])
     have y0:w15.cell? ⟨RB,0,none⟩=some (.string ⟨nm.toArray⟩):=cH G15.out.2.2.1 rfl
     have y1:w15.cell? ⟨RB,1,none⟩=some (.bool true):=cH G15.out.2.2.1 rfl
     have y2:w15.cell? ⟨RB,2,none⟩=some (.int .i64 0):=cH G15.out.2.2.1 rfl
     have y3:w15.cell? ⟨RB,3,none⟩=some (.slice none 0 0):=cH G15.out.2.2.1 rfl
     have y4:w15.cell? ⟨RB,4,none⟩=some (.int .i64 f.kind):=cH G15.out.2.2.1 rfl
     have y5:w15.cell? ⟨RB,5,none⟩=some (.string ⟨f.name.toArray⟩):=cH G15.out.2.2.1 rfl
     have y6:w15.cell? ⟨RB,6,none⟩=some (.int .i64 f.n):=cH G15.out.2.2.1 rfl
     have y7:w15.cell? ⟨RB,7,none⟩=some (.slice x.t.a f.terms.length x.t.cap):=cH G15.out.2.2.1 rfl
     have y8:w15.cell? ⟨RB,8,none⟩=some (.slice x.b.a f.binds.length x.b.cap):=cH G15.out.2.2.1 rfl
     have y9:w15.cell? ⟨RB,9,none⟩=some (.slice x.l.a f.l.length x.l.cap):=cH G15.out.2.2.1 rfl
     have yf0:w15.frozen? ⟨RB,0,none⟩=false:=fH G15.out.2.2.1
     have yf1:w15.frozen? ⟨RB,1,none⟩=false:=fH G15.out.2.2.1
     have yf2:w15.frozen? ⟨RB,2,none⟩=false:=fH G15.out.2.2.1
     have yf3:w15.frozen? ⟨RB,3,none⟩=false:=fH G15.out.2.2.1
     have yf4:w15.frozen? ⟨RB,4,none⟩=false:=fH G15.out.2.2.1
     have yf5:w15.frozen? ⟨RB,5,none⟩=false:=fH G15.out.2.2.1
     have yf6:w15.frozen? ⟨RB,6,none⟩=false:=fH G15.out.2.2.1
     have yf7:w15.frozen? ⟨RB,7,none⟩=false:=fH G15.out.2.2.1
     have yf8:w15.frozen? ⟨RB,8,none⟩=false:=fH G15.out.2.2.1
     have yf9:w15.frozen? ⟨RB,9,none⟩=false:=fH G15.out.2.2.1
     have hrl:RB<w15.heap.size:=(gS G15.out.2.2.1).1
     go_wp2_with fail
     refine bodyPost_ret (v:=.agg #[.string ⟨nm.toArray⟩,.bool true,.int .i64 0,.slice none 0 0,.int .i64 f.kind,.string ⟨f.name.toArray⟩,.int .i64 f.n,.slice x.t.a f.terms.length x.t.cap,.slice x.b.a f.binds.length x.b.cap,.slice x.l.a f.l.length x.l.cap]) (by simp [results,Tryz.results49,go_sem, *]) rfl ?_
     have hst:=st10_mod w15 RB (.string ⟨nm.toArray⟩) (.bool true) (.int .i64 0) (.slice none 0 0) (.int .i64 f.kind) (.string ⟨f.name.toArray⟩) (.int .i64 f.n) (.slice x.t.a f.terms.length x.t.cap) (.slice x.b.a f.binds.length x.b.cap) (.slice x.l.a f.l.length x.l.cap)
     unfold st10 at hst
     generalize (((((((((w15.setCell _ _).setCell _ _).setCell _ _).setCell _ _).setCell _ _).setCell _ _).setCell _ _).setCell _ _).setCell _ _).setCell _ _=w99 at hst ⊢
     rw [HB.out]
     exact ⟨mod_one G15.out.2.1 hst HRP.out.2,⟨⟨noS,x⟩,rfl,⟨(show nm.length<=maxLen by have:=HNA.out;unfold maxLen;omega),(show I64 0 from i64_of' (by decide)),(SlIn.nil (Nat.zero_le _) _ _ _),((G15.out.2.2.2.modB hst (fun k hk=>by have:=HRP.out;have:=HLO0.out;omega)).lower (by have:=HLO0.out;omega))⟩⟩,G15.out.1.one hst HRP.out.1⟩
theorem prule_soft_each (P:Nat) (w0:World) (hP:w0.heap.size<=P) (l:List Tok) (h1:isT [104,97,114,100] l=false) (h2:isT [115,111,102,116] l=true) (he:∀ (s:Bs) (r:List Tok) (n:Int) (q:List Tok),pName l.tail=.ok s r->pNumber 1 1000 r=.ok n q->isT [101,97,99,104] q=true) (w:World) (h:PAt w P l) (hg:GB w0 w):Calls Tryz.prog 49 #[.pointer (some ⟨P,0,none⟩)] w (PRul w P (parRule l)):=by
 have hPl:=h.lt
 obtain ⟨RB,hRB⟩:∃ RB,RB=w.heap.size:=⟨_,rfl⟩
 obtain ⟨w1,hw1⟩:∃ w1,w1=w.alloc (.cells #[.string ⟨#[]⟩,.bool false,.int .i64 0,.slice none 0 0,.int .i64 0,.string ⟨#[]⟩,.int .i64 0,.slice none 0 0,.slice none 0 0,.slice none 0 0] 64):=⟨_,rfl⟩
 have hb:Below w.heap.size w w1:=by rw [hw1];exact below_new _ _
 have hx:w1.heap[RB]?=some (.cells #[.string ⟨#[]⟩,.bool false,.int .i64 0,.slice none 0 0,.int .i64 0,.string ⟨#[]⟩,.int .i64 0,.slice none 0 0,.slice none 0 0,.slice none 0 0] 64 (0,0)):=by rw [hw1,hRB];exact heap_alloc_new _ _
 have HGB:=Lh (fun (W:World) (hm:Chalk.Mod (fun k=>k=P) w W)=>hg.mod hP hm)
 have HPP:=Lh (aI hP hPl)
 have G1:=Lh (aI (h.below hb) (aI (Chalk.Mod.of_below (S:=fun k=>k=P) hb) hx))
 have HRP:Hid (P<RB/\w.heap.size<=RB):=Lh ⟨by omega,by omega⟩
 have HW1:=Lh hw1
 have HRB:=Lh hRB
 have HRQ:=Lh (show parRule l=(pName l.tail).bind fun s l=>(pNumber 1 1000 l).bind fun n l=>(if isT [101,97,99,104] l then pBinds 6 l.tail else .ok [] l).bind fun e l=>(pWant [58] l).bind fun _ l=>(parF l).bind fun f l=>(pWant [59] l).bind fun _ l=>.ok ⟨s,false,n,e,f⟩ l from by
  unfold parRule pHead
  rw [if_neg (by rw [h1];decide),if_pos h2]
  cases pName l.tail with
  | bad m=>rfl
  | ok s r =>
   simp only [Rs.bind]
   cases pNumber 1 1000 r <;> rfl)
 have HE2:=Lh he
 clear h hg hP hb hx hw1 hRB hPl he
 go_enter Tryz.func49,Tryz.ntmps49
 go_wp2_with fail
 rw [<- HW1.out,<- HRB.out]
 refine (ptook_no P [104,97,114,100] _ w1 G1.out.1 (by assumption)).mono ?_
 rintro e w2 ⟨rfl,hb⟩
 have hm:=Chalk.Mod.of_below (S:=fun k=>k=P) hb
 have G2:=Lh (aI (G1.out.1.below hb) (aI (G1.out.2.1.trans hm (fun _ _ h=>h)) (heap_kept G1.out.2.2 hm (by have:=HRP.out;omega))))
 clear hb hm
 clear h1
 go_wp2_with fail
 refine (ptook_yes P [115,111,102,116] _ w2 G2.out.1 (by assumption)).mono ?_
 rintro e w3 ⟨rfl,hp,hm⟩
 have G3:=Lh (aI hp (aI (G2.out.2.1.trans hm (fun _ _ h=>h)) (heap_kept G2.out.2.2 hm (by have:=HRP.out;omega))))
 clear hp hm
 clear h2
 go_wp2_with fail
 refine (pname_u P l.tail w3 G3.out.1 (HGB.out w3 G3.out.2.1).gs.gat).mono ?_
 rintro e w4 hp
 cases hO1:pName l.tail with
 | bad m =>
  obtain ⟨rfl,hm⟩:=hp.fails hO1
  exact ⟨rfl,PRul.bad (by rw [HRQ.out];simp only [Rs.bind,hO1]) (G3.out.2.1.trans hm (fun _ _ h=>h))⟩
 | ok nm r1 =>
  have HO1:=Lh hO1
  have HNA:=Lh (pName_len hO1 G3.out.1.2.1)
  obtain ⟨rfl,hp,hm⟩:=hp.gets hO1
  have G4:=Lh (aI hp (aI (G3.out.2.1.trans hm (fun _ _ h=>h)) (heap_kept G3.out.2.2 hm (by have:=HRP.out;omega))))
  clear hO1 hp hm
  have y0:w4.cell? ⟨RB,0,none⟩=some (.string ⟨#[]⟩):=cH G4.out.2.2 rfl
  have y1:w4.cell? ⟨RB,1,none⟩=some (.bool false):=cH G4.out.2.2 rfl
  have y2:w4.cell? ⟨RB,2,none⟩=some (.int .i64 0):=cH G4.out.2.2 rfl
  have y3:w4.cell? ⟨RB,3,none⟩=some (.slice none 0 0):=cH G4.out.2.2 rfl
  have y4:w4.cell? ⟨RB,4,none⟩=some (.int .i64 0):=cH G4.out.2.2 rfl
  have y5:w4.cell? ⟨RB,5,none⟩=some (.string ⟨#[]⟩):=cH G4.out.2.2 rfl
  have y6:w4.cell? ⟨RB,6,none⟩=some (.int .i64 0):=cH G4.out.2.2 rfl
  have y7:w4.cell? ⟨RB,7,none⟩=some (.slice none 0 0):=cH G4.out.2.2 rfl
  have y8:w4.cell? ⟨RB,8,none⟩=some (.slice none 0 0):=cH G4.out.2.2 rfl
  have y9:w4.cell? ⟨RB,9,none⟩=some (.slice none 0 0):=cH G4.out.2.2 rfl
  have yf0:w4.frozen? ⟨RB,0,none⟩=false:=fH G4.out.2.2
  have yf1:w4.frozen? ⟨RB,1,none⟩=false:=fH G4.out.2.2
  have yf2:w4.frozen? ⟨RB,2,none⟩=false:=fH G4.out.2.2
  have yf3:w4.frozen? ⟨RB,3,none⟩=false:=fH G4.out.2.2
  have yf4:w4.frozen? ⟨RB,4,none⟩=false:=fH G4.out.2.2
  have yf5:w4.frozen? ⟨RB,5,none⟩=false:=fH G4.out.2.2
  have yf6:w4.frozen? ⟨RB,6,none⟩=false:=fH G4.out.2.2
  have yf7:w4.frozen? ⟨RB,7,none⟩=false:=fH G4.out.2.2
  have yf8:w4.frozen? ⟨RB,8,none⟩=false:=fH G4.out.2.2
  have yf9:w4.frozen? ⟨RB,9,none⟩=false:=fH G4.out.2.2
  have hrl:RB<w4.heap.size:=(gS G4.out.2.2).1
  go_wp2_with fail
  clear hrl y0 yf0 y1 yf1 y2 yf2 y3 yf3 y4 yf4 y5 yf5 y6 yf6 y7 yf7 y8 yf8 y9 yf9
  have hm:Chalk.Mod (fun k=>k=RB) w4 (w4.setCell ⟨RB,0,none⟩ (.string ⟨nm.toArray⟩)):=(Chalk.Mod.refl (fun k=>k=RB) w4).setCell (p:=⟨RB,0,none⟩) (fun _=>rfl) _
  have hx:=box_store (i:=0) (.string ⟨nm.toArray⟩) G4.out.2.2
  simp only [ub1,ub2,ub3] at hx
  generalize w4.setCell ⟨RB,0,none⟩ (.string ⟨nm.toArray⟩)=w5 at hm hx ⊢
  have G5:=Lh (aI (G4.out.1.one hm HRP.out.1) (aI (mod_one G4.out.2.1 hm HRP.out.2) hx))
  clear hm hx
  refine (pnum_u P r1 1 1000 (by decide) w5 G5.out.1 (HGB.out w5 G5.out.2.1).gs).mono ?_
  rintro e w6 hp
  cases hO2:pNumber 1 1000 r1 with
  | bad m =>
   obtain ⟨rfl,hm⟩:=hp.fails hO2
   exact ⟨rfl,PRul.bad (by rw [HRQ.out];simp only [Rs.bind,HO1.out,hO2]) (G5.out.2.1.trans hm (fun _ _ h=>h))⟩
  | ok n r2 =>
   have HO2:=Lh hO2
   have HNN:=Lh (num_range hO2)
   have hea:=HE2.out _ _ _ _ HO1.out hO2
   have HEA:=Lh hea
   obtain ⟨rfl,hp,hm⟩:=hp.gets hO2
   have G6:=Lh (aI hp (aI (G5.out.2.1.trans hm (fun _ _ h=>h)) (heap_kept G5.out.2.2 hm (by have:=HRP.out;omega))))
   clear hO2 hp hm
   have y0:w6.cell? ⟨RB,0,none⟩=some (.string ⟨nm.toArray⟩):=cH G6.out.2.2 rfl
   have y1:w6.cell? ⟨RB,1,none⟩=some (.bool false):=cH G6.out.2.2 rfl
   have y2:w6.cell? ⟨RB,2,none⟩=some (.int .i64 0):=cH G6.out.2.2 rfl
   have y3:w6.cell? ⟨RB,3,none⟩=some (.slice none 0 0):=cH G6.out.2.2 rfl
   have y4:w6.cell? ⟨RB,4,none⟩=some (.int .i64 0):=cH G6.out.2.2 rfl
   have y5:w6.cell? ⟨RB,5,none⟩=some (.string ⟨#[]⟩):=cH G6.out.2.2 rfl
   have y6:w6.cell? ⟨RB,6,none⟩=some (.int .i64 0):=cH G6.out.2.2 rfl
   have y7:w6.cell? ⟨RB,7,none⟩=some (.slice none 0 0):=cH G6.out.2.2 rfl
   have y8:w6.cell? ⟨RB,8,none⟩=some (.slice none 0 0):=cH G6.out.2.2 rfl
   have y9:w6.cell? ⟨RB,9,none⟩=some (.slice none 0 0):=cH G6.out.2.2 rfl
   have yf0:w6.frozen? ⟨RB,0,none⟩=false:=fH G6.out.2.2
   have yf1:w6.frozen? ⟨RB,1,none⟩=false:=fH G6.out.2.2
   have yf2:w6.frozen? ⟨RB,2,none⟩=false:=fH G6.out.2.2
   have yf3:w6.frozen? ⟨RB,3,none⟩=false:=fH G6.out.2.2
   have yf4:w6.frozen? ⟨RB,4,none⟩=false:=fH G6.out.2.2
   have yf5:w6.frozen? ⟨RB,5,none⟩=false:=fH G6.out.2.2
   have yf6:w6.frozen? ⟨RB,6,none⟩=false:=fH G6.out.2.2
   have yf7:w6.frozen? ⟨RB,7,none⟩=false:=fH G6.out.2.2
   have yf8:w6.frozen? ⟨RB,8,none⟩=false:=fH G6.out.2.2
   have yf9:w6.frozen? ⟨RB,9,none⟩=false:=fH G6.out.2.2
   have hrl:RB<w6.heap.size:=(gS G6.out.2.2).1
   clear hea
   go_wp2_with fail
   clear hrl y0 yf0 y1 yf1 y2 yf2 y3 yf3 y4 yf4 y5 yf5 y6 yf6 y7 yf7 y8 yf8 y9 yf9
   have hm:Chalk.Mod (fun k=>k=RB) w6 (w6.setCell ⟨RB,2,none⟩ (.int .i64 n)):=(Chalk.Mod.refl (fun k=>k=RB) w6).setCell (p:=⟨RB,2,none⟩) (fun _=>rfl) _
   have hx:=box_store (i:=2) (.int .i64 n) G6.out.2.2
   simp only [ub1,ub2,ub3] at hx
   generalize w6.setCell ⟨RB,2,none⟩ (.int .i64 n)=w7 at hm hx ⊢
   have G7:=Lh (aI (G6.out.1.one hm HRP.out.1) (aI (mod_one G6.out.2.1 hm HRP.out.2) hx))
   clear hm hx
   have hea:=HEA.out
   refine (ptook_yes P [101,97,99,104] _ w7 G7.out.1 (by assumption)).mono ?_
   rintro e w8 ⟨rfl,hp,hm⟩
   have G8:=Lh (aI hp (aI (G7.out.2.1.trans hm (fun _ _ h=>h)) (heap_kept G7.out.2.2 hm (by have:=HRP.out;omega))))
   clear hp hm
   go_wp2_with fail
   refine (pbinds_any P r2.tail w0 w8 G8.out.1 (HGB.out w8 G8.out.2.1) HPP.out.1).mono ?_
   rintro e w9 hp
   cases hO3:pBinds 6 r2.tail with
   | bad m =>
    obtain ⟨rfl,hm⟩:=hp.fails hO3
    exact ⟨rfl,PRul.bad (by rw [HRQ.out];simp only [Rs.bind,HO1.out,HO2.out,HEA.out,if_true,hO3]) (G8.out.2.1.trans hm (fun _ _ h=>h))⟩
   | ok bs r3 =>
    have HO3:=Lh hO3
    obtain ⟨z,rfl,hz,hp,hm⟩:=hp.gets hO3
    have HLO0:Hid (P<w8.heap.size/\RB<w8.heap.size/\w.heap.size<=w8.heap.size):=Lh ⟨G8.out.1.lt,(gS G8.out.2.2).1,G8.out.2.1.size⟩
    have G9:=Lh (aI hp (aI (G8.out.2.1.trans hm (fun _ _ h=>h)) (aI (heap_kept G8.out.2.2 hm (by have:=HRP.out;omega)) hz)))
    clear hO3 hp hm hz
    have y0:w9.cell? ⟨RB,0,none⟩=some (.string ⟨nm.toArray⟩):=cH G9.out.2.2.1 rfl
    have y1:w9.cell? ⟨RB,1,none⟩=some (.bool false):=cH G9.out.2.2.1 rfl
    have y2:w9.cell? ⟨RB,2,none⟩=some (.int .i64 n):=cH G9.out.2.2.1 rfl
    have y3:w9.cell? ⟨RB,3,none⟩=some (.slice none 0 0):=cH G9.out.2.2.1 rfl
    have y4:w9.cell? ⟨RB,4,none⟩=some (.int .i64 0):=cH G9.out.2.2.1 rfl
    have y5:w9.cell? ⟨RB,5,none⟩=some (.string ⟨#[]⟩):=cH G9.out.2.2.1 rfl
    have y6:w9.cell? ⟨RB,6,none⟩=some (.int .i64 0):=cH G9.out.2.2.1 rfl
    have y7:w9.cell? ⟨RB,7,none⟩=some (.slice none 0 0):=cH G9.out.2.2.1 rfl
    have y8:w9.cell? ⟨RB,8,none⟩=some (.slice none 0 0):=cH G9.out.2.2.1 rfl
    have y9:w9.cell? ⟨RB,9,none⟩=some (.slice none 0 0):=cH G9.out.2.2.1 rfl
    have yf0:w9.frozen? ⟨RB,0,none⟩=false:=fH G9.out.2.2.1
    have yf1:w9.frozen? ⟨RB,1,none⟩=false:=fH G9.out.2.2.1
    have yf2:w9.frozen? ⟨RB,2,none⟩=false:=fH G9.out.2.2.1
    have yf3:w9.frozen? ⟨RB,3,none⟩=false:=fH G9.out.2.2.1
    have yf4:w9.frozen? ⟨RB,4,none⟩=false:=fH G9.out.2.2.1
    have yf5:w9.frozen? ⟨RB,5,none⟩=false:=fH G9.out.2.2.1
    have yf6:w9.frozen? ⟨RB,6,none⟩=false:=fH G9.out.2.2.1
    have yf7:w9.frozen? ⟨RB,7,none⟩=false:=fH G9.out.2.2.1
    have yf8:w9.frozen? ⟨RB,8,none⟩=false:=fH G9.out.2.2.1
    have yf9:w9.frozen? ⟨RB,9,none⟩=false:=fH G9.out.2.2.1
    have hrl:RB<w9.heap.size:=(gS G9.out.2.2.1).1
    go_wp2_with fail
    clear hrl y0 yf0 y1 yf1 y2 yf2 y3 yf3 y4 yf4 y5 yf5 y6 yf6 y7 yf7 y8 yf8 y9 yf9
    have hm:Chalk.Mod (fun k=>k=RB) w9 (w9.setCell ⟨RB,3,none⟩ (.slice z.a bs.length z.cap)):=(Chalk.Mod.refl (fun k=>k=RB) w9).setCell (p:=⟨RB,3,none⟩) (fun _=>rfl) _
    have hx:=box_store (i:=3) (.slice z.a bs.length z.cap) G9.out.2.2.1
    simp only [ub1,ub2,ub3] at hx
    generalize w9.setCell ⟨RB,3,none⟩ (.slice z.a bs.length z.cap)=w10 at hm hx ⊢
    have G10:=Lh (aI (G9.out.1.one hm HRP.out.1) (aI (mod_one G9.out.2.1 hm HRP.out.2) (aI hx (G9.out.2.2.2.modB hm (fun k hk=>by have:=HRP.out;have:=HLO0.out;omega)))))
    clear hm hx
    refine (pwant_u P [58] r3 w10 G10.out.1).mono ?_
    rintro e w11 hp
    cases hO4:pWant [58] r3 with
    | bad m =>
     obtain ⟨rfl,hm⟩:=hp.fails hO4
     exact ⟨rfl,PRul.bad (by rw [HRQ.out];simp only [Rs.bind,HO1.out,HO2.out,HEA.out,if_true,HO3.out,hO4]) (G10.out.2.1.trans hm (fun _ _ h=>h))⟩
    | ok u1 r4 =>
     have HO4:=Lh hO4
     obtain ⟨rfl,hp,hm⟩:=hp.gets hO4
     have G11:=Lh (aI hp (aI (G10.out.2.1.trans hm (fun _ _ h=>h)) (aI (heap_kept G10.out.2.2.1 hm (by have:=HRP.out;omega)) (G10.out.2.2.2.modB hm (fun k hk=>by have:=HRP.out;have:=HLO0.out;omega)))))
     clear hO4 hp hm
     go_wp2_with fail
     refine (pf_any P w0 HPP.out.1 r4 w11 G11.out.1 (HGB.out w11 G11.out.2.1)).mono ?_
     rintro e w12 hp
     cases hO5:parF r4 with
     | bad m =>
      obtain ⟨rfl,hm⟩:=hp.fails hO5
      exact ⟨rfl,PRul.bad (by rw [HRQ.out];simp only [Rs.bind,HO1.out,HO2.out,HEA.out,if_true,HO3.out,HO4.out,hO5]) (G11.out.2.1.trans hm (fun _ _ h=>h))⟩
     | ok f r5 =>
      have HO5:=Lh hO5
      obtain ⟨x,rfl,hxf,hp,hm⟩:=hp.gets hO5
      have HLO1:Hid (P<w11.heap.size/\RB<w11.heap.size/\w.heap.size<=w11.heap.size):=Lh ⟨G11.out.1.lt,(gS G11.out.2.2.1).1,G11.out.2.1.size⟩
      have G12:=Lh (aI hp (aI (G11.out.2.1.trans hm (fun _ _ h=>h)) (aI (heap_kept G11.out.2.2.1 hm (by have:=HRP.out;omega)) (aI (G11.out.2.2.2.modB hm (fun k hk=>by have:=HRP.out;have:=HLO0.out;omega)) hxf))))
      clear hO5 hp hm hxf
      have y0:w12.cell? ⟨RB,0,none⟩=some (.string ⟨nm.toArray⟩):=cH G12.out.2.2.1 rfl
      have y1:w12.cell? ⟨RB,1,none⟩=some (.bool false):=cH G12.out.2.2.1 rfl
      have y2:w12.cell? ⟨RB,2,none⟩=some (.int .i64 n):=cH G12.out.2.2.1 rfl
      have y3:w12.cell? ⟨RB,3,none⟩=some (.slice z.a bs.length z.cap):=cH G12.out.2.2.1 rfl
      have y4:w12.cell? ⟨RB,4,none⟩=some (.int .i64 0):=cH G12.out.2.2.1 rfl
      have y5:w12.cell? ⟨RB,5,none⟩=some (.string ⟨#[]⟩):=cH G12.out.2.2.1 rfl
      have y6:w12.cell? ⟨RB,6,none⟩=some (.int .i64 0):=cH G12.out.2.2.1 rfl
      have y7:w12.cell? ⟨RB,7,none⟩=some (.slice none 0 0):=cH G12.out.2.2.1 rfl
      have y8:w12.cell? ⟨RB,8,none⟩=some (.slice none 0 0):=cH G12.out.2.2.1 rfl
      have y9:w12.cell? ⟨RB,9,none⟩=some (.slice none 0 0):=cH G12.out.2.2.1 rfl
      have yf0:w12.frozen? ⟨RB,0,none⟩=false:=fH G12.out.2.2.1
      have yf1:w12.frozen? ⟨RB,1,none⟩=false:=fH G12.out.2.2.1
      have yf2:w12.frozen? ⟨RB,2,none⟩=false:=fH G12.out.2.2.1
      have yf3:w12.frozen? ⟨RB,3,none⟩=false:=fH G12.out.2.2.1
      have yf4:w12.frozen? ⟨RB,4,none⟩=false:=fH G12.out.2.2.1
      have yf5:w12.frozen? ⟨RB,5,none⟩=false:=fH G12.out.2.2.1
      have yf6:w12.frozen? ⟨RB,6,none⟩=false:=fH G12.out.2.2.1
      have yf7:w12.frozen? ⟨RB,7,none⟩=false:=fH G12.out.2.2.1
      have yf8:w12.frozen? ⟨RB,8,none⟩=false:=fH G12.out.2.2.1
      have yf9:w12.frozen? ⟨RB,9,none⟩=false:=fH G12.out.2.2.1
      have hrl:RB<w12.heap.size:=(gS G12.out.2.2.1).1
      go_wp2_with fail
      clear hrl y0 yf0 y1 yf1 y2 yf2 y3 yf3 y4 yf4 y5 yf5 y6 yf6 y7 yf7 y8 yf8 y9 yf9
      have hm:Chalk.Mod (fun k=>k=RB) w12 (w12.setCell ⟨RB,4,none⟩ (.int .i64 f.kind)):=(Chalk.Mod.refl (fun k=>k=RB) w12).setCell (p:=⟨RB,4,none⟩) (fun _=>rfl) _
      have hx:=box_store (i:=4) (.int .i64 f.kind) G12.out.2.2.1
      simp only [ub1,ub2,ub3] at hx
      generalize w12.setCell ⟨RB,4,none⟩ (.int .i64 f.kind)=w13 at hm hx ⊢
      have G13:=Lh (aI (G12.out.1.one hm HRP.out.1) (aI (mod_one G12.out.2.1 hm HRP.out.2) (aI hx (aI (G12.out.2.2.2.1.modB hm (fun k hk=>by have:=HRP.out;have:=HLO0.out;omega)) (G12.out.2.2.2.2.modB hm (fun k hk=>by have:=HRP.out;have:=HLO1.out;omega))))))
      clear hm hx
      have hm:Chalk.Mod (fun k=>k=RB) w13 (w13.setCell ⟨RB,5,none⟩ (.string ⟨f.name.toArray⟩)):=(Chalk.Mod.refl (fun k=>k=RB) w13).setCell (p:=⟨RB,5,none⟩) (fun _=>rfl) _
      have hx:=box_store (i:=5) (.string ⟨f.name.toArray⟩) G13.out.2.2.1
      simp only [ub1,ub2,ub3] at hx
      generalize w13.setCell ⟨RB,5,none⟩ (.string ⟨f.name.toArray⟩)=w14 at hm hx ⊢
      have G14:=Lh (aI (G13.out.1.one hm HRP.out.1) (aI (mod_one G13.out.2.1 hm HRP.out.2) (aI hx (aI (G13.out.2.2.2.1.modB hm (fun k hk=>by have:=HRP.out;have:=HLO0.out;omega)) (G13.out.2.2.2.2.modB hm (fun k hk=>by have:=HRP.out;have:=HLO1.out;omega))))))
      clear hm hx
      have hm:Chalk.Mod (fun k=>k=RB) w14 (w14.setCell ⟨RB,6,none⟩ (.int .i64 f.n)):=(Chalk.Mod.refl (fun k=>k=RB) w14).setCell (p:=⟨RB,6,none⟩) (fun _=>rfl) _
      have hx:=box_store (i:=6) (.int .i64 f.n) G14.out.2.2.1
      simp only [ub1,ub2,ub3] at hx
      generalize w14.setCell ⟨RB,6,none⟩ (.int .i64 f.n)=w15 at hm hx ⊢
      have G15:=Lh (aI (G14.out.1.one hm HRP.out.1) (aI (mod_one G14.out.2.1 hm HRP.out.2) (aI hx (aI (G14.out.2.2.2.1.modB hm (fun k hk=>by have:=HRP.out;have:=HLO0.out;omega)) (G14.out.2.2.2.2.modB hm (fun k hk=>by have:=HRP.out;have:=HLO1.out;omega))))))
      clear hm hx
      have hm:Chalk.Mod (fun k=>k=RB) w15 (w15.setCell ⟨RB,7,none⟩ (.slice x.t.a f.terms.length x.t.cap)):=(Chalk.Mod.refl (fun k=>k=RB) w15).setCell (p:=⟨RB,7,none⟩) (fun _=>rfl) _
      have hx:=box_store (i:=7) (.slice x.t.a f.terms.length x.t.cap) G15.out.2.2.1
      simp only [ub1,ub2,ub3] at hx
      generalize w15.setCell ⟨RB,7,none⟩ (.slice x.t.a f.terms.length x.t.cap)=w16 at hm hx ⊢
      have G16:=Lh (aI (G15.out.1.one hm HRP.out.1) (aI (mod_one G15.out.2.1 hm HRP.out.2) (aI hx (aI (G15.out.2.2.2.1.modB hm (fun k hk=>by have:=HRP.out;have:=HLO0.out;omega)) (G15.out.2.2.2.2.modB hm (fun k hk=>by have:=HRP.out;have:=HLO1.out;omega))))))
      clear hm hx
      have hm:Chalk.Mod (fun k=>k=RB) w16 (w16.setCell ⟨RB,8,none⟩ (.slice x.b.a f.binds.length x.b.cap)):=(Chalk.Mod.refl (fun k=>k=RB) w16).setCell (p:=⟨RB,8,none⟩) (fun _=>rfl) _
      have hx:=box_store (i:=8) (.slice x.b.a f.binds.length x.b.cap) G16.out.2.2.1
      simp only [ub1,ub2,ub3] at hx
      generalize w16.setCell ⟨RB,8,none⟩ (.slice x.b.a f.binds.length x.b.cap)=w17 at hm hx ⊢
      have G17:=Lh (aI (G16.out.1.one hm HRP.out.1) (aI (mod_one G16.out.2.1 hm HRP.out.2) (aI hx (aI (G16.out.2.2.2.1.modB hm (fun k hk=>by have:=HRP.out;have:=HLO0.out;omega)) (G16.out.2.2.2.2.modB hm (fun k hk=>by have:=HRP.out;have:=HLO1.out;omega))))))
      clear hm hx
      have hm:Chalk.Mod (fun k=>k=RB) w17 (w17.setCell ⟨RB,9,none⟩ (.slice x.l.a f.l.length x.l.cap)):=(Chalk.Mod.refl (fun k=>k=RB) w17).setCell (p:=⟨RB,9,none⟩) (fun _=>rfl) _
      have hx:=box_store (i:=9) (.slice x.l.a f.l.length x.l.cap) G17.out.2.2.1
      simp only [ub1,ub2,ub3] at hx
      generalize w17.setCell ⟨RB,9,none⟩ (.slice x.l.a f.l.length x.l.cap)=w18 at hm hx ⊢
      have G18:=Lh (aI (G17.out.1.one hm HRP.out.1) (aI (mod_one G17.out.2.1 hm HRP.out.2) (aI hx (aI (G17.out.2.2.2.1.modB hm (fun k hk=>by have:=HRP.out;have:=HLO0.out;omega)) (G17.out.2.2.2.2.modB hm (fun k hk=>by have:=HRP.out;have:=HLO1.out;omega))))))
      clear hm hx
      refine (pwant_u P [59] r5 w18 G18.out.1).mono ?_
      rintro e w19 hp
      cases hO6:pWant [59] r5 with
      | bad m =>
       obtain ⟨rfl,hm⟩:=hp.fails hO6
       exact ⟨rfl,PRul.bad (by rw [HRQ.out];simp only [Rs.bind,HO1.out,HO2.out,HEA.out,if_true,HO3.out,HO4.out,HO5.out,hO6]) (G18.out.2.1.trans hm (fun _ _ h=>h))⟩
      | ok u2 r6 =>
       have HO6:=Lh hO6
       obtain ⟨rfl,hp,hm⟩:=hp.gets hO6
       have G19:=Lh (aI hp (aI (G18.out.2.1.trans hm (fun _ _ h=>h)) (aI (heap_kept G18.out.2.2.1 hm (by have:=HRP.out;omega)) (aI (G18.out.2.2.2.1.modB hm (fun k hk=>by have:=HRP.out;have:=HLO0.out;omega)) (G18.out.2.2.2.2.modB hm (fun k hk=>by have:=HRP.out;have:=HLO1.out;omega))))))
       clear hO6 hp hm
       have HB:=Lh (show parRule l=.ok ⟨nm,false,n,bs,f⟩ r6 from by rw [HRQ.out];simp only [Rs.bind,HO1.out,HO2.out,HEA.out,if_true,HO3.out,HO4.out,HO5.out,HO6.out])
       have y0:w19.cell? ⟨RB,0,none⟩=some (.string ⟨nm.toArray⟩):=cH G19.out.2.2.1 rfl
       have y1:w19.cell? ⟨RB,1,none⟩=some (.bool false):=cH G19.out.2.2.1 rfl
       have y2:w19.cell? ⟨RB,2,none⟩=some (.int .i64 n):=cH G19.out.2.2.1 rfl
       have y3:w19.cell? ⟨RB,3,none⟩=some (.slice z.a bs.length z.cap):=cH G19.out.2.2.1 rfl
       have y4:w19.cell? ⟨RB,4,none⟩=some (.int .i64 f.kind):=cH G19.out.2.2.1 rfl
       have y5:w19.cell? ⟨RB,5,none⟩=some (.string ⟨f.name.toArray⟩):=cH G19.out.2.2.1 rfl
       have y6:w19.cell? ⟨RB,6,none⟩=some (.int .i64 f.n):=cH G19.out.2.2.1 rfl
       have y7:w19.cell? ⟨RB,7,none⟩=some (.slice x.t.a f.terms.length x.t.cap):=cH G19.out.2.2.1 rfl
       have y8:w19.cell? ⟨RB,8,none⟩=some (.slice x.b.a f.binds.length x.b.cap):=cH G19.out.2.2.1 rfl
       have y9:w19.cell? ⟨RB,9,none⟩=some (.slice x.l.a f.l.length x.l.cap):=cH G19.out.2.2.1 rfl
       have yf0:w19.frozen? ⟨RB,0,none⟩=false:=fH G19.out.2.2.1
       have yf1:w19.frozen? ⟨RB,1,none⟩=false:=fH G19.out.2.2.1
       have yf2:w19.frozen? ⟨RB,2,none⟩=false:=fH G19.out.2.2.1
       have yf3:w19.frozen? ⟨RB,3,none⟩=false:=fH G19.out.2.2.1
       have yf4:w19.frozen? ⟨RB,4,none⟩=false:=fH G19.out.2.2.1
       have yf5:w19.frozen? ⟨RB,5,none⟩=false:=fH G19.out.2.2.1
       have yf6:w19.frozen? ⟨RB,6,none⟩=false:=fH G19.out.2.2.1
       have yf7:w19.frozen? ⟨RB,7,none⟩=false:=fH G19.out.2.2.1
       have yf8:w19.frozen? ⟨RB,8,none⟩=false:=fH G19.out.2.2.1
       have yf9:w19.frozen? ⟨RB,9,none⟩=false:=fH G19.out.2.2.1
       have hrl:RB<w19.heap.size:=(gS G19.out.2.2.1).1
       go_wp2_with fail
       refine bodyPost_ret (v:=.agg #[.string ⟨nm.toArray⟩,.bool false,.int .i64 n,.slice z.a bs.length z.cap,.int .i64 f.kind,.string ⟨f.name.toArray⟩,.int .i64 f.n,.slice x.t.a f.terms.length x.t.cap,.slice x.b.a f.binds.length x.b.cap,.slice x.l.a f.l.length x.l.cap]) (by simp [results,Tryz.results49,go_sem, *]) rfl ?_
       have hst:=st10_mod w19 RB (.string ⟨nm.toArray⟩) (.bool false) (.int .i64 n) (.slice z.a bs.length z.cap) (.int .i64 f.kind) (.string ⟨f.name.toArray⟩) (.int .i64 f.n) (.slice x.t.a f.terms.length x.t.cap) (.slice x.b.a f.binds.length x.b.cap) (.slice x.l.a f.l.length x.l.cap)
       unfold st10 at hst
       generalize (((((((((w19.setCell _ _).setCell _ _).setCell _ _).setCell _ _).setCell _ _).setCell _ _).setCell _ _).setCell _ _).setCell _ _).setCell _ _=w99 at hst ⊢
       rw [HB.out]
       exact ⟨mod_one G19.out.2.1 hst HRP.out.2,⟨⟨z,x⟩,rfl,⟨(show nm.length<=maxLen by have:=HNA.out;unfold maxLen;omega),(show I64 n from i64_of' ⟨by have:=HNN.out;omega,by have:=HNN.out;omega⟩),((G19.out.2.2.2.1.modB hst (fun k hk=>by have:=HRP.out;have:=HLO0.out;omega)).mono (fun k hk=>⟨by have:=hk.1;have:=HLO0.out;omega,hk.2⟩)),((G19.out.2.2.2.2.modB hst (fun k hk=>by have:=HRP.out;have:=HLO1.out;omega)).lower (by have:=HLO1.out;omega))⟩⟩,G19.out.1.one hst HRP.out.1⟩
theorem prule_soft_none (P:Nat) (w0:World) (hP:w0.heap.size<=P) (l:List Tok) (h1:isT [104,97,114,100] l=false) (h2:isT [115,111,102,116] l=true) (he:∀ (s:Bs) (r:List Tok) (n:Int) (q:List Tok),pName l.tail=.ok s r->pNumber 1 1000 r=.ok n q->isT [101,97,99,104] q=false) (w:World) (h:PAt w P l) (hg:GB w0 w):Calls Tryz.prog 49 #[.pointer (some ⟨P,0,none⟩)] w (PRul w P (parRule l)):=by
 have hPl:=h.lt
 obtain ⟨RB,hRB⟩:∃ RB,RB=w.heap.size:=⟨_,rfl⟩
 obtain ⟨w1,hw1⟩:∃ w1,w1=w.alloc (.cells #[.string ⟨#[]⟩,.bool false,.int .i64 0,.slice none 0 0,.int .i64 0,.string ⟨#[]⟩,.int .i64 0,.slice none 0 0,.slice none 0 0,.slice none 0 0] 64):=⟨_,rfl⟩
 have hb:Below w.heap.size w w1:=by rw [hw1];exact below_new _ _
 have hx:w1.heap[RB]?=some (.cells #[.string ⟨#[]⟩,.bool false,.int .i64 0,.slice none 0 0,.int .i64 0,.string ⟨#[]⟩,.int .i64 0,.slice none 0 0,.slice none 0 0,.slice none 0 0] 64 (0,0)):=by rw [hw1,hRB];exact heap_alloc_new _ _
 have HGB:=Lh (fun (W:World) (hm:Chalk.Mod (fun k=>k=P) w W)=>hg.mod hP hm)
 have HPP:=Lh (aI hP hPl)
 have G1:=Lh (aI (h.below hb) (aI (Chalk.Mod.of_below (S:=fun k=>k=P) hb) hx))
 have HRP:Hid (P<RB/\w.heap.size<=RB):=Lh ⟨by omega,by omega⟩
 have HW1:=Lh hw1
 have HRB:=Lh hRB
 have HRQ:=Lh (show parRule l=(pName l.tail).bind fun s l=>(pNumber 1 1000 l).bind fun n l=>(if isT [101,97,99,104] l then pBinds 6 l.tail else .ok [] l).bind fun e l=>(pWant [58] l).bind fun _ l=>(parF l).bind fun f l=>(pWant [59] l).bind fun _ l=>.ok ⟨s,false,n,e,f⟩ l from by
  unfold parRule pHead
  rw [if_neg (by rw [h1];decide),if_pos h2]
  cases pName l.tail with
  | bad m=>rfl
  | ok s r =>
   simp only [Rs.bind]
   cases pNumber 1 1000 r <;> rfl)
 have HE2:=Lh he
 clear h hg hP hb hx hw1 hRB hPl he
 go_enter Tryz.func49,Tryz.ntmps49
 go_wp2_with fail
 rw [<- HW1.out,<- HRB.out]
 refine (ptook_no P [104,97,114,100] _ w1 G1.out.1 (by assumption)).mono ?_
 rintro e w2 ⟨rfl,hb⟩
 have hm:=Chalk.Mod.of_below (S:=fun k=>k=P) hb
 have G2:=Lh (aI (G1.out.1.below hb) (aI (G1.out.2.1.trans hm (fun _ _ h=>h)) (heap_kept G1.out.2.2 hm (by have:=HRP.out;omega))))
 clear hb hm
 clear h1
 go_wp2_with fail
 refine (ptook_yes P [115,111,102,116] _ w2 G2.out.1 (by assumption)).mono ?_
 rintro e w3 ⟨rfl,hp,hm⟩
 have G3:=Lh (aI hp (aI (G2.out.2.1.trans hm (fun _ _ h=>h)) (heap_kept G2.out.2.2 hm (by have:=HRP.out;omega))))
 clear hp hm
 clear h2
 go_wp2_with fail
 refine (pname_u P l.tail w3 G3.out.1 (HGB.out w3 G3.out.2.1).gs.gat).mono ?_
 rintro e w4 hp
 cases hO1:pName l.tail with
 | bad m =>
  obtain ⟨rfl,hm⟩:=hp.fails hO1
  exact ⟨rfl,PRul.bad (by rw [HRQ.out];simp only [Rs.bind,hO1]) (G3.out.2.1.trans hm (fun _ _ h=>h))⟩
 | ok nm r1 =>
  have HO1:=Lh hO1
  have HNA:=Lh (pName_len hO1 G3.out.1.2.1)
  obtain ⟨rfl,hp,hm⟩:=hp.gets hO1
  have G4:=Lh (aI hp (aI (G3.out.2.1.trans hm (fun _ _ h=>h)) (heap_kept G3.out.2.2 hm (by have:=HRP.out;omega))))
  clear hO1 hp hm
  have y0:w4.cell? ⟨RB,0,none⟩=some (.string ⟨#[]⟩):=cH G4.out.2.2 rfl
  have y1:w4.cell? ⟨RB,1,none⟩=some (.bool false):=cH G4.out.2.2 rfl
  have y2:w4.cell? ⟨RB,2,none⟩=some (.int .i64 0):=cH G4.out.2.2 rfl
  have y3:w4.cell? ⟨RB,3,none⟩=some (.slice none 0 0):=cH G4.out.2.2 rfl
  have y4:w4.cell? ⟨RB,4,none⟩=some (.int .i64 0):=cH G4.out.2.2 rfl
  have y5:w4.cell? ⟨RB,5,none⟩=some (.string ⟨#[]⟩):=cH G4.out.2.2 rfl
  have y6:w4.cell? ⟨RB,6,none⟩=some (.int .i64 0):=cH G4.out.2.2 rfl
  have y7:w4.cell? ⟨RB,7,none⟩=some (.slice none 0 0):=cH G4.out.2.2 rfl
  have y8:w4.cell? ⟨RB,8,none⟩=some (.slice none 0 0):=cH G4.out.2.2 rfl
  have y9:w4.cell? ⟨RB,9,none⟩=some (.slice none 0 0):=cH G4.out.2.2 rfl
  have yf0:w4.frozen? ⟨RB,0,none⟩=false:=fH G4.out.2.2
  have yf1:w4.frozen? ⟨RB,1,none⟩=false:=fH G4.out.2.2
  have yf2:w4.frozen? ⟨RB,2,none⟩=false:=fH G4.out.2.2
  have yf3:w4.frozen? ⟨RB,3,none⟩=false:=fH G4.out.2.2
  have yf4:w4.frozen? ⟨RB,4,none⟩=false:=fH G4.out.2.2
  have yf5:w4.frozen? ⟨RB,5,none⟩=false:=fH G4.out.2.2
  have yf6:w4.frozen? ⟨RB,6,none⟩=false:=fH G4.out.2.2
  have yf7:w4.frozen? ⟨RB,7,none⟩=false:=fH G4.out.2.2
  have yf8:w4.frozen? ⟨RB,8,none⟩=false:=fH G4.out.2.2
  have yf9:w4.frozen? ⟨RB,9,none⟩=false:=fH G4.out.2.2
  have hrl:RB<w4.heap.size:=(gS G4.out.2.2).1
  go_wp2_with fail
  clear hrl y0 yf0 y1 yf1 y2 yf2 y3 yf3 y4 yf4 y5 yf5 y6 yf6 y7 yf7 y8 yf8 y9 yf9
  have hm:Chalk.Mod (fun k=>k=RB) w4 (w4.setCell ⟨RB,0,none⟩ (.string ⟨nm.toArray⟩)):=(Chalk.Mod.refl (fun k=>k=RB) w4).setCell (p:=⟨RB,0,none⟩) (fun _=>rfl) _
  have hx:=box_store (i:=0) (.string ⟨nm.toArray⟩) G4.out.2.2
  simp only [ub1,ub2,ub3] at hx
  generalize w4.setCell ⟨RB,0,none⟩ (.string ⟨nm.toArray⟩)=w5 at hm hx ⊢
  have G5:=Lh (aI (G4.out.1.one hm HRP.out.1) (aI (mod_one G4.out.2.1 hm HRP.out.2) hx))
  clear hm hx
  refine (pnum_u P r1 1 1000 (by decide) w5 G5.out.1 (HGB.out w5 G5.out.2.1).gs).mono ?_
  rintro e w6 hp
  cases hO2:pNumber 1 1000 r1 with
  | bad m =>
   obtain ⟨rfl,hm⟩:=hp.fails hO2
   exact ⟨rfl,PRul.bad (by rw [HRQ.out];simp only [Rs.bind,HO1.out,hO2]) (G5.out.2.1.trans hm (fun _ _ h=>h))⟩
  | ok n r2 =>
   have HO2:=Lh hO2
   have HNN:=Lh (num_range hO2)
   have hea:=HE2.out _ _ _ _ HO1.out hO2
   have HEA:=Lh hea
   obtain ⟨rfl,hp,hm⟩:=hp.gets hO2
   have G6:=Lh (aI hp (aI (G5.out.2.1.trans hm (fun _ _ h=>h)) (heap_kept G5.out.2.2 hm (by have:=HRP.out;omega))))
   clear hO2 hp hm
   have y0:w6.cell? ⟨RB,0,none⟩=some (.string ⟨nm.toArray⟩):=cH G6.out.2.2 rfl
   have y1:w6.cell? ⟨RB,1,none⟩=some (.bool false):=cH G6.out.2.2 rfl
   have y2:w6.cell? ⟨RB,2,none⟩=some (.int .i64 0):=cH G6.out.2.2 rfl
   have y3:w6.cell? ⟨RB,3,none⟩=some (.slice none 0 0):=cH G6.out.2.2 rfl
   have y4:w6.cell? ⟨RB,4,none⟩=some (.int .i64 0):=cH G6.out.2.2 rfl
   have y5:w6.cell? ⟨RB,5,none⟩=some (.string ⟨#[]⟩):=cH G6.out.2.2 rfl
   have y6:w6.cell? ⟨RB,6,none⟩=some (.int .i64 0):=cH G6.out.2.2 rfl
   have y7:w6.cell? ⟨RB,7,none⟩=some (.slice none 0 0):=cH G6.out.2.2 rfl
   have y8:w6.cell? ⟨RB,8,none⟩=some (.slice none 0 0):=cH G6.out.2.2 rfl
   have y9:w6.cell? ⟨RB,9,none⟩=some (.slice none 0 0):=cH G6.out.2.2 rfl
   have yf0:w6.frozen? ⟨RB,0,none⟩=false:=fH G6.out.2.2
   have yf1:w6.frozen? ⟨RB,1,none⟩=false:=fH G6.out.2.2
   have yf2:w6.frozen? ⟨RB,2,none⟩=false:=fH G6.out.2.2
   have yf3:w6.frozen? ⟨RB,3,none⟩=false:=fH G6.out.2.2
   have yf4:w6.frozen? ⟨RB,4,none⟩=false:=fH G6.out.2.2
   have yf5:w6.frozen? ⟨RB,5,none⟩=false:=fH G6.out.2.2
   have yf6:w6.frozen? ⟨RB,6,none⟩=false:=fH G6.out.2.2
   have yf7:w6.frozen? ⟨RB,7,none⟩=false:=fH G6.out.2.2
   have yf8:w6.frozen? ⟨RB,8,none⟩=false:=fH G6.out.2.2
   have yf9:w6.frozen? ⟨RB,9,none⟩=false:=fH G6.out.2.2
   have hrl:RB<w6.heap.size:=(gS G6.out.2.2).1
   clear hea
   go_wp2_with fail
   clear hrl y0 yf0 y1 yf1 y2 yf2 y3 yf3 y4 yf4 y5 yf5 y6 yf6 y7 yf7 y8 yf8 y9 yf9
   have hm:Chalk.Mod (fun k=>k=RB) w6 (w6.setCell ⟨RB,2,none⟩ (.int .i64 n)):=(Chalk.Mod.refl (fun k=>k=RB) w6).setCell (p:=⟨RB,2,none⟩) (fun _=>rfl) _
   have hx:=box_store (i:=2) (.int .i64 n) G6.out.2.2
   simp only [ub1,ub2,ub3] at hx
   generalize w6.setCell ⟨RB,2,none⟩ (.int .i64 n)=w7 at hm hx ⊢
   have G7:=Lh (aI (G6.out.1.one hm HRP.out.1) (aI (mod_one G6.out.2.1 hm HRP.out.2) hx))
   clear hm hx
   have hea:=HEA.out
   refine (ptook_no P [101,97,99,104] _ w7 G7.out.1 (by assumption)).mono ?_
   rintro e w8 ⟨rfl,hb⟩
   have hm:=Chalk.Mod.of_below (S:=fun k=>k=P) hb
   have G8:=Lh (aI (G7.out.1.below hb) (aI (G7.out.2.1.trans hm (fun _ _ h=>h)) (heap_kept G7.out.2.2 hm (by have:=HRP.out;omega))))
   clear hb hm
   go_wp2_with fail
   refine (pwant_u P [58] r2 w8 G8.out.1).mono ?_
   rintro e w9 hp
   cases hO3:pWant [58] r2 with
   | bad m =>
    obtain ⟨rfl,hm⟩:=hp.fails hO3
    exact ⟨rfl,PRul.bad (by rw [HRQ.out];simp only [Rs.bind,HO1.out,HO2.out,HEA.out,Bool.false_eq_true,if_false,hO3]) (G8.out.2.1.trans hm (fun _ _ h=>h))⟩
   | ok u1 r3 =>
    have HO3:=Lh hO3
    obtain ⟨rfl,hp,hm⟩:=hp.gets hO3
    have G9:=Lh (aI hp (aI (G8.out.2.1.trans hm (fun _ _ h=>h)) (heap_kept G8.out.2.2 hm (by have:=HRP.out;omega))))
    clear hO3 hp hm
    go_wp2_with fail
    refine (pf_any P w0 HPP.out.1 r3 w9 G9.out.1 (HGB.out w9 G9.out.2.1)).mono ?_
    rintro e w10 hp
    cases hO4:parF r3 with
    | bad m =>
     obtain ⟨rfl,hm⟩:=hp.fails hO4
     exact ⟨rfl,PRul.bad (by rw [HRQ.out];simp only [Rs.bind,HO1.out,HO2.out,HEA.out,Bool.false_eq_true,if_false,HO3.out,hO4]) (G9.out.2.1.trans hm (fun _ _ h=>h))⟩
    | ok f r4 =>
     have HO4:=Lh hO4
     obtain ⟨x,rfl,hxf,hp,hm⟩:=hp.gets hO4
     have HLO0:Hid (P<w9.heap.size/\RB<w9.heap.size/\w.heap.size<=w9.heap.size):=Lh ⟨G9.out.1.lt,(gS G9.out.2.2).1,G9.out.2.1.size⟩
     have G10:=Lh (aI hp (aI (G9.out.2.1.trans hm (fun _ _ h=>h)) (aI (heap_kept G9.out.2.2 hm (by have:=HRP.out;omega)) hxf)))
     clear hO4 hp hm hxf
     have y0:w10.cell? ⟨RB,0,none⟩=some (.string ⟨nm.toArray⟩):=cH G10.out.2.2.1 rfl
     have y1:w10.cell? ⟨RB,1,none⟩=some (.bool false):=cH G10.out.2.2.1 rfl
     have y2:w10.cell? ⟨RB,2,none⟩=some (.int .i64 n):=cH G10.out.2.2.1 rfl
     have y3:w10.cell? ⟨RB,3,none⟩=some (.slice none 0 0):=cH G10.out.2.2.1 rfl
     have y4:w10.cell? ⟨RB,4,none⟩=some (.int .i64 0):=cH G10.out.2.2.1 rfl
     have y5:w10.cell? ⟨RB,5,none⟩=some (.string ⟨#[]⟩):=cH G10.out.2.2.1 rfl
     have y6:w10.cell? ⟨RB,6,none⟩=some (.int .i64 0):=cH G10.out.2.2.1 rfl
     have y7:w10.cell? ⟨RB,7,none⟩=some (.slice none 0 0):=cH G10.out.2.2.1 rfl
     have y8:w10.cell? ⟨RB,8,none⟩=some (.slice none 0 0):=cH G10.out.2.2.1 rfl
     have y9:w10.cell? ⟨RB,9,none⟩=some (.slice none 0 0):=cH G10.out.2.2.1 rfl
     have yf0:w10.frozen? ⟨RB,0,none⟩=false:=fH G10.out.2.2.1
     have yf1:w10.frozen? ⟨RB,1,none⟩=false:=fH G10.out.2.2.1
     have yf2:w10.frozen? ⟨RB,2,none⟩=false:=fH G10.out.2.2.1
     have yf3:w10.frozen? ⟨RB,3,none⟩=false:=fH G10.out.2.2.1
     have yf4:w10.frozen? ⟨RB,4,none⟩=false:=fH G10.out.2.2.1
     have yf5:w10.frozen? ⟨RB,5,none⟩=false:=fH G10.out.2.2.1
     have yf6:w10.frozen? ⟨RB,6,none⟩=false:=fH G10.out.2.2.1
     have yf7:w10.frozen? ⟨RB,7,none⟩=false:=fH G10.out.2.2.1
     have yf8:w10.frozen? ⟨RB,8,none⟩=false:=fH G10.out.2.2.1
     have yf9:w10.frozen? ⟨RB,9,none⟩=false:=fH G10.out.2.2.1
     have hrl:RB<w10.heap.size:=(gS G10.out.2.2.1).1
     go_wp2_with fail
     clear hrl y0 yf0 y1 yf1 y2 yf2 y3 yf3 y4 yf4 y5 yf5 y6 yf6 y7 yf7 y8 yf8 y9 yf9
     have hm:Chalk.Mod (fun k=>k=RB) w10 (w10.setCell ⟨RB,4,none⟩ (.int .i64 f.kind)):=(Chalk.Mod.refl (fun k=>k=RB) w10).setCell (p:=⟨RB,4,none⟩) (fun _=>rfl) _
     have hx:=box_store (i:=4) (.int .i64 f.kind) G10.out.2.2.1
     simp only [ub1,ub2,ub3] at hx
     generalize w10.setCell ⟨RB,4,none⟩ (.int .i64 f.kind)=w11 at hm hx ⊢
     have G11:=Lh (aI (G10.out.1.one hm HRP.out.1) (aI (mod_one G10.out.2.1 hm HRP.out.2) (aI hx (G10.out.2.2.2.modB hm (fun k hk=>by have:=HRP.out;have:=HLO0.out;omega)))))
     clear hm hx
     have hm:Chalk.Mod (fun k=>k=RB) w11 (w11.setCell ⟨RB,5,none⟩ (.string ⟨f.name.toArray⟩)):=(Chalk.Mod.refl (fun k=>k=RB) w11).setCell (p:=⟨RB,5,none⟩) (fun _=>rfl) _
     have hx:=box_store (i:=5) (.string ⟨f.name.toArray⟩) G11.out.2.2.1
     simp only [ub1,ub2,ub3] at hx
     generalize w11.setCell ⟨RB,5,none⟩ (.string ⟨f.name.toArray⟩)=w12 at hm hx ⊢
     have G12:=Lh (aI (G11.out.1.one hm HRP.out.1) (aI (mod_one G11.out.2.1 hm HRP.out.2) (aI hx (G11.out.2.2.2.modB hm (fun k hk=>by have:=HRP.out;have:=HLO0.out;omega)))))
     clear hm hx
     have hm:Chalk.Mod (fun k=>k=RB) w12 (w12.setCell ⟨RB,6,none⟩ (.int .i64 f.n)):=(Chalk.Mod.refl (fun k=>k=RB) w12).setCell (p:=⟨RB,6,none⟩) (fun _=>rfl) _
     have hx:=box_store (i:=6) (.int .i64 f.n) G12.out.2.2.1
     simp only [ub1,ub2,ub3] at hx
     generalize w12.setCell ⟨RB,6,none⟩ (.int .i64 f.n)=w13 at hm hx ⊢
     have G13:=Lh (aI (G12.out.1.one hm HRP.out.1) (aI (mod_one G12.out.2.1 hm HRP.out.2) (aI hx (G12.out.2.2.2.modB hm (fun k hk=>by have:=HRP.out;have:=HLO0.out;omega)))))
     clear hm hx
     have hm:Chalk.Mod (fun k=>k=RB) w13 (w13.setCell ⟨RB,7,none⟩ (.slice x.t.a f.terms.length x.t.cap)):=(Chalk.Mod.refl (fun k=>k=RB) w13).setCell (p:=⟨RB,7,none⟩) (fun _=>rfl) _
     have hx:=box_store (i:=7) (.slice x.t.a f.terms.length x.t.cap) G13.out.2.2.1
     simp only [ub1,ub2,ub3] at hx
     generalize w13.setCell ⟨RB,7,none⟩ (.slice x.t.a f.terms.length x.t.cap)=w14 at hm hx ⊢
     have G14:=Lh (aI (G13.out.1.one hm HRP.out.1) (aI (mod_one G13.out.2.1 hm HRP.out.2) (aI hx (G13.out.2.2.2.modB hm (fun k hk=>by have:=HRP.out;have:=HLO0.out;omega)))))
     clear hm hx
     have hm:Chalk.Mod (fun k=>k=RB) w14 (w14.setCell ⟨RB,8,none⟩ (.slice x.b.a f.binds.length x.b.cap)):=(Chalk.Mod.refl (fun k=>k=RB) w14).setCell (p:=⟨RB,8,none⟩) (fun _=>rfl) _
     have hx:=box_store (i:=8) (.slice x.b.a f.binds.length x.b.cap) G14.out.2.2.1
     simp only [ub1,ub2,ub3] at hx
     generalize w14.setCell ⟨RB,8,none⟩ (.slice x.b.a f.binds.length x.b.cap)=w15 at hm hx ⊢
     have G15:=Lh (aI (G14.out.1.one hm HRP.out.1) (aI (mod_one G14.out.2.1 hm HRP.out.2) (aI hx (G14.out.2.2.2.modB hm (fun k hk=>by have:=HRP.out;have:=HLO0.out;omega)))))
     clear hm hx
     have hm:Chalk.Mod (fun k=>k=RB) w15 (w15.setCell ⟨RB,9,none⟩ (.slice x.l.a f.l.length x.l.cap)):=(Chalk.Mod.refl (fun k=>k=RB) w15).setCell (p:=⟨RB,9,none⟩) (fun _=>rfl) _
     have hx:=box_store (i:=9) (.slice x.l.a f.l.length x.l.cap) G15.out.2.2.1
     simp only [ub1,ub2,ub3] at hx
     generalize w15.setCell ⟨RB,9,none⟩ (.slice x.l.a f.l.length x.l.cap)=w16 at hm hx ⊢
     have G16:=Lh (aI (G15.out.1.one hm HRP.out.1) (aI (mod_one G15.out.2.1 hm HRP.out.2) (aI hx (G15.out.2.2.2.modB hm (fun k hk=>by have:=HRP.out;have:=HLO0.out;omega)))))
     clear hm hx
     refine (pwant_u P [59] r4 w16 G16.out.1).mono ?_
     rintro e w17 hp
     cases hO5:pWant [59] r4 with
     | bad m =>
      obtain ⟨rfl,hm⟩:=hp.fails hO5
      exact ⟨rfl,PRul.bad (by rw [HRQ.out];simp only [Rs.bind,HO1.out,HO2.out,HEA.out,Bool.false_eq_true,if_false,HO3.out,HO4.out,hO5]) (G16.out.2.1.trans hm (fun _ _ h=>h))⟩
     | ok u2 r5 =>
      have HO5:=Lh hO5
      obtain ⟨rfl,hp,hm⟩:=hp.gets hO5
      have G17:=Lh (aI hp (aI (G16.out.2.1.trans hm (fun _ _ h=>h)) (aI (heap_kept G16.out.2.2.1 hm (by have:=HRP.out;omega)) (G16.out.2.2.2.modB hm (fun k hk=>by have:=HRP.out;have:=HLO0.out;omega)))))
      clear hO5 hp hm
      have HB:=Lh (show parRule l=.ok ⟨nm,false,n,[],f⟩ r5 from by rw [HRQ.out];simp only [Rs.bind,HO1.out,HO2.out,HEA.out,Bool.false_eq_true,if_false,HO3.out,HO4.out,HO5.out])
      have y0:w17.cell? ⟨RB,0,none⟩=some (.string ⟨nm.toArray⟩):=cH G17.out.2.2.1 rfl
      have y1:w17.cell? ⟨RB,1,none⟩=some (.bool false):=cH G17.out.2.2.1 rfl
      have y2:w17.cell? ⟨RB,2,none⟩=some (.int .i64 n):=cH G17.out.2.2.1 rfl
      have y3:w17.cell? ⟨RB,3,none⟩=some (.slice none 0 0):=cH G17.out.2.2.1 rfl
      have y4:w17.cell? ⟨RB,4,none⟩=some (.int .i64 f.kind):=cH G17.out.2.2.1 rfl
      have y5:w17.cell? ⟨RB,5,none⟩=some (.string ⟨f.name.toArray⟩):=cH G17.out.2.2.1 rfl
      have y6:w17.cell? ⟨RB,6,none⟩=some (.int .i64 f.n):=cH G17.out.2.2.1 rfl
      have y7:w17.cell? ⟨RB,7,none⟩=some (.slice x.t.a f.terms.length x.t.cap):=cH G17.out.2.2.1 rfl
      have y8:w17.cell? ⟨RB,8,none⟩=some (.slice x.b.a f.binds.length x.b.cap):=cH G17.out.2.2.1 rfl
      have y9:w17.cell? ⟨RB,9,none⟩=some (.slice x.l.a f.l.length x.l.cap):=cH G17.out.2.2.1 rfl
      have yf0:w17.frozen? ⟨RB,0,none⟩=false:=fH G17.out.2.2.1
      have yf1:w17.frozen? ⟨RB,1,none⟩=false:=fH G17.out.2.2.1
      have yf2:w17.frozen? ⟨RB,2,none⟩=false:=fH G17.out.2.2.1
      have yf3:w17.frozen? ⟨RB,3,none⟩=false:=fH G17.out.2.2.1
      have yf4:w17.frozen? ⟨RB,4,none⟩=false:=fH G17.out.2.2.1
      have yf5:w17.frozen? ⟨RB,5,none⟩=false:=fH G17.out.2.2.1
      have yf6:w17.frozen? ⟨RB,6,none⟩=false:=fH G17.out.2.2.1
      have yf7:w17.frozen? ⟨RB,7,none⟩=false:=fH G17.out.2.2.1
      have yf8:w17.frozen? ⟨RB,8,none⟩=false:=fH G17.out.2.2.1
      have yf9:w17.frozen? ⟨RB,9,none⟩=false:=fH G17.out.2.2.1
      have hrl:RB<w17.heap.size:=(gS G17.out.2.2.1).1
      go_wp2_with fail
      refine bodyPost_ret (v:=.agg #[.string ⟨nm.toArray⟩,.bool false,.int .i64 n,.slice none 0 0,.int .i64 f.kind,.string ⟨f.name.toArray⟩,.int .i64 f.n,.slice x.t.a f.terms.length x.t.cap,.slice x.b.a f.binds.length x.b.cap,.slice x.l.a f.l.length x.l.cap]) (by simp [results,Tryz.results49,go_sem, *]) rfl ?_
      have hst:=st10_mod w17 RB (.string ⟨nm.toArray⟩) (.bool false) (.int .i64 n) (.slice none 0 0) (.int .i64 f.kind) (.string ⟨f.name.toArray⟩) (.int .i64 f.n) (.slice x.t.a f.terms.length x.t.cap) (.slice x.b.a f.binds.length x.b.cap) (.slice x.l.a f.l.length x.l.cap)
      unfold st10 at hst
      generalize (((((((((w17.setCell _ _).setCell _ _).setCell _ _).setCell _ _).setCell _ _).setCell _ _).setCell _ _).setCell _ _).setCell _ _).setCell _ _=w99 at hst ⊢
      rw [HB.out]
      exact ⟨mod_one G17.out.2.1 hst HRP.out.2,⟨⟨noS,x⟩,rfl,⟨(show nm.length<=maxLen by have:=HNA.out;unfold maxLen;omega),(show I64 n from i64_of' ⟨by have:=HNN.out;omega,by have:=HNN.out;omega⟩),(SlIn.nil (Nat.zero_le _) _ _ _),((G17.out.2.2.2.modB hst (fun k hk=>by have:=HRP.out;have:=HLO0.out;omega)).lower (by have:=HLO0.out;omega))⟩⟩,G17.out.1.one hst HRP.out.1⟩
theorem prule_bad (P:Nat) (w0:World) (hP:w0.heap.size<=P) (l:List Tok) (h1:isT [104,97,114,100] l=false) (h2:isT [115,111,102,116] l=false) (w:World) (h:PAt w P l) (hg:GB w0 w):Calls Tryz.prog 49 #[.pointer (some ⟨P,0,none⟩)] w (PRul w P (parRule l)):=by
 have hPl:=h.lt
 obtain ⟨RB,hRB⟩:∃ RB,RB=w.heap.size:=⟨_,rfl⟩
 obtain ⟨w1,hw1⟩:∃ w1,w1=w.alloc (.cells #[.string ⟨#[]⟩,.bool false,.int .i64 0,.slice none 0 0,.int .i64 0,.string ⟨#[]⟩,.int .i64 0,.slice none 0 0,.slice none 0 0,.slice none 0 0] 64):=⟨_,rfl⟩
 have hb:Below w.heap.size w w1:=by rw [hw1];exact below_new _ _
 have hx:w1.heap[RB]?=some (.cells #[.string ⟨#[]⟩,.bool false,.int .i64 0,.slice none 0 0,.int .i64 0,.string ⟨#[]⟩,.int .i64 0,.slice none 0 0,.slice none 0 0,.slice none 0 0] 64 (0,0)):=by rw [hw1,hRB];exact heap_alloc_new _ _
 have HGB:=Lh (fun (W:World) (hm:Chalk.Mod (fun k=>k=P) w W)=>hg.mod hP hm)
 have HPP:=Lh (aI hP hPl)
 have G1:=Lh (aI (h.below hb) (aI (Chalk.Mod.of_below (S:=fun k=>k=P) hb) hx))
 have HRP:Hid (P<RB/\w.heap.size<=RB):=Lh ⟨by omega,by omega⟩
 have HW1:=Lh hw1
 have HRB:=Lh hRB
 have HB:=Lh (show parRule l=.bad (atT l) from by unfold parRule pHead;rw [if_neg (by rw [h1];decide),if_neg (by rw [h2];decide)];rfl)
 obtain ⟨t0,r0,hl⟩:=h.1.cons
 clear h hg hP hb hx hw1 hRB hPl
 go_enter Tryz.func49,Tryz.ntmps49
 go_wp2_with fail
 rw [<- HW1.out,<- HRB.out]
 refine (ptook_no P [104,97,114,100] _ w1 G1.out.1 (by assumption)).mono ?_
 rintro e w2 ⟨rfl,hb⟩
 have hm:=Chalk.Mod.of_below (S:=fun k=>k=P) hb
 have G2:=Lh (aI (G1.out.1.below hb) (aI (G1.out.2.1.trans hm (fun _ _ h=>h)) (heap_kept G1.out.2.2 hm (by have:=HRP.out;omega))))
 clear hb hm
 go_wp2_with fail
 refine (ptook_no P [115,111,102,116] _ w2 G2.out.1 (by assumption)).mono ?_
 rintro e w3 ⟨rfl,hb⟩
 have hm:=Chalk.Mod.of_below (S:=fun k=>k=P) hb
 have G3:=Lh (aI (G2.out.1.below hb) (aI (G2.out.2.1.trans hm (fun _ _ h=>h)) (heap_kept G2.out.2.2 hm (by have:=HRP.out;omega))))
 clear hb hm
 go_wp2_with fail
 subst hl
 refine (pfail_any P t0 r0 w3 G3.out.1).mono ?_
 rintro e w4 ⟨rfl,hb⟩
 exact ⟨rfl,PRul.bad HB.out (G3.out.2.1.trans (Chalk.Mod.of_below (S:=fun k=>k=P) hb) (fun _ _ h=>h))⟩
theorem prule_any (P:Nat) (w0:World) (hP:w0.heap.size<=P) (l:List Tok) (w:World) (h:PAt w P l) (hg:GB w0 w):Calls Tryz.prog 49 #[.pointer (some ⟨P,0,none⟩)] w (PRul w P (parRule l)):=by
 cases h1:isT [104,97,114,100] l with
 | true =>
  by_cases he:∀ (s:Bs) (r:List Tok),pName l.tail=.ok s r->isT [101,97,99,104] r=true
  ·exact prule_hard_each P w0 hP l h1 he w h hg
  ·refine prule_hard_none P w0 hP l h1 (fun s r hs=>?_) w h hg
   cases hq:isT [101,97,99,104] r with
   | false=>rfl
   | true=>exact (he (fun s2 r2 h2=>by rw [hs] at h2;cases h2;exact hq)).elim
 | false =>
  cases h2:isT [115,111,102,116] l with
  | false=>exact prule_bad P w0 hP l h1 h2 w h hg
  | true =>
   by_cases he:∀ (s:Bs) (r:List Tok) (n:Int) (q:List Tok),pName l.tail=.ok s r->pNumber 1 1000 r=.ok n q->isT [101,97,99,104] q=true
   ·exact prule_soft_each P w0 hP l h1 h2 he w h hg
   ·refine prule_soft_none P w0 hP l h1 h2 (fun s r n q hs hn=>?_) w h hg
    cases hq:isT [101,97,99,104] q with
    | false=>rfl
    | true=>exact (he (fun s2 r2 n2 q2 h2 h3=>by rw [hs] at h2;cases h2;rw [hn] at h3;cases h3;exact hq)).elim
end Go.Proofs.YtpmalchlecnjbaaGreatDoor
/- syntax.read: its deferred closure; Form's step. -/
namespace Go.Proofs.YtpmalchlecnjbaaGreatDoor
open Go.RowKit Go.Chalk
theorem rcatch_idle (p q:Addr) (w:World) :
  CallsD Tryz.prog 70 #[.pointer (some p),.pointer (some q)] .returning w fun e u' w'=>e=.returned (.tuple #[])/\u'=.returning/\w'=w:=by
 refine callsD_of_wpS Tryz.func70 rfl fun c₀ cs hu=>?_
 apply wpS_seq
 apply wpS_region
 simp [wpOpsS,go_sem,recoverD,hu,Tryz.ntmps70,Exit.thenS]
 refine wpS_of_wp ?_
 go_wp2
 cases c₀
 simp_all [bodyPostS,results,Tryz.results70]
theorem rcatch_wrong (b q:Nat) (n:Nat) (v0 v1:Int) (w:World) (hne:b ≠ q) (h:w.heap[b]?=some (.cells #[.int .i64 v0] 3 (0,0))) (h1:w.heap[q]?=some (.cells #[.int .i64 v1] 29 (0,0))) :
  CallsD Tryz.prog 70 #[.pointer (some ⟨b,0,none⟩),.pointer (some ⟨q,0,none⟩)] (.panicking (wrongP n)) w fun e u' w' =>
   e=.returned (.tuple #[])/\(∃ v,u'=.panicking [{ v:=v,recovered:=true }])/\Chalk.Mod (fun k=>k=b∨k=q) w w'/\w'.heap[b]?=some (.cells #[.int .i64 n] 3 (0,0))/\w'.heap[q]?=some (.cells #[.int .i64 70] 29 (0,0)):=by
 have lb:=(gS h).1
 have lq:=(gS h1).1
 have c0:w.cell? ⟨b,0,none⟩=some (.int .i64 v0):=cH h rfl
 have f0:w.frozen? ⟨b,0,none⟩=false:=fH h
 have c1:w.cell? ⟨q,0,none⟩=some (.int .i64 v1):=cH h1 rfl
 have f1:w.frozen? ⟨q,0,none⟩=false:=fH h1
 have H:=Lh (aI h h1)
 clear h h1
 have hta:∀ W:World,(Instr.typeAssert (.iface 105 (.agg #[.int .i64 n])) 20 105 true).run Tryz.prog W=.ok (.tuple #[.agg #[.int .i64 n],.bool true]) W:=fun W=>by rfl
 unfold wrongP
 refine callsD_of_wpS Tryz.func70 rfl fun c₀ cs hu=>?_
 apply wpS_seq
 apply wpS_region
 simp [wpOpsS,go_sem,recoverD,hu,Tryz.ntmps70,Exit.thenS]
 refine wpS_of_wp ?_
 rw [show (Array.replicate 11 undef:Array Value)=#[undef,undef,undef,undef,undef,undef,undef,undef,undef,undef,undef] from rfl]
 simp only [List.setIfInBounds_toArray,List.set_cons_zero,List.set_cons_succ,List.append_toArray,List.cons_append,List.nil_append]
 go_wp2_with fail
 have k1:=box_store (i:=0) (.int .i64 n) H.out.1
 have m1:Chalk.Mod (fun k=>k=b) w (w.setCell ⟨b,0,none⟩ (.int .i64 n)):=(Chalk.Mod.refl (fun k=>k=b) w).setCell (p:=⟨b,0,none⟩) (fun _=>rfl) _
 have k2:=heap_kept H.out.2 m1 (fun e=>hne e.symm)
 generalize w.setCell ⟨b,0,none⟩ (.int .i64 n)=w1 at k1 m1 k2 ⊢
 have k3:=box_store (i:=0) (.int .i64 70) k2
 have m2:Chalk.Mod (fun k=>k=q) w1 (w1.setCell ⟨q,0,none⟩ (.int .i64 70)):=(Chalk.Mod.refl (fun k=>k=q) w1).setCell (p:=⟨q,0,none⟩) (fun _=>rfl) _
 have k4:=heap_kept k1 m2 hne
 generalize w1.setCell ⟨q,0,none⟩ (.int .i64 70)=w2 at k3 m2 k4 ⊢
 have l4:=(gS k4).1
 have l3:=(gS k3).1
 exact ⟨rfl,_,rfl,.tuple #[],by simp [results,Tryz.results70],rfl,⟨_,rfl⟩,((m1.mono (fun k h=>.inl h)).trans (m2.mono (fun k h=>.inr h)) (fun _ _ h=>h)).alloc _,(Below.heap_alloc _ _ _ l4).trans k4,(Below.heap_alloc _ _ _ l3).trans k3⟩
end Go.Proofs.YtpmalchlecnjbaaGreatDoor
/- What the lexer makes is what the parser wants. -/
namespace Go.Chalk
open Go.RowKit
theorem EndL.app {n:Nat}:∀ l:List Tok,EndL (l++[⟨4,[],n⟩])
 | []=>rfl
 | [t]=>by show EndL [⟨4,[],n⟩];rfl
 | t :: u :: r=>by
  have:=EndL.app (n:=n) (u :: r)
  simpa [EndL] using this
theorem places_at (b:Bs):∀ (l:List Tok) (e:Nat),tkPlacesB b l e=true->∀ t∈l,t.at_+t.text.length<=b.length
 | [],_,_,t,ht=>by cases ht
 | u :: r,e,h,t,ht=>by
  rw [tkPlacesB] at h
  simp only [Bool.and_eq_true,decide_eq_true_eq] at h
  rcases List.mem_cons.1 ht with rfl | ht
  ·exact h.1.1.1.2
  ·exact places_at b r _ h.2 t ht
theorem right_ok {t:Tok} (h:rightB t=true):0<=t.kind/\t.kind<=4/\(t.kind=2->t.text.all digitB=true/\t.text ≠ []):=by
 unfold rightB at h
 split at h
 ·rename_i e;exact ⟨by omega,by omega,fun h2=>by omega⟩
 ·split at h
  ·rename_i e
   refine ⟨by omega,by omega,fun _=>?_⟩
   cases ht:t.text with
   | nil=>rw [ht] at h;cases h
   | cons c r =>
    rw [ht] at h
    simp only [numB,Bool.and_eq_true] at h
    exact ⟨h.1.1,by simp⟩
  ·split at h
   ·rename_i e;exact ⟨by omega,by omega,fun h2=>by omega⟩
   ·cases h
theorem toks_ok {b:Bs} (h:(tokensF b).2.2=0):EndL (tokensF b).1/\(∀ t∈(tokensF b).1,TokOk t)/\(tokensF b).1.length<=16385/\b.length<=16384:=by
 unfold tokensF at h ⊢
 split at h
 ·cases h
 ·rename_i hb
  rw [if_neg hb]
  rcases hq:lexS b 0 [] with ⟨res,x,er⟩
  rw [hq] at h
  simp only at h ⊢
  subst h
  obtain ⟨hp,hne⟩:=lexS_places b hq
  obtain ⟨toks,n,rfl,h1,h2,h3⟩:=goF_right (b.length+1) b 0 [] res x (by omega) hq
  rw [List.nil_append] at hp ⊢
  refine ⟨EndL.app toks,fun t ht=>?_,by simp;omega,by omega⟩
  have hat:=places_at b _ _ hp t ht
  rcases List.mem_append.1 ht with ht | ht
  ·obtain ⟨k1,k2,k3⟩:=right_ok (List.all_eq_true.1 h1 t ht)
   exact ⟨k1,k2,by omega,by omega,k3⟩
  ·simp only [List.mem_singleton] at ht
   subst ht
   exact ⟨show (0:Int)<=4 by decide,show (4:Int)<=4 by decide,by simp,show n<=_ by have:n+0<=b.length:=hat;omega,fun h=>by simp at h⟩
theorem tokD_flat:FlatT Tok.toD 3:=⟨fun _=>rfl,fun _=>rfl⟩
end Go.Chalk
namespace Go.Proofs.YtpmalchlecnjbaaGreatDoor
open Go.RowKit Go.Chalk
theorem pat_new {W:World} {v:Value} {q:Option Nat} {ts:List Tok} (hO:OwnT W 51 v q ts) (hE:EndL ts) (hT:∀ t∈ts,TokOk t) (hL:ts.length<=16385):PAt (W.alloc (.cells #[v] 107)) W.heap.size ts:=by
 have hb:Below W.heap.size W (W.alloc (.cells #[v] 107)):=below_new _ _
 have hn:=heap_alloc_new W (.cells #[v] 107)
 obtain ⟨z,rfl,hz⟩:=Chalk.Own.sl (G:=fun k=>k<W.heap.size) hO (fun _ h=>h.elim) (fun k hk=>Chalk.Own.row_lt hO hk) (by rw [widths_map tokD_flat];simp)
 obtain ⟨h1,h2,h3,h4,h5⟩:=SlIn.flat tokD_flat hz
 obtain ⟨t,r,rfl⟩:=hE.cons
 obtain ⟨e1,e2⟩:=h1 (by simp)
 have h4':=h4.below hb (fun _=>e2)
 refine ⟨hE,hT,by omega,z.b,z.o,z.cap,?_,e2,h2,h3,fun i hi=>?_⟩
 ·rw [hn,<- e1];simp [SlA.val]
 ·exact h4'.three i hi rfl
end Go.Proofs.YtpmalchlecnjbaaGreatDoor
/- syntax.read. -/
namespace Go.Chalk
open Go.RowKit
def readR {α:Type}:Rs α->Nat×Int
 | .bad n=>(n,70)
 | .ok _ r=>if isEnd r=false then (atT r,70) else (0,0)
def readF (b:Bs) {α:Type} (R:Rs α):Nat×Int :=
 if (tokensF b).2.2 ≠ 0 then ((tokensF b).2.1,(tokensF b).2.2) else readR R
theorem two_set {w:World} {B C:Nat} {x y x' y':Value} {T U:TypeId} (h:w.heap[B]?=some (.cells #[x] T (0,0))) (k:w.heap[C]?=some (.cells #[y] U (0,0))) (hne:B ≠ C) :
  ((w.setCell ⟨B,0,none⟩ x').setCell ⟨C,0,none⟩ y').heap[B]?=some (.cells #[x'] T (0,0))/\((w.setCell ⟨B,0,none⟩ x').setCell ⟨C,0,none⟩ y').heap[C]?=some (.cells #[y'] U (0,0))/\Mod (fun k=>k=B∨k=C) w ((w.setCell ⟨B,0,none⟩ x').setCell ⟨C,0,none⟩ y')/\((w.setCell ⟨B,0,none⟩ x').setCell ⟨C,0,none⟩ y').heap.size=w.heap.size:=by
 have p4:=box_store (i:=0) x' h
 have m4:Mod (fun k=>k=B) w (w.setCell ⟨B,0,none⟩ x'):=(Mod.refl (fun k=>k=B) w).setCell (p:=⟨B,0,none⟩) (fun _=>rfl) _
 have p5:=heap_kept k m4 (fun e=>hne e.symm)
 have hs:(w.setCell ⟨B,0,none⟩ x').heap.size=w.heap.size:=by simp
 generalize w.setCell ⟨B,0,none⟩ x'=w2 at p4 m4 p5 hs ⊢
 have p6:=box_store (i:=0) y' p5
 have m5:Mod (fun k=>k=C) w2 (w2.setCell ⟨C,0,none⟩ y'):=(Mod.refl (fun k=>k=C) w2).setCell (p:=⟨C,0,none⟩) (fun _=>rfl) _
 exact ⟨heap_kept p4 m5 hne,p6,(m4.mono (fun k h=>.inl h)).trans (m5.mono (fun k h=>.inr h)) (fun _ _ h=>h),by simp [hs]⟩
end Go.Chalk
namespace Go.Proofs.YtpmalchlecnjbaaGreatDoor
open Go.RowKit Go.Chalk
attribute [local go_sem] Oper.semAt_some
def ReadP (S:Nat->Prop) (Good:World->Prop) (b:Bs) {α:Type} (R:Rs α) (w:World) (e:Ending) (w':World):Prop :=
 Chalk.Mod S w w'/\e=.returned (.tuple #[.int .i64 ((readF b R).1:Int),.int .i64 (readF b R).2])/\((readF b R).2=0->Good w')
theorem read_any {α:Type} (bs:Bs) (R:Rs α) (a:Option Addr) (b o cap:Nat) (F:FuncId) (lb:Array Value) (S:Nat->Prop) (Good:World->Prop) (w:World) (hsb:∀ W,Below w.heap.size w W->SB W W.heap.size bs a b o) (hcap:bs.length<=cap) (hg:GS w)
  (hFe:∀ args w,(callFunc F args).run Tryz.prog w=.ok (.enter F args) w) (hSl:∀ k,S k->k<w.heap.size)
  (hG:∀ W W',Good W->Chalk.Mod (fun k=>k=w.heap.size∨k=w.heap.size+1) W W'->Good W')
  (hcall:∀ (W:World) (P:Nat),PAt W P (tokensF bs).1->GB w W->w.heap.size+1<P->Calls Tryz.prog F (#[.pointer (some ⟨P,0,none⟩)]++lb) W fun e W'=>Chalk.Mod (fun k=>S k∨k=P) W W'/\match R with | .ok _ r=>e=.returned (.tuple #[])/\Good W'/\PAt W' P r | .bad n=>e=.panicked (wrongP n)) :
  Calls Tryz.prog 38 #[.slice a bs.length cap,.func (.func F) #[] lb] w (ReadP S Good bs R w):=by
 obtain ⟨B4,hB4⟩:∃ B4,B4=w.heap.size:=⟨_,rfl⟩
 obtain ⟨W0,hW0⟩:∃ W0,W0=(w.alloc (.cells #[.int .i64 0] 3)).alloc (.cells #[.int .i64 0] 29):=⟨_,rfl⟩
 have hb0:Below w.heap.size w W0:=by rw [hW0];exact (((Below.refl _ _).alloc (Nat.le_refl _) _).alloc (by simp) _)
 have hz0:W0.heap.size=w.heap.size+2:=by rw [hW0];simp
 have k4:W0.heap[B4]?=some (.cells #[.int .i64 0] 3 (0,0)):=by rw [hW0,hB4,heap_get,if_neg (by simp),heap_get,if_pos (by simp)]
 have k5:W0.heap[B4+1]?=some (.cells #[.int .i64 0] 29 (0,0)):=by rw [hW0,hB4,heap_get,if_pos (by simp)]
 have HT:=Lh (tokens_any bs a b o cap W0 (hsb W0 hb0) hcap (hg.below hb0).gat)
 have H0:=Lh (aI hb0 (aI hz0 (aI k4 (aI k5 (aI hg (aI hSl hB4))))))
 have HC:=Lh hcall
 have HGD:=Lh hG
 have HW0:=Lh hW0
 have HB4:=Lh hB4
 have hmf:∀ (fn:Fn) (first cap:Array Value) (w:World),(Instr.makeFunc fn first cap).run Tryz.prog w=.ok (.func fn first cap) w:=fun _ _ _ _=>rfl
 clear hcall hG hb0 hz0 k4 k5 hW0 hsb hg hSl hB4
 go_enter_defers Tryz.func38,Tryz.ntmps38
 go_wp2_with fail
 rw [<- HW0.out,<- HB4.out]
 refine HT.out.mono ?_
 rintro e w1 ⟨v,q,rfl,hO,hq,hb1⟩
 obtain ⟨av,capv,rfl⟩:=hO.form
 obtain ⟨vv,hvv⟩:∃ vv,vv=Value.slice av (tokensF bs).1.length capv:=⟨_,rfl⟩
 obtain ⟨nv,hnv⟩:∃ nv,nv=(tokensF bs).1.length:=⟨_,rfl⟩
 rw [<- hvv] at hO
 rw [<- hnv] at hvv ⊢
 have hm1:=Chalk.Mod.of_below (S:=fun _=>False) hb1
 have j4:=heap_kept H0.out.2.2.1 hm1 (fun h=>h)
 have j5:=heap_kept H0.out.2.2.2.1 hm1 (fun h=>h)
 have c4:w1.cell? ⟨B4,0,none⟩=some (.int .i64 0):=cH j4 rfl
 have c5:w1.cell? ⟨B4+1,0,none⟩=some (.int .i64 0):=cH j5 rfl
 have f4:w1.frozen? ⟨B4,0,none⟩=false:=fH j4
 have f5:w1.frozen? ⟨B4+1,0,none⟩=false:=fH j5
 have l4:=(gS j4).1
 have l5:=(gS j5).1
 have H1:=Lh (aI j4 (aI j5 (aI hO (aI hq hb1))))
 have HV:=Lh hvv
 clear hm1 j4 j5 hO hq hb1 hvv hnv
 obtain ⟨n0,hn0⟩:∃ n0,n0=(tokensF bs).2.1:=⟨_,rfl⟩
 obtain ⟨c0,hc0⟩:∃ c0,c0=(tokensF bs).2.2:=⟨_,rfl⟩
 rw [<- hn0,<- hc0]
 have HN:=Lh (aI hn0 hc0)
 clear hn0 hc0
 have HM1:=Lh (fun (W:World) (hm:Chalk.Mod (fun k=>k=B4∨k=B4+1) w1 W)=>(show Chalk.Mod S w W from ((Chalk.Mod.of_below (S:=S) H0.out.1).trans (Chalk.Mod.of_below (S:=S) H1.out.2.2.2.2) (fun _ _ h=>h)).trans hm (fun i hi h=>by have:=H0.out.2.2.2.2.2.2;omega)))
 by_cases hc:c0=0
 rotate_left
 ·have hc2:(c0==0)=false:=by simpa using hc
  have HR:=Lh (show readF bs R=(n0,c0) from by unfold readF;rw [if_pos (by rw [<- HN.out.2];exact hc),<- HN.out.1,<- HN.out.2])
  go_wp2_with fail
  obtain ⟨p4,p5,m45,hs3⟩:=two_set (x':=.int .i64 (n0:Int)) (y':=.int .i64 c0) H1.out.1 H1.out.2.1 (by omega)
  generalize (w1.setCell ⟨B4,0,none⟩ (.int .i64 (n0:Int))).setCell ⟨B4+1,0,none⟩ (.int .i64 c0)=w3 at p4 p5 m45 hs3 ⊢
  have H3:=Lh (aI p4 (aI p5 (aI m45 hs3)))
  clear p4 p5 m45 hs3 c4 c5 f4 f5 l4 l5
  have c4:w3.cell? ⟨B4,0,none⟩=some (.int .i64 (n0:Int)):=cH H3.out.1 rfl
  have c5:w3.cell? ⟨B4+1,0,none⟩=some (.int .i64 c0):=cH H3.out.2.1 rfl
  have f4:w3.frozen? ⟨B4,0,none⟩=false:=fH H3.out.1
  have f5:w3.frozen? ⟨B4+1,0,none⟩=false:=fH H3.out.2.1
  have l4:=(gS H3.out.1).1
  have l5:=(gS H3.out.2.1).1
  go_region
  dsimp only [Exit.then]
  refine (‹∀ (a:Act) (w_1:World),Code.wp Tryz.prog Code.ret _ a w_1->_›:_) _ _ ?_
  refine wp_ret ?_
  obtain ⟨p4,p5,m45,hs3⟩:=two_set (x':=.int .i64 (n0:Int)) (y':=.int .i64 c0) H3.out.1 H3.out.2.1 (by omega)
  generalize (w3.setCell ⟨B4,0,none⟩ (.int .i64 (n0:Int))).setCell ⟨B4+1,0,none⟩ (.int .i64 c0)=w4 at p4 p5 m45 hs3 ⊢
  clear c4 c5 f4 f5 l4 l5
  have c4:w4.drew.cell? ⟨B4,0,none⟩=some (.int .i64 (n0:Int)):=cH (w:=w4.drew) p4 rfl
  have c5:w4.drew.cell? ⟨B4+1,0,none⟩=some (.int .i64 c0):=cH (w:=w4.drew) p5 rfl
  have hR:ReadP S Good bs R w (.returned (.tuple #[.int .i64 (n0:Int),.int .i64 c0])) w4.drew:=by
   refine ⟨(HM1.out w4 (H3.out.2.2.1.trans m45 (fun _ _ h=>h))).trans (Chalk.Mod.of_below (S:=S) (Below.refl w4.heap.size w4).drew) (fun _ _ h=>h),by rw [HR.out],fun h=>?_⟩
   rw [HR.out] at h;exact absurd h hc
  dsimp only [Exit.then,bodyPostD]
  simp only [Leaves,settle]
  refine ⟨_,?_,hR⟩
  simp [results,Tryz.results38,go_sem,c4,c5]
 subst hc
 go_wp2_with fail
 obtain ⟨p4,p5,m45,hs3⟩:=two_set (x':=.int .i64 (n0:Int)) (y':=.int .i64 0) H1.out.1 H1.out.2.1 (by omega)
 generalize (w1.setCell ⟨B4,0,none⟩ (.int .i64 (n0:Int))).setCell ⟨B4+1,0,none⟩ (.int .i64 0)=w3 at p4 p5 m45 hs3 ⊢
 have H3:=Lh (aI p4 (aI p5 (aI m45 hs3)))
 clear p4 p5 m45 hs3 c4 c5 f4 f5 l4 l5
 rw [<- H3.out.2.2.2,<- HV.out]
 obtain ⟨k1,k2,k3,k4⟩:=toks_ok HN.out.2.symm
 have hO3:OwnT w3 51 vv q (tokensF bs).1:=Chalk.Own.kept H1.out.2.2.1 H3.out.2.2.1 (fun _ h=>h.elim) (fun k hk e=>by have:=H1.out.2.2.2.1 k hk;have:=H0.out.2.1;have:=H0.out.2.2.2.2.2.2;omega)
 have hp:=pat_new hO3 k1 k2 k3
 have hb4:Below w3.heap.size w3 (w3.alloc (.cells #[vv] 107)):=below_new _ _
 have hz:w.heap.size+1<w3.heap.size:=by have:=(gS H3.out.2.1).1;have:=H0.out.2.2.2.2.2.2;omega
 obtain ⟨PP,hPP⟩:∃ PP,PP=w3.heap.size:=⟨_,rfl⟩
 rw [<- hPP] at hp hz ⊢
 have hg4:GB w (w3.alloc (.cells #[vv] 107)):=⟨H0.out.2.2.2.2.1,(((Chalk.Mod.of_below (S:=fun _=>False) H0.out.1).trans (Chalk.Mod.of_below (S:=fun _=>False) H1.out.2.2.2.2) (fun _ _ h=>h)).trans H3.out.2.2.1 (fun i hi h=>by have:=H0.out.2.2.2.2.2.2;omega)).below (Nat.le_refl _) (fun _ h=>h.elim) |>.trans (hb4.mono (by omega))⟩
 generalize w3.alloc (.cells #[vv] 107)=w4 at hp hb4 hg4 ⊢
 have H4:=Lh (aI hp (aI hg4 (aI hz (aI hPP hb4))))
 have HRF:Hid (readF bs R=readR R):=Lh (by unfold readF;rw [if_neg (by rw [<- HN.out.2];decide)])
 clear hp hb4 hg4 hz hPP k1 k2 k3 k4 hO3
 refine (HC.out w4 PP H4.out.1 H4.out.2.1 H4.out.2.2.1).mono ?_
 rintro e w5 ⟨hm,hr⟩
 have HWR:=Lh (fun (W:World) (hm:Chalk.Mod (fun k=>S k∨(k=PP∨k=B4∨k=B4+1)) w4 W)=>(show Chalk.Mod S w W from ((HM1.out w3 H3.out.2.2.1).trans (Chalk.Mod.of_below (S:=S) H4.out.2.2.2.2) (fun _ _ h=>h)).trans hm (fun i hi h=>by
  have h1:=H0.out.2.2.2.2.2.2;have h2:=H4.out.2.2.1
  rcases h with h | h | h | h
  ·exact h
  ·omega
  ·omega
  ·omega)))
 have HKB:=Lh (fun (W:World) (hm:Chalk.Mod (fun k=>S k∨k=PP) w4 W)=>(show W.heap[B4]?=some (.cells #[.int .i64 (n0:Int)] 3 (0,0))/\W.heap[B4+1]?=some (.cells #[.int .i64 0] 29 (0,0)) from
  ⟨heap_kept ((H4.out.2.2.2.2.block _ (gS H3.out.1).1).trans H3.out.1) hm (by rintro (h | h);have:=H0.out.2.2.2.2.2.1 _ h;have:=H0.out.2.2.2.2.2.2;omega;have:=H4.out.2.2.1;have:=H0.out.2.2.2.2.2.2;omega),
   heap_kept ((H4.out.2.2.2.2.block _ (gS H3.out.2.1).1).trans H3.out.2.1) hm (by rintro (h | h);have:=H0.out.2.2.2.2.2.1 _ h;have:=H0.out.2.2.2.2.2.2;omega;have:=H4.out.2.2.1;have:=H0.out.2.2.2.2.2.2;omega)⟩))
 have HCT:=Lh (fun (m:Nat) (W:World) (hm:Chalk.Mod (fun k=>S k∨k=PP) w4 W)=>rcatch_wrong B4 (B4+1) m n0 0 W (by omega) (HKB.out W hm).1 (HKB.out W hm).2)
 have HRB:=Lh (fun (m:Nat) (W W':World) (hr:readR R=(m,70)) (hm:Chalk.Mod (fun k=>S k∨k=PP) w4 W) (hm2:Chalk.Mod (fun k=>k=B4∨k=B4+1) W W')=>(show ReadP S Good bs R w (.returned (.tuple #[.int .i64 (m:Int),.int .i64 70])) W' from
  ⟨HWR.out W' ((hm.mono (fun k h=>by rcases h with h | h;exact .inl h;exact .inr (.inl h))).trans (hm2.mono (fun k h=>.inr (.inr h))) (fun _ _ h=>h)),by rw [HRF.out,hr],fun h=>by rw [HRF.out,hr] at h;cases h⟩))
 have CATCH:Hid (∀ (m:Nat) (W:World) (tm:Array Value) (_:readR R=(m,70)) (_:Chalk.Mod (fun k=>S k∨k=PP) w4 W) (_:tm[4]?=some (.pointer (some ⟨B4,0,none⟩))) (_:tm[5]?=some (.pointer (some ⟨B4+1,0,none⟩))),bodyPostD Tryz.prog Tryz.f38 (ReadP S Good bs R w) (Exit.panic (wrongP m)) ⟨tm,[{ target:=.fn (.func 70) #[.pointer (some ⟨B4,0,none⟩),.pointer (some ⟨B4+1,0,none⟩)],args:=#[] }]⟩ W):=Lh (fun m W tm hr hm t4 t5=>by
  dsimp only [bodyPostD]
  refine leaves_cons (f:=70) (args:=#[.pointer (some ⟨B4,0,none⟩),.pointer (some ⟨B4+1,0,none⟩)]) (by simp) (by simp [go_sem]) ?_
  refine (HCT.out m W hm).mono ?_
  rintro e u' w6 ⟨rfl,⟨v,rfl⟩,hm6,q4,q5⟩
  have c4:w6.cell? ⟨B4,0,none⟩=some (.int .i64 (m:Int)):=cH q4 rfl
  have c5:w6.cell? ⟨B4+1,0,none⟩=some (.int .i64 70):=cH q5 rfl
  have hR:=HRB.out m W w6 hr hm hm6
  simp only [Leaves,settle]
  refine ⟨_,?_,hR⟩
  simp [results,Tryz.results38,go_sem,c4,c5,t4,t5])
 cases hRR:R with
 | bad m =>
  subst hRR
  have hr:e=.panicked (wrongP m):=hr
  subst hr
  exact CATCH.out m w5 _ rfl hm rfl rfl
 | ok x r =>
  subst hRR
  obtain ⟨rfl,hgd,hp⟩:=hr
  obtain ⟨⟨kt,xt,nt⟩,q1,hr1⟩:=hp.1.cons
  subst hr1
  have hf0:=tokField0
  have H5:=Lh (aI hp (aI hm hgd))
  clear hp hm hgd
  by_cases hk:kt=4
  ·subst hk
   have hRR:=Lh (show readR (Rs.ok x (⟨4,xt,nt⟩ :: q1))=(0,0) from rfl)
   go_wp2_with fail
   refine (pnext_any PP _ q1 w5 H5.out.1).mono ?_
   rintro e w6 ⟨rfl,hb⟩
   have hm6:=H5.out.2.1.trans (Chalk.Mod.of_below (S:=fun k=>S k∨k=PP) hb) (fun _ _ h=>h)
   obtain ⟨q4,q5⟩:=HKB.out w6 hm6
   have H6:=Lh (aI hm6 (aI q4 (aI q5 hb)))
   have c4:w6.cell? ⟨B4,0,none⟩=some (.int .i64 (n0:Int)):=cH q4 rfl
   have c5:w6.cell? ⟨B4+1,0,none⟩=some (.int .i64 0):=cH q5 rfl
   have f4:w6.frozen? ⟨B4,0,none⟩=false:=fH q4
   have f5:w6.frozen? ⟨B4+1,0,none⟩=false:=fH q5
   have l4:=(gS q4).1
   have l5:=(gS q5).1
   clear hm6 q4 q5 hb
   go_wp2_with fail
   obtain ⟨p4,p5,m45,hs3⟩:=two_set (x':=.int .i64 0) (y':=.int .i64 0) H6.out.2.1 H6.out.2.2.1 (by omega)
   generalize (w6.setCell ⟨B4,0,none⟩ (.int .i64 0)).setCell ⟨B4+1,0,none⟩ (.int .i64 0)=w7 at p4 p5 m45 hs3 ⊢
   clear c4 c5 f4 f5 l4 l5
   dsimp only [bodyPostD]
   refine leaves_cons (f:=70) (args:=#[.pointer (some ⟨B4,0,none⟩),.pointer (some ⟨B4+1,0,none⟩)]) (by simp) (by simp [go_sem]) ?_
   refine (rcatch_idle _ _ w7).mono ?_
   rintro e u' w8 ⟨rfl,rfl,rfl⟩
   have c4:w8.cell? ⟨B4,0,none⟩=some (.int .i64 0):=cH p4 rfl
   have c5:w8.cell? ⟨B4+1,0,none⟩=some (.int .i64 0):=cH p5 rfl
   have hR:ReadP S Good bs (Rs.ok x (⟨4,xt,nt⟩ :: q1)) w (.returned (.tuple #[.int .i64 0,.int .i64 0])) w8:=by
    refine ⟨HWR.out w8 ((H6.out.1.mono (fun k h=>by rcases h with h | h;exact .inl h;exact .inr (.inl h))).trans (m45.mono (fun k h=>.inr (.inr h))) (fun _ _ h=>h)),by rw [HRF.out,hRR.out];rfl,fun _=>?_⟩
    exact HGD.out w5 w8 H5.out.2.2 (((Chalk.Mod.of_below (S:=fun k=>k=B4∨k=B4+1) H6.out.2.2.2).trans m45 (fun _ _ h=>h)).mono (fun k h=>by rw [HB4.out] at h;exact h))
   simp only [Leaves,settle]
   refine ⟨_,?_,hR⟩
   simp [results,Tryz.results38,go_sem,c4,c5]
  ·have hk2:(kt==4)=false:=by simpa using hk
   have hRR:=Lh (show readR (Rs.ok x (⟨kt,xt,nt⟩ :: q1))=(nt,70) from if_pos hk2)
   go_wp2_with fail
   refine (pnext_any PP _ q1 w5 H5.out.1).mono ?_
   rintro e w6 ⟨rfl,hb⟩
   have H6:=Lh (aI (H5.out.1.below hb) (H5.out.2.1.trans (Chalk.Mod.of_below (S:=fun k=>S k∨k=PP) hb) (fun _ _ h=>h)))
   clear hb
   go_wp2_with fail
   refine (pfail_any PP _ q1 w6 H6.out.1).mono ?_
   rintro e w7 ⟨rfl,hb⟩
   exact CATCH.out nt w7 _ hRR.out (H6.out.2.trans (Chalk.Mod.of_below (S:=fun k=>S k∨k=PP) hb) (fun _ _ h=>h)) rfl rfl
end Go.Proofs.YtpmalchlecnjbaaGreatDoor
/- syntax.Form: its step. -/
namespace Go.Proofs.YtpmalchlecnjbaaGreatDoor
open Go.RowKit Go.Chalk
attribute [local go_sem] Oper.semAt_some
def FormAt (C lo:Nat) (R:Rs Frm) (W:World):Prop:=∀ f r,R=.ok f r->∃ x:FrmA,W.heap[C]?=some (.cells #[.int .i64 f.kind,.string ⟨f.name.toArray⟩,.int .i64 f.n,.slice x.t.a f.terms.length x.t.cap,.slice x.b.a f.binds.length x.b.cap,.slice x.l.a f.l.length x.l.cap] 28 (0,0))/\FrmIn W (Fr lo W) f x
theorem FormAt.kept {C lo:Nat} {R:Rs Frm} {W W':World} {S:Nat->Prop} (h:FormAt C lo R W) (hm:Chalk.Mod S W W') (hC:¬ S C) (hS:∀ k,S k->k<lo):FormAt C lo R W':=fun f r hR=>by
 obtain ⟨x,h1,h2⟩:=h f r hR
 exact ⟨x,heap_kept h1 hm hC,h2.modB hm hS⟩
def StepF (C P lo:Nat) (R:Rs Frm) (W:World) (e:Ending) (W':World):Prop :=
 Chalk.Mod (fun k=>k=C∨k=P) W W'/\match R with | .ok _ r=>e=.returned (.tuple #[])/\FormAt C lo R W'/\PAt W' P r | .bad n=>e=.panicked (wrongP n)
theorem StepF.bad {C P lo m:Nat} {R:Rs Frm} {W W':World} (hR:R=.bad m) (hm:Chalk.Mod (fun k=>k=C∨k=P) W W'):StepF C P lo R W (.panicked (wrongP m)) W':=by subst hR;exact ⟨hm,rfl⟩
theorem StepF.ok {C P lo:Nat} {R:Rs Frm} {W W':World} {f:Frm} {r:List Tok} (hR:R=.ok f r) (hm:Chalk.Mod (fun k=>k=C∨k=P) W W') (h:FormAt C lo R W') (hp:PAt W' P r):StepF C P lo R W (.returned (.tuple #[])) W':=by subst hR;exact ⟨hm,rfl,h,hp⟩
theorem PAt.low {w w':World} {P C:Nat} {l:List Tok} {T:TypeId} (h:PAt w P l) (hm:Chalk.Mod (fun k=>k=C) w w') (hC:C<P) (hz:w.heap[C]?=some (.cells #[.int .i64 0,.string ⟨#[]⟩,.int .i64 0,.slice none 0 0,.slice none 0 0,.slice none 0 0] T (0,0))):PAt w' P l:=by
 have hlt:=h.lt
 obtain ⟨h1,h2,h2',b,o,cap,h3,h4,h5,h6,h7⟩:=h
 have hk:∀ k,k<w.heap.size->k ≠ C->w'.heap[k]?=w.heap[k]?:=fun k hk hs=>hm.block k hk hs
 have hne:b ≠ C:=by
  rintro rfl
  obtain ⟨t,r,rfl⟩:=h1.cons
  have e0:=(h7 0 (by simp)).1
  have e1:=(h7 0 (by simp)).2.1
  have hc:∀ q:Nat,w.cell? ⟨b,q,none⟩=(#[.int .i64 0,.string ⟨#[]⟩,.int .i64 0,.slice none 0 0,.slice none 0 0,.slice none 0 0]:Array Value)[q]?:=fun q=>by simp [World.cell?,hz]
  rw [hc] at e0 e1
  rcases o with _ | _ | _ | _ | _ | _ | o
  ·cases r with
   | nil=>simp at e0;have h1:t.kind=4:=h1;omega
   | cons u r =>
    have e3:=(h7 1 (by simp)).1
    rw [hc] at e3
    simp at e3
  all_goals simp at e0 e1
 have hc:∀ (q:Nat) (v:Value),w.cell? ⟨b,q,none⟩=some v->w'.cell? ⟨b,q,none⟩=some v:=fun q v e=>(World.cell?_of_block (a:=⟨b,q,none⟩) (hk b (by omega) hne)).trans e
 exact ⟨h1,h2,h2',b,o,cap,(hk P hlt (by omega)).trans h3,h4,h5,h6,fun i hi=>⟨hc _ _ (h7 i hi).1,hc _ _ (h7 i hi).2.1,hc _ _ (h7 i hi).2.2⟩⟩
theorem formS_any (C P lo:Nat) (w0:World) (ts:List Tok) (W:World) (hP:w0.heap.size<=P) (hC:C<w0.heap.size) (hlo:lo<=P) (hp:PAt W P ts) (hg:GB w0 W)
  (hc:W.heap[C]?=some (.cells #[.int .i64 0,.string ⟨#[]⟩,.int .i64 0,.slice none 0 0,.slice none 0 0,.slice none 0 0] 28 (0,0))) :
  Calls Tryz.prog 39 #[.pointer (some ⟨P,0,none⟩),.pointer (some ⟨C,0,none⟩)] W (StepF C P lo (parF ts) W):=by
 have HC:=Lh (pf_any P w0 hP ts W hp hg)
 have hCP:=hp.lt
 have H0:=Lh (aI hp (aI hc (aI hlo (aI hP hC))))
 generalize hRR:parF ts=R at HC ⊢
 have HRR:=Lh hRR
 clear hp hg hc hlo hP hC hRR hCP
 go_enter Tryz.func39,Tryz.ntmps39
 go_wp2_with fail
 refine HC.out.mono ?_
 rintro e w1 hp
 cases hO:R with
 | bad m =>
  obtain ⟨rfl,hm⟩:=hp.fails hO
  exact ⟨rfl,StepF.bad rfl (hm.mono (fun k h=>.inr h))⟩
 | ok f r =>
  obtain ⟨x,rfl,hx,hp1,hm⟩:=hp.gets hO
  have k:=heap_kept H0.out.2.1 hm (by have:=H0.out.2.2;omega)
  have x0:w1.cell? ⟨C,0,none⟩=some (.int .i64 0):=cH k rfl
  have x1:w1.cell? ⟨C,1,none⟩=some (.string ⟨#[]⟩):=cH k rfl
  have x2:w1.cell? ⟨C,2,none⟩=some (.int .i64 0):=cH k rfl
  have x3:w1.cell? ⟨C,3,none⟩=some (.slice none 0 0):=cH k rfl
  have x4:w1.cell? ⟨C,4,none⟩=some (.slice none 0 0):=cH k rfl
  have x5:w1.cell? ⟨C,5,none⟩=some (.slice none 0 0):=cH k rfl
  have f0:w1.frozen? ⟨C,0,none⟩=false:=fH k
  have f1:w1.frozen? ⟨C,1,none⟩=false:=fH k
  have f2:w1.frozen? ⟨C,2,none⟩=false:=fH k
  have f3:w1.frozen? ⟨C,3,none⟩=false:=fH k
  have f4:w1.frozen? ⟨C,4,none⟩=false:=fH k
  have f5:w1.frozen? ⟨C,5,none⟩=false:=fH k
  have hrl:=(gS k).1
  have H1:=Lh (aI k (aI hx (aI hp1 hm)))
  have HO:=Lh hO
  clear k hx hp hp1 hm hO
  go_wp2_with fail
  have hst:=st6_mod w1 C (.int .i64 f.kind) (.string ⟨f.name.toArray⟩) (.int .i64 f.n) (.slice x.t.a f.terms.length x.t.cap) (.slice x.b.a f.binds.length x.b.cap) (.slice x.l.a f.l.length x.l.cap)
  have hh:=st6_heap (c0:=.int .i64 f.kind) (c1:=.string ⟨f.name.toArray⟩) (c2:=.int .i64 f.n) (c3:=.slice x.t.a f.terms.length x.t.cap) (c4:=.slice x.b.a f.binds.length x.b.cap) (c5:=.slice x.l.a f.l.length x.l.cap) H1.out.1
  have hlt:=H0.out.1.lt
  have h1:=H0.out.2.2.1
  have h2:=H0.out.2.2.2.1
  have h3:=H0.out.2.2.2.2
  refine bodyPost_ret (v:=.tuple #[]) (by simp [results,Tryz.results39]) rfl ?_
  refine StepF.ok HO.out ((H1.out.2.2.2.mono (fun k h=>.inr h)).trans (hst.mono (fun k h=>.inl h)) (fun _ _ h=>h)) (fun f' r' h'=>?_) (H1.out.2.2.1.low hst (by omega) H1.out.1)
  cases HO.out.symm.trans h'
  exact ⟨x,hh,(H1.out.2.1.modB hst (fun k hk=>by omega)).lower (by omega)⟩
end Go.Proofs.YtpmalchlecnjbaaGreatDoor
/- What the parser gives is small enough for Check. (plain) -/
namespace Go.Proofs.YtpmalchlecnjbaaGreatDoor
open Go.RowKit Go.Chalk
def Short (l:List Tok):Prop:=∀ t∈l,t.text.length<=16384
theorem Short.tail {l:List Tok} (h:Short l):Short l.tail:=fun t ht=>h t (List.mem_of_mem_tail ht)
theorem Short.eat {l r:List Tok} (h:Short l) (e:EatZ l r):Short r:=by
 obtain ⟨p,_,rfl⟩:=e
 exact fun t ht=>h t (List.mem_append_right _ ht)
def Fit (f:Frm) (l r:List Tok):Prop:=Short l->f.size+r.length<=l.length/\∀ g∈nodesF f,FrmSm g
theorem pName_short {l r:List Tok} {s:Bs} (h:pName l=.ok s r) (hl:Short l):s.length<=16384:=by
 cases l with
 | nil=>cases h
 | cons t q =>
  rw [pName] at h
  split at h
  ·cases h;exact hl t (by simp)
  ·cases h
theorem Fit.node1 {k n:Int} {bs:List Bnd} {f:Frm} {l l1 r:List Tok} (h:Fit f l1 r) (e:Eat l l1) (hb:Short l->bs.length<=6/\∀ b∈bs,b.name.length<=16384):Fit (.mk k [] n [] bs [f]) l r:=fun hs=>by
 obtain ⟨h1,h2⟩:=h (hs.eat e.z)
 have:=e.len
 obtain ⟨b1,b2⟩:=hb hs
 refine ⟨by simp only [Frm.size,fsizes];omega,fun g hg=>?_⟩
 simp only [nodesF,nodesL,List.append_nil,List.mem_cons] at hg
 rcases hg with rfl | hg
 ·exact ⟨by simp [Frm.terms],by simp only [Frm.binds];omega,by simp [Frm.l],by simp [Frm.name],by simp [Frm.terms],fun b hb=>by have:=b2 b hb;omega⟩
 ·exact h2 g hg
theorem Fit.node2 {k:Int} {f g:Frm} {l l1 l2 r:List Tok} (h:Fit f l l1) (hg:Fit g l2 r) (e1:EatZ l l1) (e:Eat l1 l2):Fit (node2 k f g) l r:=fun hs=>by
 obtain ⟨h1,h2⟩:=h hs
 obtain ⟨h3,h4⟩:=hg ((hs.eat e1).eat e.z)
 have:=e.len
 refine ⟨by simp only [Go.Chalk.node2,Frm.size,fsizes];omega,fun x hx=>?_⟩
 simp only [Go.Chalk.node2,nodesF,nodesL,List.append_nil,List.mem_cons,List.mem_append] at hx
 rcases hx with rfl | hx | hx
 ·exact ⟨by simp [Frm.terms],by simp [Frm.binds],by simp [Frm.l],by simp [Frm.name],by simp [Frm.terms],by simp [Frm.binds]⟩
 ·exact h2 x hx
 ·exact h4 x hx
theorem Fit.leaf {k:Int} {s:Bs} {ts:List Trm} {l r:List Tok} (e:Eat l r) (hs:Short l->s.length<=16384/\ts.length<=2/\∀ t∈ts,t.name.length<=16384):Fit (.mk k s 0 ts [] []) l r:=fun h=>by
 have:=e.len
 obtain ⟨h1,h2,h3⟩:=hs h
 refine ⟨by simp only [Frm.size,fsizes];omega,fun x hx=>?_⟩
 simp only [nodesF,nodesL,List.mem_cons,List.not_mem_nil,or_false] at hx
 subst hx
 exact ⟨by simp only [Frm.terms];omega,by simp [Frm.binds],by simp [Frm.l],by simp only [Frm.name];omega,fun t ht=>by have:=h3 t ht;omega,by simp [Frm.binds]⟩
theorem Fit.more {f:Frm} {l l1 r:List Tok} (h:Fit f l1 r) (e:EatZ l l1):Fit f l r:=fun hs=>by
 obtain ⟨h1,h2⟩:=h (hs.eat e)
 have:=e.len
 exact ⟨by omega,h2⟩
theorem Fit.less {f:Frm} {l r r':List Tok} (h:Fit f l r) (e:EatZ r r'):Fit f l r':=fun hs=>by
 obtain ⟨h1,h2⟩:=h hs
 have:=e.len
 exact ⟨by omega,h2⟩
theorem pTerm_short {l r:List Tok} {t:Trm} (h:pTerm l=.ok t r) (hl:Short l):t.name.length<=16384:=by
 cases l with
 | nil=>cases h
 | cons k q =>
  rw [pTerm] at h
  split at h
  ·obtain ⟨n,l1,_,h⟩:=Rs.bind_ok.1 h
   cases h;simp
  ·cases hk:kwT kwTerm (k :: q) with
   | some v =>
    rw [hk] at h
    obtain ⟨u,l1,h1,h⟩:=Rs.bind_ok.1 h
    obtain ⟨s,l2,h2,h⟩:=Rs.bind_ok.1 h
    obtain ⟨u2,l3,h3,h⟩:=Rs.bind_ok.1 h
    cases h
    exact pName_short h2 (Short.eat (l:=q) (fun t ht=>hl t (List.mem_cons_of_mem _ ht)) (pWant_eat h1).z)
   | none =>
    rw [hk] at h
    obtain ⟨s,l2,h2,h⟩:=Rs.bind_ok.1 h
    cases h
    exact pName_short h2 hl
theorem pBind_short {b:Bnd} {l r:List Tok} (h:pBind l=.ok b r) (hl:Short l):b.name.length<=16384:=by
 unfold pBind at h
 obtain ⟨s,l1,h1,h⟩:=Rs.bind_ok.1 h
 have hs:=pName_short h1 hl
 obtain ⟨u,l2,h2,h⟩:=Rs.bind_ok.1 h
 cases hk:kwT kwSort l2 with
 | none=>rw [hk] at h;cases h
 | some n=>rw [hk] at h;cases h;exact hs
theorem pBinds_short:∀ (n:Nat) (l:List Tok) (bs:List Bnd) (r:List Tok),pBinds n l=.ok bs r->Short l->bs.length<=n/\∀ b∈bs,b.name.length<=16384
 | 0,l,bs,r,h,_=>by rw [pBinds] at h;cases h;simp
 | n+1,l,bs,r,h,hl=>by
  rw [pBinds] at h
  obtain ⟨b,l1,h1,h⟩:=Rs.bind_ok.1 h
  have hb:=pBind_short h1 hl
  split at h
  ·cases h;exact ⟨by simp,fun x hx=>by simp at hx;subst hx;exact hb⟩
  ·rename_i hs
   have hs2:isT [44] l1=true:=by
    cases hq:isT [44] l1 with
    | true=>rfl
    | false=>exact (hs (.inr hq)).elim
   obtain ⟨c,l2,h2,h⟩:=Rs.bind_ok.1 h
   cases h
   obtain ⟨k1,k2⟩:=pBinds_short n _ _ _ h2 ((hl.eat (pBind_eat h1).z).eat (isT_eat hs2).z)
   exact ⟨by simp;omega,fun x hx=>by rcases List.mem_cons.1 hx with rfl | hx;exact hb;exact k2 x hx⟩
structure FitAll (n:Nat):Prop where
 form:∀ l a r,pFormula n l=.ok a r->Fit a l r
 or:∀ l a r,pOr n l=.ok a r->Fit a l r
 ors:∀ f l0 l a r,Fit f l0 l->EatZ l0 l->pOrs n f l=.ok a r->Fit a l0 r
 and:∀ l a r,pAnd n l=.ok a r->Fit a l r
 ands:∀ f l0 l a r,Fit f l0 l->EatZ l0 l->pAnds n f l=.ok a r->Fit a l0 r
 brk:∀ l a r,pBracketed n l=.ok a r->Fit a l r
 un:∀ l a r,pUn n l=.ok a r->Fit a l r
theorem fit_all:∀ n,FitAll n
 | 0=>⟨fun _ _ _ h=>(by rw [pFormula] at h;cases h),fun _ _ _ h=>(by rw [pOr] at h;cases h),fun _ _ _ _ _ _ _ h=>(by rw [pOrs] at h;cases h),fun _ _ _ h=>(by rw [pAnd] at h;cases h),fun _ _ _ _ _ _ _ h=>(by rw [pAnds] at h;cases h),fun _ _ _ h=>(by rw [pBracketed] at h;cases h),fun _ _ _ h=>(by rw [pUn] at h;cases h)⟩
 | n+1=>by
  have I:=fit_all n
  have E:=eat_all n
  refine ⟨fun l a r h=>?_,fun l a r h=>?_,fun f l0 l a r hf he h=>?_,fun l a r h=>?_,fun f l0 l a r hf he h=>?_,fun l a r h=>?_,fun l a r h=>?_⟩
  ·rw [pFormula_s] at h
   obtain ⟨f,l1,h1,h⟩:=Rs.bind_ok.1 h
   split at h
   ·rename_i hs
    obtain ⟨g,l2,h2,h⟩:=Rs.bind_ok.1 h
    cases h
    exact (I.or _ _ _ h1).node2 (I.form _ _ _ h2) (E.or _ _ _ h1).z (isT_eat hs)
   ·cases h;exact I.or _ _ _ h1
  ·rw [pOr_s] at h
   obtain ⟨f,l1,h1,h⟩:=Rs.bind_ok.1 h
   exact I.ors _ _ _ _ _ (I.and _ _ _ h1) (E.and _ _ _ h1).z h
  ·rw [pOrs_s] at h
   split at h
   ·rename_i hs
    obtain ⟨g,l2,h2,h⟩:=Rs.bind_ok.1 h
    exact I.ors _ _ _ _ _ (hf.node2 (I.and _ _ _ h2) he (isT_eat hs)) ((he.trans (isT_eat hs).z).trans (E.and _ _ _ h2).z) h
   ·cases h;exact hf
  ·rw [pAnd_s] at h
   obtain ⟨f,l1,h1,h⟩:=Rs.bind_ok.1 h
   exact I.ands _ _ _ _ _ (I.un _ _ _ h1) (E.un _ _ _ h1).z h
  ·rw [pAnds_s] at h
   split at h
   ·rename_i hs
    obtain ⟨g,l2,h2,h⟩:=Rs.bind_ok.1 h
    exact I.ands _ _ _ _ _ (hf.node2 (I.un _ _ _ h2) he (isT_eat hs)) ((he.trans (isT_eat hs).z).trans (E.un _ _ _ h2).z) h
   ·cases h;exact hf
  ·rw [pBracketed_s] at h
   obtain ⟨u,l1,h1,h⟩:=Rs.bind_ok.1 h
   obtain ⟨f,l2,h2,h⟩:=Rs.bind_ok.1 h
   obtain ⟨v,l3,h3,h⟩:=Rs.bind_ok.1 h
   cases h
   exact ((I.form _ _ _ h2).more (pWant_eat h1).z).less (pWant_eat h3).z
  ·rw [pUn_s] at h
   split at h
   ·rename_i hs
    obtain ⟨g,l2,h2,h⟩:=Rs.bind_ok.1 h
    cases h
    exact (I.un _ _ _ h2).node1 (isT_eat hs) (fun _=>⟨by simp,by simp⟩)
   split at h
   ·exact I.brk _ _ _ h
   split at h
   ·rename_i hs;cases h;exact Fit.leaf (isT_eat hs) (fun _=>⟨by simp,by simp,by simp⟩)
   split at h
   ·rename_i hs;cases h;exact Fit.leaf (isT_eat hs) (fun _=>⟨by simp,by simp,by simp⟩)
   cases h1:kwT kwAll l with
   | some k =>
    rw [h1] at h
    obtain ⟨x,l2,h2,h⟩:=Rs.bind_ok.1 h
    obtain ⟨b,l3,h3,h⟩:=Rs.bind_ok.1 h
    obtain ⟨f,l4,h4,h⟩:=Rs.bind_ok.1 h
    cases h
    have e2:=(kwT_eat h1).trans (quant_num_eat h2)
    exact (I.brk _ _ _ h4).node1 (e2.trans (pBinds_eat 5 _ _ _ h3).z) (fun hs=>pBinds_short 6 _ _ _ h3 (hs.eat e2.z))
   | none =>
    rw [h1] at h
    cases h2:kwT kwAtom l with
    | some k =>
     rw [h2] at h
     have he:=(kwT_eat h2).trans (pAtom_eat h).z
     unfold pAtom at h
     obtain ⟨u1,l1,h3,h⟩:=Rs.bind_ok.1 h
     obtain ⟨na,l2,h4,h⟩:=Rs.bind_ok.1 h
     obtain ⟨u3,l3,h5,h⟩:=Rs.bind_ok.1 h
     obtain ⟨nb,l4,h6,h⟩:=Rs.bind_ok.1 h
     obtain ⟨u5,l5,h7,h⟩:=Rs.bind_ok.1 h
     cases h
     refine Fit.leaf he (fun hs=>⟨by simp,by simp,fun t ht=>?_⟩)
     have e1:=(kwT_eat h2).trans (pWant_eat h3).z
     have e3:=(e1.trans (pName_eat h4).z).trans (pWant_eat h5).z
     simp only [List.mem_cons,List.not_mem_nil,or_false] at ht
     rcases ht with rfl | rfl
     ·exact pName_short h4 (hs.eat e1.z)
     ·exact pName_short h6 (hs.eat e3.z)
    | none =>
     rw [h2] at h
     have he:=pCmp_eat h
     unfold pCmp at h
     obtain ⟨ta,l1,h3,h⟩:=Rs.bind_ok.1 h
     cases h4:opT l1 with
     | none=>rw [h4] at h;cases h
     | some s =>
      rw [h4] at h
      obtain ⟨tb,l2,h5,h⟩:=Rs.bind_ok.1 h
      cases h
      refine Fit.leaf he (fun hs=>⟨?_,by simp,fun t ht=>?_⟩)
      ·have hs1:=hs.eat (pTerm_eat h3).z
       cases l1 with
       | nil=>cases h4
       | cons u q =>
        rw [opT] at h4
        split at h4
        ·cases h4;exact hs1 u (by simp)
        ·cases h4
      ·simp only [List.mem_cons,List.not_mem_nil,or_false] at ht
       rcases ht with rfl | rfl
       ·exact pTerm_short h3 hs
       ·exact pTerm_short h5 ((hs.eat (pTerm_eat h3).z).eat (opT_eat h4).z)
theorem parF_fit {l r:List Tok} {f:Frm} (h:parF l=.ok f r) (hs:Short l) (hl:l.length<=16385):FrmFit f:=by
 obtain ⟨h1,h2⟩:=(fit_all _).form _ _ _ h hs
 exact ⟨by omega,h2⟩
end Go.Proofs.YtpmalchlecnjbaaGreatDoor
/- syntax.Form. -/
namespace Go.Proofs.YtpmalchlecnjbaaGreatDoor
open Go.RowKit Go.Chalk
attribute [local go_sem] Oper.semAt_some
theorem toks_short {b:Bs} (h:(tokensF b).2.2=0):Short (tokensF b).1:=by
 unfold tokensF at h ⊢
 split at h
 ·cases h
 ·rename_i hb
  rw [if_neg hb]
  rcases hq:lexS b 0 [] with ⟨res,x,er⟩
  rw [hq] at h
  simp only at h ⊢
  subst h
  obtain ⟨hp,hne⟩:=lexS_places b hq
  intro t ht
  have:=places_at b _ _ hp t ht
  omega
theorem synForm_bad {b:Bs} (h:(readF b (parF (tokensF b).1)).2 ≠ 0):synForm b=(none,(readF b (parF (tokensF b).1)).1,(readF b (parF (tokensF b).1)).2):=by
 rw [synForm_eq]
 unfold readF at h ⊢
 split
 ·rfl
 ·rename_i hc
  rw [if_neg hc] at h
  cases hO:parF (tokensF b).1 with
  | bad n=>rfl
  | ok f r =>
   rw [hO] at h
   simp only [readR] at h ⊢
   cases he:isEnd r with
   | false=>rfl
   | true=>rw [he] at h;exact absurd rfl h
theorem readF_ok {α:Type} {b:Bs} {R:Rs α} (h:(readF b R).2=0):(tokensF b).2.2=0/\(readF b R).1=0/\∃ f r,R=.ok f r/\isEnd r=true:=by
 unfold readF at h ⊢
 split at h
 ·rename_i hc;exact absurd h hc
 ·rename_i hc
  rw [if_neg hc]
  cases R with
  | bad n=>cases h
  | ok f r =>
   simp only [readR] at h ⊢
   cases he:isEnd r with
   | false=>rw [he] at h;cases h
   | true=>exact ⟨by simpa using hc,rfl,f,r,rfl,he⟩
theorem synForm_ok {b:Bs} {f:Frm} {r:List Tok} (h0:(tokensF b).2.2=0) (hR:parF (tokensF b).1=.ok f r) (he:isEnd r=true):synForm b=if frmCheck f ≠ 0 then (none,0,frmCheck f) else (some f,0,0):=by
 rw [synForm_eq,if_neg (by rw [h0];decide),hR]
 simp only [he,Bool.true_eq_false,if_false]
def FormP (bs:Bs) (w:World) (e:Ending) (w':World):Prop:=Below w.heap.size w w' /\
 ((∃ (f:Frm) (x:FrmA),synForm bs=(some f,0,0)/\e=.returned (.tuple #[.agg #[.int .i64 f.kind,.string ⟨f.name.toArray⟩,.int .i64 f.n,.slice x.t.a f.terms.length x.t.cap,.slice x.b.a f.binds.length x.b.cap,.slice x.l.a f.l.length x.l.cap],.int .i64 0,.int .i64 0])/\FrmIn w' (Fr w.heap.size w') f x)
  ∨ (∃ (n:Nat) (c:Int),synForm bs=(none,n,c)/\e=.returned (.tuple #[.agg #[.int .i64 0,.string ⟨#[]⟩,.int .i64 0,.slice none 0 0,.slice none 0 0,.slice none 0 0],.int .i64 (n:Int),.int .i64 c])))
theorem sform_any (bs:Bs) (a:Option Addr) (b o cap:Nat) (w:World) (hsb:SB w w.heap.size bs a b o) (hcap:bs.length<=cap) (hg:GS w):Calls Tryz.prog 14 #[.slice a bs.length cap] w (FormP bs w):=by
 obtain ⟨A,hA⟩:∃ A,A=w.heap.size:=⟨_,rfl⟩
 obtain ⟨W0,hW0⟩:∃ W0,W0=(w.alloc (.cells #[.int .i64 0,.string ⟨#[]⟩,.int .i64 0,.slice none 0 0,.slice none 0 0,.slice none 0 0] 28)).alloc (.cells #[.int .i64 0,.string ⟨#[]⟩,.int .i64 0,.slice none 0 0,.slice none 0 0,.slice none 0 0] 28):=⟨_,rfl⟩
 have hb0:Below w.heap.size w W0:=by rw [hW0];exact (((Below.refl _ _).alloc (Nat.le_refl _) _).alloc (by simp) _)
 have hz0:W0.heap.size=w.heap.size+2:=by rw [hW0];simp
 have kA:W0.heap[A]?=some (.cells #[.int .i64 0,.string ⟨#[]⟩,.int .i64 0,.slice none 0 0,.slice none 0 0,.slice none 0 0] 28 (0,0)):=by rw [hW0,hA,heap_get,if_neg (by simp),heap_get,if_pos (by simp)]
 have kC:W0.heap[A+1]?=some (.cells #[.int .i64 0,.string ⟨#[]⟩,.int .i64 0,.slice none 0 0,.slice none 0 0,.slice none 0 0] 28 (0,0)):=by rw [hW0,hA,heap_get,if_pos (by simp)]
 have HRD:=Lh (read_any bs (parF (tokensF bs).1) a b o cap 39 #[.pointer (some ⟨A+1,0,none⟩)] (fun k=>k=A+1) (FormAt (A+1) (W0.heap.size+2) (parF (tokensF bs).1)) W0 (fun W hW=>(hsb.below hb0 hb0.size).below hW hW.size) hcap (hg.below hb0) (enters_of Tryz.func39 (by kernel_rfl) rfl) (fun k hk=>by omega)
  (fun W W' hW hm=>hW.kept hm (by omega) (fun k hk=>by omega))
  (fun W P hp hgb hP=>by
   have h:=formS_any (A+1) P (W0.heap.size+2) W0 (tokensF bs).1 W (by omega) (by omega) (by omega) hp hgb ((hgb.2.block _ (gS kC).1).trans kC)
   refine (show Calls Tryz.prog 39 (#[.pointer (some ⟨P,0,none⟩)]++#[.pointer (some ⟨A+1,0,none⟩)]) W _ from h).mono (fun e W' h=>?_)
   obtain ⟨h1,h2⟩:=h
   refine ⟨h1,?_⟩
   generalize parF (tokensF bs).1=R at h2 ⊢
   cases R <;> exact h2))
 have H0:=Lh (aI hb0 (aI hz0 (aI kA (aI hg hA))))
 have HW0:=Lh hW0
 have HA:=Lh hA
 have HBL:=Lh (fun (W:World) (B:Nat) (hm:Chalk.Mod (fun k=>k=A+1) W0 W) (hB:w.heap.size<=B) (c0 c1 c2 c3 c4 c5:Value)=>(show Below w.heap.size w (st6 W B c0 c1 c2 c3 c4 c5) from
  hb0.trans (((hm.mono (fun k h=>(show w.heap.size<=k by omega))).trans ((st6_mod W B c0 c1 c2 c3 c4 c5).mono (fun k h=>(show w.heap.size<=k by omega))) (fun _ _ h=>h)).below hb0.size (fun _ h=>h))))
 have hmf:∀ (fn:Fn) (first cap:Array Value) (w:World),(Instr.makeFunc fn first cap).run Tryz.prog w=.ok (.func fn first cap) w:=fun _ _ _ _=>rfl
 clear hb0 hz0 kA kC hW0 hsb hg hA
 go_enter Tryz.func14,Tryz.ntmps14
 go_wp2_with fail
 rw [<- HW0.out,<- HA.out]
 refine HRD.out.mono ?_
 rintro e w1 ⟨hm,rfl,hgd⟩
 have k1:=heap_kept H0.out.2.2.1 hm (by omega)
 have x0:w1.cell? ⟨A,0,none⟩=some (.int .i64 0):=cH k1 rfl
 have x1:w1.cell? ⟨A,1,none⟩=some (.string ⟨#[]⟩):=cH k1 rfl
 have x2:w1.cell? ⟨A,2,none⟩=some (.int .i64 0):=cH k1 rfl
 have x3:w1.cell? ⟨A,3,none⟩=some (.slice none 0 0):=cH k1 rfl
 have x4:w1.cell? ⟨A,4,none⟩=some (.slice none 0 0):=cH k1 rfl
 have x5:w1.cell? ⟨A,5,none⟩=some (.slice none 0 0):=cH k1 rfl
 have f0:w1.frozen? ⟨A,0,none⟩=false:=fH k1
 have f1:w1.frozen? ⟨A,1,none⟩=false:=fH k1
 have f2:w1.frozen? ⟨A,2,none⟩=false:=fH k1
 have f3:w1.frozen? ⟨A,3,none⟩=false:=fH k1
 have f4:w1.frozen? ⟨A,4,none⟩=false:=fH k1
 have f5:w1.frozen? ⟨A,5,none⟩=false:=fH k1
 have hrl:=(gS k1).1
 have H1:=Lh (aI k1 (aI hm hgd))
 clear k1 hm hgd
 obtain ⟨n0,hn0⟩:∃ n0,n0=(readF bs (parF (tokensF bs).1)).1:=⟨_,rfl⟩
 obtain ⟨c0,hc0⟩:∃ c0,c0=(readF bs (parF (tokensF bs).1)).2:=⟨_,rfl⟩
 rw [<- hn0,<- hc0]
 have HN:=Lh (aI hn0 hc0)
 clear hn0 hc0
 by_cases hc:c0=0
 rotate_left
 ·have hc2:(c0==0)=false:=by simpa using hc
  have HS:=Lh (show synForm bs=(none,n0,c0) from by rw [synForm_bad (by rw [<- HN.out.2];exact hc),<- HN.out.1,<- HN.out.2])
  go_wp2_with fail
  refine bodyPost_ret (v:=.tuple #[.agg #[.int .i64 0,.string ⟨#[]⟩,.int .i64 0,.slice none 0 0,.slice none 0 0,.slice none 0 0],.int .i64 (n0:Int),.int .i64 c0]) (by simp [results,Tryz.results14,go_sem, *]) rfl ?_
  exact ⟨HBL.out w1 A H1.out.2.1 (by have:=HA.out;omega) (.int .i64 0) (.string ⟨#[]⟩) (.int .i64 0) (.slice none 0 0) (.slice none 0 0) (.slice none 0 0),.inr ⟨n0,c0,HS.out,rfl⟩⟩
 subst hc
 obtain ⟨h0,-,f,r,hR,he⟩:=readF_ok HN.out.2.symm
 obtain ⟨x,hcx,hx⟩:=H1.out.2.2 HN.out.2.symm f r hR
 have hb1:Below w.heap.size w w1:=H0.out.1.trans ((H1.out.2.1.mono (fun k h=>(show w.heap.size<=k by have:=HA.out;omega))).below H0.out.1.size (fun _ h=>h))
 have HCK:=fcheck_any f x w1 (hx.mono (fun k hk=>hk.2)) (parF_fit hR (toks_short h0) (toks_ok h0).2.2.1) (H0.out.2.2.2.1.below hb1).gg
 simp only [ndV,FrmA.cells,SlA.val] at HCK
 have HCK:=Lh HCK
 have y0:w1.cell? ⟨A+1,0,none⟩=some (.int .i64 f.kind):=cH hcx rfl
 have y1:w1.cell? ⟨A+1,1,none⟩=some (.string ⟨f.name.toArray⟩):=cH hcx rfl
 have y2:w1.cell? ⟨A+1,2,none⟩=some (.int .i64 f.n):=cH hcx rfl
 have y3:w1.cell? ⟨A+1,3,none⟩=some (.slice x.t.a f.terms.length x.t.cap):=cH hcx rfl
 have y4:w1.cell? ⟨A+1,4,none⟩=some (.slice x.b.a f.binds.length x.b.cap):=cH hcx rfl
 have y5:w1.cell? ⟨A+1,5,none⟩=some (.slice x.l.a f.l.length x.l.cap):=cH hcx rfl
 have hso:=synForm_ok h0 hR he
 have H2:=Lh (aI hcx (aI hx hso))
 clear hcx hx hso hb1 h0 hR he
 go_wp2_with fail
 refine HCK.out.mono ?_
 rintro e w2 ⟨rfl,hb2⟩
 have kA:=(hb2.block _ (gS H1.out.1).1).trans H1.out.1
 have kC:=(hb2.block _ (gS H2.out.1).1).trans H2.out.1
 have H3:=Lh (aI kA (aI kC hb2))
 clear x0 x1 x2 x3 x4 x5 f0 f1 f2 f3 f4 f5 y0 y1 y2 y3 y4 y5 hrl kA kC hb2
 have x0:w2.cell? ⟨A,0,none⟩=some (.int .i64 0):=cH H3.out.1 rfl
 have f0:w2.frozen? ⟨A,0,none⟩=false:=fH H3.out.1
 have y0:w2.cell? ⟨A+1,0,none⟩=some (.int .i64 f.kind):=cH H3.out.2.1 rfl
 have x1:w2.cell? ⟨A,1,none⟩=some (.string ⟨#[]⟩):=cH H3.out.1 rfl
 have f1:w2.frozen? ⟨A,1,none⟩=false:=fH H3.out.1
 have y1:w2.cell? ⟨A+1,1,none⟩=some (.string ⟨f.name.toArray⟩):=cH H3.out.2.1 rfl
 have x2:w2.cell? ⟨A,2,none⟩=some (.int .i64 0):=cH H3.out.1 rfl
 have f2:w2.frozen? ⟨A,2,none⟩=false:=fH H3.out.1
 have y2:w2.cell? ⟨A+1,2,none⟩=some (.int .i64 f.n):=cH H3.out.2.1 rfl
 have x3:w2.cell? ⟨A,3,none⟩=some (.slice none 0 0):=cH H3.out.1 rfl
 have f3:w2.frozen? ⟨A,3,none⟩=false:=fH H3.out.1
 have y3:w2.cell? ⟨A+1,3,none⟩=some (.slice x.t.a f.terms.length x.t.cap):=cH H3.out.2.1 rfl
 have x4:w2.cell? ⟨A,4,none⟩=some (.slice none 0 0):=cH H3.out.1 rfl
 have f4:w2.frozen? ⟨A,4,none⟩=false:=fH H3.out.1
 have y4:w2.cell? ⟨A+1,4,none⟩=some (.slice x.b.a f.binds.length x.b.cap):=cH H3.out.2.1 rfl
 have x5:w2.cell? ⟨A,5,none⟩=some (.slice none 0 0):=cH H3.out.1 rfl
 have f5:w2.frozen? ⟨A,5,none⟩=false:=fH H3.out.1
 have y5:w2.cell? ⟨A+1,5,none⟩=some (.slice x.l.a f.l.length x.l.cap):=cH H3.out.2.1 rfl
 have hrl:=(gS H3.out.1).1
 have hm2:Chalk.Mod (fun k=>k=A+1) W0 w2:=H1.out.2.1.trans (Chalk.Mod.of_below (S:=fun k=>k=A+1) H3.out.2.2) (fun _ _ h=>h)
 have H4:=Lh hm2
 clear hm2
 by_cases hk:frmCheck f=0
 ·have HS:=Lh (show synForm bs=(some f,0,0) from by rw [H2.out.2.2,if_neg (by rw [hk];decide)])
  rw [hk]
  go_wp2_with fail
  refine bodyPost_ret (v:=.tuple #[.agg #[.int .i64 f.kind,.string ⟨f.name.toArray⟩,.int .i64 f.n,.slice x.t.a f.terms.length x.t.cap,.slice x.b.a f.binds.length x.b.cap,.slice x.l.a f.l.length x.l.cap],.int .i64 0,.int .i64 0]) (by simp [results,Tryz.results14,go_sem, *]) rfl ?_
  have hst:=st6_mod w2 A (.int .i64 f.kind) (.string ⟨f.name.toArray⟩) (.int .i64 f.n) (.slice x.t.a f.terms.length x.t.cap) (.slice x.b.a f.binds.length x.b.cap) (.slice x.l.a f.l.length x.l.cap)
  refine ⟨HBL.out w2 A H4.out (by have:=HA.out;omega) (.int .i64 f.kind) (.string ⟨f.name.toArray⟩) (.int .i64 f.n) (.slice x.t.a f.terms.length x.t.cap) (.slice x.b.a f.binds.length x.b.cap) (.slice x.l.a f.l.length x.l.cap),.inl ⟨f,x,HS.out,rfl,?_⟩⟩
  exact ((H2.out.2.1.modB (Chalk.Mod.of_below (S:=fun _=>False) H3.out.2.2) (fun _ h=>h.elim)).modB hst (fun k hk=>by have:=H0.out.2.1;have:=HA.out;omega)).lower (by have:=H0.out.2.1;omega)
 ·have hk2:(frmCheck f==0)=false:=by simpa using hk
  have HS:=Lh (show synForm bs=(none,0,frmCheck f) from by rw [H2.out.2.2,if_pos hk])
  go_wp2_with fail
  refine bodyPost_ret (v:=.tuple #[.agg #[.int .i64 0,.string ⟨#[]⟩,.int .i64 0,.slice none 0 0,.slice none 0 0,.slice none 0 0],.int .i64 0,.int .i64 (frmCheck f)]) (by simp [results,Tryz.results14,go_sem, *]) rfl ?_
  exact ⟨HBL.out w2 A H4.out (by have:=HA.out;omega) (.int .i64 0) (.string ⟨#[]⟩) (.int .i64 0) (.slice none 0 0) (.slice none 0 0) (.slice none 0 0),.inr ⟨0,frmCheck f,HS.out,rfl⟩⟩
end Go.Proofs.YtpmalchlecnjbaaGreatDoor
/- A slice of the call's own whose elements lead into new memory; append of one element in a region that draws its order. -/
namespace Go.Chalk
open Go.RowKit
def OwnH (w:World) (e:TypeId) (sz lo hi:Nat) (v:Value) (xs:List D):Prop:=∃ r,Chalk.Own w (fun k=>lo<=k/\k<w.heap.size/\r ≠ some k) e sz v r xs/\∀ k,r=some k->lo<=k/\k<hi
theorem OwnH.nil (w:World) (e:TypeId) (sz lo hi:Nat):OwnH w e sz lo hi (.slice none 0 0) []:=⟨none,Own.nil _ _ _ _ (fun k h=>h.2.1),fun _ h=>by cases h⟩
theorem OwnH.kept {w w':World} {e:TypeId} {sz lo hi:Nat} {v:Value} {xs:List D} {S:Nat->Prop} (h:OwnH w e sz lo hi v xs) (hm:Mod S w w') (hS:∀ k,S k->k<lo):OwnH w' e sz lo hi v xs:=by
 obtain ⟨r,h1,h2⟩:=h
 have h3:=h1.kept hm (fun k hk hs=>by have:=hS k hs;omega) (fun k hk hs=>by have:=hS k hs;have:=h2 k hk;omega)
 exact ⟨r,h3.widen (fun k hk=>⟨hk.1,Nat.lt_of_lt_of_le hk.2.1 hm.size,hk.2.2⟩) (fun k hk hg=>hg.2.2 hk) (fun k hk=>hk.2.1),h2⟩
theorem OwnH.sl {w:World} {e:TypeId} {sz lo hi:Nat} {v:Value} {xs:List D} (h:OwnH w e sz lo hi v xs) (hw:widths xs=xs.length*sz):∃ z:SlA,v=z.val xs.length/\SlIn w (Fr lo w) xs z:=by
 obtain ⟨r,h,hr⟩:=h
 have:=h.read (G:=Fr lo w) (fun k hk=>⟨hk.1,hk.2.1⟩) (fun k hk=>⟨(hr k hk).1,h.row_lt hk⟩) hw
 obtain ⟨z,hz,hs⟩:=DAt.sl_iff.1 this
 exact ⟨z,by simpa using hz,hs⟩
variable {P:Program}
theorem wp_append_H {w:World} {B lo hi n:Nat} {o:Oper} {a:Act} {K:Act->World->Prop} {Q:Exit->Act->World->Prop} (s x:Operand) (t:TypeId)
  (ho:o.op=.call { callee:=.builtin .append,args:=#[s,x],argTypes:=#[t,t] }) (e:TypeId) (i:TypeInfo) (z:Value) (size bytes:Nat) (ht:P.underlying t=some (.slice e)) (hi':P.info? e=some i) (hz:i.zero=some z)
  (hsize:i.size=size) (hby:i.bytes=bytes) (hzs:z.cells.size=size) (hsz:0<size) (v:Value) (xs:List D) (hn:xs.length=n) (y:D) (cs:List Value) (U:TypeId) (hs:a.eval s=v) (hx:a.eval x=.slice (some ⟨B,0,none⟩) 1 1)
  (hrow:w.heap[B]?=some (.cells cs.toArray U (0,0))) (hv:OwnH w e size lo hi v xs) (hlo:lo<=hi) (hhi:hi<=w.heap.size) (hd:DsAt w (Fr hi w) [y] cs) (hw:y.width=size) (h63:n+1<=maxLen) (hbytes:(n+1)*bytes<=140737488355328)
  (h:∀ ao cap w',OwnH w' e size lo w'.heap.size (.slice ao (n+1) cap) (xs++[y])->Mod (fun k=>lo<=k) w w'->K (a.put o.dst (.slice ao (n+1) cap)) w') :
  o.wp P a w K Q:=by
 subst hn
 obtain ⟨r,h1,h2⟩:=hv
 have hnews:∀ j u,cs[j]?=some u->w.cell? ((⟨B,0,none⟩:Addr).add j)=some u:=fun j u hu=>by
  have hc:=cH (i:=j) hrow (v:=u) (by simpa using hu)
  unfold Addr.add
  by_cases h0:j=0
  ·subst h0;simpa using hc
  ·rw [if_neg h0];simpa using hc
 have hlen:cs.length=1*size:=by
  have:=DsAt.length _ _ hd
  rw [this];simp [widths,hw]
 have hd':DsAt w (fun k=>lo<=k/\k<w.heap.size/\r ≠ some k) [y] cs:=DsAt.mono (fun k hk=>⟨Nat.le_trans hlo hk.1,hk.2,fun hr=>by have:=(h2 k hr).2;have:=hk.1;omega⟩) _ _ hd
 obtain ⟨cs0,k1,k2⟩:=h1.cells
 refine wp_append_lies w s x t ho 0 e i z size bytes ht hi' hz hsize hby hzs hsz v xs.length cs0 hs k1 ⟨B,0,none⟩ 1 1 cs hx hlen hnews (DsAt.one _ _ hd) (by omega) h63 hbytes (Nat.zero_le _) _ rfl (fun g cap w' hown hgr hat hlt=>?_)
 obtain ⟨g1,g2,g3⟩:=h1.appended (ys:=[y]) k2 hown hgr (by rcases hat with h | h;exact .inl h.symm;exact .inr (by rw [h];rfl)) hd'
 have g4:∀ k,(Value.slice (some ⟨g,0,none⟩) (xs.length+1) cap).ownBlock=some k->lo<=k/\k<w'.heap.size:=fun k hk=>by
  rcases g3 with g3 | g3
  ·rw [g3] at hk;exact ⟨(h2 k hk).1,Nat.lt_of_lt_of_le (h1.row_lt hk) g2.size⟩
  ·rw [g3] at hk
   have hg:g=w.heap.size:=by simpa [Value.ownBlock] using g3
   simp at hk;omega
 refine h _ _ _ ⟨_,g1.widen (fun k hk=>⟨hk.1,Nat.lt_of_lt_of_le hk.2.1 g2.size,fun hr=>g1.off k hr hk⟩) (fun k hk hg=>hg.2.2 hk) (fun k hk=>hk.2.1),g4⟩ (g2.mono (fun k hk=>(h2 k hk).1))
theorem step_append_H {w:World} {B lo hi n:Nat} {ops:Array Oper} {o:Oper} {a:Act} {K:Act->World->Prop} {Q:Exit->Act->World->Prop} {E:Prop} (hgd:o.guard=none) (s x:Operand) (t:TypeId)
  (ho:o.op=.call { callee:=.builtin .append,args:=#[s,x],argTypes:=#[t,t] }) (e:TypeId) (i:TypeInfo) (z:Value) (size bytes:Nat) (ht:P.underlying t=some (.slice e)) (hi':P.info? e=some i) (hz:i.zero=some z)
  (hsize:i.size=size) (hby:i.bytes=bytes) (hzs:z.cells.size=size) (hsz:0<size) (v:Value) (xs:List D) (hn:xs.length=n) (y:D) (cs:List Value) (U:TypeId) (hs:a.eval s=v) (hx:a.eval x=.slice (some ⟨B,0,none⟩) 1 1)
  (hrow:w.heap[B]?=some (.cells cs.toArray U (0,0))) (hv:OwnH w e size lo hi v xs) (hlo:lo<=hi) (hhi:hi<=w.heap.size) (hd:DsAt w (Fr hi w) [y] cs) (hw:y.width=size) (h63:n+1<=maxLen) (hbytes:(n+1)*bytes<=140737488355328)
  (h:∀ ao cap w',OwnH w' e size lo w'.heap.size (.slice ao (n+1) cap) (xs++[y])->Mod (fun k=>lo<=k) w w'->K (a.put o.dst (.slice ao (n+1) cap)) w') :
  if Region.wanted o (yielded ops a.tmps)=true then Oper.wp P o a w K Q else E:=by
 have hwn:Region.wanted o (yielded ops a.tmps)=true:=by simp [Region.wanted,hgd]
 rw [if_pos hwn]
 exact wp_append_H s x t ho e i z size bytes ht hi' hz hsize hby hzs hsz v xs hn y cs U hs hx hrow hv hlo hhi hd hw h63 hbytes h
theorem ruls_widths:∀ l:List Rul,widths (l.map Rul.toD)=(l.map Rul.toD).length*10
 | []=>rfl
 | b :: r=>by
  have:=ruls_widths r
  simp only [List.map_cons,widths,Rul.width,List.length_cons] at this ⊢;omega
end Go.Chalk
