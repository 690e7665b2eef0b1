/- Parts of the proof. -/
import Derived.Test.YtncnnbmeacpboaaGreatDoorQ33
import Derived.Test.YtncnnbmeacpboaaGreatDoorQ11
import Derived.LaidMore
import Derived.LaidSub
import Derived.Stop.Joined
set_option maxRecDepth 100000
set_option linter.unusedVariables false
set_option linter.unusedSimpArgs false
namespace Go.aa
open Go.RowKit Go.ChangeShapes Go.WideShapes Go.Maps
open Go.WideElems (Fit rd rg pl elemAt)
variable {H:Type} {P:Program}
variable {kl:Lit} {s:Bs} {W:World} {g t k e:Nat} {n:String}
theorem NK{L:List (Lit×DataW H)}(h:∀zd,(DataW.map L).atKey kl zd=zd):L.find? (fun p=>p.1.sameKey kl)=none:=by
 cases hf:L.find? (fun p=>p.1.sameKey kl) with
 |none=>rfl
 |some p=>
  have h1:=h .nil;have h2:=h (.lit (.bool true));unfold DataW.atKey at h1 h2;simp only[hf] at h1 h2;rw[h1] at h2;cases h2
theorem NL{L:List (Lit×DataW H)}{d:DataW H}(h:∀zd,(DataW.map L).atKey kl zd=d):∃p,L.find? (fun p=>p.1.sameKey kl)=some p/\p.2=d:=by
 cases hf:L.find? (fun p=>p.1.sameKey kl) with
 |some p=>
  have h1:=h .nil;unfold DataW.atKey at h1;simp only[hf] at h1;exact⟨p,rfl,h1⟩
 |none=>
  have h1:=h .nil;have h2:=h (.lit (.bool true));unfold DataW.atKey at h1 h2;simp only[hf] at h1 h2;rw[<-h1] at h2;cases h2
theorem cells_one{t:TypeId}{v:Value}(h:v.formed P t=true)(hs:∀fs,P.underlying t≠some (.struct fs))(ha:∀n e,P.underlying t≠some (.array n e)):v.cells.toList=[v]:=by
 cases v<;>simp[Value.cells,Value.formed] at h ⊢
 all_goals
  split at h
  ·rename_i e;exact absurd e (hs _)
  ·rename_i e;exact absurd e (ha _ _)
  ·simp at h
def AY:DataW H->Value| .lit (.bool b)=>.bool b|_=>.nilFunc
def AZ:DataW H->Value| .lit (.int q n)=>.int q n|_=>.nilFunc
def A7:DataW H->Value| .lit (.string s)=>.string ⟨s.toArray⟩|_=>.nilFunc
def PM(l:List Bs):Lit->Bool| .string r=>l.contains r|_=>false
def Lr(l:List Int):Lit->Bool| .int .i64 r=>l.contains r|_=>false
theorem oZ{L:List (Lit×DataW H)}(l:List Bs)(hall:L.all (fun p=>PM l p.1)=true)(hs:s∉l):L.find? (fun p=>p.1.sameKey (.string s))=none:=by
 rw[List.find?_eq_none];intro p hp hk;have h:=List.all_eq_true.1 hall p hp;obtain⟨q,d⟩:=p;cases q<;>simp[Lit.sameKey,PM] at hk h;exact hs (hk▸h)
theorem xn{L:List (Lit×DataW H)}{s:Int}(l:List Int)(hall:L.all (fun p=>Lr l p.1)=true)(hs:s∉l):L.find? (fun p=>p.1.sameKey (.int .i64 s))=none:=by
 rw[List.find?_eq_none];intro p hp hk;have h:=List.all_eq_true.1 hall p hp;obtain⟨q,d⟩:=p;cases q with
 |int q n=>
  simp[Lit.sameKey] at hk;obtain⟨rfl,rfl⟩:=hk;simp[Lr] at h;exact hs h
 |_=>simp[Lit.sameKey] at hk
end Go.aa
namespace Go.Proofs.YtncnnbmeacpboaaGreatDoor
open Go.ChangeShapes Go.WideShapes Go.ChangeAt Go.RowKit Go.aa Go.Maps
open Go.WideElems (Fit rd rg pl elemAt)
variable {kl:Lit} {s:Bs} {W:World} {g t k e:Nat} {n:String}
theorem zC{H:Type}{R:Value->Option (DataW H×List MemPlace)}{b clock:Nat}{ok:Bool}{es:Array MapEntry}{L:List (Lit×DataW H)}(K:Keyed Tryz.prog k)(ht:Tryz.prog.underlying t=some (.map k e)){z:Value}(hz:∀W',(zeroValue e).run Tryz.prog W'=.ok z W')(dec:DataW H->Value)(hdec:∀v y,R v=some y->(∃p∈L,p.2=y.1)->v=dec y.1)(hcell:W.cell? ⟨g,0,none⟩=some (.map (some b)))(hb:W.heap[b]?=some (.map es clock))(F:Fit Tryz.prog k R es clock)(hx:DataW.map L=.map ((es.toList.map (rg Tryz.prog k R)).foldr DataW.insert []))(f:Value->Value)(kk:Value->Prop)(hf:∀key,kk key->∃kl,keyOf Tryz.prog k key=some kl/\f key=(match L.find? (fun p=>p.1.sameKey kl) with|none=>(if ok then .tuple #[z,.bool false] else z)|some p=>(if ok then .tuple #[dec p.2,.bool true] else dec p.2))):xe W g t ok f kk:=by
 refine⟨b,.map es clock,hcell,hb,fun W' hb' key hk=>?_⟩;obtain⟨kl,hkey,X3⟩:=hf key hk;rcases fit_look ok K ht (hz W') hb' F hkey with⟨hrun,_,hat⟩|⟨e0,y,_,_,hrun,hRv,hat,_⟩
 ·rw[<-hx] at hat;rw[hrun,X3,NK hat]
 ·rw[<-hx] at hat;obtain⟨p,h1,h2⟩:=NL hat;have hv:=hdec e0.val y hRv ⟨p,List.mem_of_find?_eq_some h1,h2⟩;rw[hrun,X3,h1];simp only;rw[hv,h2]
theorem FJ(h:s.length<=maxLen):keyOf Tryz.prog 9 (.string ⟨s.toArray⟩)=some (.string s):=by
 have:=WideMaps.keyOf_string_mk (P:=Tryz.prog) (s:=⟨s.toArray⟩) Tryz.underlying9 (by rw[aZ];exact h);simpa using this
theorem Ov{n:Int}(h:ku n):keyOf Tryz.prog 3 (.int .i64 n)=some (.int .i64 n):=keyOf_int_mk Tryz.underlying3 h.wf
theorem vJ{L:List (Lit×DataW Unit)}(h:laidMetH Tryz.prog [(n,.map L)] W)(hg:Tryz.prog.globalNamed n=some g)(ht:(Tryz.prog.globals[g]?).map (·.type)=some t)(hu:Tryz.prog.underlying t=some (.map k e)):
  ∃(b:Nat) (es:Array MapEntry) (clock m:Nat) (enc:TypeId×Value->Unit) (sp:Nat->Bool) (held:Bool),W.cell? ⟨g,0,none⟩=some (.map (some b))/\W.heap[b]?=some (.map es clock)/\Fit Tryz.prog k (elemAt enc Tryz.prog W 0 sp held m e) es clock/\
   DataW.map L=.map ((es.toList.map (rg Tryz.prog k (elemAt enc Tryz.prog W 0 sp held m e))).foldr DataW.insert []):=by
 rw[MakeChecks.laidMetH_plain _ _ _ (by rfl)] at h;obtain⟨ps,⟨g0,t0,cs0,f0,p0,q0,hg0,ht0,hv0,hd0,_⟩,_,_⟩:=h;obtain rfl:=Option.some.inj (hg.symm.trans hg0);obtain rfl:=Option.some.inj (ht.symm.trans ht0);rcases WideElems.open_map hu hd0 with⟨_,hx⟩|⟨bm,es,clock,m,rfl,hcs,hb,_,F,hx⟩
 ·simp at hx
 simp only[Prod.mk.injEq] at hx;have hcell:W.cell? ⟨g,0,none⟩=some (.map (some bm)):=by
  have:=World.var?_cell hg0 hv0 0;rw[Array.eq_one_of_toList hcs] at this;simpa using this
 exact⟨bm,es,clock,m,_,_,_,hcell,hb,F,hx.1⟩
theorem J5{e:TypeId}(he:Tryz.prog.underlying e=some .bool){H:Type}{enc:TypeId×Value->H}{W:World}{sp:Nat->Bool}{held:Bool}{m:Nat}{v:Value}{y:DataW H×List MemPlace}(h:elemAt enc Tryz.prog W 0 sp held m e v=some y):v=AY y.1:=by
 unfold elemAt at h;split at h
 ·rename_i hf;rw[cells_one hf (by rw[he];intro _ h;cases h) (by rw[he];intro _ _ h;cases h)] at h;obtain⟨b,e1,e2⟩:=DataW.trod_bool he h;rw[e2];simpa[AY,AZ,A7] using e1
 ·cases h
theorem Oq{e:TypeId}(he:Tryz.prog.underlying e=some (.int .i64)){H:Type}{enc:TypeId×Value->H}{W:World}{sp:Nat->Bool}{held:Bool}{m:Nat}{v:Value}{y:DataW H×List MemPlace}(h:elemAt enc Tryz.prog W 0 sp held m e v=some y):v=AZ y.1:=by
 unfold elemAt at h;split at h
 ·rename_i hf;rw[cells_one hf (by rw[he];intro _ h;cases h) (by rw[he];intro _ _ h;cases h)] at h;obtain⟨b,e1,e2,_⟩:=DataW.trod_int he h;rw[e2];simpa[AY,AZ,A7] using e1
 ·cases h
theorem O1{e:TypeId}(he:Tryz.prog.underlying e=some .string){H:Type}{enc:TypeId×Value->H}{W:World}{sp:Nat->Bool}{held:Bool}{m:Nat}{v:Value}{y:DataW H×List MemPlace}(h:elemAt enc Tryz.prog W 0 sp held m e v=some y):v=A7 y.1:=by
 unfold elemAt at h;split at h
 ·rename_i hf;rw[cells_one hf (by rw[he];intro _ h;cases h) (by rw[he];intro _ _ h;cases h)] at h;obtain⟨b,e1,e2,_⟩:=DataW.trod_string he h;rw[e2];simpa[AY,AZ,A7] using e1
 ·cases h
theorem Cn(h:laidMetH Tryz.prog [("chalkline/formula.reserved",Rows.laid_chalkline_formula_reserved)] W):xe W 4 120 false (fun k=> .bool (dG.contains (yf k))) zP:=by
 obtain⟨b,es,clock,m,enc,sp,held,h1,h2,h3,h4⟩:=vJ h (by kernel_rfl) (by kernel_rfl) Tryz.underlying120;refine zC (string_keyed Tryz.underlying9) Tryz.underlying120 (z:=.bool false) (fun _=>by kernel_rfl) AY (fun v y hv _=>J5 Tryz.underlying4 hv) h1 h2 h3 h4 _ _ ?_;rintro key ⟨s,hs,rfl⟩;refine⟨.string s,FJ hs,?_⟩;rw[oF];by_cases hc:s∈dG
 ·rw[show dG.contains s=true by simpa using hc];simp only[dG,List.mem_cons,List.not_mem_nil,or_false] at hc;rcases hc with rfl|rfl|rfl|rfl|rfl|rfl|rfl|rfl|rfl|rfl|rfl|rfl|rfl|rfl|rfl|rfl|rfl|rfl|rfl|rfl|rfl|rfl|rfl|rfl|rfl<;>rfl
 ·rw[show dG.contains s=false by simpa using hc,oZ dG (by decide+kernel) hc];rfl
theorem JY(h:laidMetH Tryz.prog [("chalkline/formula.arity",Rows.laid_chalkline_formula_arity)] W):xe W 1 211 true (fun k=> .tuple #[.int .i64 ((dW (rT k)).getD 0:Nat), .bool (dW (rT k)).isSome]) La:=by
 obtain⟨b,es,clock,m,enc,sp,held,h1,h2,h3,h4⟩:=vJ h (by kernel_rfl) (by kernel_rfl) Tryz.underlying211;refine zC (int_keyed Tryz.underlying3) Tryz.underlying211 (z:=.int .i64 0) (fun _=>by kernel_rfl) AZ (fun v y hv _=>Oq Tryz.underlying3 hv) h1 h2 h3 h4 _ _ ?_;rintro key ⟨s,hs,rfl⟩;refine⟨.int .i64 s,Ov hs,?_⟩;simp only[rT];by_cases hc:s∈([1,2,3,4,5,6,7,8,9,10,11,12,13,14,15,16,17]:List Int)
 ·simp only[List.mem_cons,List.not_mem_nil,or_false] at hc;rcases hc with rfl|rfl|rfl|rfl|rfl|rfl|rfl|rfl|rfl|rfl|rfl|rfl|rfl|rfl|rfl|rfl|rfl<;>rfl
 ·rw[xn _ (by decide+kernel) hc];have e:dW s=none:=by
   unfold dW;rw[if_pos];simp only[List.mem_cons,List.not_mem_nil,or_false,not_or] at hc;omega
  rw[e];rfl
theorem GM(h:laidMetH Tryz.prog [("chalkline/formula.signs",Rows.laid_chalkline_formula_signs)] W):xe W 2 103 false (fun k=> .string ⟨(BH (yf k)).toArray⟩) zP:=by
 obtain⟨b,es,clock,m,enc,sp,held,h1,h2,h3,h4⟩:=vJ h (by kernel_rfl) (by kernel_rfl) Tryz.underlying103;refine zC (string_keyed Tryz.underlying9) Tryz.underlying103 (z:=.string ⟨#[]⟩) (fun _=>by kernel_rfl) A7 (fun v y hv _=>O1 Tryz.underlying9 hv) h1 h2 h3 h4 _ _ ?_;rintro key ⟨s,hs,rfl⟩;refine⟨.string s,FJ hs,?_⟩;rw[oF];by_cases hc:s∈cmpL
 ·simp only[cmpL,List.mem_cons,List.not_mem_nil,or_false] at hc;rcases hc with rfl|rfl|rfl|rfl|rfl|rfl<;>rfl
 ·rw[oZ cmpL (by decide+kernel) hc];have e:BH s=[]:=by
   unfold BH;simp only[cmpL,List.mem_cons,List.not_mem_nil,or_false,not_or] at hc;simp[hc]
  rw[e];rfl
theorem zy{w:World}{t:TypeId}{zero:Array Value}{kd:IntKind}(h:w.ShapedOpen Tryz.prog)(hg:g<Tryz.prog.globals.size)(h0:((begin Tryz.prog (fun _ _=>0) default).world.heap[g]?).bind Obj.row?=some (zero,t))(hz:zero.size=1)(hb:Tryz.prog.buildable t=true)(hc:Tryz.prog.cellTypes Tryz.prog.depth t=some [t])(hu:Tryz.prog.underlying t=some (.int kd)):∃p,w.cell? ⟨g,0,none⟩=some (.int kd p):=by
 obtain⟨cs,hh,hs,hr⟩:=h.1 g zero t hg h0;obtain⟨ts,hts,_,hall⟩:=hr hb;rw[hc] at hts;cases hts;have h1:0<cs.size:=by omega
 obtain⟨u,hu',hok⟩:=hall 0 cs[0] (by simp[h1]);have:u=t:=by simpa using hu'.symm
 subst this;have hcell:w.cell? ⟨g,0,none⟩=some cs[0]:=by simp[World.cell?,hh,h1]
 rw[hcell];unfold Cell.ok at hok;rw[hu] at hok;cases hv:cs[0]<;>rw[hv] at hok<;>first|(simp at hok;done)|(simp at hok;exact⟨_,by rw[hok.1]⟩)
theorem Ho(h:W.ShapedOpen Tryz.prog):∃m,W.cell? ⟨5,0,none⟩=some (.int .i64 m):=
 zy (t:=3) (zero:=#[.int .i64 0]) h (by decide+kernel) (by kernel_rfl) rfl (by kernel_rfl) (by kernel_rfl) Tryz.underlying3
theorem FW{r N:Nat}{rows:List (Int×Int)}(h:laidMetH Tryz.prog [(n,.agg (rows.map (fun p=>.agg [.lit (.int .i64 p.1),.lit (.int .i64 p.2)])))] W)(hg:Tryz.prog.globalNamed n=some g)(ht:(Tryz.prog.globals[g]?).map (·.type)=some t)(hu:Tryz.prog.underlying t=some (.array N r))(hur:Tryz.prog.underlying r=some (.array 2 e))(hue:Tryz.prog.underlying e=some (.int .i64))(c1:Tryz.prog.cellsOf r=2)(c2:Tryz.prog.cellsOf e=1):
  ∀(i:Nat) (hi:i<rows.length),W.cell? ⟨g,i*2,none⟩=some (.int .i64 rows[i].1)/\W.cell? ⟨g,i*2+1,none⟩=some (.int .i64 rows[i].2):=by
 rw[MakeChecks.laidMetH_plain _ _ _ (by rfl)] at h;obtain⟨ps,⟨g0,t0,cs0,f0,p0,q0,hg0,ht0,hv0,hd0,_⟩,_,_⟩:=h;obtain rfl:=Option.some.inj (hg.symm.trans hg0);obtain rfl:=Option.some.inj (ht.symm.trans ht0);obtain⟨xs,m,rfl,hx,hlen,hn,hel⟩:=DataW.trod_array hu hd0;simp only[Prod.mk.injEq,DataW.agg.injEq] at hx;have hl:rows.length=N:=by
  have h2:=congrArg List.length hx.1;simp only[List.length_map] at h2;omega
 intro i hi;have hi':i<xs.length:=by omega
 have h1:=hel i (by omega);rw[List.getElem?_eq_getElem hi',c1] at h1;have hxi:(xs[i]).1=.agg [.lit (.int .i64 rows[i].1),.lit (.int .i64 rows[i].2)]:=by
  have e1:(xs.map (·.1))[i]?=some (xs[i]).1:=by simp[hi']
  rw[<-hx.1] at e1;simp[hi] at e1;exact e1.symm
 obtain⟨ys,m2,rfl,hy,X4,hn2,Ti⟩:=DataW.trod_array hur h1;have hy1:DataW.agg (ys.map (·.1))=.agg [.lit (.int .i64 rows[i].1),.lit (.int .i64 rows[i].2)]:=by rw[<-hxi,hy]
 obtain⟨y0,y1,rfl⟩:∃y0 y1,ys=[y0,y1]:=by
  match ys,hn2 with
  |[y0,y1],_=>exact⟨y0,y1,rfl⟩
 simp only[List.map_cons,List.map_nil,DataW.agg.injEq,List.cons.injEq,and_true] at hy1;have k0:=Ti 0 (by omega);have k1:=Ti 1 (by omega);rw[c2] at k0 k1;simp only[List.getElem?_cons_zero,List.getElem?_cons_succ] at k0 k1;obtain⟨n0,a0,b0,_⟩:=DataW.trod_int hue k0;obtain⟨n1,a1,b1,_⟩:=DataW.trod_int hue k1;rw[b0,b1] at hy1;simp at hy1;have g0:cs0[i*2]?=some (.int .i64 n0):=by
  have:=congrArg (fun l=>l[0]?) a0;simp only[List.getElem?_cons_zero,List.getElem?_take,List.getElem?_drop,Nat.zero_mul,Nat.add_zero] at this;simpa using this
 have g1:cs0[i*2+1]?=some (.int .i64 n1):=by
  have:=congrArg (fun l=>l[0]?) a1;simp only[List.getElem?_cons_zero,List.getElem?_take,List.getElem?_drop,Nat.one_mul,Nat.add_zero] at this;simpa using this
 exact⟨by rw[World.var?_cell hg0 hv0,g0,hy1.1],by rw[World.var?_cell hg0 hv0,g1,hy1.2]⟩
def JZ:List (Int×Int):=[(0,0),(0,0),(0,0),(1,2),(1,3),(4,1),(5,1),(4,2),(3,2)]
def EL:List (Int×Int):=[(0,0),(0,0),(0,0),(2,6),(2,8),(3,7),(3,8),(1,8)]
theorem J3:∀k (h:k<JZ.length),JZ[k]=gz k:=by decide
theorem IV:∀k (h:k<EL.length),EL[k]=ji k:=by decide
theorem NJ(h:laidMetH Tryz.prog [("chalkline/types.asks",Rows.laid_chalkline_types_asks)] W): ∀k:Nat,k<=8->W.cell? ⟨0,k*2,none⟩=some (.int .i64 (gz k).1)/\W.cell? ⟨0,k*2+1,none⟩=some (.int .i64 (gz k).2):=by
 intro k hk;have:=FW (g:=0) (rows:=JZ) h (by kernel_rfl) (by kernel_rfl) Tryz.underlying207 Tryz.underlying126 Tryz.underlying3 (by kernel_rfl) (by kernel_rfl) k (by show k<9;omega)
 rwa [J3 k (by show k<9;omega)] at this
theorem MH(h:laidMetH Tryz.prog [("chalkline/types.takes",Rows.laid_chalkline_types_takes)] W): ∀k:Nat,k<=7->W.cell? ⟨3,k*2,none⟩=some (.int .i64 (ji k).1)/\W.cell? ⟨3,k*2+1,none⟩=some (.int .i64 (ji k).2):=by
 intro k hk;have:=FW (g:=3) (rows:=EL) h (by kernel_rfl) (by kernel_rfl) Tryz.underlying223 Tryz.underlying126 Tryz.underlying3 (by kernel_rfl) (by kernel_rfl) k (by show k<8;omega)
 rwa [IV k (by show k<8;omega)] at this
theorem KF:(Tryz.prog.globals[6]?).map (·.type)=some 245:=by kernel_rfl
theorem Ka:Tryz.prog.cellsOf 245=20:=by kernel_rfl
theorem Kb:Tryz.prog.cellsOf 229=1:=by kernel_rfl
theorem Q7:Rows.laid_internal_strconv_uint64pow10 (H:=Unit)=Lib.tabData .u64 Lib.pow10Tab:=by kernel_rfl
def Lj:List (String×DataW Unit):=Rows.tellInjectiveUptoRow.laid
theorem NV(hs:W.ShapedOpen Tryz.prog)(h:laidMetH Tryz.prog Lj W):GG W where
 zD:=Ho hs
 reserved:=Cn (by have:=h.filter (fun x=>x.1== "chalkline/formula.reserved");exact this)
 arity:=JY (by have:=h.filter (fun x=>x.1== "chalkline/formula.arity");exact this)
 zm:=GM (by have:=h.filter (fun x=>x.1== "chalkline/formula.signs");exact this)
 asks:=NJ (by have:=h.filter (fun x=>x.1== "chalkline/types.asks");exact this)
 takes:=MH (by have:=h.filter (fun x=>x.1== "chalkline/types.takes");exact this)
theorem SI(hs:W.ShapedOpen Tryz.prog)(h:laidMetH Tryz.prog Lj W):GS W:=by
 have h7:laidMetH Tryz.prog [("internal/strconv.uint64pow10",Rows.laid_internal_strconv_uint64pow10)] W:=by have:=h.filter (fun x=>x.1== "internal/strconv.uint64pow10");exact this
 rw[MakeChecks.laidMetH_plain _ _ _ (by kernel_rfl)] at h7;rw[Q7] at h7;exact⟨NV hs h,Lib.tabIs_of_head (rest:=[]) Qz KF Tryz.underlying245 Tryz.underlying229 Kb Ka h7⟩
end Go.Proofs.YtncnnbmeacpboaaGreatDoor
