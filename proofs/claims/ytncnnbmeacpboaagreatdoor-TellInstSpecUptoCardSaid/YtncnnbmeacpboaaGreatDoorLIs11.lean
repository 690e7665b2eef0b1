/- Parts of the proof. -/
import Derived.Test.YtncnnbmeacpboaaGreatDoorQ27
set_option linter.unusedVariables false
set_option linter.unusedSimpArgs false
namespace Go.aa
open Go.RowKit Go.Proofs.YtncnnbmeacpboaaGreatDoor
variable {w w':World} {e:TypeId} {v:Value} {q:Option Nat} {xs:List Bs} {ts:List Tok}
def lH(xs:List Bs):List D:=xs.map (fun l=>D.str ⟨l.toArray⟩)
theorem qG(xs:List Bs):(lH xs).length=xs.length:=by simp[lH]
theorem au.strs{w:World}{F:Nat->Prop}:∀ {xs:List Bs},(∀x∈xs,x.length<=281474976710656)->au w F (lH xs) (xs.map (fun l=>Value.string ⟨l.toArray⟩))
 |[],_=>by rw[lH,List.map_nil,au];rfl
 |x::r,h=>by
  rw[lH,List.map_cons,au];refine⟨[.string ⟨x.toArray⟩],r.map (fun l=>Value.string ⟨l.toArray⟩),rfl,?_,au.strs (fun y hy=>h y (by simp[hy]))⟩;rw[bg];have:=h x (by simp);exact⟨rfl,by rw[size_mk];unfold maxLen;omega⟩
theorem au.CF{w:World}{F:Nat->Prop}:∀ {xs:List Bs} {cs:List Value},au w F (lH xs) cs->cs=xs.map (fun l=>Value.string ⟨l.toArray⟩)
 |[],_,h=>by rw[lH,List.map_nil,au] at h;exact h
 |x::r,cs,h=>by
  rw[lH,List.map_cons,au] at h;obtain⟨c1,c2,rfl,h1,h2⟩:=h;rw[bg] at h1;obtain⟨rfl,_⟩:=h1;rw[au.CF (xs:=r) h2];rfl
def Ay(w:World)(e:TypeId)(v:Value)(q:Option Nat)(xs:List Bs):Prop:=Own w (fun _=>False) e 1 v q (lH xs)
theorem Ay.row(h:Ay w e v q xs):w.ownsRow 0 e 1 v xs.length (xs.map (fun l=>Value.string ⟨l.toArray⟩)):=by
 obtain⟨cs,h1,h2⟩:=h.cells;rw[au.CF h2] at h1;simpa[qG] using h1
theorem Ay.push{g cp:Nat}(x:Bs)(hx:x.length<=281474976710656)(hxs:∀y∈xs,y.length<=281474976710656)(h:Ay w e v q xs)(h1:w'.ownsRow 0 e 1 (.slice (some ⟨g,0,none⟩) (xs.length+1) cp) (xs.length+1) (xs.map (fun l=>Value.string ⟨l.toArray⟩)++[.string ⟨x.toArray⟩]))(hg:w.grownBy w' v.ownBlock)(hat:v.ownBlock=some g∨g=w.heap.size):
  Ay w' e (.slice (some ⟨g,0,none⟩) (xs.length+1) cp) (some g) (xs++[x])/\Mod (fun k=>q=some k) w w'/\(q=some g∨g=w.heap.size):=by
 obtain⟨g1,g2,g3⟩:=Own.appended (v':=.slice (some ⟨g,0,none⟩) (xs.length+1) cp) (ys:=lH [x]) h (au.strs hxs) (by simpa[qG] using h1) hg (by rcases hat with h|h;exact .inl h.symm;exact .inr (by simp[Value.ownBlock,h])) (au.strs (fun y hy=>by simp at hy;subst hy;exact hx));refine⟨?_,g2,?_⟩
 ·unfold Ay;rw[show lH (xs++[x])=lH xs++lH [x] from by simp[lH]];exact(by simpa[Value.ownBlock] using g1)
 ·rcases g3 with h|h
  ·exact .inl h.symm
  ·exact .inr (by simpa[Value.ownBlock] using h)
theorem Ay.read(h:Ay w e v q xs)(hn:0<xs.length):∃g cap,v=.slice (some ⟨g,0,none⟩) xs.length cap/\xs.length<=cap/\g<w.heap.size/\
  ∀(j:Nat) x,(xs.map (fun l=>(⟨l.toArray⟩:ByteArray)))[j]?=some x->w.cell? ⟨g,0+j,none⟩=some (.string x):=by
 have h1:=h.row;have h1':=h1;obtain⟨hlen,h2⟩:=h1;rcases h2 with⟨rfl,h0⟩|⟨g,cap,cur,rfl,_,hh,hc1,hc2,hc3,hc4⟩
 ·omega
 ·refine⟨g,cap,rfl,hc1,(gS hh).1,fun j x hx=>?_⟩;have hj:j<xs.length:=by
   have:=(List.getElem?_eq_some_iff.1 hx).1;simpa using this
  have:=h1'.cellAt (g:=g) (cap:=cap) j (by simpa using hj);simp only[Nat.zero_add];rw[this];simp[hj] at hx ⊢;rw[hx]
def JQ(w:World)(ts:List Tok)(e:Ending)(w':World):Prop:=∃v,e=.returned (.tuple #[v,.int .i64 (Li ts).2])/\iK w' v (Li ts).1/\Below w.heap.size w w'
theorem JQ.mk'{r:Bs}{er:Int}(h:Li ts=(r,er))(hv:iK w' v r)(hb:Below w.heap.size w w'):JQ w ts (.returned (.tuple #[v,.int .i64 er])) w':=⟨v,by rw[h],by rw[h];exact hv,hb⟩
theorem au.CP{w:World}{F:Nat->Prop}:∀ {ts:List Tok} {cs:List Value},au w F (ts.map Tok.toD) cs->∀i (h:i<ts.length),cs[i*3]?=some (.int .i64 ts[i].kind)/\cs[i*3+1]?=some (.string ⟨ts[i].text.toArray⟩)/\cs[i*3+2]?=some (.int .i64 (ts[i].at_:Int))
 |[],_,_=>fun i h=>by simp at h
 |t::r,cs,h=>by
  rw[List.map_cons,au] at h;obtain⟨c1,c2,rfl,h1,h2⟩:=h;rw[Tok.toD,bg,au] at h1;obtain⟨d1,e1,rfl,h3,h4⟩:=h1;rw[bg] at h3;obtain⟨rfl,_⟩:=h3;rw[au] at h4;obtain⟨d2,e2,rfl,h5,h6⟩:=h4;rw[bg] at h5;obtain⟨rfl,_⟩:=h5;rw[au] at h6;obtain⟨d3,e3,rfl,h7,h8⟩:=h6;rw[bg] at h7;obtain⟨rfl,_⟩:=h7;rw[au] at h8;subst h8;intro i hi;cases i with
  |zero=>simp
  |succ i=>
   have:=au.CP (ts:=r) h2 i (by simpa using hi);have e:∀k,([Value.int .i64 t.kind]++([Value.string ⟨t.text.toArray⟩]++([Value.int .i64 (t.at_:Int)]++[]))++c2)[k+3]?=c2[k]?:=fun k=>by simp
   rw[show(i+1)*3=i*3+3 from by omega,show i*3+3+1=i*3+1+3 from by omega,show i*3+3+2=i*3+2+3 from by omega,e,e,e];simpa using this
def zI(ts:List Tok)(i:Nat):Int:=((ts.map Tok.at_).getD i 0:Nat)
theorem BV{i:Nat}(h:i<ts.length):zI ts i=(ts[i].at_:Int):=by simp[zI,List.getD,h]
theorem nC.read(h:nC w e v q ts):∃a b o cap,v=.slice a ts.length cap/\Dm w w.heap.size ts (zI ts) a b o/\ts.length<=cap:=by
 obtain⟨cs,h1,h2⟩:=h.row;have h1':=h1;obtain⟨hlen,h3⟩:=h1;rcases h3 with⟨rfl,h0⟩|⟨g,cap,cur,rfl,_,hh,hc1,hc2,hc3,hc4⟩
 ·obtain rfl:ts=[]:=List.length_eq_zero_iff.1 h0;exact⟨none,0,0,0,rfl,⟨fun h=>by simp at h,fun i hi=>by simp at hi⟩,Nat.le_refl _⟩
 ·refine⟨_,g,0,cap,rfl,⟨fun _=>⟨rfl,(gS hh).1⟩,fun i hi=>?_⟩,hc1⟩;obtain⟨k0,k1,k2⟩:=au.CP h2 i hi;have hc:∀j u,cs[j]?=some u->w.cell? ⟨g,0+j,none⟩=some u:=fun j u hu=>by
   have hj:=(List.getElem?_eq_some_iff.1 hu).1;have:=h1'.cellAt (g:=g) (cap:=cap) j (by rw[<-hlen];exact hj);rw[Nat.zero_add,this,hu]
  rw[BV hi];exact⟨hc _ _ k0,by simpa using hc _ _ k1,by simpa using hc _ _ k2⟩
end Go.aa
