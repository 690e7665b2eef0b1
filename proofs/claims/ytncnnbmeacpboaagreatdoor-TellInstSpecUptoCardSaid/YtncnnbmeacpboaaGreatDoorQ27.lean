/- Parts of the proof. -/
import Derived.Test.YtncnnbmeacpboaaGreatDoorQ26
import Derived.Deep.AppendLies
set_option linter.unusedVariables false
set_option linter.unusedSimpArgs false
namespace Go.aa
open Go.RowKit
variable {w w':World} {e:TypeId} {v:Value} {q:Option Nat} {ts:List Tok}
def Tok.toD(t:Tok):D:=.st [.int .i64 t.kind,.str ⟨t.text.toArray⟩,.int .i64 (t.at_:Int)]
def Tok.ok(t:Tok):Prop:=0<=t.kind/\t.kind<=4/\t.text.length<=281474976710656/\t.at_<=281474976710656
theorem Tok.width(t:Tok):t.toD.width=3:=by simp[Tok.toD,D.width,bO]
theorem size_mk(l:Bs):(⟨l.toArray⟩:ByteArray).size=l.length:=by show l.toArray.size=_;simp
theorem Tok.at{F:Nat->Prop}(t:Tok)(h:t.ok):au w F [t.toD] [.int .i64 t.kind,.string ⟨t.text.toArray⟩,.int .i64 (t.at_:Int)]:=by
 obtain⟨h1,h2,h3,h4⟩:=h;rw[au];refine⟨_,[],(List.append_nil _).symm,?_,by rw[au]⟩;rw[Tok.toD,bg,au];refine⟨[.int .i64 t.kind],_,rfl,by rw[bg];exact⟨rfl,WalkArith.wf_i64 ⟨by omega,by omega⟩⟩,?_⟩;rw[au];refine⟨[.string ⟨t.text.toArray⟩],_,rfl,by rw[bg];exact⟨rfl,by rw[size_mk];unfold maxLen;omega⟩,?_⟩;rw[au];exact⟨[.int .i64 (t.at_:Int)],[],rfl,by rw[bg];exact⟨rfl,WalkArith.wf_i64 ⟨by omega,by omega⟩⟩,by rw[au]⟩
def nC(w:World)(e:TypeId)(v:Value)(q:Option Nat)(ts:List Tok):Prop:=Own w (fun _=>False) e 3 v q (ts.map Tok.toD)
theorem nC.nil(w:World)(e:TypeId):nC w e (.slice none 0 0) none []:=Own.nil _ _ _ _ (fun _ h=>h.elim)
theorem nC.below{w w':World}{e:TypeId}{v:Value}{q:Option Nat}{ts:List Tok}(h:nC w e v q ts)(hb:Below w.heap.size w w'):nC w' e v q ts:=Own.below h hb
theorem nC.form{w:World}{e:TypeId}{v:Value}{q:Option Nat}{ts:List Tok}(h:nC w e v q ts):∃a cap,v=.slice a ts.length cap:=by
 obtain⟨a,cap,h⟩:=Own.form h;exact⟨a,cap,by simpa using h⟩
theorem nC.row(h:nC w e v q ts):∃cs,w.ownsRow 0 e 3 v ts.length cs/\au w (fun _=>False) (ts.map Tok.toD) cs:=by
 obtain⟨cs,h1,h2⟩:=h.cells;exact⟨cs,by simpa using h1,h2⟩
theorem nC.push{g cp:Nat}{cs:List Value}(t:Tok)(ht:t.ok)(h:nC w e v q ts)(hcs:au w (fun _=>False) (ts.map Tok.toD) cs)(h1:w'.ownsRow 0 e 3 (.slice (some ⟨g,0,none⟩) (ts.length+1) cp) (ts.length+1) (cs++[.int .i64 t.kind,.string ⟨t.text.toArray⟩,.int .i64 (t.at_:Int)]))(hg:w.grownBy w' v.ownBlock)(hat:v.ownBlock=some g∨g=w.heap.size):
  nC w' e (.slice (some ⟨g,0,none⟩) (ts.length+1) cp) (some g) (ts++[t])/\Mod (fun k=>q=some k) w w'/\(q=some g∨g=w.heap.size):=by
 obtain⟨g1,g2,g3⟩:=Own.appended (v':=.slice (some ⟨g,0,none⟩) (ts.length+1) cp) (ys:=[t.toD]) h hcs (by simpa using h1) hg (by rcases hat with h|h;exact .inl h.symm;exact .inr (by simp[Value.ownBlock,h])) (Tok.at t ht);refine⟨?_,g2,?_⟩
 ·unfold nC;rw[List.map_append];exact(by simpa[Value.ownBlock] using g1)
 ·rcases g3 with h|h
  ·exact .inl h.symm
  ·exact .inr (by simpa[Value.ownBlock] using h)
end Go.aa
namespace Go.aa
open Go.RowKit Go.Proofs.YtncnnbmeacpboaaGreatDoor
variable {w w':World} {e:TypeId} {v:Value} {q:Option Nat} {ts:List Tok}
def JS(w:World)(e:TypeId)(l:Bs)(ed:Ending)(w':World):Prop:=
 ∃v q,ed=.returned (.tuple #[v,.int .i64 ((uz l).2.1:Int),.int .i64 (uz l).2.2])/\nC w' e v q (uz l).1/\(∀k,q=some k->w.heap.size<=k)/\Below w.heap.size w w'
theorem JS.mk'{l:Bs}{p:Nat}{er:Int}(hf:uz l=(ts,p,er))(hO:nC w' e v q ts)(hq:∀k,q=some k->w.heap.size<=k)(hb:Below w.heap.size w w'):
  JS w e l (.returned (.tuple #[v,.int .i64 (p:Int),.int .i64 er])) w':=⟨v,q,by rw[hf],by rw[hf];exact hO,hq,hb⟩
theorem SB.FN(w:World)(e:TypeId)(l:Bs):SB (Lib.bytesWorld w e ⟨l.toArray⟩) (Lib.bytesWorld w e ⟨l.toArray⟩).heap.size l (some ⟨w.heap.size,0,none⟩) w.heap.size 0:=by
 refine⟨fun _=>⟨rfl,by rw[Lib.bytesWorld_size];omega⟩,fun i hi=>?_⟩;have:=Lib.bytesWorld_cell w e ⟨l.toArray⟩ i (by rw[size_mk];exact hi);rw[Nat.zero_add,this];simp[List.getD,hi]
def iK(w:World)(v:Value)(l:Bs):Prop:=∃a b o cap,v=.slice a l.length cap/\SB w w.heap.size l a b o/\l.length<=cap
theorem iK.below{w w':World}{v:Value}{l:Bs}(h:iK w v l)(hb:Below w.heap.size w w'):iK w' v l:=by
 obtain⟨a,b,o,cap,rfl,h1,h2⟩:=h;exact⟨a,b,o,cap,rfl,h1.below hb hb.size,h2⟩
theorem iK.nil(w:World):iK w (.slice none 0 0) []:=⟨none,0,0,0,rfl,⟨fun h=>by simp at h,fun i hi=>by simp at hi⟩,Nat.le_refl _⟩
def SA(w:World)(ts:List Tok)(zs:Nat->Int)(b o:Nat):Prop:=∀i (h:i<ts.length),w.cell? ⟨b,o+i*3,none⟩=some (.int .i64 ts[i].kind)/\w.cell? ⟨b,o+i*3+1,none⟩=some (.string ⟨ts[i].text.toArray⟩)/\w.cell? ⟨b,o+i*3+2,none⟩=some (.int .i64 (zs i))
def Dm(w:World)(B:Nat)(ts:List Tok)(zs:Nat->Int)(a:Option Addr)(b o:Nat):Prop:=gT (·<B) a b o ts.length/\SA w ts zs b o
theorem Dm.below{B C:Nat}{zs:Nat->Int}{a:Option Addr}{b o:Nat}(h:Dm w B ts zs a b o)(hb:Below B w w')(hC:B<=C):Dm w' C ts zs a b o:=by
 refine⟨h.1.mono (fun k hk=>Nat.lt_of_lt_of_le hk hC),fun i hi=>?_⟩;have hl:=(h.1 (by omega)).2;obtain⟨h1,h2,h3⟩:=h.2 i hi;exact⟨(hb.cell (p:=⟨b,o+i*3,none⟩) hl).trans h1,(hb.cell (p:=⟨b,o+i*3+1,none⟩) hl).trans h2,(hb.cell (p:=⟨b,o+i*3+2,none⟩) hl).trans h3⟩
theorem Dm.take{w:World}{B:Nat}{ts:List Tok}{zs:Nat->Int}{a:Option Addr}{b o:Nat}(h:Dm w B ts zs a b o)(n:Nat):Dm w B (ts.take n) zs a b o:=by
 refine⟨fun hp=>h.1 (by rw[List.length_take] at hp;omega),fun i hi=>?_⟩;rw[List.length_take] at hi;have:=h.2 i (by omega)
 rwa [List.getElem_take]
end Go.aa
