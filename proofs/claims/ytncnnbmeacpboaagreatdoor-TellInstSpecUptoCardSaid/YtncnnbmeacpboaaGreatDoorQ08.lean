/- Parts of the proof. -/
import Derived.Test.YtncnnbmeacpboaaGreatDoorQ04
import Derived.Lib.SlBytesRow
import Derived.Lib.ConvBytes
import Derived.Lib.AtoiAll
set_option linter.unusedVariables false
set_option linter.unusedSimpArgs false
namespace Go.aa
open Go.RowKit
variable {w w':World} {B b o:Nat} {l:Bs} {a:Option Addr}
def M7(w:World)(l:Bs)(b o:Nat):Prop:=∀i (h:i<l.length),w.cell? ⟨b,o+i,none⟩=some (.int .u8 (l[i].toNat:Int))
theorem M7.below(hb:Below B w w'){l:Bs}{b o:Nat}(h:M7 w l b o)(hlt:b<B):M7 w' l b o:=fun i hi=>(hb.cell (p:=⟨b,o+i,none⟩) hlt).trans (h i hi)
theorem M7.drop{w:World}{l:Bs}{b o:Nat}(h:M7 w l b o)(n:Nat):M7 w (l.drop n) b (o+n):=fun i hi=>by
 rw[List.length_drop] at hi;rw[List.getElem_drop,Nat.add_assoc];exact h (n+i) (by omega)
theorem M7.take{w:World}{l:Bs}{b o:Nat}(h:M7 w l b o)(n:Nat):M7 w (l.take n) b o:=fun i hi=>by
 rw[List.length_take] at hi;rw[List.getElem_take];exact h i (by omega)
def SB(w:World)(B:Nat)(l:Bs)(a:Option Addr)(b o:Nat):Prop:=gT (·<B) a b o l.length/\M7 w l b o
theorem SB.below{C:Nat}(h:SB w B l a b o)(hb:Below B w w')(hC:B<=C):SB w' C l a b o:=by
 refine⟨h.1.mono (fun k hk=>Nat.lt_of_lt_of_le hk hC),?_⟩;intro i hi;have:=(h.1 (by omega)).2;exact(hb.cell (p:=⟨b,o+i,none⟩) this).trans (h.2 i hi)
theorem SB.mono{w:World}{B C:Nat}{l:Bs}{a:Option Addr}{b o:Nat}(h:SB w B l a b o)(hC:B<=C):SB w C l a b o:=⟨h.1.mono (fun k hk=>Nat.lt_of_lt_of_le hk hC),h.2⟩
theorem SB.text{P:Program}(h:SB w B l a b o)(src e dst:TypeId)(hs:P.underlying src=some (.slice e))(he:P.underlying e=some (.int .u8))(hd:P.underlying dst=some .string)(cap:Nat):
  (convert src dst (.slice a l.length cap)).run P w=.ok (.string ⟨l.toArray⟩) w:=by
 cases l with
 |nil=>
  cases a with
  |none=>rw[List.length_nil,run_convert_bytes_string w src dst e none 0 cap hs he hd];simp[Conv.bytesToString];rfl
  |some a=>exact run_convert_bytes_back w src dst e a cap [] hs he hd (fun j hj=>by simp at hj)
 |cons c r=>
  obtain⟨rfl,_⟩:=h.1 (by simp);have hc:=h.2;refine run_convert_bytes_back w src dst e ⟨b,o,none⟩ cap (c::r) hs he hd (fun j hj=>?_);have:=hc j hj;rw[<-this];by_cases h0:j=0
  ·subst h0;simp[Addr.add]
  ·simp[Addr.add,h0]
end Go.aa
