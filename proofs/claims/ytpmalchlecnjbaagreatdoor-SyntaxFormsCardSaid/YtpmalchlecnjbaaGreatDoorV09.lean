/- Joined texts: YBytes. -/
import Derived.Test.YtpmalchlecnjbaaGreatDoorV02
import Derived.Test.YtpmalchlecnjbaaGreatDoorV04
import Derived.Lib.SlBytesRow
import Derived.Lib.ConvBytes
import Derived.Lib.AtoiAll
set_option linter.unusedVariables false
set_option linter.unusedSimpArgs false
/- Bytes in memory as a list of letters: what it means that a slice of bytes lies there, and what the walks ask of it. -/
namespace Go.Chalk
open Go.RowKit
def BAt (w:World) (l:Bs) (b o:Nat):Prop:=∀ i (h:i<l.length),w.cell? ⟨b,o+i,none⟩=some (.int .u8 (l[i].toNat:Int))

theorem BAt.drop {w:World} {l:Bs} {b o:Nat} (h:BAt w l b o) (n:Nat):BAt w (l.drop n) b (o+n):=fun i hi=>by
 rw [List.length_drop] at hi
 rw [List.getElem_drop,Nat.add_assoc]
 exact h (n+i) (by omega)
theorem BAt.take {w:World} {l:Bs} {b o:Nat} (h:BAt w l b o) (n:Nat):BAt w (l.take n) b o:=fun i hi=>by
 rw [List.length_take] at hi
 rw [List.getElem_take]
 exact h i (by omega)

def SB (w:World) (B:Nat) (l:Bs) (a:Option Addr) (b o:Nat):Prop:=SlAt (·<B) a b o l.length/\BAt w l b o
theorem SB.below {w w':World} {B C:Nat} {l:Bs} {a:Option Addr} {b o:Nat} (h:SB w B l a b o) (hb:Below B w w') (hC:B<=C):SB w' C l a b o:=by
 refine ⟨h.1.mono (fun k hk=>Nat.lt_of_lt_of_le hk hC),?_⟩
 intro i hi
 have:=(h.1 (by omega)).2
 exact (hb.cell (p:=⟨b,o+i,none⟩) this).trans (h.2 i hi)
theorem SB.text {P:Program} {w:World} {B:Nat} {l:Bs} {a:Option Addr} {b o:Nat} (h:SB w B l a b o) (src e dst:TypeId) (hs:P.underlying src=some (.slice e)) (he:P.underlying e=some (.int .u8)) (hd:P.underlying dst=some .string) (cap:Nat) :
  (convert src dst (.slice a l.length cap)).run P w=.ok (.string ⟨l.toArray⟩) w:=by
 cases l with
 | nil =>
  cases a with
  | none=>rw [List.length_nil,run_convert_bytes_string w src dst e none 0 cap hs he hd];simp [Conv.bytesToString];rfl
  | some a=>exact run_convert_bytes_back w src dst e a cap [] hs he hd (fun j hj=>by simp at hj)
 | cons c r =>
  obtain ⟨rfl,_⟩:=h.1 (by simp)
  have hc:=h.2
  refine run_convert_bytes_back w src dst e ⟨b,o,none⟩ cap (c :: r) hs he hd (fun j hj=>?_)
  have:=hc j hj
  rw [<- this]
  by_cases h0:j=0
  ·subst h0;simp [Addr.add]
  ·simp [Addr.add,h0]

theorem ret_intY {k:IntKind} {a b:Int} (h:a=b):Ending.returned (.int k a)=.returned (.int k b):=by rw [h]

theorem parse_digits:∀ (l:Bs) (acc:Nat),(∀ c∈l,digitB c=true)->(Lib.parseUint10 acc l=.range/\18446744073709551616<=l.foldl (fun n c=>10*n+(c.toNat - 48)) acc)∨Lib.parseUint10 acc l=.ok (l.foldl (fun n c=>10*n+(c.toNat - 48)) acc)
 | [],acc,_=>.inr rfl
 | c :: r,acc,h=>by
  have hc:=h c (by simp)
  simp only [digitB,Bool.and_eq_true,decide_eq_true_eq] at hc
  have grow:∀ (l:Bs) (n:Nat),n<=l.foldl (fun n c=>10*n+(c.toNat - 48)) n:=by
   intro l
   induction l with
   | nil=>intro n;exact Nat.le_refl _
   | cons d s ih=>intro n;rw [List.foldl_cons];have:=ih (10*n+(d.toNat - 48));omega
  rw [Lib.parseUint10,if_pos hc,List.foldl_cons]
  have g:=grow r (10*acc+(c.toNat - 48))
  split
  ·exact .inl ⟨rfl,by omega⟩
  ·split
   ·exact .inl ⟨rfl,by omega⟩
   ·rw [Nat.mul_comm acc 10]
    exact parse_digits r _ (fun d hd=>h d (by simp [hd]))
theorem atoi_digits (c:UInt8) (r:Bs) (h:(c :: r).all digitB=true) :
  (Lib.atoiAll (c :: r)=.range/\9223372036854775808<=valD (c :: r))∨Lib.atoiAll (c :: r)=.ok (valD (c :: r):Int):=by
 have hd:∀ d∈c :: r,digitB d=true:=by simpa using List.all_eq_true.1 h
 have hc:=hd c (by simp)
 simp only [digitB,Bool.and_eq_true,decide_eq_true_eq] at hc
 have e1:¬ (c.toNat=43):=by omega
 have e2:¬ (c.toNat=45):=by omega
 unfold Lib.atoiAll
 simp only [e1,e2,or_false,if_false,Lib.parseMag]
 rw [if_neg (by simp)]
 rcases parse_digits (c :: r) 0 hd with ⟨h1,h2⟩ | h1
 ·rw [h1];exact .inl ⟨rfl,by unfold valD;omega⟩
 ·rw [h1]
  simp only [not_false_eq_true,true_and,false_and,if_false]
  by_cases hv:9223372036854775808<=(c :: r).foldl (fun n c=>10*n+(c.toNat - 48)) 0
  ·exact .inl ⟨by rw [if_pos hv],hv⟩
  ·exact .inr (by rw [if_neg hv];rfl)
theorem sign_two (l:Bs):(signsL.find? (fun s=>s.isPrefixOf (l.take 2))).getD []=signB l:=by
 unfold signB
 congr 1
 match l with
 | []=>rfl
 | [a]=>rfl
 | a :: b :: r=>simp [signsL,List.isPrefixOf,List.find?]
end Go.Chalk
