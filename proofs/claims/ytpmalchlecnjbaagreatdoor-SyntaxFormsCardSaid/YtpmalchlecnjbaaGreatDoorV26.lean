/- Joined texts: YLexB. -/
import Derived.Test.YtpmalchlecnjbaaGreatDoorV15
import Derived.Test.YtpmalchlecnjbaaGreatDoorV25
import Derived.WalkSmall
import Derived.WalkMore
set_option maxHeartbeats 1000000
set_option maxRecDepth 100000
set_option linter.unusedVariables false
set_option linter.unusedSimpArgs false
/- lex.numeral, sign; slices.Index over bytes. -/
namespace Go.Proofs.YtpmalchlecnjbaaGreatDoor
open Go.RowKit Go.Chalk
structure GAt (w:World):Prop where
 err:∃ ev,w.cell? ⟨8,0,none⟩=some ev/\(ev=.nilIface∨∃ te pe,ev=.iface te pe)
 tab : Lib.TabIs Tryz.prog w "strings.asciiSpace" .u8 Lib.asciiSpaceTab
theorem gSpace : Tryz.prog.globalNamed "strings.asciiSpace" = some 3 := by kernel_rfl
theorem GAt.below {w w':World} (h:GAt w) (hb:Below w.heap.size w w'):GAt w':=by
 obtain ⟨⟨ev,h1,h2⟩,h3⟩:=h
 have hlt:=World.block_lt_of_cell? w ⟨8,0,none⟩ h1
 refine ⟨⟨ev,(hb.cell (p:=⟨8,0,none⟩) hlt).trans h1,h2⟩,var?_below hb gSpace (Nat.lt_of_le_of_lt (by decide) hlt) h3⟩

theorem below_bytesWorld {w:World} (e:TypeId) (s:ByteArray):Below w.heap.size w (Lib.bytesWorld w e s) :=
 ⟨rfl,rfl,rfl,by rw [Lib.bytesWorld_size];omega,fun k hk=>Lib.bytesWorld_at_old w e s k hk⟩

theorem atoi_any (c:UInt8) (r:Bs) (hd:(c :: r).all digitB=true) (hmax:(c :: r).length<=281474976710656) (w:World) (hg:GAt w) :
  Calls Tryz.prog 151 #[.string ⟨(c :: r).toArray⟩] w fun e w'=>∃ (n:Int) (ev:Value),e=.returned (.tuple #[.int .i64 n,ev])/\((ev=.nilIface/\n=valD (c :: r))∨((∃ p,ev=.iface 191 p)/\9223372036854775808<=valD (c :: r)))/\Below w.heap.size w w':=by
 have hsz:(⟨(c :: r).toArray⟩:ByteArray).size=(c :: r).length:=by show (c :: r).toArray.size=_;simp
 rcases atoi_digits c r hd with ⟨h1,h2⟩ | h1
 ·obtain ⟨ev,h3,h4⟩:=hg.err
  refine (Tryz.strconv_Atoi_range ⟨(c :: r).toArray⟩ (by rw [hsz];exact hmax) (by simpa using h1) ev w h3 h4).mono ?_
  rintro e w' ⟨N,rfl,_,_,hb⟩
  exact ⟨_,_,rfl,.inr ⟨⟨_,rfl⟩,h2⟩,hb⟩
 ·refine (Tryz.strconv_Atoi_ok ⟨(c :: r).toArray⟩ (by rw [hsz];omega) _ (by simpa using h1) w).mono ?_
  rintro e w' ⟨rfl,hw⟩
  refine ⟨_,_,rfl,.inl ⟨rfl,rfl⟩,?_⟩
  rcases hw with rfl | ⟨t,rfl⟩
  ·exact Below.refl _ _
  ·exact below_bytesWorld _ _

theorem numeral_any (l:Bs) (a:Option Addr) (b o cap:Nat) (w:World) (hsb:SB w w.heap.size l a b o) (hmax:l.length<=281474976710656) (hg:GAt w) :
  Calls Tryz.prog 111 #[.slice a l.length cap] w fun e w'=>e=.returned (.bool (numB l))/\Below w.heap.size w w':=by
 cases l with
 | nil =>
  rw [List.length_nil]
  clear hsb hg
  go_enter Tryz.func111,Tryz.ntmps111
  go_wp2_with fail
  go_ret
  exact ⟨rfl,Below.refl _ _⟩
 | cons c r =>
  have HG:=Lh hg
  obtain ⟨rfl,hbl⟩:=hsb.1 (by simp)
  have HL:Hid (w.cell? ⟨b,o,none⟩=some (.int .u8 (c.toNat:Int))):=hsb.2 0 (by simp)
  have HR:=Lh (run_any 2 (.inr rfl) (c :: r) _ b o cap w hsb hmax)
  have hall:((((c :: r).takeWhile (kindB 2)).length:Int)==((c :: r).length:Int))=(c :: r).all digitB:=by
   have:kindB 2=digitB:=by funext x;rfl
   rw [this,<- takeWhile_len]
   rw [Bool.eq_iff_iff];simp only [beq_iff_eq];omega
  have hnum:numB (c :: r)=((c :: r).all digitB&&(r.isEmpty||c.toNat != 48)&&decide (valD (c :: r)<=1099511627776)):=rfl
  have hle:decide (valD (c :: r)<=1099511627776)=decide ((valD (c :: r):Int)<=1099511627776):=by
   rw [Bool.eq_iff_iff];simp only [decide_eq_true_eq];omega
  rw [hle] at hnum
  have hz:(((c :: r).length:Int)==0)=false:=by simp;omega
  have hpos:(0:Int)<((c :: r).length:Int):=by simp
  have HTX:=Lh (fun W (h:Below w.heap.size w W)=>(hsb.below h h.size).text (P:=Tryz.prog) 22 5 9 Tryz.underlying22 Tryz.underlying5 Tryz.underlying9 cap)
  have HAT:=Lh (fun hd W=>atoi_any c r hd hmax W)
  have hl1:decide ((1:Int)<((c :: r).length:Int)) = !r.isEmpty:=by
   cases r with
   | nil=>simp
   | cons d s=>simp;omega
  rw [hnum]
  clear hnum hsb hmax hg hle
  by_cases hd:(c :: r).all digitB=true
  ·rw [hd] at hall ⊢
   have hne:((((c :: r).takeWhile (kindB 2)).length:Int) != ((c :: r).length:Int))=false:=by simpa [bne] using hall
   have HAT2:=Lh (fun W hg=>HAT.out hd W hg)
   clear hall HAT hd
   have HV:Hid (∃ vd,vd=valD (c :: r)):=⟨_,rfl⟩
   generalize valD (c :: r)=vd at *
   generalize r.isEmpty=re at *
   generalize (c :: r).length=n at *
   generalize (((c :: r).takeWhile (kindB 2)).length:Int)=m at *
   generalize (⟨(c :: r).toArray⟩:ByteArray)=tx at *
   generalize hcn:c.toNat=cn at *
   have hcn2:0<=(cn:Int):=by omega
   clear hcn
   cases re
   ·by_cases h48:cn=48
    ·subst h48
     clear HAT2 HTX HG
     go_enter Tryz.func111,Tryz.ntmps111
     go_wp2_with (first | (go_at_call 109;refine HR.out.mono ?_;rintro e w' ⟨rfl,hb⟩;have h0:w'.cell? ⟨b,o,none⟩=some (.int .u8 48):=(hb.cell (p:=⟨b,o,none⟩) hbl).trans HL.out;have HB:=Lh hb;clear hb))
     go_ret
     exact ⟨by simp,HB.out⟩
    ·have h48':((cn:Int)==48)=false:=by simp;omega
     have h48b:(cn != 48)=true:=by simp;omega
     rw [h48b]
     clear h48 h48b
     go_enter Tryz.func111,Tryz.ntmps111
     go_wp2_with (first | (go_at_call 109;refine HR.out.mono ?_;rintro e w' ⟨rfl,hb⟩;have h0:w'.cell? ⟨b,o,none⟩=some (.int .u8 (cn:Int)):=(hb.cell (p:=⟨b,o,none⟩) hbl).trans HL.out;have htx:=HTX.out w' hb;have HB:=Lh hb;clear hb))
     refine (HAT2.out _ (HG.out.below HB.out)).mono ?_
     rintro e w2 ⟨nn,ev,rfl,hcase,hb2⟩
     have HB2:=Lh (HB.out.trans (hb2.mono HB.out.size))
     clear hb2 htx h0
     rcases hcase with ⟨rfl,rfl⟩ | ⟨⟨p,rfl⟩,hbig⟩
     ·go_wp2_with fail
      go_ret
      exact ⟨by simp,HB2.out⟩
     ·have hbig':decide ((vd:Int)<=1099511627776)=false:=by simp;omega
      go_wp2_with fail
      go_ret
      exact ⟨by rw [hbig'];simp,HB2.out⟩
   ·clear HL
    go_enter Tryz.func111,Tryz.ntmps111
    go_wp2_with (first | (go_at_call 109;refine HR.out.mono ?_;rintro e w' ⟨rfl,hb⟩;have htx:=HTX.out w' hb;have HB:=Lh hb;clear hb))
    refine (HAT2.out _ (HG.out.below HB.out)).mono ?_
    rintro e w2 ⟨nn,ev,rfl,hcase,hb2⟩
    have HB2:=Lh (HB.out.trans (hb2.mono HB.out.size))
    clear hb2 htx
    rcases hcase with ⟨rfl,rfl⟩ | ⟨⟨p,rfl⟩,hbig⟩
    ·go_wp2_with fail
     go_ret
     exact ⟨by simp,HB2.out⟩
    ·have hbig':decide ((vd:Int)<=1099511627776)=false:=by simp;omega
     go_wp2_with fail
     go_ret
     exact ⟨by rw [hbig'];simp,HB2.out⟩
  ·simp only [Bool.not_eq_true] at hd
   rw [hd] at hall ⊢
   have hne:((((c :: r).takeWhile (kindB 2)).length:Int) != ((c :: r).length:Int))=true:=by simpa [bne] using hall
   clear hl1 hall HAT HTX
   generalize (c :: r).length=n at *
   generalize (((c :: r).takeWhile (kindB 2)).length:Int)=m at *
   go_enter Tryz.func111,Tryz.ntmps111
   go_wp2_with (first | (go_at_call 109;refine HR.out.mono ?_;rintro e w' ⟨rfl,hb⟩;have HB:=Lh hb;clear hb))
   go_ret
   exact ⟨by simp,HB.out⟩

theorem signs_fields:Lib.fields [33,61,32,60,61,32,62,61,32,45,62,32,40,32,41,32,123,32,125,32,44,32,58,32,59,32,46,32,61,32,60,32,62,32,38,32,124,32,33]=signsL:=by decide

def signVals:List Value:=signsL.map fun l=>Value.string ⟨l.toArray⟩
theorem sign_step (l:Bs) (k:Nat) (hk:k<18) (h:∀ j,j<k->(signsL.getD j []).isPrefixOf (l.take 2)=false) (hp:(signsL.getD k []).isPrefixOf (l.take 2)=true):signB l=signsL.getD k []:=by
 rw [<- sign_two]
 have hk':k<signsL.length:=hk
 have hf:signsL.find? (fun s=>s.isPrefixOf (l.take 2))=some signsL[k]:=by
  rw [List.find?_eq_some_iff_getElem]
  refine ⟨by simpa [List.getD,hk'] using hp,k,hk',rfl,fun j hj=>?_⟩
  have:=h j hj
  have hj':j<signsL.length:=by omega
  simpa [List.getD,hj'] using this
 rw [hf]
 simp [List.getD,hk']
theorem sign_none (l:Bs) (h:∀ j,j<18->(signsL.getD j []).isPrefixOf (l.take 2)=false):signB l=[]:=by
 rw [<- sign_two]
 have hf:signsL.find? (fun s=>s.isPrefixOf (l.take 2))=none:=by
  rw [List.find?_eq_none]
  intro x hx
  obtain ⟨j,hj,rfl⟩:=List.getElem_of_mem hx
  have:=h j hj
  rw [List.getD_eq_getElem?_getD,List.getElem?_eq_getElem hj,Option.getD_some] at this
  rw [this];simp
 rw [hf];rfl
theorem signVals_get (k:Nat) (hk:k<18):signVals.toArray[k]?=some (.string ⟨(signsL.getD k []).toArray⟩):=by
 have hk':k<signsL.length:=hk
 simp [signVals,List.getD,hk']

theorem sign_any (l:Bs) (a:Option Addr) (b o cap:Nat) (w:World) (hsb:SB w w.heap.size l a b o) (hcap:l.length<=cap) (hmax:l.length<=281474976710656) (hg:GAt w) :
  Calls Tryz.prog 112 #[.slice a l.length cap] w fun e w'=>e=.returned (.string ⟨(signB l).toArray⟩)/\Below w.heap.size w w':=by
 have htake:SB w w.heap.size (l.take 2) a b o:=⟨fun h=>(hsb.1 (by rw [List.length_take] at h;omega)),hsb.2.take 2⟩
 have htx:=htake.text (P:=Tryz.prog) 22 5 9 Tryz.underlying22 Tryz.underlying5 Tryz.underlying9 cap
 have hF:=Tryz.strings_Fields ⟨#[33,61,32,60,61,32,62,61,32,45,62,32,40,32,41,32,123,32,125,32,44,32,58,32,59,32,46,32,61,32,60,32,62,32,38,32,124,32,33]⟩ w (by decide) (by
  intro j b hb
  have hm:=List.mem_of_getElem? hb
  revert hm
  exact (by decide:∀ x∈([33,61,32,60,61,32,62,61,32,45,62,32,40,32,41,32,123,32,125,32,44,32,58,32,59,32,46,32,61,32,60,32,62,32,38,32,124,32,33]:List UInt8),x.toNat<128) b) hg.tab
 rw [show Lib.fields (⟨#[33,61,32,60,61,32,62,61,32,45,62,32,40,32,41,32,123,32,125,32,44,32,58,32,59,32,46,32,61,32,60,32,62,32,38,32,124,32,33]⟩:ByteArray).data.toList=signsL from signs_fields] at hF
 have HF:Hid (Calls Tryz.prog 157 #[.string ⟨#[33,61,32,60,61,32,62,61,32,45,62,32,40,32,41,32,123,32,125,32,44,32,58,32,59,32,46,32,61,32,60,32,62,32,38,32,124,32,33]⟩] w fun e w'=>e=.returned (.slice (some ⟨w.heap.size,0,none⟩) 18 18)/\w'=w.alloc (.cells signVals.toArray 9)):=hF
 have hlen:(l.take 2).length=min 2 l.length:=List.length_take
 rw [hlen] at htx
 have hmn:(min 2 l.length:Nat)<=cap:=by omega
 have hmi:min (2:Int) (l.length:Int)=((min 2 l.length:Nat):Int):=by omega
 have hw2:World.alloc w (.cells signVals.toArray 9)=World.alloc w (.cells signVals.toArray 9):=rfl
 have hcells:∀ W,W=w.alloc (.cells signVals.toArray 9)->∀ k,k<18->W.cell? ⟨w.heap.size,k,none⟩=some (.string ⟨(signsL.getD k []).toArray⟩):=fun W hW k hk=>by
  subst hW
  exact cH (heap_alloc_new _ _) (signVals_get k hk)
 have HBW:=Lh ((Below.refl w.heap.size w).alloc (Nat.le_refl _) (.cells signVals.toArray 9))
 clear hF hlen hsb htake hg hw2
 have HC:Hid (∀ k,k<18->(w.alloc (.cells signVals.toArray 9)).cell? ⟨w.heap.size,k,none⟩=some (.string ⟨(signsL.getD k []).toArray⟩)):=hcells _ rfl
 have HSN:=Lh (sign_none l)
 have HSS:=Lh (sign_step l)
 clear hcells
 go_enter Tryz.func112,Tryz.ntmps112
 go_wp2_with fail
 go_step3
 go_wp2_with fail
 refine HF.out.mono ?_
 rintro e w1 ⟨rfl,hw1⟩
 rw [<- hw1] at HC HBW
 clear hw1 HF htx hmn hmi
 generalize hpk:l.take 2=pk at *
 clear hpk
 have hlt0:w.heap.size<w1.heap.size:=by
  have:=World.block_lt_of_cell? _ _ (HC.out 0 (by omega));exact this
 go_wp2_with fail
 go_step3
 go_wp2_with fail
 go_loopw [16,6] (fun i _ wr=>∃ k:Nat,k<=18/\i=.int .i64 k/\Hid (∀ j,j<k->(signsL.getD j []).isPrefixOf pk=false)/\wr=w1) (fun i _ _=>18 - (intOf i).toNat)
 case atStart=>exact ⟨0,by omega,rfl,fun j hj=>absurd hj (by omega),rfl⟩
 case round =>
  obtain ⟨k,hk,rfl,HJ,rfl⟩:=hrel
  by_cases hlt:k<18
  ·have hcl:=HC.out k hlt
   generalize hsg:signsL.getD k []=sg at *
   have HSG:=Lh hsg
   clear hsg
   have HP:=Lh (Tryz.strings_HasPrefix ⟨pk.toArray⟩ ⟨sg.toArray⟩ wr)
   have hpx:Lib.hasPrefix (⟨pk.toArray⟩:ByteArray).data.toList (⟨sg.toArray⟩:ByteArray).data.toList=sg.isPrefixOf pk:=by simp [Lib.hasPrefix]
   rw [hpx] at HP
   clear hpx
   have hlt':decide ((k:Int)<18)=true:=by simp;omega
   go_wp2_with fail
   refine HP.out.mono ?_
   rintro e w' ⟨rfl,rfl⟩
   cases hpp:sg.isPrefixOf pk
   ·have HPP:=Lh hpp
    clear hpp
    go_wp2_with fail
    exact ⟨⟨k+1,by omega,by go_num,fun j hj=>by
     rcases Nat.lt_succ_iff_lt_or_eq.1 hj with h | rfl
     ·exact HJ.out j h
     ·rw [HSG.out];exact HPP.out,by first | rfl | trivial⟩,by simp [intOf];omega⟩
   ·have HPP:=Lh hpp
    clear hpp
    go_wp2_with fail
    try rw [Exit.noGoto_ret]
    go_ret
    refine ⟨?_,HBW.out⟩
    rw [HSS.out k hlt HJ.out (by rw [HSG.out];exact HPP.out),HSG.out];rfl
  ·obtain rfl:k=18:=by omega
   go_wp2_with fail
   try rw [Exit.noGoto_ret]
   go_ret
   exact ⟨by rw [HSN.out HJ.out];rfl,HBW.out⟩
end Go.Proofs.YtpmalchlecnjbaaGreatDoor
