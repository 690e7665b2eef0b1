/- Joined texts: PGs. -/
import Derived.Test.YtpmalchlecnjbaaGreatDoorV41
import Derived.Test.YtpmalchlecnjbaaGreatDoorV24
import Derived.Test.YtpmalchlecnjbaaGreatDoorV12
import Derived.LaidMore
import Derived.Stop.Joined
import Derived.Stop.LaidErr
import Derived.Lib.LaidTab
set_option maxRecDepth 100000
set_option linter.unusedVariables false
set_option linter.unusedSimpArgs false
/- What the listed variables give the Syntax laws; bytes as an argument. -/
namespace Go.Proofs.YtpmalchlecnjbaaGreatDoor
open Go.ChangeShapes Go.WideShapes Go.ChangeAt Go.RowKit Go.Chalk
def dbyte (c:UInt8):D:=.int .u8 (c.toNat:Int)
theorem byte_of {m:Int} (h:(Lit.int .u8 m).wf=true):∃ c:UInt8,D.int .u8 m=dbyte c:=by
 have hb:0<=m/\m<256:=by
  have h1:IntKind.u8.min=0:=rfl
  have h2:IntKind.u8.max=255:=rfl
  simp only [Lit.wf,Bool.and_eq_true,decide_eq_true_eq] at h
  omega
 refine ⟨UInt8.ofNat m.toNat,?_⟩
 unfold dbyte
 have:((UInt8.ofNat m.toNat).toNat:Int)=m:=by
  rw [UInt8.toNat_ofNat'];omega
 rw [this]
theorem byteTypes:plainTypes Tryz.prog [22,5]=true:=by kernel_rfl
theorem dbytes_at {w:World} {l:Bs} {b o:Nat} (h:RowAt w (·<w.heap.size) (l.map dbyte) b o):BAt w l b o:=by
 intro i hi
 obtain ⟨cs,g1,g2⟩:=h.get (sz:=1) (fun x hx=>by simp only [List.mem_map] at hx;obtain ⟨y,_,rfl⟩:=hx;rfl) i (by simpa using hi)
 have e:(l.map dbyte)[i]'(by simpa using hi)=dbyte l[i]:=by simp
 rw [e,dbyte,DAt] at g1
 obtain ⟨rfl,_⟩:=g1
 simpa using g2 0 (by simp)
theorem bytes_arg {H:Type} {enc:TypeId×Value->H} {W:World} {base:Nat} {v:Value} {d:DataW H} {ps:List MemPlace} {sp:Nat->Bool} {held:Bool} (hval:Value.okWide Tryz.prog W .any base 22 v) (h:DataW.Trod enc Tryz.prog W 0 sp held 22 v d ps) :
  ∃ (l:Bs) (a:Option Addr) (b o cap:Nat),v=.slice a l.length cap/\SB W W.heap.size l a b o/\l.length<=cap/\cap<=maxLen:=by
 obtain ⟨fuel,hf⟩:=h
 obtain ⟨h1,h2,h3⟩:=trod_at byteTypes fuel _ _ _ _ (by simp) hf
 obtain ⟨l,hl⟩:=h2.slice_of Tryz.underlying22 (f:=dbyte) (fun j y _ hy=>by
  obtain ⟨m,rfl,hm⟩:=hy.int Tryz.underlying5
  exact byte_of hm)
 obtain ⟨a,n,cap,rfl⟩:=okWide_slice Tryz.underlying22 hval
 rw [hl,DAt] at h1
 obtain ⟨a',b,o,cap',e,g1,g2,g3,g4⟩:=h1
 simp only [Value.cells,List.cons.injEq,and_true,List.length_map] at e g1 g2
 exact ⟨l,a',b,o,cap',e,⟨g1,dbytes_at g4⟩,g2,g3⟩

theorem gErr : Tryz.prog.globalNamed "strconv.ErrRange" = some 8 := by kernel_rfl
theorem gSyn : Tryz.prog.globalNamed "strconv.ErrSyntax" = some 7 := by kernel_rfl
theorem gSpaceType:(Tryz.prog.globals[3]?).map (·.type)=some 168:=by kernel_rfl
theorem gErrType:(Tryz.prog.globals[8]?).map (·.type)=some 147:=by kernel_rfl
theorem gSynType:(Tryz.prog.globals[7]?).map (·.type)=some 147:=by kernel_rfl
theorem gPowType:(Tryz.prog.globals[6]?).map (·.type)=some 204:=by kernel_rfl
theorem cellsTab:Tryz.prog.cellsOf 168=256:=by kernel_rfl
theorem cellsU8:Tryz.prog.cellsOf 5=1:=by kernel_rfl
theorem cellsPow:Tryz.prog.cellsOf 204=20:=by kernel_rfl
theorem cellsU64:Tryz.prog.cellsOf 183=1:=by kernel_rfl
theorem cellsErr:Tryz.prog.cellsOf 230=1:=by kernel_rfl
theorem cellsStr:Tryz.prog.cellsOf 9=1:=by kernel_rfl
theorem starErr : ("*" ++ "errors.errorString" : String) = "*errors.errorString" := by decide
theorem rowErr (u : TypeId) (h : Tryz.prog.typeName? 3 u = some "*errors.errorString") : u = 228 :=
 typeName_ptr_named (nm := "errors.errorString") (by rw [starErr]; kernel_rfl) (by kernel_rfl) (by decide +kernel) u (by rw [starErr]; exact h)
theorem asciiTab:Rows.laid_strings_asciiSpace (H:=Unit)=Lib.tabData .u8 Lib.asciiSpaceTab:=by kernel_rfl
theorem powTab:Rows.laid_internal_strconv_uint64pow10 (H:=Unit)=Lib.tabData .u64 Lib.pow10Tab:=by kernel_rfl
def laidS:List (String×DataW Unit):=Rows.syntaxFormsUptoRow.laid
theorem gg_syn {W:World} (hs:W.ShapedOpen Tryz.prog) (h:laidMetH Tryz.prog laidS W):GG W where
 maxlen:=maxlen_of hs
 reserved := reserved_of (by have := h.filter (fun x => x.1 == "chalkline/formula.reserved"); exact this)
 arity := arity_of (by have := h.filter (fun x => x.1 == "chalkline/formula.arity"); exact this)
 fsigns := fsigns_of (by have := h.filter (fun x => x.1 == "chalkline/formula.signs"); exact this)
theorem gat_syn {W:World} (h:laidMetH Tryz.prog laidS W):GAt W:=by
 have h7 : laidMetH Tryz.prog [("strings.asciiSpace", Rows.laid_strings_asciiSpace)] W := by have := h.filter (fun x => x.1 == "strings.asciiSpace"); exact this
 have h4 : laidMetH Tryz.prog [("strconv.ErrRange", Rows.laid_strconv_ErrRange)] W := by have := h.filter (fun x => x.1 == "strconv.ErrRange"); exact this
 rw [MakeChecks.laidMetH_plain _ _ _ (by kernel_rfl)] at h7 h4
 rw [asciiTab] at h7
 refine ⟨?_,Lib.tabIs_of_head (rest:=[]) gSpace gSpaceType Tryz.underlying168 Tryz.underlying5 cellsU8 cellsTab h7⟩
 obtain ⟨a0,s0,hv0,_⟩:=laid_sentinel h4 gErr gErrType Tryz.underlying147 rowErr Tryz.underlying228 Tryz.underlying230 rfl rfl Tryz.underlying9 cellsErr cellsStr
 have:=World.var?_cell gErr hv0 0
 exact ⟨_,by simpa using this,.inr ⟨_,_,rfl⟩⟩
theorem gs_of {W:World} (hs:W.ShapedOpen Tryz.prog) (h:laidMetH Tryz.prog laidS W):GS W:=by
 have h7 : laidMetH Tryz.prog [("internal/strconv.uint64pow10", Rows.laid_internal_strconv_uint64pow10)] W := by have := h.filter (fun x => x.1 == "internal/strconv.uint64pow10"); exact this
 have h4 : laidMetH Tryz.prog [("strconv.ErrSyntax", Rows.laid_strconv_ErrSyntax)] W := by have := h.filter (fun x => x.1 == "strconv.ErrSyntax"); exact this
 rw [MakeChecks.laidMetH_plain _ _ _ (by kernel_rfl)] at h7 h4
 rw [powTab] at h7
 refine ⟨gg_syn hs h,gat_syn h,?_,Lib.tabIs_of_head (rest:=[]) gPow gPowType Tryz.underlying204 Tryz.underlying183 cellsU64 cellsPow h7⟩
 obtain ⟨a0,s0,hv0,_⟩:=laid_sentinel h4 gSyn gSynType Tryz.underlying147 rowErr Tryz.underlying228 Tryz.underlying230 rfl rfl Tryz.underlying9 cellsErr cellsStr
 have:=World.var?_cell gSyn hv0 0
 exact ⟨_,by simpa using this,.inr ⟨_,_,rfl⟩⟩
end Go.Proofs.YtpmalchlecnjbaaGreatDoor
