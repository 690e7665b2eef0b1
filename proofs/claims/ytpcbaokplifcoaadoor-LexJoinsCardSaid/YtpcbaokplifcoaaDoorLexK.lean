/- The laws' arguments (bytes, tokens) and what the listed variables give; the witness. -/
import Derived.Test.YtpcbaokplifcoaaDoorLexH
import Derived.Test.YtpcbaokplifcoaaDoorRow
import Derived.LaidMore
import Derived.Stop.Joined
import Derived.Stop.LaidErr
import Derived.Lib.LaidTab
namespace Go.Proofs.YtpcbaokplifcoaaDoor
open Go.ChangeShapes Go.WideShapes Go.ChangeAt Go.RowKit Go.Chalk

def dbyte (c : UInt8) : D := .int .u8 (c.toNat : Int)
theorem byte_of {m : Int} (h : (Lit.int .u8 m).wf = true) : ∃ c : UInt8, D.int .u8 m = dbyte c := by
  have hb : 0 ≤ m ∧ m < 256 := by
    have h1 : IntKind.u8.min = 0 := rfl
    have h2 : IntKind.u8.max = 255 := rfl
    simp only [Lit.wf, Bool.and_eq_true, decide_eq_true_eq] at h
    omega
  refine ⟨UInt8.ofNat m.toNat, ?_⟩
  unfold dbyte
  have : ((UInt8.ofNat m.toNat).toNat : Int) = m := by
    rw [UInt8.toNat_ofNat']; omega
  rw [this]
theorem byteTypes : plainTypes Tryd.prog [22, 5] = true := by kernel_rfl
theorem dbytes_at {w : World} {l : Bs} {b o : Nat} (h : RowAt w (· < w.heap.size) (l.map dbyte) b o) : BAt w l b o := by
  intro i hi
  obtain ⟨cs, g1, g2⟩ := h.get (sz := 1) (fun x hx => by simp only [List.mem_map] at hx; obtain ⟨y, _, rfl⟩ := hx; rfl) i (by simpa using hi)
  have e : (l.map dbyte)[i]'(by simpa using hi) = dbyte l[i] := by simp
  rw [e, dbyte, DAt] at g1
  obtain ⟨rfl, _⟩ := g1
  simpa using g2 0 (by simp)
set_option maxRecDepth 100000 in
theorem bytes_arg {H : Type} {enc : TypeId × Value → H} {W : World} {base : Nat} {v : Value} {d : DataW H} {ps : List MemPlace} {sp : Nat → Bool} {held : Bool} (hval : Value.okWide Tryd.prog W .any base 22 v) (h : DataW.Trod enc Tryd.prog W 0 sp held 22 v d ps) :
    ∃ (l : Bs) (a : Option Addr) (b o cap : Nat), v = .slice a l.length cap ∧ SB W W.heap.size l a b o ∧ l.length ≤ cap ∧ cap ≤ maxLen := by
  obtain ⟨fuel, hf⟩ := h
  obtain ⟨h1, h2, h3⟩ := trod_at byteTypes fuel _ _ _ _ (by simp) hf
  obtain ⟨l, hl⟩ := h2.slice_of Tryd.underlying22 (f := dbyte) (fun j y _ hy => by
    obtain ⟨m, rfl, hm⟩ := hy.int Tryd.underlying5
    exact byte_of hm)
  obtain ⟨a, n, cap, rfl⟩ := okWide_slice Tryd.underlying22 hval
  rw [hl, DAt] at h1
  obtain ⟨a', b, o, cap', e, g1, g2, g3, g4⟩ := h1
  simp only [Value.cells, List.cons.injEq, and_true, List.length_map] at e g1 g2
  exact ⟨l, a', b, o, cap', e, ⟨g1, dbytes_at g4⟩, g2, g3⟩

theorem gErr : Tryd.prog.globalNamed "strconv.ErrRange" = some 4 := by kernel_rfl
theorem gSpaceType : (Tryd.prog.globals[0]?).map (·.type) = some 67 := by kernel_rfl
theorem gErrType : (Tryd.prog.globals[4]?).map (·.type) = some 58 := by kernel_rfl
theorem cellsTab : Tryd.prog.cellsOf 67 = 256 := by kernel_rfl
theorem cellsU8 : Tryd.prog.cellsOf 5 = 1 := by kernel_rfl

def laidL : List (String × DataW Unit) := [("math/bits.deBruijn32tab", Rows.laid_math_bits_deBruijn32tab), ("math/bits.deBruijn64tab", Rows.laid_math_bits_deBruijn64tab), ("internal/strconv.uint64pow10", Rows.laid_internal_strconv_uint64pow10), ("strconv.ErrRange", Rows.laid_strconv_ErrRange), ("strconv.ErrSyntax", Rows.laid_strconv_ErrSyntax), ("unicode.White_Space", Rows.laid_unicode_White_Space), ("strings.asciiSpace", Rows.laid_strings_asciiSpace)]

/-- The door's own heap meets the condition. -/
theorem door_met (os : Os) (args : Array Value) : laidMetH Tryd.prog laidL ((World.doorLaid Tryd.prog 400 os).forCall (fun _ _ => 0) ⟨#[], args, []⟩).memory :=
  laidMetH_of_parts3 (fuel := 8) (laidMet_of_run' 8 (by kernel_rfl) (by kernel_rfl)) (by kernel_rfl) (by kernel_rfl)

theorem cellsErr : Tryd.prog.cellsOf 108 = 1 := by kernel_rfl
theorem cellsStr : Tryd.prog.cellsOf 9 = 1 := by kernel_rfl
theorem starErr : ("*" ++ "errors.errorString" : String) = "*errors.errorString" := by decide
set_option maxRecDepth 100000 in
theorem rowErr (u : TypeId) (h : Tryd.prog.typeName? 3 u = some "*errors.errorString") : u = 106 :=
  typeName_ptr_named (nm := "errors.errorString") (by rw [starErr]; kernel_rfl) (by kernel_rfl) (by decide +kernel) u (by rw [starErr]; exact h)

theorem asciiTab : Rows.laid_strings_asciiSpace (H := Unit) = Lib.tabData .u8 Lib.asciiSpaceTab := by kernel_rfl

/-- What the condition gives the walks. -/
theorem gat_of {W : World} (h : laidMetH Tryd.prog laidL W) : GAt W := by
  rw [MakeChecks.laidMetH_plain _ _ _ (by kernel_rfl)] at h
  have h7 : laidMet Tryd.prog [("strings.asciiSpace", Rows.laid_strings_asciiSpace)] W := h.tail.tail.tail.tail.tail.tail
  rw [asciiTab] at h7
  have h4 := h.tail.tail.tail
  refine ⟨?_, Lib.tabIs_of_head (rest := []) gSpace gSpaceType Tryd.underlying67 Tryd.underlying5 cellsU8 cellsTab h7⟩
  obtain ⟨a0, s0, hv0, _⟩ := laid_sentinel h4 gErr gErrType Tryd.underlying58 rowErr Tryd.underlying106 Tryd.underlying108 rfl rfl Tryd.underlying9 cellsErr cellsStr
  have := World.var?_cell gErr hv0 0
  exact ⟨_, by simpa using this, .inr ⟨_, _, rfl⟩⟩
end Go.Proofs.YtpcbaokplifcoaaDoor
